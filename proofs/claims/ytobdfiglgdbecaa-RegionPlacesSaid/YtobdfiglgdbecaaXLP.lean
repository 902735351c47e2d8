import Derived.Test.YtobdfiglgdbecaaXV6
import Derived.Test.YtobdfiglgdbecaaXPGPx1
set_option linter.unusedVariables false
set_option linter.unusedSimpArgs false
open Go Go.RowKit Go.Proofs.YtobdfiglgdbecaaW.PrintWords Go.Proofs.YtobdfiglgdbecaaW.PrintMore
namespace Go.Proofs.Ytobdfiglgdbecaa
open PGA PGB PGH PGK PGP
namespace RG
theorem pnf_pair {V : Type} : ∀ {l : List (Int × Int × V)}, PNF l → l.Pairwise fun p q => p.2.1 ≤ q.1
  | [], _ => List.Pairwise.nil
  | [p], _ => by simp
  | p :: q :: t, h => by
    have ih := pnf_pair h.2.2.2
    refine List.Pairwise.cons (fun r hr => ?_) ih
    rcases List.mem_cons.mp hr with rfl | hr
    · exact h.2.1
    · have h1 := (List.pairwise_cons.mp ih).1 r hr
      have h2 := pnf_mem h.2.2.2 q List.mem_cons_self
      have h3 := h.2.1
      omega
def apt (r s : Rc) : Prop := r.2.2.1 ≤ s.1 ∨ s.2.2.1 ≤ r.1 ∨ r.2.2.2 ≤ s.2.1 ∨ s.2.2.2 ≤ r.2.1
theorem snf_pair {s : List Sp} (h : SNF s) : s.Pairwise fun p q => p.2 ≤ q.1 := by
  have := pnf_pair (l := up s) h
  unfold up at this
  rw [List.pairwise_map] at this
  exact this
theorem flat_apart {l : List Bd} (h : BNF l) : (flat l).Pairwise apt := by
  unfold flat
  rw [List.pairwise_flatMap]
  constructor
  · intro b hb
    rw [List.pairwise_map]
    exact (snf_pair (h.s b hb).1).imp fun hp => Or.inl hp
  · exact (pnf_pair h.p).imp fun {b c} hp x hx y hy => by
      obtain ⟨s, _, rfl⟩ := List.mem_map.mp hx
      obtain ⟨t, _, rfl⟩ := List.mem_map.mp hy
      exact Or.inr (Or.inr (Or.inl hp))
theorem flat_some {l : List Bd} (h : BNF l) : ∀ r ∈ flat l, r.1 < r.2.2.1 ∧ r.2.1 < r.2.2.2 := by
  intro r hr
  unfold flat at hr
  obtain ⟨b, hb, hr⟩ := List.mem_flatMap.mp hr
  obtain ⟨s, hs, rfl⟩ := List.mem_map.mp hr
  exact ⟨snf_mem (h.s b hb).1 s hs, pnf_mem h.p b hb⟩
end RG
namespace VR
open RG (cov rightP twoP flat sweepP)
theorem has_l0 (l : List S58) (hl : l.length ≤ 1000000) (x y : Int) : ∀ d i, i + d = l.length → Ev (fun k => Ax.l0 k l x y (i : Int)) (cov ((l.drop i).map rc) x y) := by
  intro d
  induction d with
  | zero =>
    intro i hi
    refine one_round fun k => ?_
    rw [Ax.l0, if_neg (by omega), List.drop_of_length_le (by omega)]; rfl
  | succ d ih =>
    intro i hi
    have hlt : i < l.length := by omega
    rw [List.drop_eq_getElem_cons hlt]
    have ee : cov ((l[i] :: l.drop (i + 1)).map rc) x y = ((decide (l[i].f0 ≤ x) && decide (x < l[i].f2) && decide (l[i].f1 ≤ y) && decide (y < l[i].f3)) || cov ((l.drop (i + 1)).map rc) x y) := rfl
    rw [ee]
    have hst : ∀ k, Ax.l0 (k + 1) l x y (i : Int) = if (decide (l[i].f0 ≤ x) && decide (x < l[i].f2) && decide (l[i].f1 ≤ y) && decide (y < l[i].f3)) = true then some true else Ax.l0 k l x y ((i + 1 : Nat) : Int) := fun k => by
      rw [Ax.l0, if_pos (by omega), if_pos (by omega), rdR l i hlt, wrs i (by omega)]
      by_cases c1 : l[i].f0 ≤ x <;> by_cases c2 : x < l[i].f2 <;> by_cases c3 : l[i].f1 ≤ y <;> by_cases c4 : y < l[i].f3 <;> simp [c1, c2, c3, c4]
    by_cases c : (decide (l[i].f0 ≤ x) && decide (x < l[i].f2) && decide (l[i].f1 ≤ y) && decide (y < l[i].f3)) = true
    · rw [c, Bool.true_or]
      refine one_round fun k => ?_
      rw [hst, if_pos c]
    · rw [show (decide (l[i].f0 ≤ x) && decide (x < l[i].f2) && decide (l[i].f1 ≤ y) && decide (y < l[i].f3)) = false from Bool.eq_false_iff.mpr c, Bool.false_or]
      refine Ev.step (fun k => ?_) (ih (i + 1) (by omega))
      rw [hst, if_neg c]
theorem has_val (l : List S58) (hl : l.length ≤ 1000000) (x y : Int) : Ev (fun k => Ax.f k l x y) (cov (l.map rc) x y) := has_l0 l hl x y l.length 0 (Nat.zero_add _)
theorem apart_l0 (l : List S58) (hl : l.length ≤ 1000000) (hs : ∀ r ∈ l, r.f0 < r.f2 ∧ r.f1 < r.f3) (hp : l.Pairwise fun r s => RG.apt (rc r) (rc s)) : ∀ d i, i + d = l.length → Ev (fun k => Aj.l0 k l (i : Int)) true := by
  intro d
  induction d with
  | zero =>
    intro i hi
    refine one_round fun k => ?_
    rw [Aj.l0, if_neg (by omega)]
  | succ d ih =>
    intro i hi
    have hlt : i < l.length := by omega
    have h1 := hs l[i] (List.getElem_mem hlt)
    have inner : ∀ e j, j + e = i → Ev (fun k => Aj.l1 k l (i : Int) (j : Int)) true := by
      intro e
      induction e with
      | zero =>
        intro j hj
        refine Ev.step (fun k => ?_) (ih (i + 1) (by omega))
        rw [Aj.l1, if_neg (by omega), wrs i (by omega)]
      | succ e ihe =>
        intro j hj
        have hjl : j < l.length := by omega
        have ha := (List.pairwise_iff_getElem.mp hp) j i hjl hlt (by omega)
        unfold RG.apt rc at ha
        simp only [] at ha
        refine Ev.step (fun k => ?_) (ihe (j + 1) (by omega))
        rw [Aj.l1, if_pos (by omega), if_pos (by omega), if_pos (by omega), if_pos (by omega), if_pos (by omega), rdR l i hlt, rdR l j hjl, wrs j (by omega)]
        by_cases c1 : mx (l[i].f0) (l[j].f0) < mn (l[i].f2) (l[j].f2)
        · rw [if_pos c1]
          by_cases c2 : mx (l[i].f1) (l[j].f1) < mn (l[i].f3) (l[j].f3)
          · exfalso
            unfold mx mn at c1 c2
            omega
          · rw [if_neg c2]
        · rw [if_neg c1]
    refine Ev.step (fun k => by rw [Aj.l0, if_pos (by omega), if_pos (by omega), rdR l i hlt, if_neg (by omega), decide_eq_false (by omega)]) ?_
    exact Ev.step (fun k => by rw [Aj.j1, if_neg (by simp)]; rfl) (inner i 0 (Nat.zero_add _))
theorem apart_flat {B : List RG.Bd} (h : RG.BNF B) (hl : (flat B).length ≤ 4096) : Ev (fun k => Aj.f k ((flat B).map cr)) true := by
  refine apart_l0 _ (by rw [List.length_map]; omega) (fun r hr => ?_) ?_ _ 0 (Nat.zero_add _)
  · obtain ⟨q, hq, rfl⟩ := List.mem_map.mp hr
    exact RG.flat_some h q hq
  · rw [List.pairwise_map]
    exact (RG.flat_apart h).imp fun h => h
theorem places_l0 (L : List (List S58)) (hL : L.length ≤ 10) (hr : ∀ l ∈ L, l.length ≤ 30) : ∀ d i X Y, i + d = L.length → X.length ≤ 120 * i → Y.length ≤ 120 * i →
    ∃ r : List Int × List Int, Ev (fun k => Aw.l0 k L X Y (i : Int)) r ∧ r.1.length ≤ 1200 ∧ r.2.length ≤ 1200 := by
  intro d
  induction d with
  | zero =>
    intro i X Y hi hX hY
    refine ⟨(X, Y), one_round fun k => ?_, by simp only []; omega, by simp only []; omega⟩
    rw [Aw.l0, if_neg (by omega)]
  | succ d ih =>
    intro i X Y hi hX hY
    have hlt : i < L.length := by omega
    have hn := hr L[i] (List.getElem_mem hlt)
    have inner : ∀ e j X Y, j + e = L[i].length → X.length ≤ 120 * i + 4 * j → Y.length ≤ 120 * i + 4 * j → ∃ r : List Int × List Int, Ev (fun k => Aw.l1 k L X Y (i : Int) (j : Int)) r ∧ r.1.length ≤ 1200 ∧ r.2.length ≤ 1200 := by
      intro e
      induction e with
      | zero =>
        intro j X Y hj hX hY
        obtain ⟨r, h1, h2⟩ := ih (i + 1) X Y (by omega) (by omega) (by omega)
        refine ⟨r, Ev.step (fun k => ?_) h1, h2⟩
        rw [Aw.l1, if_pos (by omega), if_pos (by omega), rdL2 L i hlt, if_neg (by omega), wrs i (by omega)]
      | succ e ihe =>
        intro j X Y hj hX hY
        have hjl : j < L[i].length := by omega
        obtain ⟨r, h1, h2⟩ := ihe (j + 1) (X ++ [L[i][j].f0, wrap64 (L[i][j].f0 - 1), L[i][j].f2, wrap64 (L[i][j].f2 - 1)]) (Y ++ [L[i][j].f1, wrap64 (L[i][j].f1 - 1), L[i][j].f3, wrap64 (L[i][j].f3 - 1)]) (by omega) (by simp only [List.length_append, List.length_cons, List.length_nil]; omega) (by simp only [List.length_append, List.length_cons, List.length_nil]; omega)
        refine ⟨r, Ev.step (fun k => ?_) h1, h2⟩
        rw [Aw.l1, if_pos (by omega), if_pos (by omega), rdL2 L i hlt, if_pos (by omega), if_pos (by omega), rdR L[i] j hjl, wrs j (by omega)]
        simp only [Option.bind_some, List.length_cons, List.length_nil]
        rw [if_pos (by omega), if_pos (by omega)]
    obtain ⟨r, h1, h2⟩ := inner L[i].length 0 X Y (Nat.zero_add _) (by omega) (by omega)
    refine ⟨r, Ev.step (fun k => ?_) h1, h2⟩
    rw [Aw.l0, if_pos (by omega)]; rfl
theorem look_l1 {a b : List S58} {FU FM FL : List RG.Rc} (ha : a.length ≤ 4096) (hb : b.length ≤ 4096) (hu : FU.length ≤ 4096) (hm : FM.length ≤ 4096) (hl : FL.length ≤ 4096)
    (gU : ∀ x y, cov FU x y = (cov (a.map rc) x y || cov (b.map rc) x y)) (gM : ∀ x y, cov FM x y = (cov (a.map rc) x y && cov (b.map rc) x y)) (gL : ∀ x y, cov FL x y = (cov (a.map rc) x y && !cov (b.map rc) x y))
    (xs ys : List Int) (hx : xs.length ≤ 1200) (hy : ys.length ≤ 1200) : ∀ d i, i + d = xs.length → Ev (fun k => Ab.l0 k a b (FU.map cr) (FM.map cr) (FL.map cr) xs ys (i : Int)) true := by
  intro d
  induction d with
  | zero =>
    intro i hi
    refine one_round fun k => ?_
    rw [Ab.l0, if_neg (by omega)]
  | succ d ih =>
    intro i hi
    have inner : ∀ e j, j + e = ys.length → Ev (fun k => Ab.l1 k a b (FU.map cr) (FM.map cr) (FL.map cr) xs ys (i : Int) (j : Int)) true := by
      intro e
      induction e with
      | zero =>
        intro j hj
        refine Ev.step (fun k => ?_) (ih (i + 1) (by omega))
        rw [Ab.l1, if_neg (by omega), wrs i (by omega)]
      | succ e ihe =>
        intro j hj
        have h3 := has_val (FU.map cr) (by rw [List.length_map]; omega) (rd xs (i : Int)) (rd ys (j : Int))
        have h4 := has_val (FM.map cr) (by rw [List.length_map]; omega) (rd xs (i : Int)) (rd ys (j : Int))
        have h5 := has_val (FL.map cr) (by rw [List.length_map]; omega) (rd xs (i : Int)) (rd ys (j : Int))
        rw [map_rc_cr] at h3 h4 h5
        rw [gU] at h3
        rw [gM] at h4
        rw [gL] at h5
        have hj' := ihe (j + 1) (by omega)
        refine Ev.step (fun k => by rw [Ab.l1, if_pos (by omega), if_pos (by omega), if_pos (by omega), if_pos (by omega), wrs j (by omega)]) ?_
        refine Ev.bind (has_val a (by omega) _ _) (Ev.bind (has_val b (by omega) _ _) (Ev.bind h3 ?_))
        cases hA : cov (a.map rc) (rd xs (i : Int)) (rd ys (j : Int)) <;> cases hB : cov (b.map rc) (rd xs (i : Int)) (rd ys (j : Int)) <;> rw [hA, hB] at h4 h5
        · refine Ev.congr (fun k => by rw [if_neg (by decide), if_neg (by decide)]) (Ev.bind h4 ?_)
          refine Ev.congr (fun k => by rw [if_neg (by decide)]) (Ev.bind h5 ?_)
          exact Ev.congr (fun k => by rw [if_neg (by decide)]) hj'
        · refine Ev.congr (fun k => by rw [if_neg (by decide), if_neg (by decide)]) (Ev.bind h4 ?_)
          refine Ev.congr (fun k => by rw [if_neg (by decide)]) (Ev.bind h5 ?_)
          exact Ev.congr (fun k => by rw [if_neg (by decide)]) hj'
        · refine Ev.congr (fun k => by rw [if_pos rfl, if_neg (by decide)]) (Ev.bind h4 ?_)
          refine Ev.congr (fun k => by rw [if_neg (by decide)]) (Ev.bind h5 ?_)
          exact Ev.congr (fun k => by rw [if_neg (by decide)]) hj'
        · refine Ev.congr (fun k => by rw [if_pos rfl, if_neg (by decide)]) (Ev.bind h4 ?_)
          refine Ev.congr (fun k => by rw [if_neg (by decide)]) (Ev.bind h5 ?_)
          exact Ev.congr (fun k => by rw [if_neg (by decide)]) hj'
    exact Ev.step (fun k => by rw [Ab.l0, if_pos (by omega)]; rfl) (inner ys.length 0 (Nat.zero_add _))
theorem places_law (a b : List S58) : Ev (fun k => Ab.f k a b) true := by
  unfold Ab.f
  refine Ev.bind known_true ?_
  refine Ev.congr (fun k => by rw [if_pos rfl]) ?_
  refine Ev.bind (few_val [a, b] (by simp)) ?_
  by_cases hf : [a, b].all fewB = true
  · rw [hf]
    simp only [List.all_cons, List.all_nil, Bool.and_true, Bool.and_eq_true] at hf
    obtain ⟨ha, hb⟩ := hf
    have ga := good_few ha
    have gb := good_few hb
    refine Ev.congr (fun k => by rw [if_pos rfl]) ?_
    have two {keep : Bool → Bool → Bool} (hk : keep false false = false) := good_two hk ga gb (by have := (two_few hk ha hb).2; omega)
    obtain ⟨q1, g1⟩ := two (keep := RG.eitherB) rfl
    obtain ⟨q3, g3⟩ := two (keep := RG.alsoB) rfl
    obtain ⟨q7, g7⟩ := two (keep := RG.withoutB) rfl
    refine Ev.bind (union_val a b) (Ev.bind (meet_val a b) (Ev.bind (less_val a b) ?_))
    rw [q1, q3, q7]
    refine Ev.congr (fun k => by
      simp only [outP, num_val, Option.bind_some]
      rw [if_pos (by unfold wrap64; decide)]) ?_
    have n1 := (two_few (keep := RG.eitherB) rfl ha hb).2
    have n3 := (two_few (keep := RG.alsoB) rfl ha hb).2
    have n7 := (two_few (keep := RG.withoutB) rfl ha hb).2
    refine Ev.bind (apart_flat (RG.sweep_ok _ _ _ rfl).1 (by omega)) (Ev.congr (fun k => by rw [if_pos rfl]) ?_)
    refine Ev.bind (apart_flat (RG.sweep_ok _ _ _ rfl).1 (by omega)) (Ev.congr (fun k => by rw [if_pos rfl]) ?_)
    refine Ev.bind (apart_flat (RG.sweep_ok _ _ _ rfl).1 (by omega)) ?_
    refine Ev.step (fun k => by rw [Ab.j0, if_neg (by decide)]) ?_
    have la := (few_of ha).1
    have lb := (few_of hb).1
    obtain ⟨r, h1, h2, h3⟩ := places_l0 [a, b] (by simp) (fun l hl => by
      simp only [List.mem_cons, List.not_mem_nil, or_false] at hl
      rcases hl with rfl | rfl <;> assumption) 2 0 [] [] rfl (by simp) (by simp)
    refine Ev.bind h1 ?_
    exact look_l1 (by omega) (by omega) (by omega) (by omega) (by omega) g1.cov g3.cov g7.cov r.1 r.2 h2 h3 r.1.length 0 (Nat.zero_add _)
  · rw [Bool.eq_false_iff.mpr hf]
    exact Ev.congr (fun k => by rw [if_neg (by simp)]) (Ev.now _)
theorem places_ok (a b : List S58) : ∃ k, Ab.f k a b = some true := by
  obtain ⟨k, hk⟩ := places_law a b
  exact ⟨k, hk k (Nat.le_refl _)⟩
end VR
end Go.Proofs.Ytobdfiglgdbecaa

