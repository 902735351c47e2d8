import Derived.Test.YtobdfiglgdbecaaYV3
import Derived.Test.YtobdfiglgdbecaaYCT
import Derived.Test.YtobdfiglgdbecaaYM5
import Derived.Test.YtobdfiglgdbecaaYPGHx2
import Derived.Test.YtobdfiglgdbecaaYPGHx5
set_option linter.unusedVariables false
set_option linter.unusedSimpArgs false
open Go Go.RowKit Go.Proofs.YtobdfiglgdbecaaW.PrintWords Go.Proofs.YtobdfiglgdbecaaW.PrintMore
namespace Go.Proofs.Ytobdfiglgdbecaa
open PGA PGB PGH
namespace VR
theorem eqR_l0 (a b : List S58) (hl : a.length = b.length) (hb : a.length ≤ 1000000) : ∀ d i, i + d = a.length → Ev (fun k => Ae.l0 k a b (i : Int)) (decide ((a.drop i).map rc = (b.drop i).map rc)) := by
  intro d
  induction d with
  | zero =>
    intro i hi
    refine one_round fun k => ?_
    rw [Ae.l0, if_neg (by omega), List.drop_of_length_le (by omega), List.drop_of_length_le (show b.length ≤ i by omega)]; rfl
  | succ d ih =>
    intro i hi
    have h1 : i < a.length := by omega
    have h2 : i < b.length := by omega
    rw [List.drop_eq_getElem_cons h1, List.drop_eq_getElem_cons h2]
    have e : ((a[i] :: a.drop (i + 1)).map rc = (b[i] :: b.drop (i + 1)).map rc) ↔ ((a[i].f0 = b[i].f0 ∧ a[i].f1 = b[i].f1 ∧ a[i].f2 = b[i].f2 ∧ a[i].f3 = b[i].f3) ∧ (a.drop (i + 1)).map rc = (b.drop (i + 1)).map rc) := by
      rw [List.map_cons, List.map_cons, List.cons.injEq]
      simp [rc]
    have hc : ((!((a[i].f0) == (b[i].f0)) || (!((a[i].f1) == (b[i].f1)) || (!((a[i].f2) == (b[i].f2)) || (!((a[i].f3) == (b[i].f3)))))) = true) ↔ ¬ (a[i].f0 = b[i].f0 ∧ a[i].f1 = b[i].f1 ∧ a[i].f2 = b[i].f2 ∧ a[i].f3 = b[i].f3) := by
      simp only [Bool.or_eq_true, Bool.not_eq_true', beq_eq_false_iff_ne, ne_eq]
      omega
    by_cases c : a[i].f0 = b[i].f0 ∧ a[i].f1 = b[i].f1 ∧ a[i].f2 = b[i].f2 ∧ a[i].f3 = b[i].f3
    · rw [show decide ((a[i] :: a.drop (i + 1)).map rc = (b[i] :: b.drop (i + 1)).map rc) = decide ((a.drop (i + 1)).map rc = (b.drop (i + 1)).map rc) from decide_eq_decide.mpr (e.trans ⟨fun h => h.2, fun h => ⟨c, h⟩⟩)]
      refine Ev.step (fun k => ?_) (ih (i + 1) (by omega))
      rw [Ae.l0, if_pos (by omega), if_pos (by omega), if_pos (by omega), rdR a i h1, rdR b i h2, if_neg (fun h => hc.mp h c), wrs i (by omega)]
    · rw [decide_eq_false (fun h => c (e.mp h).1)]
      refine one_round fun k => ?_
      rw [Ae.l0, if_pos (by omega), if_pos (by omega), if_pos (by omega), rdR a i h1, rdR b i h2, if_pos (hc.mpr c)]
theorem eqR_val (a b : List S58) (hb : a.length ≤ 1000000) : Ev (fun k => Ae.f k a b) (decide (a.map rc = b.map rc)) := by
  by_cases h : a.length = b.length
  · refine Ev.congr (fun k => ?_) (eqR_l0 a b h hb a.length 0 (Nat.zero_add _))
    unfold Ae.f
    rw [if_pos (by omega)]; rfl
  · rw [decide_eq_false (fun e => h (by have := congrArg List.length e; simpa using this))]
    refine ⟨0, fun k _ => ?_⟩
    show Ae.f k a b = _
    unfold Ae.f
    rw [if_neg (by omega)]
theorem eqR_true (a b : List S58) (hb : a.length ≤ 1000000) (h : a.map rc = b.map rc) : Ev (fun k => Ae.f k a b) true := by
  have := eqR_val a b hb
  rwa [decide_eq_true h] at this
theorem someH (x : S58) : Ch.f x.f0 x.f1 x.f2 x.f3 = some (RG.some1 (rc x)) := some_val x
theorem nearH (n : Int) : Bf.f n = some (RG.nearB n) := by
  unfold Bf.f RG.nearB
  by_cases h : -8192 ≤ n
  · rw [if_pos h]; simp [h]
  · rw [if_neg h]; simp [h]
theorem far_l0 (l : List S58) (hl : l.length ≤ 4096) : ∀ d i, i + d = l.length → Ev (fun k => Bv.l0 k l (i : Int)) (if ((l.drop i).map rc).all RG.okR = true then 0 else 61) := by
  intro d
  induction d with
  | zero =>
    intro i hi
    refine one_round fun k => ?_
    rw [Bv.l0, if_neg (by omega), List.drop_of_length_le (by omega)]; rfl
  | succ d ih =>
    intro i hi
    have hlt : i < l.length := by omega
    rw [List.drop_eq_getElem_cons hlt]
    have ee : ∀ T : List S58, ((l[i] :: T).map rc).all RG.okR = (RG.okR (rc l[i]) && (T.map rc).all RG.okR) := fun T => rfl
    rw [ee]
    have hno : RG.okR (rc l[i]) = (!RG.some1 (rc l[i]) || (RG.nearB l[i].f0 && RG.nearB l[i].f1 && RG.nearB l[i].f2 && RG.nearB l[i].f3)) := rfl
    have hst : ∀ k, Bv.l0 (k + 1) l (i : Int) = if RG.okR (rc l[i]) = true then Bv.l0 k l ((i + 1 : Nat) : Int) else some 61 := fun k => by
      rw [Bv.l0, if_pos (by omega), if_pos (by omega), rdR l i hlt, someH, nearH, nearH, nearH, nearH, wrs i (by omega), hno]
      simp only [Option.bind_some]
      cases RG.some1 (rc l[i]) <;> cases RG.nearB l[i].f0 <;> cases RG.nearB l[i].f1 <;> cases RG.nearB l[i].f2 <;> cases RG.nearB l[i].f3 <;> rfl
    by_cases c : RG.okR (rc l[i]) = true
    · rw [c, Bool.true_and]
      refine Ev.step (fun k => ?_) (ih (i + 1) (by omega))
      rw [hst, if_pos c]
    · rw [show RG.okR (rc l[i]) = false by simpa using c, Bool.false_and]
      refine one_round fun k => ?_
      rw [hst, if_neg c]; rfl
theorem rightH_val (l : List S58) : Ev (fun k => Ci.f k l) (RG.rightP (l.map rc)) := by
  unfold RG.rightP
  rw [List.length_map]
  by_cases h : 4096 < l.length
  · rw [if_pos h]
    refine ⟨0, fun k _ => ?_⟩
    show Ci.f k l = _
    unfold Ci.f
    rw [if_pos (by omega)]
  · rw [if_neg h]
    refine Ev.congr (fun k => by unfold Ci.f; rw [if_neg (by omega)]) ?_
    exact Ev.bind (far_l0 l (by omega) l.length 0 (Nat.zero_add _)) (Ev.now _)
def fewB (l : List S58) : Bool := decide (l.length ≤ 30) && decide (RG.rightP (l.map rc) = 0)
theorem rdL2 (l : List (List S58)) (i : Nat) (h : i < l.length) : PGH.rd_L2 l (i : Int) = l[i] := by
  unfold PGH.rd_L2; rw [Int.toNat_natCast, List.getD_eq_getElem?_getD, List.getElem?_eq_getElem h]; rfl
theorem few_l0 (L : List (List S58)) (hL : L.length ≤ 10) : ∀ d i, i + d = L.length → Ev (fun k => Bw.l0 k L (i : Int)) ((L.drop i).all fewB) := by
  intro d
  induction d with
  | zero =>
    intro i hi
    refine one_round fun k => ?_
    rw [Bw.l0, if_neg (by omega), List.drop_of_length_le (by omega)]; rfl
  | succ d ih =>
    intro i hi
    have hlt : i < L.length := by omega
    rw [List.drop_eq_getElem_cons hlt, List.all_cons]
    unfold fewB
    by_cases c1 : L[i].length ≤ 30
    · rw [decide_eq_true c1, Bool.true_and]
      refine Ev.step (fun k => by rw [Bw.l0, if_pos (by omega), if_pos (by omega), rdL2 L i hlt, if_neg (by omega), wrs i (by omega)]) ?_
      refine Ev.bind (rightH_val L[i]) ?_
      by_cases c2 : RG.rightP (L[i].map rc) = 0
      · rw [decide_eq_true c2, Bool.true_and]
        exact Ev.congr (fun k => by rw [if_pos c2]) (ih (i + 1) (by omega))
      · rw [decide_eq_false c2, Bool.false_and]
        exact Ev.congr (fun k => by rw [if_neg c2]) (Ev.now _)
    · rw [decide_eq_false c1, Bool.false_and, Bool.false_and]
      refine one_round fun k => ?_
      rw [Bw.l0, if_pos (by omega), if_pos (by omega), rdL2 L i hlt, if_pos (by omega)]
theorem few_val (L : List (List S58)) (hL : L.length ≤ 10) : Ev (fun k => Bw.f k L) (L.all fewB) := few_l0 L hL L.length 0 (Nat.zero_add _)
theorem few_of {l : List S58} (h : fewB l = true) : l.length ≤ 30 ∧ RG.rightP (l.map rc) = 0 := by
  unfold fewB at h
  simpa using h
def okB (b : S91) : Prop := (-8192 ≤ b.f0 ∧ b.f0 ≤ 8192) ∧ (-8192 ≤ b.f1 ∧ b.f1 ≤ 8192) ∧ ∀ s ∈ b.f2, (-8192 ≤ s.f0 ∧ s.f0 ≤ 8192) ∧ (-8192 ≤ s.f1 ∧ s.f1 ≤ 8192)
theorem wrap_add (x y : Int) : wrap64 (wrap64 x + wrap64 y) = wrap64 (x + y) := by unfold wrap64; omega
def sumS (b : S91) (l : List S93) : Int := (l.map fun s => (s.f1 - s.f0) * (b.f1 - b.f0)).sum
theorem count_l1 (L : List S91) (i : Nat) (hi : i < 1000000) (b : S91) (hb : okB b) (hbl : b.f2.length ≤ 8192) {R} (x0 : Int)
    (hE : Ev (fun k => B1.l0 k (wrap64 (x0 + sumS b b.f2)) L (L.length : Int) ((i + 1 : Nat) : Int)) R) : ∀ d j, j + d = b.f2.length →
    Ev (fun k => B1.l1 k (wrap64 (x0 + sumS b (b.f2.take j))) L (L.length : Int) (i : Int) b.f2 (b.f2.length : Int) (j : Int) b.f0 b.f1 b.f2) R := by
  intro d
  induction d with
  | zero =>
    intro j hj
    refine Ev.step (fun k => ?_) hE
    rw [B1.l1, if_neg (by omega), List.take_of_length_le (by omega), wrs i (by omega)]
  | succ d ih =>
    intro j hj
    have hlt : j < b.f2.length := by omega
    have hs := hb.2.2 b.f2[j] (List.getElem_mem hlt)
    have hb1 := hb.1
    have hb2 := hb.2.1
    have e : sumS b (b.f2.take (j + 1)) = sumS b (b.f2.take j) + (b.f2[j].f1 - b.f2[j].f0) * (b.f1 - b.f0) := by
      unfold sumS
      rw [List.take_succ_eq_append_getElem hlt, List.map_append, List.sum_append]
      simp
    have ih := ih (j + 1) (by omega)
    rw [e, ← Int.add_assoc, ← wrap_add] at ih
    refine Ev.step (fun k => ?_) ih
    have w1 : wrap64 (b.f2[j].f1 - b.f2[j].f0) = b.f2[j].f1 - b.f2[j].f0 := by unfold wrap64; omega
    have w2 : wrap64 (b.f1 - b.f0) = b.f1 - b.f0 := by unfold wrap64; omega
    rw [B1.l1, if_pos (by omega), if_pos (by omega), if_pos (by omega), rdS b.f2 j hlt, w1, w2, wrs j (by omega)]
def areaS (L : List S91) : Int := (L.map fun b => sumS b b.f2).sum
theorem areaS_eq (L : List S91) : areaS L = RG.areaI (L.map bd) := by
  unfold areaS RG.areaI
  rw [List.map_map]
  congr 1
  refine List.map_congr_left fun b _ => ?_
  unfold sumS
  show _ = ((b.f2.map sp).map fun s => (s.2 - s.1) * (b.f1 - b.f0)).sum
  rw [List.map_map]; rfl
theorem count_l0 (L : List S91) (hL : L.length ≤ 100000) (hb : ∀ b ∈ L, okB b ∧ b.f2.length ≤ 8192) : ∀ d i, i + d = L.length →
    Ev (fun k => B1.l0 k (wrap64 (areaS (L.take i))) L (L.length : Int) (i : Int)) (wrap64 (areaS L), 0) := by
  intro d
  induction d with
  | zero =>
    intro i hi
    refine one_round fun k => ?_
    rw [B1.l0, if_neg (by omega), List.take_of_length_le (by omega)]
  | succ d ih =>
    intro i hi
    have hlt : i < L.length := by omega
    have e : areaS (L.take (i + 1)) = areaS (L.take i) + sumS L[i] L[i].f2 := by
      unfold areaS
      rw [List.take_succ_eq_append_getElem hlt, List.map_append, List.sum_append]
      simp
    have ih := ih (i + 1) (by omega)
    rw [e] at ih
    have hbi := hb _ (List.getElem_mem hlt)
    have h1 := count_l1 L i (by omega) L[i] hbi.1 hbi.2 (areaS (L.take i)) ih L[i].f2.length 0 (Nat.zero_add _)
    refine Ev.step (fun k => ?_) h1
    rw [B1.l0, if_pos (by omega), if_pos (by omega), if_pos (by omega), rdB L i hlt]
    show _ = B1.l1 k (wrap64 (areaS (L.take i) + 0)) _ _ _ _ _ _ _ _ _
    rw [Int.add_zero]; rfl
theorem count_val (a : List S58) : Ev (fun k => Cu.f k a) (RG.countP (a.map rc)) := by
  unfold RG.countP
  refine Ev.bind (right_val a) ?_
  by_cases ca : RG.rightP (a.map rc) = 0
  · rw [if_pos ca]
    refine Ev.congr (fun k => by rw [if_pos ca]) ?_
    have hal := right_len ca
    have hs := sweep_val a [] 49 hal (by simp)
    obtain ⟨h1, h2⟩ := sweep_small a [] 49 hal (by simp)
    rw [keep_first] at hs h1 h2
    simp only [List.map_nil] at hs h1 h2
    refine Ev.bind hs ?_
    have hin := RG.sweep_in (a := a.map rc) (b := []) (keep := RG.firstB) ca rfl
    have h := count_l0 ((RG.sweepP (a.map rc) [] RG.firstB).map db) (by rw [List.length_map]; omega) (fun x hx => by
      obtain ⟨y, hy, rfl⟩ := List.mem_map.mp hx
      obtain ⟨i1, i2, i3⟩ := hin y hy
      refine ⟨⟨i1, i2, fun s hs => ?_⟩, ?_⟩
      · obtain ⟨t, ht, rfl⟩ := List.mem_map.mp hs
        exact i3 t ht
      · have := h2 y hy
        show (y.2.2.map ps).length ≤ _
        rw [List.length_map]; omega) ((RG.sweepP (a.map rc) [] RG.firstB).map db).length 0 (Nat.zero_add _)
    have e1 : areaS ((RG.sweepP (a.map rc) [] RG.firstB).map db) = RG.areaI (RG.sweepP (a.map rc) [] RG.firstB) := by rw [areaS_eq, map_bd_db]
    have e2 : wrap64 (areaS (((RG.sweepP (a.map rc) [] RG.firstB).map db).take 0)) = 0 := by show wrap64 0 = 0; unfold wrap64; omega
    rw [e1, e2] at h
    have hw : wrap64 (RG.areaI (RG.sweepP (a.map rc) [] RG.firstB)) = RG.areaI (RG.sweepP (a.map rc) [] RG.firstB) := by
      rw [RG.areaI_eq _ (RG.sweep_ok (a.map rc) [] RG.firstB rfl).1, RG.area_val ca rfl rfl]
      have := RG.cnt_le (fun x y => RG.firstB (RG.cov (a.map rc) x y) (RG.cov [] x y)) (-8192) 16384
      unfold wrap64
      omega
    rw [hw] at h
    exact h
  · rw [if_neg ca]
    exact Ev.congr (fun k => by rw [if_neg ca]) (Ev.now _)
end VR
end Go.Proofs.Ytobdfiglgdbecaa

