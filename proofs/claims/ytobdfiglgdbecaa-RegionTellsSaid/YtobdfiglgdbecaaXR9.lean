import Derived.Test.YtobdfiglgdbecaaXV6
import Derived.Test.YtobdfiglgdbecaaXR8
section
set_option linter.unusedVariables false
set_option linter.unusedSimpArgs false
open Go Go.RowKit Go.Proofs.YtobdfiglgdbecaaW.PrintWords Go.Proofs.YtobdfiglgdbecaaW.PrintMore
namespace Go.Proofs.Ytobdfiglgdbecaa
open PGA PGB PGH PGK
namespace RG
def boxS (s : Int × Int × Int × Int × Bool) (r : Rc) : Int × Int × Int × Int × Bool :=
  if some1 r then (if s.2.2.2.2 then (mn s.1 r.1, mn s.2.1 r.2.1, mx s.2.2.1 r.2.2.1, mx s.2.2.2.1 r.2.2.2, true) else (r.1, r.2.1, r.2.2.1, r.2.2.2, true)) else s
end RG
namespace VR
open RG (cov rightP twoP flat sweepP movedP growP shiftP toldP)
theorem bnd_l0 (l : List S58) (hl : l.length ≤ 4096) : ∀ d i (s : Int × Int × Int × Int × Bool), i + d = l.length →
    Ev (fun k => Ci.l0 k s.2.2.2.2 l (l.length : Int) (i : Int) s.1 s.2.1 s.2.2.1 s.2.2.2.1) (((l.drop i).map rc).foldl RG.boxS s) := by
  intro d
  induction d with
  | zero =>
    intro i s hi; refine one_round fun k => ?_
    rw [Ci.l0, if_neg (by omega), List.drop_of_length_le (by omega)]; rfl
  | succ d ih =>
    intro i s hi; have hlt : i < l.length := by omega
    rw [List.drop_eq_getElem_cons hlt, List.map_cons, List.foldl_cons]; have h := ih (i + 1) (RG.boxS s (rc l[i])) (by omega); refine Ev.step (fun k => ?_) h; rw [Ci.l0, if_pos (by omega), if_pos (by omega), if_pos (by omega), rdR l i hlt, some_val, Option.bind_some, wrs i (by omega)]; unfold RG.boxS
    by_cases c1 : RG.some1 (rc l[i]) = true
    · rw [if_pos c1, if_pos c1]
      by_cases c2 : s.2.2.2.2 = true
      · rw [if_pos c2, if_pos c2]; rw [c2]; rfl
      · rw [if_neg c2, if_neg c2]; rfl
    · rw [if_neg c1, if_neg c1]
def bndP (l : List RG.Rc) : Int × Int × Int × Int × Bool := if rightP l = 0 then l.foldl RG.boxS (0, 0, 0, 0, false) else (0, 0, 0, 0, false)
theorem bnd_val (l : List S58) : Ev (fun k => Ci.f k l) (bndP (l.map rc)) := by
  unfold Ci.f bndP; refine Ev.bind (right_val l) ?_
  by_cases c : rightP (l.map rc) = 0
  · rw [if_pos c]
    refine Ev.congr (fun k => by rw [if_pos c]) ?_; exact bnd_l0 l (right_len c) l.length 0 (0, 0, 0, 0, false) (Nat.zero_add _)
  · rw [if_neg c]
    exact Ev.congr (fun k => by rw [if_neg c]) (Ev.now _)
end VR
end Go.Proofs.Ytobdfiglgdbecaa
end
section
set_option linter.unusedVariables false
set_option linter.unusedSectionVars false
set_option linter.unusedSimpArgs false
open Go Go.RowKit Go.Proofs.YtobdfiglgdbecaaW.PrintWords Go.Proofs.YtobdfiglgdbecaaW.PrintMore
namespace Go.Proofs.Ytobdfiglgdbecaa
open PGA PGB PGH PGK PGI PGR
namespace RG
def sumP (v : List Sp) (h : Int) : Int := (v.map fun s => (s.2 - s.1) * h).sum
theorem sumP_add (v : List Sp) (h h' : Int) : sumP v (h + h') = sumP v h + sumP v h' := by
  induction v with
  | nil => rfl
  | cons s t ih =>
    unfold sumP at ih ⊢
    simp only [List.map_cons, List.sum_cons]
    rw [ih, Int.mul_add]; omega
theorem areaI_append (a b : List Bd) : areaI (a ++ b) = areaI a + areaI b := by unfold areaI; rw [List.map_append, List.sum_append]
theorem areaI_one (x x' : Int) (v : List Sp) : areaI [(x, x', v)] = sumP v (x' - x) := by unfold areaI sumP; simp
theorem areaI_add (out : List Bd) (x x' : Int) (v : List Sp) : areaI (addP out x x' v) = areaI out + sumP v (x' - x) := by
  unfold addP
  rcases last_split out with rfl | ⟨i, p, rfl⟩
  · show areaI [(x, x', v)] = areaI [] + _
    rw [areaI_one]; show _ = 0 + _; omega
  · simp only [List.getLast?_concat, List.dropLast_concat]
    split
    · rename_i h
      obtain ⟨p1, p2, p3⟩ := p
      simp only [] at h
      rw [areaI_append, areaI_append, areaI_one, areaI_one, ← h.2, ← h.1, show x' - p1 = (p2 - p1) + (x' - p2) from by rw [h.1]; omega, sumP_add]; rw [h.1]; omega
    · rw [areaI_append, areaI_one]
def sumR (W : Int → List Sp) : List Int → Int
  | x :: x' :: t => sumP (W x) (x' - x) + sumR W (x' :: t)
  | _ => 0
theorem areaI_build (W : Int → List Sp) (g : Int → Option (List Sp)) (hg : ∀ x, g x = if W x = [] then none else some (W x)) : ∀ (t : List Int) (out : List Bd), areaI (buildP g t out) = areaI out + sumR W t
  | [], out => by show areaI out = areaI out + 0; omega
  | [_], out => by show areaI out = areaI out + 0; omega
  | x :: x' :: t, out => by
    show areaI (buildP g (x' :: t) (stepP out x x' (g x))) = areaI out + (sumP (W x) (x' - x) + sumR W (x' :: t)); rw [areaI_build W g hg (x' :: t), hg]
    by_cases c : W x = []
    · rw [if_pos c, c]
      show areaI out + _ = areaI out + (0 + _)
      omega
    · rw [if_neg c]
      show areaI (addP out x x' (W x)) + _ = _; rw [areaI_add]; omega
end RG
namespace VR
open RG (flat sweepP buildP cov)
theorem wp_first (A : List RG.Rc) (y : Int) : Wp A [] RG.firstB y = RG.rowP A y := by
  have h := RG.merge_ok (RG.rowP A y) (RG.rowP [] y) RG.firstB rfl; exact RG.snf_unique h.1 (RG.row_ok A y).1 fun x => h.2 x
theorem row_in {l : List S58} (nl : ∀ r ∈ l.map rc, RG.some1 r = true → RG.near4 r = true) (y : Int) : ∀ s ∈ RG.rowP (l.map rc) y, (-8192 ≤ s.1 ∧ s.1 ≤ 8192) ∧ (-8192 ≤ s.2 ∧ s.2 ≤ 8192) := by
  intro s hs
  have g : ∀ z, (z = s.1 ∨ z = s.2) → -8192 ≤ z ∧ z ≤ 8192 := fun z hz => by
    have hz2 : z ∈ RG.endsOf (RG.rowP (l.map rc) y) := List.mem_flatMap.mpr ⟨s, hs, by simpa using hz⟩; obtain ⟨r, hr, h1, h2⟩ := RG.row_ends hz2; have := (RG.near4_iff r).mp (nl r hr h1)
    omega
  exact ⟨g _ (.inl rfl), g _ (.inr rfl)⟩
section
variable {a d : List S58} (h1 : Ord d a) (la : a.length ≤ 4096) (na : ∀ r ∈ a.map rc, RG.some1 r = true → RG.near4 r = true) (C : List Int) (hC : C.length ≤ 20000) (bC : ∀ z ∈ C, -8192 ≤ z ∧ z ≤ 8192)
include h1 la na hC bC
theorem count6_l2 (i : Nat) (c : i + 1 < C.length) (v : List RG.Sp) (hv : v.length ≤ 10000) (bv : ∀ s ∈ v, (-8192 ≤ s.1 ∧ s.1 ≤ 8192) ∧ (-8192 ≤ s.2 ∧ s.2 ≤ 8192)) {R} : ∀ e j X, j + e = v.length →
    Ev (fun k => Bb.l1 k d (wrap64 (X + RG.sumP (v.drop j) (C[i + 1] - C[i]))) C ((i + 1 : Nat) : Int)) R → Ev (fun k => Bb.l2 k d (wrap64 X) C (i : Int) (v.map p6) (j : Int)) R := by
  intro e
  induction e with
  | zero =>
    intro j X hj hR; rw [List.drop_of_length_le (by omega)] at hR; have e0 : X + RG.sumP [] (C[i + 1] - C[i]) = X := by show X + 0 = X; omega
    rw [e0] at hR; exact Ev.step (fun k => by rw [Bb.l2, if_neg (by simp; omega), wrs i (by omega)]) hR
  | succ e ih =>
    intro j X hj hR; have hlt : j < v.length := by omega
    have hs := bv v[j] (List.getElem_mem hlt); have c1 := bC C[i] (List.getElem_mem (by omega)); have c2 := bC C[i + 1] (List.getElem_mem c); have e1 : wrap64 (v[j].2 - v[j].1) = v[j].2 - v[j].1 := by unfold wrap64; omega
    have e2 : wrap64 (C[i + 1] - C[i]) = C[i + 1] - C[i] := by unfold wrap64; omega
    have e3 : RG.sumP (v.drop j) (C[i + 1] - C[i]) = (v[j].2 - v[j].1) * (C[i + 1] - C[i]) + RG.sumP (v.drop (j + 1)) (C[i + 1] - C[i]) := by
      rw [List.drop_eq_getElem_cons hlt]; rfl
    rw [e3, ← Int.add_assoc] at hR; refine Ev.step (fun k => ?_) (ih (j + 1) (X + (v[j].2 - v[j].1) * (C[i + 1] - C[i])) (by omega) hR); rw [Bb.l2, if_pos (by simp; omega), if_pos (by omega), wrs i (by omega), if_pos (by omega), if_pos (by omega), if_pos (by omega), if_pos (by omega), rd6 _ j (by simp; omega), rdI C (i + 1) c, rdI C i (by omega), wrs j (by omega), List.getElem_map]; show Bb.l2 k d (wrap64 (wrap64 X + wrap64 (wrap64 (v[j].2 - v[j].1) * wrap64 (C[i + 1] - C[i])))) C (i : Int) (v.map p6) ((j + 1 : Nat) : Int) = _; rw [e1, e2, wrap_add]
theorem count6_l1 : ∀ e i X, i + e = C.length → Ev (fun k => Bb.l1 k d (wrap64 X) C (i : Int)) (wrap64 (X + RG.sumR (RG.rowP (a.map rc)) (C.drop i)), 0) := by
  intro e
  induction e with
  | zero =>
    intro i X hi; refine one_round fun k => ?_
    rw [Bb.l1, if_neg (by rw [wrs i (by omega)]; omega), List.drop_of_length_le (by omega)]; have e0 : X + RG.sumR (RG.rowP (a.map rc)) [] = X := by show X + 0 = X; omega
    rw [e0]
  | succ e ih =>
    intro i X hi; have hlt : i < C.length := by omega
    by_cases c : i + 1 < C.length
    · have hr := row_small a C[i] la
      have e0 : RG.sumR (RG.rowP (a.map rc)) (C.drop i) = RG.sumP (RG.rowP (a.map rc) C[i]) (C[i + 1] - C[i]) + RG.sumR (RG.rowP (a.map rc)) (C.drop (i + 1)) := by
        rw [List.drop_eq_getElem_cons hlt, List.drop_eq_getElem_cons c]; rfl
      rw [e0, ← Int.add_assoc]; refine Ev.step (fun k => by rw [Bb.l1, if_pos (by rw [wrs i (by omega)]; omega), if_pos (by omega), if_pos (by omega), rdI C i hlt]) ?_; refine Ev.bind (row6_val h1 C[i] (by omega)) ?_; exact count6_l2 h1 la na C hC bC i c _ (by omega) (row_in na _) _ 0 X (Nat.zero_add _) (ih (i + 1) _ (by omega))
    · refine one_round fun k => ?_
      have : C.drop i = [C[i]] := by rw [List.drop_eq_getElem_cons hlt, List.drop_of_length_le (by omega)]
      rw [Bb.l1, if_neg (by rw [wrs i (by omega)]; omega), this]; have e0 : X + RG.sumR (RG.rowP (a.map rc)) [C[i]] = X := by show X + 0 = X; omega
      rw [e0]
end
theorem count6_val (a : List S58) : Ev (fun k => Bb.f k a) (RG.countP (a.map rc)) := by
  unfold Bb.f; refine Ev.bind (rightH_val a) ?_
  by_cases ca : RG.rightP (a.map rc) = 0
  · refine Ev.congr (fun k => by rw [if_pos ca]) ?_
    have la := right_len ca; have na := (RG.right_le ca).2; obtain ⟨d, o1, h1⟩ := order_val a.length a (Nat.le_refl _) (by omega); have l1 := h1.len; refine Ev.bind o1 ?_
    obtain ⟨y1, r1, m1, n1, g1⟩ := cuts_in d (by omega) (fun q hq => ((h1.mem q).mp hq).2) (F := fun k ys i => Bb.l0 k d 0 ys i) (G := fun k ys => Bb.l1 k d 0 ys 0)
      (fun k ys i h => by
        have hs := ((h1.mem d[i]).mp (List.getElem_mem h)).2; rw [Bb.l0, if_pos (by omega), if_pos (by omega), rdR d i h, someH, hs, Option.bind_some, if_pos rfl, wrs i (by omega)])
      (fun k ys => by rw [Bb.l0, if_neg (by omega)]) d.length 0 [] (Nat.zero_add _) trivial (by simp; omega)
    refine g1 _ ?_
    have ey : y1 = RG.cutsP (a.map rc) [] := RG.rise_unique _ _ r1 (RG.dist_rise _) fun z => by
      rw [m1, List.drop_zero, cutD_of h1]; unfold RG.cutsP; rw [RG.mem_dist, List.mem_append]
      constructor
      · rintro (h | h)
        · cases h
        · exact .inl h
      · rintro (h | h)
        · exact .inr h
        · cases h
    subst ey; have hl := cutsP_len (a.map rc) [] (by rw [List.length_map]; omega) (by simp)
    have bC : ∀ z ∈ RG.cutsP (a.map rc) [], -8192 ≤ z ∧ z ≤ 8192 := fun z hz => by
      unfold RG.cutsP at hz; rw [RG.mem_dist, List.mem_append] at hz
      rcases hz with h | h
      · obtain ⟨r, hr, hs, hz⟩ := RG.cuts_from h
        have := (RG.near4_iff r).mp (na r hr hs)
        omega
      · cases h
    have h := count6_l1 h1 la na (RG.cutsP (a.map rc) []) (by omega) bC (RG.cutsP (a.map rc) []).length 0 0 (Nat.zero_add _); rw [List.drop_zero] at h
    have ea : RG.areaI (sweepP (a.map rc) [] RG.firstB) = 0 + RG.sumR (RG.rowP (a.map rc)) (RG.cutsP (a.map rc) []) := by
      have := RG.areaI_build (RG.rowP (a.map rc)) (RG.rowOf (a.map rc) [] RG.firstB) (fun x => by rw [rowOf_Wp, wp_first]) (RG.cutsP (a.map rc) []) []; exact this
    have hc := RG.count_good ca; unfold RG.countP at hc ⊢; rw [if_pos ca] at hc ⊢; have hv : RG.areaI (sweepP (a.map rc) [] RG.firstB) = (RG.cnt (cov (a.map rc)) (-8192) 16384 : Int) := congrArg Prod.fst hc; have hle := RG.cnt_le (cov (a.map rc)) (-8192) 16384; rw [← ea] at h
    have hw : wrap64 (RG.areaI (sweepP (a.map rc) [] RG.firstB)) = RG.areaI (sweepP (a.map rc) [] RG.firstB) := by
      rw [hv]; generalize RG.cnt (cov (a.map rc)) (-8192) 16384 = n at hle; unfold wrap64; omega
    have w0 : wrap64 0 = 0 := by unfold wrap64; omega
    rw [hw, w0] at h; exact h
  · unfold RG.countP
    rw [if_neg ca]; exact Ev.congr (fun k => by rw [if_neg ca]) (Ev.now _)
theorem mn_self (x : Int) : mn x x = x := by unfold mn; split <;> rfl
theorem mx_self (x : Int) : mx x x = x := by unfold mx; split <;> rfl
theorem bnd6_l0 (l : List S58) (hl : l.length ≤ 4096) : ∀ d i (s : Int × Int × Int × Int × Bool), i + d = l.length →
    Ev (fun k => Br.l0 k l s.2.2.2.2 (i : Int) s.1 s.2.1 s.2.2.1 s.2.2.2.1) (((l.drop i).map rc).foldl RG.boxS s) := by
  intro d
  induction d with
  | zero =>
    intro i s hi; refine one_round fun k => ?_
    rw [Br.l0, if_neg (by omega), List.drop_of_length_le (by omega)]; rfl
  | succ d ih =>
    intro i s hi; have hlt : i < l.length := by omega
    rw [List.drop_eq_getElem_cons hlt, List.map_cons, List.foldl_cons]; have h := ih (i + 1) (RG.boxS s (rc l[i])) (by omega); refine Ev.step (fun k => ?_) h; rw [Br.l0, if_pos (by omega), if_pos (by omega), rdR l i hlt, someH, Option.bind_some, wrs i (by omega)]; unfold RG.boxS
    by_cases c1 : RG.some1 (rc l[i]) = true
    · rw [if_pos c1, if_pos c1]
      by_cases c2 : s.2.2.2.2 = true
      · rw [if_pos c2, if_pos c2]; rw [c2]; rfl
      · rw [if_neg c2, if_neg c2, mn_self, mn_self, mx_self, mx_self]; rfl
    · rw [if_neg c1, if_neg c1]
theorem bnd6_val (l : List S58) : Ev (fun k => Br.f k l) (bndP (l.map rc)) := by
  unfold Br.f bndP; refine Ev.bind (rightH_val l) ?_
  by_cases c : RG.rightP (l.map rc) = 0
  · rw [if_pos c]
    refine Ev.congr (fun k => by rw [if_pos c]) ?_; exact bnd6_l0 l (right_len c) l.length 0 (0, 0, 0, 0, false) (Nat.zero_add _)
  · rw [if_neg c]
    exact Ev.congr (fun k => by rw [if_neg c]) (Ev.now _)
end VR
end Go.Proofs.Ytobdfiglgdbecaa
end
