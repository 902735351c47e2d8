import Derived.Test.YtobdfiglgdbecaaYV6
import Derived.Test.YtobdfiglgdbecaaYPGGx1
set_option linter.unusedVariables false
set_option linter.unusedSimpArgs false
open Go Go.RowKit Go.Proofs.YtobdfiglgdbecaaW.PrintWords Go.Proofs.YtobdfiglgdbecaaW.PrintMore
namespace Go.Proofs.Ytobdfiglgdbecaa
open PGA PGB PGH PGK PGG
namespace RG
def boxS (s : Int × Int × Int × Int × Bool) (r : Rc) : Int × Int × Int × Int × Bool :=
  if some1 r then (if s.2.2.2.2 then (mn s.1 r.1, mn s.2.1 r.2.1, mx s.2.2.1 r.2.2.1, mx s.2.2.2.1 r.2.2.2, true) else (r.1, r.2.1, r.2.2.1, r.2.2.2, true)) else s
theorem box_in : ∀ (l : List Rc) (s : Int × Int × Int × Int × Bool),
    (s.2.2.2.2 = true → (l.foldl boxS s).1 ≤ s.1 ∧ (l.foldl boxS s).2.1 ≤ s.2.1 ∧ s.2.2.1 ≤ (l.foldl boxS s).2.2.1 ∧ s.2.2.2.1 ≤ (l.foldl boxS s).2.2.2.1) ∧
    ∀ r ∈ l, some1 r = true → (l.foldl boxS s).1 ≤ r.1 ∧ (l.foldl boxS s).2.1 ≤ r.2.1 ∧ r.2.2.1 ≤ (l.foldl boxS s).2.2.1 ∧ r.2.2.2 ≤ (l.foldl boxS s).2.2.2.1
  | [], s => ⟨fun _ => ⟨Int.le_refl _, Int.le_refl _, Int.le_refl _, Int.le_refl _⟩, fun r hr => by cases hr⟩
  | q :: t, s => by
    have ih := box_in t (boxS s q)
    rw [List.foldl_cons]
    generalize List.foldl boxS (boxS s q) t = z at ih ⊢
    obtain ⟨i1, i2⟩ := ih
    have key : some1 q = true → z.1 ≤ q.1 ∧ z.2.1 ≤ q.2.1 ∧ q.2.2.1 ≤ z.2.2.1 ∧ q.2.2.2 ≤ z.2.2.2.1 := fun hq => by
      by_cases hs : s.2.2.2.2 = true
      · have e : boxS s q = (mn s.1 q.1, mn s.2.1 q.2.1, mx s.2.2.1 q.2.2.1, mx s.2.2.2.1 q.2.2.2, true) := by unfold boxS; rw [if_pos hq, if_pos hs]
        have j := i1 (by rw [e])
        rw [e] at j
        simp only [mn, mx] at j
        obtain ⟨j1, j2, j3, j4⟩ := j
        refine ⟨?_, ?_, ?_, ?_⟩
        · split at j1 <;> omega
        · split at j2 <;> omega
        · split at j3 <;> omega
        · split at j4 <;> omega
      · have e : boxS s q = (q.1, q.2.1, q.2.2.1, q.2.2.2, true) := by unfold boxS; rw [if_pos hq, if_neg hs]
        have j := i1 (by rw [e])
        rw [e] at j
        exact j
    refine ⟨fun hs => ?_, fun r hr h1 => ?_⟩
    · by_cases hq : some1 q = true
      · have e : boxS s q = (mn s.1 q.1, mn s.2.1 q.2.1, mx s.2.2.1 q.2.2.1, mx s.2.2.2.1 q.2.2.2, true) := by unfold boxS; rw [if_pos hq, if_pos hs]
        have j := i1 (by rw [e])
        rw [e] at j
        simp only [mn, mx] at j
        obtain ⟨j1, j2, j3, j4⟩ := j
        refine ⟨?_, ?_, ?_, ?_⟩
        · split at j1 <;> omega
        · split at j2 <;> omega
        · split at j3 <;> omega
        · split at j4 <;> omega
      · have e : boxS s q = s := by unfold boxS; rw [if_neg hq]
        rw [e] at i1
        exact i1 hs
    · rcases List.mem_cons.mp hr with rfl | hr
      · exact key h1
      · exact i2 r hr h1
def dil (c : Int → Int → Bool) (l t r b x y : Int) : Prop := ∃ u v, c u v = true ∧ u - l ≤ x ∧ x ≤ u + r ∧ v - t ≤ y ∧ y ≤ v + b
theorem cov_dil (a : List Rc) (l t r b : Int) (hl : 0 ≤ l) (ht : 0 ≤ t) (hr : 0 ≤ r) (hb : 0 ≤ b) (x y : Int) : cov (movedP a l t r b) x y = true ↔ dil (cov a) l t r b x y := by
  rw [cov_moved]
  unfold dil cov
  simp only [List.any_eq_true, Bool.and_eq_true, decide_eq_true_eq, some1]
  constructor
  · rintro ⟨q, hq, ⟨h1, h2⟩, ⟨⟨h3, h4⟩, h5⟩, h6⟩
    refine ⟨max q.1 (x - r), max q.2.1 (y - b), ⟨q, hq, ⟨⟨⟨?_, ?_⟩, ?_⟩, ?_⟩⟩, ?_, ?_, ?_, ?_⟩ <;> omega
  · rintro ⟨u, v, ⟨q, hq, ⟨⟨h1, h2⟩, h3⟩, h4⟩, h5, h6, h7, h8⟩
    refine ⟨q, hq, ⟨?_, ?_⟩, ⟨⟨?_, ?_⟩, ?_⟩, ?_⟩ <;> omega
theorem dil_dil {c c1 c2 c3 : Int → Int → Bool} {l t r b l' t' r' b' : Int} (hl : 0 ≤ l) (ht : 0 ≤ t) (hr : 0 ≤ r) (hb : 0 ≤ b) (hl' : 0 ≤ l') (ht' : 0 ≤ t') (hr' : 0 ≤ r') (hb' : 0 ≤ b')
    (h1 : ∀ x y, c1 x y = true ↔ dil c l t r b x y) (h2 : ∀ x y, c2 x y = true ↔ dil c1 l' t' r' b' x y) (h3 : ∀ x y, c3 x y = true ↔ dil c (l + l') (t + t') (r + r') (b + b') x y) (x y : Int) : c2 x y = c3 x y := by
  rw [Bool.eq_iff_iff, h2, h3]
  constructor
  · rintro ⟨u, v, h, e1, e2, e3, e4⟩
    obtain ⟨u', v', h', f1, f2, f3, f4⟩ := (h1 u v).mp h
    exact ⟨u', v', h', by omega, by omega, by omega, by omega⟩
  · rintro ⟨u', v', h', e1, e2, e3, e4⟩
    exact ⟨max (u' - l) (x - r'), max (v' - t) (y - b'), (h1 _ _).mpr ⟨u', v', h', by omega, by omega, by omega, by omega⟩, by omega, by omega, by omega, by omega⟩
def boxed (m : Int) (a : List Rc) : Prop := ∀ q ∈ a, some1 q = true → (-m ≤ q.1 ∧ -m ≤ q.2.1) ∧ (q.2.2.1 ≤ m ∧ q.2.2.2 ≤ m)
theorem moved_near {a : List Rc} (h : boxed 1000 a) (l t r b : Int) (hl : -200 ≤ l ∧ l ≤ 200) (ht : -200 ≤ t ∧ t ≤ 200) (hr : -200 ≤ r ∧ r ≤ 200) (hb : -200 ≤ b ∧ b ≤ 200) : ∀ s ∈ movedP a l t r b, some1 s = true → near4 s = true := by
  intro s hs _
  unfold movedP at hs
  obtain ⟨q, hq, rfl⟩ := List.mem_map.mp hs
  obtain ⟨hq, h1⟩ := List.mem_filter.mp hq
  have h2 := h q hq h1
  rw [near4_iff]
  unfold some1 at h1
  simp only [Bool.and_eq_true, decide_eq_true_eq] at h1
  simp only []
  omega
theorem moved_right {a : List Rc} (h : boxed 1000 a) (hn : a.length ≤ 30) (l t r b : Int) (hl : -200 ≤ l ∧ l ≤ 200) (ht : -200 ≤ t ∧ t ≤ 200) (hr : -200 ≤ r ∧ r ≤ 200) (hb : -200 ≤ b ∧ b ≤ 200) : rightP (movedP a l t r b) = 0 ∧ (movedP a l t r b).length ≤ 30 := by
  have hl2 : (movedP a l t r b).length ≤ 30 := by
    unfold movedP; rw [List.length_map]; exact Nat.le_trans (List.length_filter_le _ _) hn
  exact ⟨right_of (by omega) (moved_near h l t r b hl ht hr hb), hl2⟩
theorem grow_good {a : List Rc} (ha : rightP a = 0) (l t r b : Int) (hl : 0 ≤ l ∧ l ≤ 200) (ht : 0 ≤ t ∧ t ≤ 200) (hr : 0 ≤ r ∧ r ≤ 200) (hb : 0 ≤ b ∧ b ≤ 200) : growP a l t r b = toldP (sweepP (movedP a l t r b) [] firstB) := by
  unfold growP
  rw [if_pos ha, if_pos]
  simp only [List.all_cons, List.all_nil, Bool.and_true, Bool.and_eq_true, decide_eq_true_eq]
  omega
theorem told_two {a b : List Rc} {keep : Bool → Bool → Bool} (ha : rightP a = 0) (hb : rightP b = 0) : toldP (sweepP a b keep) = twoP a b keep := by
  unfold twoP; rw [if_pos ha, if_pos hb]
theorem cov_shift (a : List Rc) (dx dy x y : Int) : cov (movedP a (-dx) (-dy) dx dy) x y = cov a (x - dx) (y - dy) := by
  rw [cov_moved]
  unfold cov
  rw [Bool.eq_iff_iff]
  simp only [List.any_eq_true, Bool.and_eq_true, decide_eq_true_eq, some1]
  constructor
  · rintro ⟨q, hq, ⟨h1, h2⟩, ⟨⟨h3, h4⟩, h5⟩, h6⟩
    exact ⟨q, hq, ⟨⟨by omega, by omega⟩, by omega⟩, by omega⟩
  · rintro ⟨q, hq, ⟨⟨h1, h2⟩, h3⟩, h4⟩
    exact ⟨q, hq, ⟨by omega, by omega⟩, ⟨⟨by omega, by omega⟩, by omega⟩, by omega⟩
end RG
namespace VR
open RG (cov rightP twoP flat sweepP movedP growP shiftP toldP)
theorem bnd_l0 (l : List S58) (hl : l.length ≤ 4096) : ∀ d i (s : Int × Int × Int × Int × Bool), i + d = l.length →
    Ev (fun k => Bu.l0 k s.2.2.2.2 l (l.length : Int) (i : Int) s.1 s.2.1 s.2.2.1 s.2.2.2.1) (((l.drop i).map rc).foldl RG.boxS s) := by
  intro d
  induction d with
  | zero =>
    intro i s hi
    refine one_round fun k => ?_
    rw [Bu.l0, if_neg (by omega), List.drop_of_length_le (by omega)]; rfl
  | succ d ih =>
    intro i s hi
    have hlt : i < l.length := by omega
    rw [List.drop_eq_getElem_cons hlt, List.map_cons, List.foldl_cons]
    have h := ih (i + 1) (RG.boxS s (rc l[i])) (by omega)
    refine Ev.step (fun k => ?_) h
    rw [Bu.l0, if_pos (by omega), if_pos (by omega), if_pos (by omega), rdR l i hlt, some_val, Option.bind_some, wrs i (by omega)]
    unfold RG.boxS
    by_cases c1 : RG.some1 (rc l[i]) = true
    · rw [if_pos c1, if_pos c1]
      by_cases c2 : s.2.2.2.2 = true
      · rw [if_pos c2, if_pos c2]; rw [c2]; rfl
      · rw [if_neg c2, if_neg c2]; rfl
    · rw [if_neg c1, if_neg c1]
def bndP (l : List RG.Rc) : Int × Int × Int × Int × Bool := if rightP l = 0 then l.foldl RG.boxS (0, 0, 0, 0, false) else (0, 0, 0, 0, false)
theorem bnd_val (l : List S58) : Ev (fun k => Bu.f k l) (bndP (l.map rc)) := by
  unfold Bu.f bndP
  refine Ev.bind (right_val l) ?_
  by_cases c : rightP (l.map rc) = 0
  · rw [if_pos c]
    refine Ev.congr (fun k => by rw [if_pos c]) ?_
    exact bnd_l0 l (right_len c) l.length 0 (0, 0, 0, 0, false) (Nat.zero_add _)
  · rw [if_neg c]
    exact Ev.congr (fun k => by rw [if_neg c]) (Ev.now _)
theorem grow_of (F : List RG.Rc) (l t r b : Int) : Ev (fun k => Av.f k (F.map cr) l t r b) (outP (growP F l t r b)) := by
  have h := grow_val (F.map cr) l t r b; rwa [map_rc_cr] at h
theorem shift_of (F : List RG.Rc) (dx dy : Int) : Ev (fun k => Az.f k (F.map cr) dx dy) (outP (shiftP F dx dy)) := by
  have h := shift_val (F.map cr) dx dy; rwa [map_rc_cr] at h
theorem g0 : Good [] (fun _ _ => false) := ⟨rfl, fun _ _ => rfl⟩
theorem cuts_sweep {a : List RG.Rc} (h : RG.cutsP a [] = []) : sweepP a [] RG.firstB = [] := by
  unfold RG.sweepP; rw [h]; rfl
theorem back_form {A : List RG.Rc} (hA : rightP A = 0) (hn : A.length ≤ 30) (hbox : RG.boxed 1000 A) (dx dy : Int) (hx : -100 ≤ dx ∧ dx ≤ 100) (hy : -100 ≤ dy ∧ dy ≤ 100) :
    shiftP (shiftP A dx dy).1 (-dx) (-dy) = twoP A [] RG.firstB := by
  by_cases c : RG.cutsP A [] = []
  · have e1 : shiftP A dx dy = ([], 0) := by unfold RG.shiftP; rw [if_pos hA, if_pos c]
    rw [e1, RG.two_val hA rfl, cuts_sweep c]
    rfl
  · obtain ⟨r1, r2⟩ := RG.moved_right hbox hn (-dx) (-dy) dx dy (by omega) (by omega) (by omega) (by omega)
    have e1 : shiftP A dx dy = twoP (movedP A (-dx) (-dy) dx dy) [] RG.firstB := by
      unfold RG.shiftP; rw [if_pos hA, if_neg c, if_pos (by omega), RG.told_two r1 rfl]
    have gm : Good (movedP A (-dx) (-dy) dx dy) (fun x y => cov A (x - dx) (y - dy)) := ⟨r1, fun x y => RG.cov_shift A dx dy x y⟩
    obtain ⟨q, g⟩ := good_two (keep := RG.firstB) rfl gm g0 (by have := RG.few_ok (movedP A (-dx) (-dy) dx dy) [] RG.firstB rfl (by simp only [List.length_nil]; omega); omega)
    rw [e1, q]
    show shiftP (flat (sweepP (movedP A (-dx) (-dy) dx dy) [] RG.firstB)) (-dx) (-dy) = _
    have hform := (RG.few_ok A [] RG.firstB rfl (by simp only [List.length_nil]; omega))
    by_cases c2 : RG.cutsP (flat (sweepP (movedP A (-dx) (-dy) dx dy) [] RG.firstB)) [] = []
    · have e2 := cuts_sweep c2
      have hc : ∀ x y, cov A x y = false := fun x y => by
        have h1 := g.cov (x + dx) (y + dy)
        have h2 := RG.cov_sweep (flat (sweepP (movedP A (-dx) (-dy) dx dy) [] RG.firstB)) [] (keep := RG.firstB) rfl (x + dx) (y + dy)
        rw [e2] at h2
        have h3 : RG.firstB (cov (flat (sweepP (movedP A (-dx) (-dy) dx dy) [] RG.firstB)) (x + dx) (y + dy)) (cov [] (x + dx) (y + dy)) = false := h2.symm.trans rfl
        unfold RG.firstB at h3 h1
        rw [show x + dx - dx = x by omega, show y + dy - dy = y by omega] at h1
        rw [← h1]; exact h3
      have e3 : sweepP A [] RG.firstB = [] := RG.empty_of rfl fun x y => hc x y
      rw [RG.two_val hA rfl, e3]
      unfold RG.shiftP
      rw [if_pos g.right, if_pos c2]
      rfl
    · unfold RG.shiftP
      rw [if_pos g.right, if_neg c2, if_pos (by omega)]
      rw [← RG.told_two hA rfl]
      refine congrArg toldP (RG.sweep_eq rfl rfl fun x y => ?_)
      show cov (movedP (flat (sweepP (movedP A (-dx) (-dy) dx dy) [] RG.firstB)) (- -dx) (- -dy) (-dx) (-dy)) x y = cov A x y
      rw [RG.cov_shift, g.cov]
      show cov A (x - -dx - dx) (y - -dy - dy) = cov A x y
      rw [show x - -dx - dx = x by omega, show y - -dy - dy = y by omega]
theorem told_le (l : List RG.Bd) : (toldP l).1.length ≤ 4096 := by
  unfold RG.toldP
  split
  · split
    · simp
    · simp only []; omega
  · simp
set_option maxHeartbeats 1000000 in
theorem grows_j1 {a b : List S58} (ha : fewB a = true) (hb : fewB b = true) (ba : RG.boxed 1000 (a.map rc)) (bb : RG.boxed 1000 (b.map rc)) (l t r d dx dy : Int) (hl : 0 ≤ l ∧ l ≤ 100) (ht : 0 ≤ t ∧ t ≤ 100) (hr : 0 ≤ r ∧ r ≤ 100) (hd : 0 ≤ d ∧ d ≤ 100) (hx : -100 ≤ dx ∧ dx ≤ 100) (hy : -100 ≤ dy ∧ dy ≤ 100) :
    Ev (fun k => Ah.j1 k a b l t r d dx dy false) true := by
  have ga := good_few ha
  have gb := good_few hb
  have na : (a.map rc).length ≤ 30 := by rw [List.length_map]; exact (few_of ha).1
  have nb : (b.map rc).length ≤ 30 := by rw [List.length_map]; exact (few_of hb).1
  generalize hA : a.map rc = A at ga ba na
  generalize hB : b.map rc = B at gb bb nb
  obtain ⟨ra, la⟩ := RG.moved_right ba na l t r d (by omega) (by omega) (by omega) (by omega)
  obtain ⟨rb, lb⟩ := RG.moved_right bb nb l t r d (by omega) (by omega) (by omega) (by omega)
  have gA : Good (movedP A l t r d) (cov (movedP A l t r d)) := ⟨ra, fun _ _ => rfl⟩
  have gB : Good (movedP B l t r d) (cov (movedP B l t r d)) := ⟨rb, fun _ _ => rfl⟩
  obtain ⟨qA, g1⟩ := good_two (keep := RG.firstB) rfl gA g0 (by have := RG.few_ok (movedP A l t r d) [] RG.firstB rfl (by simp only [List.length_nil]; omega); omega)
  obtain ⟨qB, g2⟩ := good_two (keep := RG.firstB) rfl gB g0 (by have := RG.few_ok (movedP B l t r d) [] RG.firstB rfl (by simp only [List.length_nil]; omega); omega)
  obtain ⟨qU, g3⟩ := good_two (keep := RG.eitherB) rfl ga gb (by have := RG.few_ok A B RG.eitherB rfl (by omega); omega)
  obtain ⟨qV, g4⟩ := good_two (keep := RG.eitherB) rfl gA gB (by have := RG.few_ok (movedP A l t r d) (movedP B l t r d) RG.eitherB rfl (by omega); omega)
  have o1 : growP A l t r d = twoP (movedP A l t r d) [] RG.firstB := by rw [RG.grow_good ga.right l t r d (by omega) (by omega) (by omega) (by omega), RG.told_two ra rfl]
  have o2 : growP B l t r d = twoP (movedP B l t r d) [] RG.firstB := by rw [RG.grow_good gb.right l t r d (by omega) (by omega) (by omega) (by omega), RG.told_two rb rfl]
  have z0 : growP A 0 0 0 0 = twoP A [] RG.firstB := by
    rw [RG.grow_good ga.right 0 0 0 0 (by omega) (by omega) (by omega) (by omega), ← RG.told_two ga.right rfl]
    refine congrArg toldP (RG.sweep_eq rfl rfl fun x y => ?_)
    have h := RG.cov_shift A 0 0 x y
    rw [Int.neg_zero, Int.sub_zero, Int.sub_zero] at h
    exact h
  have tw : growP (flat (sweepP (movedP A l t r d) [] RG.firstB)) d r t l = growP A (l + d) (t + r) (r + t) (d + l) := by
    rw [RG.grow_good g1.right d r t l (by omega) (by omega) (by omega) (by omega), RG.grow_good ga.right (l + d) (t + r) (r + t) (d + l) (by omega) (by omega) (by omega) (by omega)]
    refine congrArg toldP (RG.sweep_eq rfl rfl fun x y => ?_)
    exact RG.dil_dil (c := cov A) (c1 := cov (flat (sweepP (movedP A l t r d) [] RG.firstB))) (by omega) (by omega) (by omega) (by omega) (by omega) (by omega) (by omega) (by omega)
      (fun x y => by rw [g1.cov]; exact RG.cov_dil A l t r d (by omega) (by omega) (by omega) (by omega) x y)
      (fun x y => RG.cov_dil _ d r t l (by omega) (by omega) (by omega) (by omega) x y)
      (fun x y => RG.cov_dil A (l + d) (t + r) (r + t) (d + l) (by omega) (by omega) (by omega) (by omega) x y) x y
  have gu : growP (flat (sweepP A B RG.eitherB)) l t r d = twoP (movedP A l t r d) (movedP B l t r d) RG.eitherB := by
    rw [RG.grow_good g3.right l t r d (by omega) (by omega) (by omega) (by omega), ← RG.told_two ra rb]
    refine congrArg toldP (RG.sweep_eq rfl rfl fun x y => ?_)
    show cov (movedP (flat (sweepP A B RG.eitherB)) l t r d) x y = (cov (movedP A l t r d) x y || cov (movedP B l t r d) x y)
    rw [Bool.eq_iff_iff, Bool.or_eq_true, RG.cov_dil _ l t r d (by omega) (by omega) (by omega) (by omega), RG.cov_dil A l t r d (by omega) (by omega) (by omega) (by omega), RG.cov_dil B l t r d (by omega) (by omega) (by omega) (by omega)]
    unfold RG.dil
    constructor
    · rintro ⟨u, v, h, h2⟩
      rw [g3.cov] at h
      rcases Bool.or_eq_true _ _ ▸ h with h | h
      · exact .inl ⟨u, v, h, h2⟩
      · exact .inr ⟨u, v, h, h2⟩
    · rintro (⟨u, v, h, h2⟩ | ⟨u, v, h, h2⟩)
      · exact ⟨u, v, by rw [g3.cov]; unfold RG.eitherB; rw [h, Bool.true_or], h2⟩
      · exact ⟨u, v, by rw [g3.cov]; unfold RG.eitherB; rw [h, Bool.or_true], h2⟩
  have bk := back_form ga.right na ba dx dy hx hy
  have w1 : wrap64 (l + d) = l + d := by unfold wrap64; omega
  have w2 : wrap64 (t + r) = t + r := by unfold wrap64; omega
  have w3 : wrap64 (r + t) = r + t := by unfold wrap64; omega
  have w4 : wrap64 (d + l) = d + l := by unfold wrap64; omega
  have w5 : wrap64 (-dx) = -dx := by unfold wrap64; omega
  have w6 : wrap64 (-dy) = -dy := by unfold wrap64; omega
  refine Ev.step (fun k => by rw [Ah.j1, if_neg (by decide), w1, w2, w3, w4, w5, w6]) ?_
  have v1 := of_val a
  have v2 := grow_val a 0 0 0 0
  have v3 := grow_val a l t r d
  have v5 := grow_val a (l + d) (t + r) (r + t) (d + l)
  have v6 := union_val a b
  have v8 := grow_val b l t r d
  have v10 := shift_val a dx dy
  rw [hA] at v1 v2 v3 v5 v6 v10
  rw [hB] at v6 v8
  have v4 : Ev (fun k => Av.f k (outP (growP A l t r d)).1 d r t l) (outP (growP A (l + d) (t + r) (r + t) (d + l))) := by
    rw [← tw, o1, qA]; exact grow_of _ d r t l
  have v7 : Ev (fun k => Av.f k (outP (twoP A B RG.eitherB)).1 l t r d) (outP (twoP (movedP A l t r d) (movedP B l t r d) RG.eitherB)) := by
    rw [← gu, qU]; exact grow_of _ l t r d
  have v9 : Ev (fun k => B2.f k (outP (growP A l t r d)).1 (outP (growP B l t r d)).1) (outP (twoP (movedP A l t r d) (movedP B l t r d) RG.eitherB)) := by
    rw [← two_same g1 g2 gA gB (keep := RG.eitherB) rfl rfl (fun x y => rfl), o1, o2, qA, qB]; exact union_of _ _
  have v11 : Ev (fun k => Az.f k (outP (shiftP A dx dy)).1 (-dx) (-dy)) (outP (twoP A [] RG.firstB)) := by
    rw [← bk]; exact shift_of _ _ _
  refine Ev.bind v1 (Ev.bind v2 (Ev.bind v3 (Ev.bind v4 (Ev.bind v5 (Ev.bind v6 (Ev.bind v7 (Ev.bind v8 (Ev.bind v9 (Ev.bind v10 (Ev.bind v11 ?_))))))))))
  refine Ev.congr (fun k => by rw [num_val, Option.bind_some, qV, if_pos (by rfl)]) ?_
  refine Ev.bind (eqP _ _ z0 (by rw [z0]; exact RG.two_len _ _ _)) (Ev.congr (fun k => by rw [if_pos rfl]) ?_)
  refine Ev.bind (eqP _ _ rfl (by rw [← tw, RG.grow_good g1.right d r t l (by omega) (by omega) (by omega) (by omega)]; exact told_le _)) (Ev.congr (fun k => by rw [if_pos rfl]) ?_)
  refine Ev.bind (eqR_true _ _ (by show (List.map cr _).length ≤ _; rw [List.length_map]; have := RG.few_ok (movedP A l t r d) (movedP B l t r d) RG.eitherB rfl (by omega); simp only []; omega) rfl) (Ev.congr (fun k => by rw [if_pos rfl]) ?_)
  exact Ev.bind (eqP _ _ rfl (RG.two_len _ _ _)) (Ev.now _)
theorem box_few {a b : List S58} (ha : fewB a = true) (hb : fewB b = true) (h1 : -1000 ≤ (bndP ((a ++ b).map rc)).1) (h2 : -1000 ≤ (bndP ((a ++ b).map rc)).2.1) (h3 : (bndP ((a ++ b).map rc)).2.2.1 ≤ 1000) (h4 : (bndP ((a ++ b).map rc)).2.2.2.1 ≤ 1000) :
    RG.boxed 1000 (a.map rc) ∧ RG.boxed 1000 (b.map rc) := by
  obtain ⟨a1, a2⟩ := few_of ha
  obtain ⟨b1, b2⟩ := few_of hb
  have hr : rightP ((a ++ b).map rc) = 0 := RG.right_of (by rw [List.length_map, List.length_append]; omega) (fun r h hs => by
    rw [List.map_append, List.mem_append] at h
    exact h.elim (fun h => (RG.right_le a2).2 r h hs) (fun h => (RG.right_le b2).2 r h hs))
  have e : bndP ((a ++ b).map rc) = ((a ++ b).map rc).foldl RG.boxS (0, 0, 0, 0, false) := by unfold bndP; rw [if_pos hr]
  rw [e] at h1 h2 h3 h4
  have h := (RG.box_in ((a ++ b).map rc) (0, 0, 0, 0, false)).2
  constructor
  · intro q hq hs
    have := h q (by rw [List.map_append, List.mem_append]; exact .inl hq) hs
    omega
  · intro q hq hs
    have := h q (by rw [List.map_append, List.mem_append]; exact .inr hq) hs
    omega
theorem grows_rest (a b : List S58) (hz : a.length + b.length < 4398046511104) (l t r d dx dy : Int) (hl : 0 ≤ l ∧ l ≤ 100) (ht : 0 ≤ t ∧ t ≤ 100) (hr : 0 ≤ r ∧ r ≤ 100) (hd : 0 ≤ d ∧ d ≤ 100) :
    Ev (fun k => Ah.l0 k a b l t r d dx dy [l, t, r, d] 4) true := by
  have out : Ev (fun k => Ah.j1 k a b l t r d dx dy true) true := Ev.step (fun k => by rw [Ah.j1, if_pos rfl]) (Ev.now _)
  refine Ev.step (fun k => by
    rw [Ah.l0, if_neg (by omega), if_pos (by simp only [List.length_nil]; omega), Option.bind_some, if_pos (by simp only [List.nil_append]; omega)]) ?_
  refine Ev.bind (bnd_val ([] ++ a ++ b)) (Ev.bind (few_val [a, b] (by simp)) ?_)
  rw [List.nil_append]
  by_cases hf : [a, b].all fewB = true
  · rw [hf]
    simp only [List.all_cons, List.all_nil, Bool.and_true, Bool.and_eq_true] at hf
    obtain ⟨ha, hb⟩ := hf
    refine Ev.congr (fun k => by rw [if_pos rfl]) ?_
    by_cases c1 : (bndP ((a ++ b).map rc)).1 < -1000
    · exact Ev.congr (fun k => by rw [if_pos c1]) out
    refine Ev.congr (fun k => by rw [if_neg c1]) ?_
    by_cases c2 : (bndP ((a ++ b).map rc)).2.1 < -1000
    · exact Ev.congr (fun k => by rw [if_pos c2]) out
    refine Ev.congr (fun k => by rw [if_neg c2]) ?_
    by_cases c3 : (bndP ((a ++ b).map rc)).2.2.1 > 1000
    · exact Ev.congr (fun k => by rw [if_pos c3]) out
    refine Ev.congr (fun k => by rw [if_neg c3]) ?_
    by_cases c4 : (bndP ((a ++ b).map rc)).2.2.2.1 > 1000
    · exact Ev.congr (fun k => by rw [if_pos c4]) out
    refine Ev.congr (fun k => by rw [if_neg c4]) ?_
    by_cases c5 : dx < -100
    · exact Ev.congr (fun k => by rw [if_pos c5]) out
    refine Ev.congr (fun k => by rw [if_neg c5]) ?_
    by_cases c6 : dx > 100
    · exact Ev.congr (fun k => by rw [if_pos c6]) out
    refine Ev.congr (fun k => by rw [if_neg c6]) ?_
    by_cases c7 : dy < -100
    · exact Ev.congr (fun k => by rw [if_pos c7]) out
    refine Ev.congr (fun k => by rw [if_neg c7]) ?_
    by_cases c8 : dy > 100
    · rw [decide_eq_true c8]; exact out
    · rw [decide_eq_false c8]
      obtain ⟨ba, bb⟩ := box_few ha hb (by omega) (by omega) (by omega) (by omega)
      exact grows_j1 ha hb ba bb l t r d dx dy hl ht hr hd (by omega) (by omega)
  · rw [Bool.eq_false_iff.mpr hf]
    exact Ev.congr (fun k => by rw [if_neg (by simp)]) out
theorem grows_law (a b : List S58) (l t r d dx dy : Int) (hz : a.length + b.length < 4398046511104) : Ev (fun k => Ah.f k a b l t r d dx dy) true := by
  unfold Ah.f
  refine Ev.bind known_true ?_
  refine Ev.congr (fun k => by rw [if_pos rfl]) ?_
  have look : ∀ i (z : Int) (R : Prop), i < 4 → rd [l, t, r, d] i = z → 0 ≤ i → (0 ≤ z ∧ z ≤ 100 → Ev (fun k => Ah.l0 k a b l t r d dx dy [l, t, r, d] (i + 1)) true) → Ev (fun k => Ah.l0 k a b l t r d dx dy [l, t, r, d] i) true := by
    intro i z _ hi hz h0 h
    have hw : wrap64 (i + 1) = i + 1 := by unfold wrap64; omega
    by_cases c1 : z < 0
    · exact one_round fun k => by rw [Ah.l0, if_pos hi, if_pos h0, if_pos (by simp only [List.length_cons, List.length_nil]; omega), hz, if_pos c1]
    by_cases c2 : z > 100
    · exact one_round fun k => by rw [Ah.l0, if_pos hi, if_pos h0, if_pos (by simp only [List.length_cons, List.length_nil]; omega), hz, if_neg c1, if_pos c2]
    refine Ev.step (fun k => ?_) (h ⟨by omega, by omega⟩)
    rw [Ah.l0, if_pos hi, if_pos h0, if_pos (by simp only [List.length_cons, List.length_nil]; omega), hz, if_neg c1, if_neg c2, hw]
  refine look 0 l True (by omega) rfl (by omega) fun hl => ?_
  refine look 1 t True (by omega) rfl (by omega) fun ht => ?_
  refine look 2 r True (by omega) rfl (by omega) fun hr => ?_
  refine look 3 d True (by omega) rfl (by omega) fun hd => ?_
  exact grows_rest a b hz l t r d dx dy hl ht hr hd
theorem grows_ok (a b : List S58) (l t r d dx dy : Int) (hz : a.length + b.length < 4398046511104) : ∃ k, Ah.f k a b l t r d dx dy = some true := by
  obtain ⟨k, hk⟩ := grows_law a b l t r d dx dy hz
  exact ⟨k, hk k (Nat.le_refl _)⟩
end VR
end Go.Proofs.Ytobdfiglgdbecaa

