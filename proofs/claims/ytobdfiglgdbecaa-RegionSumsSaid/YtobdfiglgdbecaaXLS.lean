import Derived.Test.YtobdfiglgdbecaaXV6
import Derived.Test.YtobdfiglgdbecaaXPGSx1
set_option linter.unusedVariables false
set_option linter.unusedSimpArgs false
open Go Go.RowKit Go.Proofs.YtobdfiglgdbecaaW.PrintWords Go.Proofs.YtobdfiglgdbecaaW.PrintMore
namespace Go.Proofs.Ytobdfiglgdbecaa
open PGA PGB PGH PGK PGS
namespace VR
open RG (cov rightP twoP flat sweepP)
theorem sums_j0 {a b : List S58} (ha : fewB a = true) (hb : fewB b = true) {FU FM : List RG.Rc} (hU : Good FU (fun x y => RG.eitherB (cov (a.map rc) x y) (cov (b.map rc) x y))) (hM : Good FM (fun x y => RG.alsoB (cov (a.map rc) x y) (cov (b.map rc) x y))) :
    Ev (fun k => Ac.j0 k a b (FU.map cr) (FM.map cr) ((flat (sweepP (a.map rc) [] RG.firstB)).map cr) false) true := by
  have ga := good_few ha
  have gb := good_few hb
  refine Ev.step (fun k => by rw [Ac.j0, if_neg (by simp)]) ?_
  refine Ev.bind (count_of FU) (Ev.bind (count_of FM) (Ev.bind (count_val a) (Ev.bind (count_val b) ?_)))
  have w1 := within_of FM (a.map rc)
  have w2 := within_of FU (a.map rc)
  rw [map_cr_rc] at w1 w2
  refine Ev.bind w1 (Ev.bind w2 (Ev.bind (within_val b a) ?_))
  rw [RG.count_good hU.right, RG.count_good hM.right, RG.count_good ga.right, RG.count_good gb.right, RG.none_good hM.right ga.right, RG.none_good hU.right ga.right, RG.none_good gb.right ga.right]
  have e1 : RG.cnt (cov FU) (-8192) 16384 + RG.cnt (cov FM) (-8192) 16384 = RG.cnt (cov (a.map rc)) (-8192) 16384 + RG.cnt (cov (b.map rc)) (-8192) 16384 := by
    rw [show cov FU = (fun x y => cov (a.map rc) x y || cov (b.map rc) x y) from funext fun x => funext fun y => hU.cov x y]
    rw [show cov FM = (fun x y => cov (a.map rc) x y && cov (b.map rc) x y) from funext fun x => funext fun y => hM.cov x y]
    exact RG.cnt_two (cov (a.map rc)) (cov (b.map rc)) (-8192) 16384
  have e1' : ((RG.cnt (cov FU) (-8192) 16384 : Nat) : Int) + (RG.cnt (cov FM) (-8192) 16384 : Nat) = (RG.cnt (cov (a.map rc)) (-8192) 16384 : Nat) + (RG.cnt (cov (b.map rc)) (-8192) 16384 : Nat) := by rw [← Int.natCast_add, ← Int.natCast_add, e1]
  have e2 : sweepP FM (a.map rc) RG.withoutB = [] := RG.empty_of rfl fun x y => by
    rw [hM.cov]
    unfold RG.withoutB RG.alsoB
    cases cov (a.map rc) x y <;> cases cov (b.map rc) x y <;> rfl
  have e3 : sweepP FU (a.map rc) RG.withoutB = sweepP (b.map rc) (a.map rc) RG.withoutB := RG.sweep_eq rfl rfl fun x y => by
    rw [hU.cov]
    unfold RG.withoutB RG.eitherB
    cases cov (a.map rc) x y <;> cases cov (b.map rc) x y <;> rfl
  have e4 := RG.len_cnt ga.right
  refine Ev.congr (fun k => by
    rw [if_pos (congrArg wrap64 e1'), if_pos (by rw [e2]; rfl), if_pos (by rw [e3]; simp)]) ?_
  have e5 : decide ((((RG.cnt (cov (a.map rc)) (-8192) 16384 : Int), (0 : Int)).1 : Int) ≥ ((((flat (sweepP (a.map rc) [] RG.firstB)).map cr).length : Nat) : Int)) = true := by
    rw [List.length_map]
    exact decide_eq_true (Int.ofNat_le.mpr e4)
  rw [e5]
  exact Ev.now _
theorem sums_law (a b c : List S58) : Ev (fun k => Ac.f k a b c) true := by
  unfold Ac.f
  refine Ev.bind known_true ?_
  refine Ev.congr (fun k => by rw [if_pos rfl]) ?_
  refine Ev.bind (few_val [a, b, c] (by simp)) ?_
  by_cases hf : [a, b, c].all fewB = true
  · rw [hf]
    simp only [List.all_cons, List.all_nil, Bool.and_true, Bool.and_eq_true] at hf
    obtain ⟨ha, hb, hc⟩ := hf
    have ga := good_few ha
    have gb := good_few hb
    have gc := good_few hc
    refine Ev.congr (fun k => by rw [if_pos rfl]) ?_
    have two {x y : List S58} {keep : Bool → Bool → Bool} (hk : keep false false = false) (hx : fewB x = true) (hy : fewB y = true) := good_two hk (good_few hx) (good_few hy) (by have := (two_few hk hx hy).2; omega)
    have twoO {x : List S58} (hx : fewB x = true) := good_two (keep := RG.firstB) rfl (good_few hx) (show Good [] (fun _ _ => false) from ⟨rfl, fun _ _ => rfl⟩) (by have := (of_few hx).2; omega)
    have uab := union_val a b; have uba := union_val b a; have mab := meet_val a b; have mba := meet_val b a
    obtain ⟨q1, g1⟩ := two (keep := RG.eitherB) rfl ha hb
    obtain ⟨q2, g2⟩ := two (keep := RG.eitherB) rfl hb ha
    obtain ⟨q3, g3⟩ := two (keep := RG.alsoB) rfl ha hb
    obtain ⟨q4, g4⟩ := two (keep := RG.alsoB) rfl hb ha
    obtain ⟨q5, g5⟩ := two (keep := RG.eitherB) rfl hb hc
    obtain ⟨q6, g6⟩ := two (keep := RG.alsoB) rfl hb hc
    obtain ⟨q7, g7⟩ := two (keep := RG.withoutB) rfl ha hb
    obtain ⟨q8, g8⟩ := twoO ha
    refine Ev.bind uab (Ev.bind uba (Ev.bind mab (Ev.bind mba ?_)))
    have ubc := union_val b c; have mbc := meet_val b c; have lab := less_val a b; have oa := of_val a
    have n5 : Ev (fun k => As.f k (outP (twoP (a.map rc) (b.map rc) RG.eitherB)).1 c) (outP (twoP (flat (sweepP (a.map rc) (b.map rc) RG.eitherB)) (c.map rc) RG.eitherB)) := by
      have h := union_of (flat (sweepP (a.map rc) (b.map rc) RG.eitherB)) (c.map rc); rw [map_cr_rc] at h; rw [q1]; exact h
    have n6 : Ev (fun k => As.f k a (outP (twoP (b.map rc) (c.map rc) RG.eitherB)).1) (outP (twoP (a.map rc) (flat (sweepP (b.map rc) (c.map rc) RG.eitherB)) RG.eitherB)) := by
      have h := union_of (a.map rc) (flat (sweepP (b.map rc) (c.map rc) RG.eitherB)); rw [map_cr_rc] at h; rw [q5]; exact h
    have n7 : Ev (fun k => Aq.f k (outP (twoP (a.map rc) (b.map rc) RG.alsoB)).1 c) (outP (twoP (flat (sweepP (a.map rc) (b.map rc) RG.alsoB)) (c.map rc) RG.alsoB)) := by
      have h := meet_of (flat (sweepP (a.map rc) (b.map rc) RG.alsoB)) (c.map rc); rw [map_cr_rc] at h; rw [q3]; exact h
    have n8 : Ev (fun k => Aq.f k a (outP (twoP (b.map rc) (c.map rc) RG.alsoB)).1) (outP (twoP (a.map rc) (flat (sweepP (b.map rc) (c.map rc) RG.alsoB)) RG.alsoB)) := by
      have h := meet_of (a.map rc) (flat (sweepP (b.map rc) (c.map rc) RG.alsoB)); rw [map_cr_rc] at h; rw [q6]; exact h
    have n9 : Ev (fun k => As.f k (outP (twoP (a.map rc) (b.map rc) RG.withoutB)).1 (outP (twoP (a.map rc) (b.map rc) RG.alsoB)).1) (outP (twoP (flat (sweepP (a.map rc) (b.map rc) RG.withoutB)) (flat (sweepP (a.map rc) (b.map rc) RG.alsoB)) RG.eitherB)) := by
      rw [q7, q3]; exact union_of _ _
    have n10 : Ev (fun k => Aq.f k (outP (twoP (a.map rc) (b.map rc) RG.withoutB)).1 (outP (twoP (a.map rc) (b.map rc) RG.alsoB)).1) (outP (twoP (flat (sweepP (a.map rc) (b.map rc) RG.withoutB)) (flat (sweepP (a.map rc) (b.map rc) RG.alsoB)) RG.alsoB)) := by
      rw [q7, q3]; exact meet_of _ _
    refine Ev.bind n5 (Ev.bind ubc (Ev.bind n6 (Ev.bind n7 (Ev.bind mbc (Ev.bind n8 (Ev.bind lab (Ev.bind n9 (Ev.bind oa (Ev.bind n10 ?_)))))))))
    refine Ev.bind (eqP _ _ (two_same ga gb gb ga rfl rfl fun x y => Bool.or_comm _ _) (RG.two_len _ _ _)) ?_
    refine Ev.congr (fun k => by rw [if_pos rfl]) ?_
    refine Ev.bind (eqP _ _ (two_same ga gb gb ga rfl rfl fun x y => Bool.and_comm _ _) (RG.two_len _ _ _)) ?_
    refine Ev.congr (fun k => by rw [if_pos rfl]) ?_
    refine Ev.bind (eqP _ _ (two_same g1 gc ga g5 rfl rfl fun x y => Bool.or_assoc _ _ _) (RG.two_len _ _ _)) ?_
    refine Ev.congr (fun k => by rw [if_pos rfl]) ?_
    refine Ev.bind (eqP _ _ (two_same g3 gc ga g6 rfl rfl fun x y => Bool.and_assoc _ _ _) (RG.two_len _ _ _)) ?_
    refine Ev.congr (fun k => by rw [if_pos rfl]) ?_
    refine Ev.bind (eqP _ _ (two_same g7 g3 ga (show Good [] (fun _ _ => false) from ⟨rfl, fun _ _ => rfl⟩) rfl rfl fun x y => by
      unfold RG.eitherB RG.withoutB RG.alsoB RG.firstB
      cases cov (a.map rc) x y <;> cases cov (b.map rc) x y <;> rfl) (RG.two_len _ _ _)) ?_
    refine Ev.congr (fun k => by rw [if_pos rfl]) ?_
    have e10 : twoP (flat (sweepP (a.map rc) (b.map rc) RG.withoutB)) (flat (sweepP (a.map rc) (b.map rc) RG.alsoB)) RG.alsoB = ([], 0) := by
      have e : sweepP (flat (sweepP (a.map rc) (b.map rc) RG.withoutB)) (flat (sweepP (a.map rc) (b.map rc) RG.alsoB)) RG.alsoB = [] := RG.empty_of rfl fun x y => by
        rw [g7.cov, g3.cov]
        unfold RG.withoutB RG.alsoB
        cases cov (a.map rc) x y <;> cases cov (b.map rc) x y <;> rfl
      rw [RG.two_val g7.right g3.right, e]
      rfl
    rw [e10, q1, q3, q8]
    exact sums_j0 ha hb g1 g3
  · rw [Bool.eq_false_iff.mpr hf]
    exact Ev.congr (fun k => by rw [if_neg (by simp)]) (Ev.now _)
theorem sums_ok (a b c : List S58) : ∃ k, Ac.f k a b c = some true := by
  obtain ⟨k, hk⟩ := sums_law a b c
  exact ⟨k, hk k (Nat.le_refl _)⟩
end VR
end Go.Proofs.Ytobdfiglgdbecaa

