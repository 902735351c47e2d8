-- Written by a program of this session (hprint.py: the kit's printer, with this session's contracts beside it). Lean checks it.
import Derived.Test.YthpmkelcjlljmaaPRNx0
import Derived.Test.YthpmkelcjlljmaaPRKx1
namespace Go.Proofs.Ythpmkelcjlljmaa.PRN
open Go.Proofs.Ythpmkelcjlljmaa.PRA Go.Proofs.Ythpmkelcjlljmaa.PRB Go.Proofs.Ythpmkelcjlljmaa.PRK
open Go.RowKit Go.Proofs.YthpmkelcjlljmaaW.PrintWords Go.Proofs.YthpmkelcjlljmaaW.PrintLast Go.Proofs.YthpmkelcjlljmaaW.PrintMore
attribute [local go_sem] max2_int min2_int max_two min_two max_three min_three max_four min_four   -- for this text's walks alone
set_option linter.unusedVariables false
set_option linter.unusedSimpArgs false

/-! ### halidelaw12_RankNames: function 3 -/
def halidelaw12_RankNames.f (k : Nat)  : Option (Bool) := (halidelaw12_known.f k).bind fun t101 => (some t101)
theorem halidelaw12_RankNames.mono : ∀ k, LeO (halidelaw12_RankNames.f k ) (halidelaw12_RankNames.f (k + 1) ) := by
  intro  k
  unfold halidelaw12_RankNames.f
  repeat' first
      | (with_reducible exact halidelaw12_known.mono _)
      | (with_reducible exact LeO.refl _)
      | (with_reducible exact LeO.none _)
      | (with_reducible refine LeO.ite ?_ ?_)
      | (with_reducible refine LeO.bind ?_ (fun _ => ?_))
      | exact halidelaw12_known.mono _
      | exact LeO.none _
      | refine LeO.ite ?_ ?_
      | refine LeO.bind ?_ (fun _ => ?_)
set_option maxHeartbeats 8000000 in
set_option maxRecDepth 100000 in
theorem halidelaw12_RankNames.calls (k : Nat)  (r : Bool) (w : World) (h : halidelaw12_RankNames.f k  = some r) (HT0 : r = true := by decide) :
    Calls Try.prog 3 #[] w fun e w' => e = .returned (.bool r) ∧ Below w.heap.size w w' := by
  have HT := Aside0.mk HT0
  clear HT0
  have HB := Aside0.mk (Below.refl w.heap.size w)
  have H : ((halidelaw12_known.f k).bind fun t101 => (some t101)) = some r := h
  clear h
  replace H := Option.bind_eq_some_iff.mp H
  obtain ⟨t101, A10, H⟩ := H
  replace H : (some t101) = some r := H
  have A1 := Aside0.mk A10
  clear A10
  obtain rfl := Option.some.inj H
  go_enter Try.func3, Try.ntmps3
  go_wp2_with (first | (go_at_call 10; (with_reducible refine (halidelaw12_known.calls k  t101 _ A1.out HT.out).mono ?_); rintro e w2 ⟨rfl, hb⟩; have n0_ := Aside0.mk (below_step (by repeat (first | (with_reducible first | exact HB.out | apply below_alloc | apply pw_below_drewN | apply below_drew1) | exact HB.out)) hb); clear HB; have HB := n0_; clear n0_; (try clear hb); (try clear hb2); (try clear hk); (try clear hi)))
  go_ret
  exact ⟨by first | rfl | (simp [errW_none, errW_some] <;> rfl) | (simp [*, errW_none, errW_some] <;> rfl), by repeat (first | (with_reducible first | exact HB.out | apply below_alloc | apply pw_below_drewN | apply below_drew1) | exact HB.out)⟩

end Go.Proofs.Ythpmkelcjlljmaa.PRN
