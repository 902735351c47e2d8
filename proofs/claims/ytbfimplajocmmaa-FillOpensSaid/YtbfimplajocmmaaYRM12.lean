import Derived.Test.YtbfimplajocmmaaYPRBx1
import Derived.Test.YtbfimplajocmmaaYRM10
section
open Go Go.RowKit Go.Proofs.YtbfimplajocmmaaW.PrintWords Go.Proofs.YtbfimplajocmmaaW.PrintLast Go.Proofs.YtbfimplajocmmaaW.PrintMore
attribute [local go_sem ↓] Go.wp_at_zero Go.wp_at_succ
set_option linter.unusedVariables false
set_option linter.unusedSimpArgs false
namespace Go.Proofs.Ytbfimplajocmmaa
open PFA PRA PRB
def kOf (kf : Int → Int) (w h : Int) : Int := if 1 ≤ w ∧ 1 ≤ h ∧ w ≤ 15 ∧ h ≤ 15 then kf (wrap64 (w * h)) else 0
theorem window_cases (a b : Int) (h : ¬(1 ≤ a ∧ 1 ≤ b ∧ a ≤ 15 ∧ b ≤ 15)) : decide (1 ≤ a) = false ∨ (decide (1 ≤ a) = true ∧ decide (1 ≤ b) = false) ∨ (decide (1 ≤ a) = true ∧ decide (1 ≤ b) = true ∧ decide (a ≤ 15) = false) ∨ (decide (1 ≤ a) = true ∧ decide (1 ≤ b) = true ∧ decide (a ≤ 15) = true ∧ decide (b ≤ 15) = false) := by
  simp only [decide_eq_true_iff, decide_eq_false_iff_not]
  omega
theorem rback {w W : World} (h : Below w.heap.size w W) (y0 y1 y2 : Value) : Below w.heap.size w (((W.setCell ⟨w.heap.size + 1, 0, none⟩ y0).setCell ⟨w.heap.size + 1, 1, none⟩ y1).setCell ⟨w.heap.size + 1, 2, none⟩ y2) :=
  ((h.setCell (show w.heap.size ≤ w.heap.size + 1 by omega) _).setCell (show w.heap.size ≤ w.heap.size + 1 by omega) _).setCell (show w.heap.size ≤ w.heap.size + 1 by omega) _
set_option maxRecDepth 100000 in
set_option maxHeartbeats 4000000 in
theorem hk35 (n : Int) (w : World) : Calls Try.prog 85 #[.int .i64 n] w fun e w' => e = .returned (.int .i64 (0)) ∧ ∃ q, w' = w.drewN q := by
  go_enter Try.func85, Try.ntmps85
  go_wp2
  go_ret
  exact ⟨rfl, 0, rfl⟩
def Cu.f (k : Nat) (a0_0 : Int) (a0_1 : Int) (l0_2 : List Int) (a1 : Int) (a2 : Int) (a3 : Int) : Option (Int × Int × List Int × Int) := Cw.f k a0_0 a0_1 l0_2 a1 a2 a3 (kOf (fun _ => 0) a2 a3)
set_option maxHeartbeats 8000000 in
set_option maxRecDepth 100000 in
theorem rankedErode (k : Nat) (a0_0 : Int) (a0_1 : Int) (A0_2 : Option Addr) (c0_2 : Nat) (l0_2 : List Int) (a1 : Int) (a2 : Int) (a3 : Int) (r1 : Int) (r2 : Int) (r3 : List Int) (r4 : Int) (w : World) (hr0_2 : Kd.C (Kd.int .u32) w A0_2 l0_2.length l0_2) (hc0_2 : l0_2.length ≤ c0_2)
    (h : Cu.f k a0_0 a0_1 l0_2 a1 a2 a3 = some (r1, r2, r3, r4)) :
    Calls Try.prog 84 #[.agg #[.int .i64 a0_0, .int .i64 a0_1, .slice A0_2 l0_2.length c0_2], .int .i64 a1, .int .i64 a2, .int .i64 a3, .func (.func 85) #[] #[]] w fun e w' => ∃ v2_ : Value, e = .returned (.tuple #[.agg #[.int .i64 r1, .int .i64 r2, v2_], .int .i64 r4]) ∧ Kd.R (Kd.int .u32) 28 w' w.heap.size (fun _ => True) v2_ r3 ∧ Below w.heap.size w w' := by
  unfold Cu.f at h
  have HZR : Ac (((w.alloc (.cells #[.int .i64 a0_0, .int .i64 a0_1, .slice A0_2 l0_2.length c0_2] 24)).alloc (.cells #[.int .i64 0, .int .i64 0, .slice none 0 0] 24)).heap[w.heap.size + 1]? = some (.cells #[.int .i64 0, .int .i64 0, .slice none 0 0] 24 (0, 0))) := ⟨by
    have := heap_alloc_new (w.alloc (.cells #[.int .i64 a0_0, .int .i64 a0_1, .slice A0_2 l0_2.length c0_2] 24)) (.cells #[.int .i64 0, .int .i64 0, .slice none 0 0] 24)
    simpa using this⟩
  have HBW : Ac (Below w.heap.size w ((w.alloc (.cells #[.int .i64 a0_0, .int .i64 a0_1, .slice A0_2 l0_2.length c0_2] 24)).alloc (.cells #[.int .i64 0, .int .i64 0, .slice none 0 0] 24))) := ⟨Ah (Ah (Below.refl _ _) _) _⟩
  by_cases q : 1 ≤ a2 ∧ 1 ≤ a3 ∧ a2 ≤ 15 ∧ a3 ≤ 15
  · have d1 : decide (1 ≤ a2) = true := decide_eq_true q.1
    have d2 : decide (1 ≤ a3) = true := decide_eq_true q.2.1; have d3 : decide (a2 ≤ 15) = true := decide_eq_true q.2.2.1; have d4 : decide (a3 ≤ 15) = true := decide_eq_true q.2.2.2; unfold kOf at h; rw [if_pos q] at h; clear q; go_enter Try.func84, Try.ntmps84
    go_wp2_with fail
    refine (hk35 _ _).mono ?_; rintro e w1 ⟨rfl, ⟨nd, rfl⟩⟩
    go_wp2_with fail
    refine (Cw.calls k a0_0 a0_1 A0_2 c0_2 l0_2 a1 a2 a3 _ r1 r2 r3 r4 _ (Kd.B2 hr0_2 (below_drewN HBW.out _)) hc0_2 h).mono ?_; rintro e w2 ⟨v2, rfl, ho, hb⟩; have HZ2 := Ac.mk (An (Ap HZR.out _) hb); have HB2 := Ac.mk (Aq (below_drewN HBW.out _) hb); have HO := Ac.mk (Kd.B9 ho (show w.heap.size ≤ (((w.alloc (.cells #[.int .i64 a0_0, .int .i64 a0_1, .slice A0_2 l0_2.length c0_2] 24)).alloc (.cells #[.int .i64 0, .int .i64 0, .slice none 0 0] 24)).drewN nd).heap.size by simp; omega)); obtain ⟨A9, c9, e9⟩ := Kd.B0 ho; subst e9; have m0 : w2.cell? ⟨w.heap.size + 1, 0, none⟩ = some (.int .i64 0) := (Ad HZ2.out 0).trans rfl; have m1 : w2.cell? ⟨w.heap.size + 1, 1, none⟩ = some (.int .i64 0) := (Ad HZ2.out 1).trans rfl; have m2 : w2.cell? ⟨w.heap.size + 1, 2, none⟩ = some (.slice none 0 0) := (Ad HZ2.out 2).trans rfl; have f0 := Af HZ2.out 0; have f1 := Af HZ2.out 1; have f2 := Af HZ2.out 2; clear ho hb HZR HBW
    go_wp2
    refine bodyPost_ret (results_ct rfl _ _ (w.heap.size + 1) 24 #[.int .i64 r1, .int .i64 r2, .slice A9 r3.length c9] (0, 0) _ rfl (Ax (Ax (Ax HZ2.out 0 _ rfl) 1 _ rfl) 2 _ rfl) Try.underlying24 rfl (by kernel_rfl)) rfl ?_; exact ⟨_, rfl, Kd.Dh (Kd.Dh (Kd.Dh HO.out HZ2.out (by decide) 0 _) (Ax HZ2.out 0 _ rfl) (by decide) 1 _) (Ax (Ax HZ2.out 0 _ rfl) 1 _ rfl) (by decide) 2 _, rback HB2.out _ _ _⟩
  · unfold kOf at h
    rw [if_neg q] at h
    rcases window_cases a2 a3 q with d1 | ⟨d1, d2⟩ | ⟨d1, d2, d3⟩ | ⟨d1, d2, d3, d4⟩
    all_goals
      clear q; go_enter Try.func84, Try.ntmps84
      go_wp2_with fail
      refine (Cw.calls k a0_0 a0_1 A0_2 c0_2 l0_2 a1 a2 a3 _ r1 r2 r3 r4 _ (Kd.B2 hr0_2 HBW.out) hc0_2 h).mono ?_; rintro e w2 ⟨v2, rfl, ho, hb⟩; have HZ2 := Ac.mk (An HZR.out hb); have HB2 := Ac.mk (Aq HBW.out hb); have HO := Ac.mk (Kd.B9 ho (show w.heap.size ≤ ((w.alloc (.cells #[.int .i64 a0_0, .int .i64 a0_1, .slice A0_2 l0_2.length c0_2] 24)).alloc (.cells #[.int .i64 0, .int .i64 0, .slice none 0 0] 24)).heap.size by simp; omega)); obtain ⟨A9, c9, e9⟩ := Kd.B0 ho; subst e9; have m0 : w2.cell? ⟨w.heap.size + 1, 0, none⟩ = some (.int .i64 0) := (Ad HZ2.out 0).trans rfl; have m1 : w2.cell? ⟨w.heap.size + 1, 1, none⟩ = some (.int .i64 0) := (Ad HZ2.out 1).trans rfl; have m2 : w2.cell? ⟨w.heap.size + 1, 2, none⟩ = some (.slice none 0 0) := (Ad HZ2.out 2).trans rfl; have f0 := Af HZ2.out 0; have f1 := Af HZ2.out 1; have f2 := Af HZ2.out 2; clear ho hb HZR HBW
      go_wp2
      refine bodyPost_ret (results_ct rfl _ _ (w.heap.size + 1) 24 #[.int .i64 r1, .int .i64 r2, .slice A9 r3.length c9] (0, 0) _ rfl (Ax (Ax (Ax HZ2.out 0 _ rfl) 1 _ rfl) 2 _ rfl) Try.underlying24 rfl (by kernel_rfl)) rfl ?_; exact ⟨_, rfl, Kd.Dh (Kd.Dh (Kd.Dh HO.out HZ2.out (by decide) 0 _) (Ax HZ2.out 0 _ rfl) (by decide) 1 _) (Ax (Ax HZ2.out 0 _ rfl) 1 _ rfl) (by decide) 2 _, rback HB2.out _ _ _⟩
set_option maxHeartbeats 8000000 in
set_option maxRecDepth 100000 in
theorem Cu.calls (k : Nat) (a0_0 : Int) (a0_1 : Int) (A0_2 : Option Addr) (c0_2 : Nat) (l0_2 : List Int) (a1 : Int) (a2 : Int) (a3 : Int) (r1 : Int) (r2 : Int) (r3 : List Int) (r4 : Int) (w : World) (hr0_2 : Kd.C (Kd.int .u32) w A0_2 l0_2.length l0_2) (hc0_2 : l0_2.length ≤ c0_2)
    (h : Cu.f k a0_0 a0_1 l0_2 a1 a2 a3 = some (r1, r2, r3, r4)) :
    Calls Try.prog 60 #[.agg #[.int .i64 a0_0, .int .i64 a0_1, .slice A0_2 l0_2.length c0_2], .int .i64 a1, .int .i64 a2, .int .i64 a3] w fun e w' => ∃ v2_ : Value, e = .returned (.tuple #[.agg #[.int .i64 r1, .int .i64 r2, v2_], .int .i64 r4]) ∧ Kd.R (Kd.int .u32) 28 w' w.heap.size (fun _ => True) v2_ r3 ∧ Below w.heap.size w w' := by
  have HZR : Ac (((w.alloc (.cells #[.int .i64 a0_0, .int .i64 a0_1, .slice A0_2 l0_2.length c0_2] 24)).alloc (.cells #[.int .i64 0, .int .i64 0, .slice none 0 0] 24)).heap[w.heap.size + 1]? = some (.cells #[.int .i64 0, .int .i64 0, .slice none 0 0] 24 (0, 0))) := ⟨by
    have := heap_alloc_new (w.alloc (.cells #[.int .i64 a0_0, .int .i64 a0_1, .slice A0_2 l0_2.length c0_2] 24)) (.cells #[.int .i64 0, .int .i64 0, .slice none 0 0] 24)
    simpa using this⟩
  have HBW : Ac (Below w.heap.size w ((w.alloc (.cells #[.int .i64 a0_0, .int .i64 a0_1, .slice A0_2 l0_2.length c0_2] 24)).alloc (.cells #[.int .i64 0, .int .i64 0, .slice none 0 0] 24))) := ⟨Ah (Ah (Below.refl _ _) _) _⟩; go_enter Try.func60, Try.ntmps60
  go_wp2_with fail
  refine (rankedErode k a0_0 a0_1 A0_2 c0_2 l0_2 a1 a2 a3 r1 r2 r3 r4 _ (Kd.B2 hr0_2 HBW.out) hc0_2 h).mono ?_; rintro e w2 ⟨v2, rfl, ho, hb⟩; have HZ2 := Ac.mk (An HZR.out hb); have HB2 := Ac.mk (Aq HBW.out hb); have HO := Ac.mk (Kd.B9 ho (show w.heap.size ≤ ((w.alloc (.cells #[.int .i64 a0_0, .int .i64 a0_1, .slice A0_2 l0_2.length c0_2] 24)).alloc (.cells #[.int .i64 0, .int .i64 0, .slice none 0 0] 24)).heap.size by simp; omega)); obtain ⟨A9, c9, e9⟩ := Kd.B0 ho; subst e9; have m0 : w2.cell? ⟨w.heap.size + 1, 0, none⟩ = some (.int .i64 0) := (Ad HZ2.out 0).trans rfl; have m1 : w2.cell? ⟨w.heap.size + 1, 1, none⟩ = some (.int .i64 0) := (Ad HZ2.out 1).trans rfl; have m2 : w2.cell? ⟨w.heap.size + 1, 2, none⟩ = some (.slice none 0 0) := (Ad HZ2.out 2).trans rfl; have f0 := Af HZ2.out 0; have f1 := Af HZ2.out 1; have f2 := Af HZ2.out 2; clear ho hb HZR HBW
  go_wp2
  refine bodyPost_ret (results_ct rfl _ _ (w.heap.size + 1) 24 #[.int .i64 r1, .int .i64 r2, .slice A9 r3.length c9] (0, 0) _ rfl (Ax (Ax (Ax HZ2.out 0 _ rfl) 1 _ rfl) 2 _ rfl) Try.underlying24 rfl (by kernel_rfl)) rfl ?_; exact ⟨_, rfl, Kd.Dh (Kd.Dh (Kd.Dh HO.out HZ2.out (by decide) 0 _) (Ax HZ2.out 0 _ rfl) (by decide) 1 _) (Ax (Ax HZ2.out 0 _ rfl) 1 _ rfl) (by decide) 2 _, rback HB2.out _ _ _⟩
set_option maxRecDepth 100000 in
set_option maxHeartbeats 4000000 in
theorem hk36 (n : Int) (w : World) : Calls Try.prog 86 #[.int .i64 n] w fun e w' => e = .returned (.int .i64 (wrap64 (n - 1))) ∧ ∃ q, w' = w.drewN q := by
  go_enter Try.func86, Try.ntmps86
  go_wp2
  go_ret
  exact ⟨rfl, 0, rfl⟩
def Cq.f (k : Nat) (a0_0 : Int) (a0_1 : Int) (l0_2 : List Int) (a1 : Int) (a2 : Int) (a3 : Int) : Option (Int × Int × List Int × Int) := Cw.f k a0_0 a0_1 l0_2 a1 a2 a3 (kOf (fun n => wrap64 (n - 1)) a2 a3)
set_option maxHeartbeats 8000000 in
set_option maxRecDepth 100000 in
theorem rankedDilate (k : Nat) (a0_0 : Int) (a0_1 : Int) (A0_2 : Option Addr) (c0_2 : Nat) (l0_2 : List Int) (a1 : Int) (a2 : Int) (a3 : Int) (r1 : Int) (r2 : Int) (r3 : List Int) (r4 : Int) (w : World) (hr0_2 : Kd.C (Kd.int .u32) w A0_2 l0_2.length l0_2) (hc0_2 : l0_2.length ≤ c0_2)
    (h : Cq.f k a0_0 a0_1 l0_2 a1 a2 a3 = some (r1, r2, r3, r4)) :
    Calls Try.prog 84 #[.agg #[.int .i64 a0_0, .int .i64 a0_1, .slice A0_2 l0_2.length c0_2], .int .i64 a1, .int .i64 a2, .int .i64 a3, .func (.func 86) #[] #[]] w fun e w' => ∃ v2_ : Value, e = .returned (.tuple #[.agg #[.int .i64 r1, .int .i64 r2, v2_], .int .i64 r4]) ∧ Kd.R (Kd.int .u32) 28 w' w.heap.size (fun _ => True) v2_ r3 ∧ Below w.heap.size w w' := by
  unfold Cq.f at h
  have HZR : Ac (((w.alloc (.cells #[.int .i64 a0_0, .int .i64 a0_1, .slice A0_2 l0_2.length c0_2] 24)).alloc (.cells #[.int .i64 0, .int .i64 0, .slice none 0 0] 24)).heap[w.heap.size + 1]? = some (.cells #[.int .i64 0, .int .i64 0, .slice none 0 0] 24 (0, 0))) := ⟨by
    have := heap_alloc_new (w.alloc (.cells #[.int .i64 a0_0, .int .i64 a0_1, .slice A0_2 l0_2.length c0_2] 24)) (.cells #[.int .i64 0, .int .i64 0, .slice none 0 0] 24)
    simpa using this⟩
  have HBW : Ac (Below w.heap.size w ((w.alloc (.cells #[.int .i64 a0_0, .int .i64 a0_1, .slice A0_2 l0_2.length c0_2] 24)).alloc (.cells #[.int .i64 0, .int .i64 0, .slice none 0 0] 24))) := ⟨Ah (Ah (Below.refl _ _) _) _⟩
  by_cases q : 1 ≤ a2 ∧ 1 ≤ a3 ∧ a2 ≤ 15 ∧ a3 ≤ 15
  · have d1 : decide (1 ≤ a2) = true := decide_eq_true q.1
    have d2 : decide (1 ≤ a3) = true := decide_eq_true q.2.1; have d3 : decide (a2 ≤ 15) = true := decide_eq_true q.2.2.1; have d4 : decide (a3 ≤ 15) = true := decide_eq_true q.2.2.2; unfold kOf at h; rw [if_pos q] at h; clear q; go_enter Try.func84, Try.ntmps84
    go_wp2_with fail
    refine (hk36 _ _).mono ?_; rintro e w1 ⟨rfl, ⟨nd, rfl⟩⟩
    go_wp2_with fail
    refine (Cw.calls k a0_0 a0_1 A0_2 c0_2 l0_2 a1 a2 a3 _ r1 r2 r3 r4 _ (Kd.B2 hr0_2 (below_drewN HBW.out _)) hc0_2 h).mono ?_; rintro e w2 ⟨v2, rfl, ho, hb⟩; have HZ2 := Ac.mk (An (Ap HZR.out _) hb); have HB2 := Ac.mk (Aq (below_drewN HBW.out _) hb); have HO := Ac.mk (Kd.B9 ho (show w.heap.size ≤ (((w.alloc (.cells #[.int .i64 a0_0, .int .i64 a0_1, .slice A0_2 l0_2.length c0_2] 24)).alloc (.cells #[.int .i64 0, .int .i64 0, .slice none 0 0] 24)).drewN nd).heap.size by simp; omega)); obtain ⟨A9, c9, e9⟩ := Kd.B0 ho; subst e9; have m0 : w2.cell? ⟨w.heap.size + 1, 0, none⟩ = some (.int .i64 0) := (Ad HZ2.out 0).trans rfl; have m1 : w2.cell? ⟨w.heap.size + 1, 1, none⟩ = some (.int .i64 0) := (Ad HZ2.out 1).trans rfl; have m2 : w2.cell? ⟨w.heap.size + 1, 2, none⟩ = some (.slice none 0 0) := (Ad HZ2.out 2).trans rfl; have f0 := Af HZ2.out 0; have f1 := Af HZ2.out 1; have f2 := Af HZ2.out 2; clear ho hb HZR HBW
    go_wp2
    refine bodyPost_ret (results_ct rfl _ _ (w.heap.size + 1) 24 #[.int .i64 r1, .int .i64 r2, .slice A9 r3.length c9] (0, 0) _ rfl (Ax (Ax (Ax HZ2.out 0 _ rfl) 1 _ rfl) 2 _ rfl) Try.underlying24 rfl (by kernel_rfl)) rfl ?_; exact ⟨_, rfl, Kd.Dh (Kd.Dh (Kd.Dh HO.out HZ2.out (by decide) 0 _) (Ax HZ2.out 0 _ rfl) (by decide) 1 _) (Ax (Ax HZ2.out 0 _ rfl) 1 _ rfl) (by decide) 2 _, rback HB2.out _ _ _⟩
  · unfold kOf at h
    rw [if_neg q] at h
    rcases window_cases a2 a3 q with d1 | ⟨d1, d2⟩ | ⟨d1, d2, d3⟩ | ⟨d1, d2, d3, d4⟩
    all_goals
      clear q; go_enter Try.func84, Try.ntmps84
      go_wp2_with fail
      refine (Cw.calls k a0_0 a0_1 A0_2 c0_2 l0_2 a1 a2 a3 _ r1 r2 r3 r4 _ (Kd.B2 hr0_2 HBW.out) hc0_2 h).mono ?_; rintro e w2 ⟨v2, rfl, ho, hb⟩; have HZ2 := Ac.mk (An HZR.out hb); have HB2 := Ac.mk (Aq HBW.out hb); have HO := Ac.mk (Kd.B9 ho (show w.heap.size ≤ ((w.alloc (.cells #[.int .i64 a0_0, .int .i64 a0_1, .slice A0_2 l0_2.length c0_2] 24)).alloc (.cells #[.int .i64 0, .int .i64 0, .slice none 0 0] 24)).heap.size by simp; omega)); obtain ⟨A9, c9, e9⟩ := Kd.B0 ho; subst e9; have m0 : w2.cell? ⟨w.heap.size + 1, 0, none⟩ = some (.int .i64 0) := (Ad HZ2.out 0).trans rfl; have m1 : w2.cell? ⟨w.heap.size + 1, 1, none⟩ = some (.int .i64 0) := (Ad HZ2.out 1).trans rfl; have m2 : w2.cell? ⟨w.heap.size + 1, 2, none⟩ = some (.slice none 0 0) := (Ad HZ2.out 2).trans rfl; have f0 := Af HZ2.out 0; have f1 := Af HZ2.out 1; have f2 := Af HZ2.out 2; clear ho hb HZR HBW
      go_wp2
      refine bodyPost_ret (results_ct rfl _ _ (w.heap.size + 1) 24 #[.int .i64 r1, .int .i64 r2, .slice A9 r3.length c9] (0, 0) _ rfl (Ax (Ax (Ax HZ2.out 0 _ rfl) 1 _ rfl) 2 _ rfl) Try.underlying24 rfl (by kernel_rfl)) rfl ?_; exact ⟨_, rfl, Kd.Dh (Kd.Dh (Kd.Dh HO.out HZ2.out (by decide) 0 _) (Ax HZ2.out 0 _ rfl) (by decide) 1 _) (Ax (Ax HZ2.out 0 _ rfl) 1 _ rfl) (by decide) 2 _, rback HB2.out _ _ _⟩
set_option maxHeartbeats 8000000 in
set_option maxRecDepth 100000 in
theorem Cq.calls (k : Nat) (a0_0 : Int) (a0_1 : Int) (A0_2 : Option Addr) (c0_2 : Nat) (l0_2 : List Int) (a1 : Int) (a2 : Int) (a3 : Int) (r1 : Int) (r2 : Int) (r3 : List Int) (r4 : Int) (w : World) (hr0_2 : Kd.C (Kd.int .u32) w A0_2 l0_2.length l0_2) (hc0_2 : l0_2.length ≤ c0_2)
    (h : Cq.f k a0_0 a0_1 l0_2 a1 a2 a3 = some (r1, r2, r3, r4)) :
    Calls Try.prog 61 #[.agg #[.int .i64 a0_0, .int .i64 a0_1, .slice A0_2 l0_2.length c0_2], .int .i64 a1, .int .i64 a2, .int .i64 a3] w fun e w' => ∃ v2_ : Value, e = .returned (.tuple #[.agg #[.int .i64 r1, .int .i64 r2, v2_], .int .i64 r4]) ∧ Kd.R (Kd.int .u32) 28 w' w.heap.size (fun _ => True) v2_ r3 ∧ Below w.heap.size w w' := by
  have HZR : Ac (((w.alloc (.cells #[.int .i64 a0_0, .int .i64 a0_1, .slice A0_2 l0_2.length c0_2] 24)).alloc (.cells #[.int .i64 0, .int .i64 0, .slice none 0 0] 24)).heap[w.heap.size + 1]? = some (.cells #[.int .i64 0, .int .i64 0, .slice none 0 0] 24 (0, 0))) := ⟨by
    have := heap_alloc_new (w.alloc (.cells #[.int .i64 a0_0, .int .i64 a0_1, .slice A0_2 l0_2.length c0_2] 24)) (.cells #[.int .i64 0, .int .i64 0, .slice none 0 0] 24)
    simpa using this⟩
  have HBW : Ac (Below w.heap.size w ((w.alloc (.cells #[.int .i64 a0_0, .int .i64 a0_1, .slice A0_2 l0_2.length c0_2] 24)).alloc (.cells #[.int .i64 0, .int .i64 0, .slice none 0 0] 24))) := ⟨Ah (Ah (Below.refl _ _) _) _⟩; go_enter Try.func61, Try.ntmps61
  go_wp2_with fail
  refine (rankedDilate k a0_0 a0_1 A0_2 c0_2 l0_2 a1 a2 a3 r1 r2 r3 r4 _ (Kd.B2 hr0_2 HBW.out) hc0_2 h).mono ?_; rintro e w2 ⟨v2, rfl, ho, hb⟩; have HZ2 := Ac.mk (An HZR.out hb); have HB2 := Ac.mk (Aq HBW.out hb); have HO := Ac.mk (Kd.B9 ho (show w.heap.size ≤ ((w.alloc (.cells #[.int .i64 a0_0, .int .i64 a0_1, .slice A0_2 l0_2.length c0_2] 24)).alloc (.cells #[.int .i64 0, .int .i64 0, .slice none 0 0] 24)).heap.size by simp; omega)); obtain ⟨A9, c9, e9⟩ := Kd.B0 ho; subst e9; have m0 : w2.cell? ⟨w.heap.size + 1, 0, none⟩ = some (.int .i64 0) := (Ad HZ2.out 0).trans rfl; have m1 : w2.cell? ⟨w.heap.size + 1, 1, none⟩ = some (.int .i64 0) := (Ad HZ2.out 1).trans rfl; have m2 : w2.cell? ⟨w.heap.size + 1, 2, none⟩ = some (.slice none 0 0) := (Ad HZ2.out 2).trans rfl; have f0 := Af HZ2.out 0; have f1 := Af HZ2.out 1; have f2 := Af HZ2.out 2; clear ho hb HZR HBW
  go_wp2
  refine bodyPost_ret (results_ct rfl _ _ (w.heap.size + 1) 24 #[.int .i64 r1, .int .i64 r2, .slice A9 r3.length c9] (0, 0) _ rfl (Ax (Ax (Ax HZ2.out 0 _ rfl) 1 _ rfl) 2 _ rfl) Try.underlying24 rfl (by kernel_rfl)) rfl ?_; exact ⟨_, rfl, Kd.Dh (Kd.Dh (Kd.Dh HO.out HZ2.out (by decide) 0 _) (Ax HZ2.out 0 _ rfl) (by decide) 1 _) (Ax (Ax HZ2.out 0 _ rfl) 1 _ rfl) (by decide) 2 _, rback HB2.out _ _ _⟩
end Go.Proofs.Ytbfimplajocmmaa
end
section
open Go Go.RowKit Go.Proofs.YtbfimplajocmmaaW.PrintWords
set_option linter.unusedVariables false
set_option linter.unusedSimpArgs false
namespace Go.Proofs.Ytbfimplajocmmaa
open PFA PRA PRB

theorem border_bad (bk : Int) (hk : ¬(1 ≤ bk ∧ bk ≤ 3)) (K : Nat) (hK : 2 ≤ K) : B7.f K bk 1 0 = some (0, 53) := by
  obtain ⟨K, rfl⟩ : ∃ q, K = q + 1 := ⟨K - 1, by omega⟩; unfold B7.f
  by_cases h1 : bk < 1
  · rw [if_pos h1, B7.j0, if_pos rfl]
  · rw [if_neg h1, decide_eq_true (by omega), B7.j0, if_pos rfl]
theorem check_any (K : Nat) (hK : 6 ≤ K) (a b : Int) (l : List Int) (bk w h k e0 : Int) (hc : Ce.f a b l = some e0) (hk : 1 ≤ w ∧ 1 ≤ h ∧ w ≤ 15 ∧ h ≤ 15 → 0 ≤ k ∧ k < w * h) :
    Bs.f K a b l bk w h k = some (if e0 ≠ 0 then e0 else if 1 ≤ w ∧ 1 ≤ h ∧ w ≤ 15 ∧ h ≤ 15 then (if 1 ≤ bk ∧ bk ≤ 3 then 0 else 53) else 120) := by
  obtain ⟨K, rfl⟩ : ∃ q, K = q + 1 := ⟨K - 1, by omega⟩; unfold Bs.f; rw [hc, Option.bind_some]
  by_cases h0 : e0 = 0
  · subst h0
    rw [if_pos rfl, if_neg (show ¬((0 : Int) ≠ 0) by simp)]
    by_cases hw : 1 ≤ w ∧ 1 ≤ h ∧ w ≤ 15 ∧ h ≤ 15
    · obtain ⟨k0, k1⟩ := hk hw
      have hwh : w * h ≤ 15 * 15 := Int.mul_le_mul hw.2.2.1 hw.2.2.2 (by omega) (by omega); have hwp : 0 ≤ w * h := Int.mul_nonneg (by omega) (by omega); have e : wrap64 (w * h) = w * h := wd _ (by omega) (by omega); rw [if_pos hw, if_neg (by omega), if_neg (by omega), if_neg (by omega), decide_eq_false (by omega), Bs.j0, if_neg (by decide), if_neg (by omega), e, if_neg (by omega)]
      by_cases hb : 1 ≤ bk ∧ bk ≤ 3
      · have h9 := border_eq bk 1 0 hb (by omega) (by omega) K (by omega)
        rw [show ((1 : Nat) : Int) = 1 from rfl] at h9; rw [h9, if_pos hb]; rfl
      · rw [border_bad bk hb K (by omega), if_neg hb]; rfl
    · rw [if_neg hw]
      by_cases q1 : w < 1
      · rw [if_pos q1, Bs.j0, if_pos rfl]
      · rw [if_neg q1]
        by_cases q2 : h < 1
        · rw [if_pos q2, Bs.j0, if_pos rfl]
        · rw [if_neg q2]
          by_cases q3 : w > 15
          · rw [if_pos q3, Bs.j0, if_pos rfl]
          · rw [if_neg q3, decide_eq_true (by omega), Bs.j0, if_pos rfl]
  · rw [if_neg h0, if_pos (show e0 ≠ 0 from h0)]
end Go.Proofs.Ytbfimplajocmmaa
end
section
open Go Go.RowKit Go.Proofs.YtbfimplajocmmaaW.PrintWords Go.Proofs.YtbfimplajocmmaaW.PrintLast Go.Proofs.YtbfimplajocmmaaW.PrintMore
set_option linter.unusedVariables false
set_option linter.unusedSimpArgs false
namespace Go.Proofs.Ytbfimplajocmmaa
open PFA PRA PRB
theorem wmul (W H : Nat) (h : W * H ≤ 100000000) : wrap64 ((W : Int) * (H : Int)) = ((W * H : Nat) : Int) := by
  rw [show (W : Int) * (H : Int) = ((W * H : Nat) : Int) by push_cast; rfl]; generalize W * H = x at *; exact wd _ (by omega) (by omega)
theorem check_cases (a b : Int) (l : List Int) : (∃ e0, Ce.f a b l = some e0 ∧ e0 ≠ 0) ∨
    (∃ W H : Nat, a = W ∧ b = H ∧ 1 ≤ W ∧ W ≤ 1024 ∧ 1 ≤ H ∧ H ≤ 1024 ∧ W * H ≤ 65536 ∧ l.length = W * H ∧ Ce.f a b l = some 0) := by
  have bad : ∀ x : Bool, x = false → (Cv.f a b = some x) → Ce.f a b l = some 50 := by
    intro x hx hs; unfold Ce.f; rw [hs, hx]; rfl
  by_cases h1 : a ≥ 1
  · by_cases h2 : b ≥ 1
    · by_cases h3 : a ≤ 1024
      · by_cases h4 : b ≤ 1024
        · by_cases h5 : wrap64 (a * b) ≤ 65536
          · have hs : Cv.f a b = some true := by unfold Cv.f; rw [if_pos h1, if_pos h2, if_pos h3, if_pos h4, decide_eq_true h5]
            obtain ⟨W, rfl⟩ := Int.eq_ofNat_of_zero_le (show 0 ≤ a by omega); obtain ⟨H, rfl⟩ := Int.eq_ofNat_of_zero_le (show 0 ≤ b by omega); have hm : W * H ≤ 1024 * 1024 := Nat.mul_le_mul (by omega) (by omega); have e := wmul W H (by omega); rw [e] at h5
            by_cases h6 : (l.length : Int) = ((W * H : Nat) : Int)
            · refine .inr ⟨W, H, rfl, rfl, by omega, by omega, by omega, by omega, ?_, Int.ofNat_inj.mp h6, ?_⟩
              · clear h6 hs
                generalize W * H = x at *
                omega
              · unfold Ce.f; rw [hs, Option.bind_some, if_pos rfl, e, if_pos h6]
            · refine .inl ⟨51, ?_, by decide⟩
              unfold Ce.f; rw [hs, Option.bind_some, if_pos rfl, e, if_neg h6]
          · exact .inl ⟨50, bad false rfl (by unfold Cv.f; rw [if_pos h1, if_pos h2, if_pos h3, if_pos h4, decide_eq_false h5]), by decide⟩
        · exact .inl ⟨50, bad false rfl (by unfold Cv.f; rw [if_pos h1, if_pos h2, if_pos h3, if_neg h4]), by decide⟩
      · exact .inl ⟨50, bad false rfl (by unfold Cv.f; rw [if_pos h1, if_pos h2, if_neg h3]), by decide⟩
    · exact .inl ⟨50, bad false rfl (by unfold Cv.f; rw [if_pos h1, if_neg h2]), by decide⟩
  · exact .inl ⟨50, bad false rfl (by unfold Cv.f; rw [if_neg h1]), by decide⟩
theorem kOf_fine (kf : Int → Int) (w h : Int) (hf : 1 ≤ w ∧ 1 ≤ h ∧ w ≤ 15 ∧ h ≤ 15) : kOf kf w h = kf (wrap64 (w * h)) := by unfold kOf; rw [if_pos hf]
theorem last_place (w h : Int) (hf : 1 ≤ w ∧ 1 ≤ h ∧ w ≤ 15 ∧ h ≤ 15) : kOf (fun n => wrap64 (n - 1)) w h = w * h - 1 := by
  rw [kOf_fine _ _ _ hf]; have h1 : 0 < w * h := Int.mul_pos (by omega) (by omega); have h2 : w * h ≤ 15 * 15 := Int.mul_le_mul hf.2.2.1 hf.2.2.2 (by omega) (by omega); show wrap64 (wrap64 (w * h) - 1) = _; generalize w * h = x at *; rw [wd x (by omega) (by omega), wd _ (by omega) (by omega)]
end Go.Proofs.Ytbfimplajocmmaa
end
