import Derived.Test.YthpmkelcjlljmaaXPRBx2
open Go Go.RowKit Go.Shelf Go.Proofs.YthpmkelcjlljmaaW.PrintWords Go.Proofs.YthpmkelcjlljmaaW.PrintLast Go.Proofs.YthpmkelcjlljmaaW.PrintMore
attribute [local go_sem] max2_int min2_int max_two min_two max_three min_three max_four min_four
attribute [local go_sem ↓] Go.wp_at_zero Go.wp_at_succ
set_option linter.unusedVariables false
set_option linter.unusedSimpArgs false
namespace Go.Proofs.Ythpmkelcjlljmaa
open PRA PRB

def kOf (kf : Int → Int) (w h : Int) : Int := if 1 ≤ w ∧ 1 ≤ h ∧ w ≤ 15 ∧ h ≤ 15 then kf (wrap64 (w * h)) else 0

set_option maxHeartbeats 1000000 in
theorem hk34 (n : Int) (w : World) : Calls Try.prog 34 #[.int .i64 n] w fun e w' => e = .returned (.int .i64 (wrap64 (Int.tdiv n 2))) ∧ ∃ q, w' = w.drewN q := by
  go_enter Try.func34, Try.ntmps34
  go_wp2
  go_ret
  exact ⟨rfl, 0, rfl⟩
def Cg.f (k : Nat) (a0_0 : Int) (a0_1 : Int) (l0_2 : List Int) (a1 : Int) (a2 : Int) (a3 : Int) : Option (Int × Int × List Int × Int) := Bi.f k a0_0 a0_1 l0_2 a1 a2 a3 (kOf (fun n => wrap64 (Int.tdiv n 2)) a2 a3)
set_option maxHeartbeats 8000000 in
set_option maxRecDepth 100000 in
theorem ranked34 (k : Nat) (a0_0 : Int) (a0_1 : Int) (A0_2 : Option Addr) (c0_2 : Nat) (l0_2 : List Int) (a1 : Int) (a2 : Int) (a3 : Int) (r1 : Int) (r2 : Int) (r3 : List Int) (r4 : Int) (w : World) (hr0_2 : Kd.C (Kd.int .u32) w A0_2 l0_2.length l0_2) (hc0_2 : l0_2.length ≤ c0_2)
    (h : Cg.f k a0_0 a0_1 l0_2 a1 a2 a3 = some (r1, r2, r3, r4)) :
    Calls Try.prog 33 #[.agg #[.int .i64 a0_0, .int .i64 a0_1, .slice A0_2 l0_2.length c0_2], .int .i64 a1, .int .i64 a2, .int .i64 a3, .func (.func 34) #[] #[]] w fun e w' => ∃ v2_ : Value, e = .returned (.tuple #[.agg #[.int .i64 r1, .int .i64 r2, v2_], .int .i64 r4]) ∧ Kd.R (Kd.int .u32) 41 w' w.heap.size (fun _ => True) v2_ r3 ∧ Below w.heap.size w w' := by
  unfold Cg.f at h
  have hzr : ((w.alloc (.cells #[.int .i64 a0_0, .int .i64 a0_1, .slice A0_2 l0_2.length c0_2] 25)).alloc (.cells #[.int .i64 0, .int .i64 0, .slice none 0 0] 25)).heap[w.heap.size + 1]? = some (.cells #[.int .i64 0, .int .i64 0, .slice none 0 0] 25 (0, 0)) := by
    have := heap_alloc_new (w.alloc (.cells #[.int .i64 a0_0, .int .i64 a0_1, .slice A0_2 l0_2.length c0_2] 25)) (.cells #[.int .i64 0, .int .i64 0, .slice none 0 0] 25)
    simpa using this
  have hbw : Below w.heap.size w ((w.alloc (.cells #[.int .i64 a0_0, .int .i64 a0_1, .slice A0_2 l0_2.length c0_2] 25)).alloc (.cells #[.int .i64 0, .int .i64 0, .slice none 0 0] 25)) := Ai (Ai (Below.refl _ _) _) _
  have HZR := Ac.mk hzr
  have HBW := Ac.mk hbw
  clear hzr hbw
  by_cases q1 : 1 ≤ a2
  · have d1 : decide (1 ≤ a2) = true := decide_eq_true q1
    by_cases q2 : 1 ≤ a3
    · have d2 : decide (1 ≤ a3) = true := decide_eq_true q2
      by_cases q3 : a2 ≤ 15
      · have d3 : decide (a2 ≤ 15) = true := decide_eq_true q3
        by_cases q4 : a3 ≤ 15
        · have d4 : decide (a3 ≤ 15) = true := decide_eq_true q4
          have hn : kOf (fun n => wrap64 (Int.tdiv n 2)) a2 a3 = wrap64 (Int.tdiv (wrap64 (a2 * a3)) 2) := by unfold kOf; rw [if_pos ⟨q1, q2, q3, q4⟩]
          rw [hn] at h
          go_enter Try.func33, Try.ntmps33
          go_wp2_with fail
          refine (hk34 _ _).mono ?_
          rintro e w1 ⟨rfl, ⟨nd, rfl⟩⟩
          go_wp2_with fail
          refine (Bi.calls k a0_0 a0_1 A0_2 c0_2 l0_2 a1 a2 a3 _ r1 r2 r3 r4 _ (Kd.Bo hr0_2 (below_drewN HBW.out _)) hc0_2 h).mono ?_
          rintro e w2 ⟨v2, rfl, ho, hb⟩
          have HZ2 := Ac.mk (Ak (Ab HZR.out _) hb)
          have HB2 := Ac.mk (At (below_drewN HBW.out _) hb)
          have HO := Ac.mk (Kd.Br ho (show w.heap.size ≤ (((w.alloc (.cells #[.int .i64 a0_0, .int .i64 a0_1, .slice A0_2 l0_2.length c0_2] 25)).alloc (.cells #[.int .i64 0, .int .i64 0, .slice none 0 0] 25)).drewN nd).heap.size by simp; omega))
          obtain ⟨A9, c9, e9⟩ := Kd.Bw ho
          subst e9
          have m0 : w2.cell? ⟨w.heap.size + 1, 0, none⟩ = some (.int .i64 0) := (Ag HZ2.out 0).trans rfl
          have m1 : w2.cell? ⟨w.heap.size + 1, 1, none⟩ = some (.int .i64 0) := (Ag HZ2.out 1).trans rfl
          have m2 : w2.cell? ⟨w.heap.size + 1, 2, none⟩ = some (.slice none 0 0) := (Ag HZ2.out 2).trans rfl
          have f0 := Ah HZ2.out 0
          have f1 := Ah HZ2.out 1
          have f2 := Ah HZ2.out 2
          clear ho hb HZR HBW
          go_wp2
          refine bodyPost_ret (results_ct rfl _ _ (w.heap.size + 1) 25 #[.int .i64 r1, .int .i64 r2, .slice A9 r3.length c9] (0, 0) _ rfl ?_ Try.underlying25 rfl (by kernel_rfl)) rfl ?_
          · exact Aq (Aq (Aq HZ2.out 0 _ rfl) 1 _ rfl) 2 _ rfl
          · exact ⟨_, rfl, Kd.B0 (Kd.B0 (Kd.B0 HO.out HZ2.out (by decide) 0 _) (Aq HZ2.out 0 _ rfl) (by decide) 1 _) (Aq (Aq HZ2.out 0 _ rfl) 1 _ rfl) (by decide) 2 _, ((HB2.out.setCell (show w.heap.size ≤ w.heap.size + 1 by omega) _).setCell (show w.heap.size ≤ w.heap.size + 1 by omega) _).setCell (show w.heap.size ≤ w.heap.size + 1 by omega) _⟩
        · have d4 : decide (a3 ≤ 15) = false := decide_eq_false q4
          have hn : kOf (fun n => wrap64 (Int.tdiv n 2)) a2 a3 = 0 := by unfold kOf; rw [if_neg (fun hh => q4 hh.2.2.2)]
          rw [hn] at h
          go_enter Try.func33, Try.ntmps33
          go_wp2_with fail
          refine (Bi.calls k a0_0 a0_1 A0_2 c0_2 l0_2 a1 a2 a3 _ r1 r2 r3 r4 _ (Kd.Bo hr0_2 HBW.out) hc0_2 h).mono ?_
          rintro e w2 ⟨v2, rfl, ho, hb⟩
          have HZ2 := Ac.mk (Ak HZR.out hb)
          have HB2 := Ac.mk (At HBW.out hb)
          have HO := Ac.mk (Kd.Br ho (show w.heap.size ≤ (((w.alloc (.cells #[.int .i64 a0_0, .int .i64 a0_1, .slice A0_2 l0_2.length c0_2] 25)).alloc (.cells #[.int .i64 0, .int .i64 0, .slice none 0 0] 25))).heap.size by simp; omega))
          obtain ⟨A9, c9, e9⟩ := Kd.Bw ho
          subst e9
          have m0 : w2.cell? ⟨w.heap.size + 1, 0, none⟩ = some (.int .i64 0) := (Ag HZ2.out 0).trans rfl
          have m1 : w2.cell? ⟨w.heap.size + 1, 1, none⟩ = some (.int .i64 0) := (Ag HZ2.out 1).trans rfl
          have m2 : w2.cell? ⟨w.heap.size + 1, 2, none⟩ = some (.slice none 0 0) := (Ag HZ2.out 2).trans rfl
          have f0 := Ah HZ2.out 0
          have f1 := Ah HZ2.out 1
          have f2 := Ah HZ2.out 2
          clear ho hb HZR HBW
          go_wp2
          refine bodyPost_ret (results_ct rfl _ _ (w.heap.size + 1) 25 #[.int .i64 r1, .int .i64 r2, .slice A9 r3.length c9] (0, 0) _ rfl ?_ Try.underlying25 rfl (by kernel_rfl)) rfl ?_
          · exact Aq (Aq (Aq HZ2.out 0 _ rfl) 1 _ rfl) 2 _ rfl
          · exact ⟨_, rfl, Kd.B0 (Kd.B0 (Kd.B0 HO.out HZ2.out (by decide) 0 _) (Aq HZ2.out 0 _ rfl) (by decide) 1 _) (Aq (Aq HZ2.out 0 _ rfl) 1 _ rfl) (by decide) 2 _, ((HB2.out.setCell (show w.heap.size ≤ w.heap.size + 1 by omega) _).setCell (show w.heap.size ≤ w.heap.size + 1 by omega) _).setCell (show w.heap.size ≤ w.heap.size + 1 by omega) _⟩
      · have d3 : decide (a2 ≤ 15) = false := decide_eq_false q3
        have hn : kOf (fun n => wrap64 (Int.tdiv n 2)) a2 a3 = 0 := by unfold kOf; rw [if_neg (fun hh => q3 hh.2.2.1)]
        rw [hn] at h
        go_enter Try.func33, Try.ntmps33
        go_wp2_with fail
        refine (Bi.calls k a0_0 a0_1 A0_2 c0_2 l0_2 a1 a2 a3 _ r1 r2 r3 r4 _ (Kd.Bo hr0_2 HBW.out) hc0_2 h).mono ?_
        rintro e w2 ⟨v2, rfl, ho, hb⟩
        have HZ2 := Ac.mk (Ak HZR.out hb)
        have HB2 := Ac.mk (At HBW.out hb)
        have HO := Ac.mk (Kd.Br ho (show w.heap.size ≤ (((w.alloc (.cells #[.int .i64 a0_0, .int .i64 a0_1, .slice A0_2 l0_2.length c0_2] 25)).alloc (.cells #[.int .i64 0, .int .i64 0, .slice none 0 0] 25))).heap.size by simp; omega))
        obtain ⟨A9, c9, e9⟩ := Kd.Bw ho
        subst e9
        have m0 : w2.cell? ⟨w.heap.size + 1, 0, none⟩ = some (.int .i64 0) := (Ag HZ2.out 0).trans rfl
        have m1 : w2.cell? ⟨w.heap.size + 1, 1, none⟩ = some (.int .i64 0) := (Ag HZ2.out 1).trans rfl
        have m2 : w2.cell? ⟨w.heap.size + 1, 2, none⟩ = some (.slice none 0 0) := (Ag HZ2.out 2).trans rfl
        have f0 := Ah HZ2.out 0
        have f1 := Ah HZ2.out 1
        have f2 := Ah HZ2.out 2
        clear ho hb HZR HBW
        go_wp2
        refine bodyPost_ret (results_ct rfl _ _ (w.heap.size + 1) 25 #[.int .i64 r1, .int .i64 r2, .slice A9 r3.length c9] (0, 0) _ rfl ?_ Try.underlying25 rfl (by kernel_rfl)) rfl ?_
        · exact Aq (Aq (Aq HZ2.out 0 _ rfl) 1 _ rfl) 2 _ rfl
        · exact ⟨_, rfl, Kd.B0 (Kd.B0 (Kd.B0 HO.out HZ2.out (by decide) 0 _) (Aq HZ2.out 0 _ rfl) (by decide) 1 _) (Aq (Aq HZ2.out 0 _ rfl) 1 _ rfl) (by decide) 2 _, ((HB2.out.setCell (show w.heap.size ≤ w.heap.size + 1 by omega) _).setCell (show w.heap.size ≤ w.heap.size + 1 by omega) _).setCell (show w.heap.size ≤ w.heap.size + 1 by omega) _⟩
    · have d2 : decide (1 ≤ a3) = false := decide_eq_false q2
      have hn : kOf (fun n => wrap64 (Int.tdiv n 2)) a2 a3 = 0 := by unfold kOf; rw [if_neg (fun hh => q2 hh.2.1)]
      rw [hn] at h
      go_enter Try.func33, Try.ntmps33
      go_wp2_with fail
      refine (Bi.calls k a0_0 a0_1 A0_2 c0_2 l0_2 a1 a2 a3 _ r1 r2 r3 r4 _ (Kd.Bo hr0_2 HBW.out) hc0_2 h).mono ?_
      rintro e w2 ⟨v2, rfl, ho, hb⟩
      have HZ2 := Ac.mk (Ak HZR.out hb)
      have HB2 := Ac.mk (At HBW.out hb)
      have HO := Ac.mk (Kd.Br ho (show w.heap.size ≤ (((w.alloc (.cells #[.int .i64 a0_0, .int .i64 a0_1, .slice A0_2 l0_2.length c0_2] 25)).alloc (.cells #[.int .i64 0, .int .i64 0, .slice none 0 0] 25))).heap.size by simp; omega))
      obtain ⟨A9, c9, e9⟩ := Kd.Bw ho
      subst e9
      have m0 : w2.cell? ⟨w.heap.size + 1, 0, none⟩ = some (.int .i64 0) := (Ag HZ2.out 0).trans rfl
      have m1 : w2.cell? ⟨w.heap.size + 1, 1, none⟩ = some (.int .i64 0) := (Ag HZ2.out 1).trans rfl
      have m2 : w2.cell? ⟨w.heap.size + 1, 2, none⟩ = some (.slice none 0 0) := (Ag HZ2.out 2).trans rfl
      have f0 := Ah HZ2.out 0
      have f1 := Ah HZ2.out 1
      have f2 := Ah HZ2.out 2
      clear ho hb HZR HBW
      go_wp2
      refine bodyPost_ret (results_ct rfl _ _ (w.heap.size + 1) 25 #[.int .i64 r1, .int .i64 r2, .slice A9 r3.length c9] (0, 0) _ rfl ?_ Try.underlying25 rfl (by kernel_rfl)) rfl ?_
      · exact Aq (Aq (Aq HZ2.out 0 _ rfl) 1 _ rfl) 2 _ rfl
      · exact ⟨_, rfl, Kd.B0 (Kd.B0 (Kd.B0 HO.out HZ2.out (by decide) 0 _) (Aq HZ2.out 0 _ rfl) (by decide) 1 _) (Aq (Aq HZ2.out 0 _ rfl) 1 _ rfl) (by decide) 2 _, ((HB2.out.setCell (show w.heap.size ≤ w.heap.size + 1 by omega) _).setCell (show w.heap.size ≤ w.heap.size + 1 by omega) _).setCell (show w.heap.size ≤ w.heap.size + 1 by omega) _⟩
  · have d1 : decide (1 ≤ a2) = false := decide_eq_false q1
    have hn : kOf (fun n => wrap64 (Int.tdiv n 2)) a2 a3 = 0 := by unfold kOf; rw [if_neg (fun hh => q1 hh.1)]
    rw [hn] at h
    go_enter Try.func33, Try.ntmps33
    go_wp2_with fail
    refine (Bi.calls k a0_0 a0_1 A0_2 c0_2 l0_2 a1 a2 a3 _ r1 r2 r3 r4 _ (Kd.Bo hr0_2 HBW.out) hc0_2 h).mono ?_
    rintro e w2 ⟨v2, rfl, ho, hb⟩
    have HZ2 := Ac.mk (Ak HZR.out hb)
    have HB2 := Ac.mk (At HBW.out hb)
    have HO := Ac.mk (Kd.Br ho (show w.heap.size ≤ (((w.alloc (.cells #[.int .i64 a0_0, .int .i64 a0_1, .slice A0_2 l0_2.length c0_2] 25)).alloc (.cells #[.int .i64 0, .int .i64 0, .slice none 0 0] 25))).heap.size by simp; omega))
    obtain ⟨A9, c9, e9⟩ := Kd.Bw ho
    subst e9
    have m0 : w2.cell? ⟨w.heap.size + 1, 0, none⟩ = some (.int .i64 0) := (Ag HZ2.out 0).trans rfl
    have m1 : w2.cell? ⟨w.heap.size + 1, 1, none⟩ = some (.int .i64 0) := (Ag HZ2.out 1).trans rfl
    have m2 : w2.cell? ⟨w.heap.size + 1, 2, none⟩ = some (.slice none 0 0) := (Ag HZ2.out 2).trans rfl
    have f0 := Ah HZ2.out 0
    have f1 := Ah HZ2.out 1
    have f2 := Ah HZ2.out 2
    clear ho hb HZR HBW
    go_wp2
    refine bodyPost_ret (results_ct rfl _ _ (w.heap.size + 1) 25 #[.int .i64 r1, .int .i64 r2, .slice A9 r3.length c9] (0, 0) _ rfl ?_ Try.underlying25 rfl (by kernel_rfl)) rfl ?_
    · exact Aq (Aq (Aq HZ2.out 0 _ rfl) 1 _ rfl) 2 _ rfl
    · exact ⟨_, rfl, Kd.B0 (Kd.B0 (Kd.B0 HO.out HZ2.out (by decide) 0 _) (Aq HZ2.out 0 _ rfl) (by decide) 1 _) (Aq (Aq HZ2.out 0 _ rfl) 1 _ rfl) (by decide) 2 _, ((HB2.out.setCell (show w.heap.size ≤ w.heap.size + 1 by omega) _).setCell (show w.heap.size ≤ w.heap.size + 1 by omega) _).setCell (show w.heap.size ≤ w.heap.size + 1 by omega) _⟩
set_option maxHeartbeats 8000000 in
set_option maxRecDepth 100000 in
theorem Cg.calls (k : Nat) (a0_0 : Int) (a0_1 : Int) (A0_2 : Option Addr) (c0_2 : Nat) (l0_2 : List Int) (a1 : Int) (a2 : Int) (a3 : Int) (r1 : Int) (r2 : Int) (r3 : List Int) (r4 : Int) (w : World) (hr0_2 : Kd.C (Kd.int .u32) w A0_2 l0_2.length l0_2) (hc0_2 : l0_2.length ≤ c0_2)
    (h : Cg.f k a0_0 a0_1 l0_2 a1 a2 a3 = some (r1, r2, r3, r4)) :
    Calls Try.prog 17 #[.agg #[.int .i64 a0_0, .int .i64 a0_1, .slice A0_2 l0_2.length c0_2], .int .i64 a1, .int .i64 a2, .int .i64 a3] w fun e w' => ∃ v2_ : Value, e = .returned (.tuple #[.agg #[.int .i64 r1, .int .i64 r2, v2_], .int .i64 r4]) ∧ Kd.R (Kd.int .u32) 41 w' w.heap.size (fun _ => True) v2_ r3 ∧ Below w.heap.size w w' := by
  have hzr : ((w.alloc (.cells #[.int .i64 a0_0, .int .i64 a0_1, .slice A0_2 l0_2.length c0_2] 25)).alloc (.cells #[.int .i64 0, .int .i64 0, .slice none 0 0] 25)).heap[w.heap.size + 1]? = some (.cells #[.int .i64 0, .int .i64 0, .slice none 0 0] 25 (0, 0)) := by
    have := heap_alloc_new (w.alloc (.cells #[.int .i64 a0_0, .int .i64 a0_1, .slice A0_2 l0_2.length c0_2] 25)) (.cells #[.int .i64 0, .int .i64 0, .slice none 0 0] 25)
    simpa using this
  have hbw : Below w.heap.size w ((w.alloc (.cells #[.int .i64 a0_0, .int .i64 a0_1, .slice A0_2 l0_2.length c0_2] 25)).alloc (.cells #[.int .i64 0, .int .i64 0, .slice none 0 0] 25)) := Ai (Ai (Below.refl _ _) _) _
  have HZR := Ac.mk hzr
  have HBW := Ac.mk hbw
  clear hzr hbw
  go_enter Try.func17, Try.ntmps17
  go_wp2_with fail
  refine (ranked34 k a0_0 a0_1 A0_2 c0_2 l0_2 a1 a2 a3 r1 r2 r3 r4 _ (Kd.Bo hr0_2 HBW.out) hc0_2 h).mono ?_
  rintro e w2 ⟨v2, rfl, ho, hb⟩
  have HZ2 := Ac.mk (Ak HZR.out hb)
  have HB2 := Ac.mk (At HBW.out hb)
  have HO := Ac.mk (Kd.Br ho (show w.heap.size ≤ (((w.alloc (.cells #[.int .i64 a0_0, .int .i64 a0_1, .slice A0_2 l0_2.length c0_2] 25)).alloc (.cells #[.int .i64 0, .int .i64 0, .slice none 0 0] 25))).heap.size by simp; omega))
  obtain ⟨A9, c9, e9⟩ := Kd.Bw ho
  subst e9
  have m0 : w2.cell? ⟨w.heap.size + 1, 0, none⟩ = some (.int .i64 0) := (Ag HZ2.out 0).trans rfl
  have m1 : w2.cell? ⟨w.heap.size + 1, 1, none⟩ = some (.int .i64 0) := (Ag HZ2.out 1).trans rfl
  have m2 : w2.cell? ⟨w.heap.size + 1, 2, none⟩ = some (.slice none 0 0) := (Ag HZ2.out 2).trans rfl
  have f0 := Ah HZ2.out 0
  have f1 := Ah HZ2.out 1
  have f2 := Ah HZ2.out 2
  clear ho hb HZR HBW
  go_wp2
  refine bodyPost_ret (results_ct rfl _ _ (w.heap.size + 1) 25 #[.int .i64 r1, .int .i64 r2, .slice A9 r3.length c9] (0, 0) _ rfl ?_ Try.underlying25 rfl (by kernel_rfl)) rfl ?_
  · exact Aq (Aq (Aq HZ2.out 0 _ rfl) 1 _ rfl) 2 _ rfl
  · exact ⟨_, rfl, Kd.B0 (Kd.B0 (Kd.B0 HO.out HZ2.out (by decide) 0 _) (Aq HZ2.out 0 _ rfl) (by decide) 1 _) (Aq (Aq HZ2.out 0 _ rfl) 1 _ rfl) (by decide) 2 _, ((HB2.out.setCell (show w.heap.size ≤ w.heap.size + 1 by omega) _).setCell (show w.heap.size ≤ w.heap.size + 1 by omega) _).setCell (show w.heap.size ≤ w.heap.size + 1 by omega) _⟩

set_option maxHeartbeats 1000000 in
theorem hk35 (n : Int) (w : World) : Calls Try.prog 35 #[.int .i64 n] w fun e w' => e = .returned (.int .i64 (0)) ∧ ∃ q, w' = w.drewN q := by
  go_enter Try.func35, Try.ntmps35
  go_wp2
  go_ret
  exact ⟨rfl, 0, rfl⟩
def Ch.f (k : Nat) (a0_0 : Int) (a0_1 : Int) (l0_2 : List Int) (a1 : Int) (a2 : Int) (a3 : Int) : Option (Int × Int × List Int × Int) := Bi.f k a0_0 a0_1 l0_2 a1 a2 a3 (kOf (fun _ => 0) a2 a3)
set_option maxHeartbeats 8000000 in
set_option maxRecDepth 100000 in
theorem ranked35 (k : Nat) (a0_0 : Int) (a0_1 : Int) (A0_2 : Option Addr) (c0_2 : Nat) (l0_2 : List Int) (a1 : Int) (a2 : Int) (a3 : Int) (r1 : Int) (r2 : Int) (r3 : List Int) (r4 : Int) (w : World) (hr0_2 : Kd.C (Kd.int .u32) w A0_2 l0_2.length l0_2) (hc0_2 : l0_2.length ≤ c0_2)
    (h : Ch.f k a0_0 a0_1 l0_2 a1 a2 a3 = some (r1, r2, r3, r4)) :
    Calls Try.prog 33 #[.agg #[.int .i64 a0_0, .int .i64 a0_1, .slice A0_2 l0_2.length c0_2], .int .i64 a1, .int .i64 a2, .int .i64 a3, .func (.func 35) #[] #[]] w fun e w' => ∃ v2_ : Value, e = .returned (.tuple #[.agg #[.int .i64 r1, .int .i64 r2, v2_], .int .i64 r4]) ∧ Kd.R (Kd.int .u32) 41 w' w.heap.size (fun _ => True) v2_ r3 ∧ Below w.heap.size w w' := by
  unfold Ch.f at h
  have hzr : ((w.alloc (.cells #[.int .i64 a0_0, .int .i64 a0_1, .slice A0_2 l0_2.length c0_2] 25)).alloc (.cells #[.int .i64 0, .int .i64 0, .slice none 0 0] 25)).heap[w.heap.size + 1]? = some (.cells #[.int .i64 0, .int .i64 0, .slice none 0 0] 25 (0, 0)) := by
    have := heap_alloc_new (w.alloc (.cells #[.int .i64 a0_0, .int .i64 a0_1, .slice A0_2 l0_2.length c0_2] 25)) (.cells #[.int .i64 0, .int .i64 0, .slice none 0 0] 25)
    simpa using this
  have hbw : Below w.heap.size w ((w.alloc (.cells #[.int .i64 a0_0, .int .i64 a0_1, .slice A0_2 l0_2.length c0_2] 25)).alloc (.cells #[.int .i64 0, .int .i64 0, .slice none 0 0] 25)) := Ai (Ai (Below.refl _ _) _) _
  have HZR := Ac.mk hzr
  have HBW := Ac.mk hbw
  clear hzr hbw
  by_cases q1 : 1 ≤ a2
  · have d1 : decide (1 ≤ a2) = true := decide_eq_true q1
    by_cases q2 : 1 ≤ a3
    · have d2 : decide (1 ≤ a3) = true := decide_eq_true q2
      by_cases q3 : a2 ≤ 15
      · have d3 : decide (a2 ≤ 15) = true := decide_eq_true q3
        by_cases q4 : a3 ≤ 15
        · have d4 : decide (a3 ≤ 15) = true := decide_eq_true q4
          have hn : kOf (fun _ => 0) a2 a3 = 0 := by unfold kOf; rw [if_pos ⟨q1, q2, q3, q4⟩]
          rw [hn] at h
          go_enter Try.func33, Try.ntmps33
          go_wp2_with fail
          refine (hk35 _ _).mono ?_
          rintro e w1 ⟨rfl, ⟨nd, rfl⟩⟩
          go_wp2_with fail
          refine (Bi.calls k a0_0 a0_1 A0_2 c0_2 l0_2 a1 a2 a3 _ r1 r2 r3 r4 _ (Kd.Bo hr0_2 (below_drewN HBW.out _)) hc0_2 h).mono ?_
          rintro e w2 ⟨v2, rfl, ho, hb⟩
          have HZ2 := Ac.mk (Ak (Ab HZR.out _) hb)
          have HB2 := Ac.mk (At (below_drewN HBW.out _) hb)
          have HO := Ac.mk (Kd.Br ho (show w.heap.size ≤ (((w.alloc (.cells #[.int .i64 a0_0, .int .i64 a0_1, .slice A0_2 l0_2.length c0_2] 25)).alloc (.cells #[.int .i64 0, .int .i64 0, .slice none 0 0] 25)).drewN nd).heap.size by simp; omega))
          obtain ⟨A9, c9, e9⟩ := Kd.Bw ho
          subst e9
          have m0 : w2.cell? ⟨w.heap.size + 1, 0, none⟩ = some (.int .i64 0) := (Ag HZ2.out 0).trans rfl
          have m1 : w2.cell? ⟨w.heap.size + 1, 1, none⟩ = some (.int .i64 0) := (Ag HZ2.out 1).trans rfl
          have m2 : w2.cell? ⟨w.heap.size + 1, 2, none⟩ = some (.slice none 0 0) := (Ag HZ2.out 2).trans rfl
          have f0 := Ah HZ2.out 0
          have f1 := Ah HZ2.out 1
          have f2 := Ah HZ2.out 2
          clear ho hb HZR HBW
          go_wp2
          refine bodyPost_ret (results_ct rfl _ _ (w.heap.size + 1) 25 #[.int .i64 r1, .int .i64 r2, .slice A9 r3.length c9] (0, 0) _ rfl ?_ Try.underlying25 rfl (by kernel_rfl)) rfl ?_
          · exact Aq (Aq (Aq HZ2.out 0 _ rfl) 1 _ rfl) 2 _ rfl
          · exact ⟨_, rfl, Kd.B0 (Kd.B0 (Kd.B0 HO.out HZ2.out (by decide) 0 _) (Aq HZ2.out 0 _ rfl) (by decide) 1 _) (Aq (Aq HZ2.out 0 _ rfl) 1 _ rfl) (by decide) 2 _, ((HB2.out.setCell (show w.heap.size ≤ w.heap.size + 1 by omega) _).setCell (show w.heap.size ≤ w.heap.size + 1 by omega) _).setCell (show w.heap.size ≤ w.heap.size + 1 by omega) _⟩
        · have d4 : decide (a3 ≤ 15) = false := decide_eq_false q4
          have hn : kOf (fun _ => 0) a2 a3 = 0 := by unfold kOf; rw [if_neg (fun hh => q4 hh.2.2.2)]
          rw [hn] at h
          go_enter Try.func33, Try.ntmps33
          go_wp2_with fail
          refine (Bi.calls k a0_0 a0_1 A0_2 c0_2 l0_2 a1 a2 a3 _ r1 r2 r3 r4 _ (Kd.Bo hr0_2 HBW.out) hc0_2 h).mono ?_
          rintro e w2 ⟨v2, rfl, ho, hb⟩
          have HZ2 := Ac.mk (Ak HZR.out hb)
          have HB2 := Ac.mk (At HBW.out hb)
          have HO := Ac.mk (Kd.Br ho (show w.heap.size ≤ (((w.alloc (.cells #[.int .i64 a0_0, .int .i64 a0_1, .slice A0_2 l0_2.length c0_2] 25)).alloc (.cells #[.int .i64 0, .int .i64 0, .slice none 0 0] 25))).heap.size by simp; omega))
          obtain ⟨A9, c9, e9⟩ := Kd.Bw ho
          subst e9
          have m0 : w2.cell? ⟨w.heap.size + 1, 0, none⟩ = some (.int .i64 0) := (Ag HZ2.out 0).trans rfl
          have m1 : w2.cell? ⟨w.heap.size + 1, 1, none⟩ = some (.int .i64 0) := (Ag HZ2.out 1).trans rfl
          have m2 : w2.cell? ⟨w.heap.size + 1, 2, none⟩ = some (.slice none 0 0) := (Ag HZ2.out 2).trans rfl
          have f0 := Ah HZ2.out 0
          have f1 := Ah HZ2.out 1
          have f2 := Ah HZ2.out 2
          clear ho hb HZR HBW
          go_wp2
          refine bodyPost_ret (results_ct rfl _ _ (w.heap.size + 1) 25 #[.int .i64 r1, .int .i64 r2, .slice A9 r3.length c9] (0, 0) _ rfl ?_ Try.underlying25 rfl (by kernel_rfl)) rfl ?_
          · exact Aq (Aq (Aq HZ2.out 0 _ rfl) 1 _ rfl) 2 _ rfl
          · exact ⟨_, rfl, Kd.B0 (Kd.B0 (Kd.B0 HO.out HZ2.out (by decide) 0 _) (Aq HZ2.out 0 _ rfl) (by decide) 1 _) (Aq (Aq HZ2.out 0 _ rfl) 1 _ rfl) (by decide) 2 _, ((HB2.out.setCell (show w.heap.size ≤ w.heap.size + 1 by omega) _).setCell (show w.heap.size ≤ w.heap.size + 1 by omega) _).setCell (show w.heap.size ≤ w.heap.size + 1 by omega) _⟩
      · have d3 : decide (a2 ≤ 15) = false := decide_eq_false q3
        have hn : kOf (fun _ => 0) a2 a3 = 0 := by unfold kOf; rw [if_neg (fun hh => q3 hh.2.2.1)]
        rw [hn] at h
        go_enter Try.func33, Try.ntmps33
        go_wp2_with fail
        refine (Bi.calls k a0_0 a0_1 A0_2 c0_2 l0_2 a1 a2 a3 _ r1 r2 r3 r4 _ (Kd.Bo hr0_2 HBW.out) hc0_2 h).mono ?_
        rintro e w2 ⟨v2, rfl, ho, hb⟩
        have HZ2 := Ac.mk (Ak HZR.out hb)
        have HB2 := Ac.mk (At HBW.out hb)
        have HO := Ac.mk (Kd.Br ho (show w.heap.size ≤ (((w.alloc (.cells #[.int .i64 a0_0, .int .i64 a0_1, .slice A0_2 l0_2.length c0_2] 25)).alloc (.cells #[.int .i64 0, .int .i64 0, .slice none 0 0] 25))).heap.size by simp; omega))
        obtain ⟨A9, c9, e9⟩ := Kd.Bw ho
        subst e9
        have m0 : w2.cell? ⟨w.heap.size + 1, 0, none⟩ = some (.int .i64 0) := (Ag HZ2.out 0).trans rfl
        have m1 : w2.cell? ⟨w.heap.size + 1, 1, none⟩ = some (.int .i64 0) := (Ag HZ2.out 1).trans rfl
        have m2 : w2.cell? ⟨w.heap.size + 1, 2, none⟩ = some (.slice none 0 0) := (Ag HZ2.out 2).trans rfl
        have f0 := Ah HZ2.out 0
        have f1 := Ah HZ2.out 1
        have f2 := Ah HZ2.out 2
        clear ho hb HZR HBW
        go_wp2
        refine bodyPost_ret (results_ct rfl _ _ (w.heap.size + 1) 25 #[.int .i64 r1, .int .i64 r2, .slice A9 r3.length c9] (0, 0) _ rfl ?_ Try.underlying25 rfl (by kernel_rfl)) rfl ?_
        · exact Aq (Aq (Aq HZ2.out 0 _ rfl) 1 _ rfl) 2 _ rfl
        · exact ⟨_, rfl, Kd.B0 (Kd.B0 (Kd.B0 HO.out HZ2.out (by decide) 0 _) (Aq HZ2.out 0 _ rfl) (by decide) 1 _) (Aq (Aq HZ2.out 0 _ rfl) 1 _ rfl) (by decide) 2 _, ((HB2.out.setCell (show w.heap.size ≤ w.heap.size + 1 by omega) _).setCell (show w.heap.size ≤ w.heap.size + 1 by omega) _).setCell (show w.heap.size ≤ w.heap.size + 1 by omega) _⟩
    · have d2 : decide (1 ≤ a3) = false := decide_eq_false q2
      have hn : kOf (fun _ => 0) a2 a3 = 0 := by unfold kOf; rw [if_neg (fun hh => q2 hh.2.1)]
      rw [hn] at h
      go_enter Try.func33, Try.ntmps33
      go_wp2_with fail
      refine (Bi.calls k a0_0 a0_1 A0_2 c0_2 l0_2 a1 a2 a3 _ r1 r2 r3 r4 _ (Kd.Bo hr0_2 HBW.out) hc0_2 h).mono ?_
      rintro e w2 ⟨v2, rfl, ho, hb⟩
      have HZ2 := Ac.mk (Ak HZR.out hb)
      have HB2 := Ac.mk (At HBW.out hb)
      have HO := Ac.mk (Kd.Br ho (show w.heap.size ≤ (((w.alloc (.cells #[.int .i64 a0_0, .int .i64 a0_1, .slice A0_2 l0_2.length c0_2] 25)).alloc (.cells #[.int .i64 0, .int .i64 0, .slice none 0 0] 25))).heap.size by simp; omega))
      obtain ⟨A9, c9, e9⟩ := Kd.Bw ho
      subst e9
      have m0 : w2.cell? ⟨w.heap.size + 1, 0, none⟩ = some (.int .i64 0) := (Ag HZ2.out 0).trans rfl
      have m1 : w2.cell? ⟨w.heap.size + 1, 1, none⟩ = some (.int .i64 0) := (Ag HZ2.out 1).trans rfl
      have m2 : w2.cell? ⟨w.heap.size + 1, 2, none⟩ = some (.slice none 0 0) := (Ag HZ2.out 2).trans rfl
      have f0 := Ah HZ2.out 0
      have f1 := Ah HZ2.out 1
      have f2 := Ah HZ2.out 2
      clear ho hb HZR HBW
      go_wp2
      refine bodyPost_ret (results_ct rfl _ _ (w.heap.size + 1) 25 #[.int .i64 r1, .int .i64 r2, .slice A9 r3.length c9] (0, 0) _ rfl ?_ Try.underlying25 rfl (by kernel_rfl)) rfl ?_
      · exact Aq (Aq (Aq HZ2.out 0 _ rfl) 1 _ rfl) 2 _ rfl
      · exact ⟨_, rfl, Kd.B0 (Kd.B0 (Kd.B0 HO.out HZ2.out (by decide) 0 _) (Aq HZ2.out 0 _ rfl) (by decide) 1 _) (Aq (Aq HZ2.out 0 _ rfl) 1 _ rfl) (by decide) 2 _, ((HB2.out.setCell (show w.heap.size ≤ w.heap.size + 1 by omega) _).setCell (show w.heap.size ≤ w.heap.size + 1 by omega) _).setCell (show w.heap.size ≤ w.heap.size + 1 by omega) _⟩
  · have d1 : decide (1 ≤ a2) = false := decide_eq_false q1
    have hn : kOf (fun _ => 0) a2 a3 = 0 := by unfold kOf; rw [if_neg (fun hh => q1 hh.1)]
    rw [hn] at h
    go_enter Try.func33, Try.ntmps33
    go_wp2_with fail
    refine (Bi.calls k a0_0 a0_1 A0_2 c0_2 l0_2 a1 a2 a3 _ r1 r2 r3 r4 _ (Kd.Bo hr0_2 HBW.out) hc0_2 h).mono ?_
    rintro e w2 ⟨v2, rfl, ho, hb⟩
    have HZ2 := Ac.mk (Ak HZR.out hb)
    have HB2 := Ac.mk (At HBW.out hb)
    have HO := Ac.mk (Kd.Br ho (show w.heap.size ≤ (((w.alloc (.cells #[.int .i64 a0_0, .int .i64 a0_1, .slice A0_2 l0_2.length c0_2] 25)).alloc (.cells #[.int .i64 0, .int .i64 0, .slice none 0 0] 25))).heap.size by simp; omega))
    obtain ⟨A9, c9, e9⟩ := Kd.Bw ho
    subst e9
    have m0 : w2.cell? ⟨w.heap.size + 1, 0, none⟩ = some (.int .i64 0) := (Ag HZ2.out 0).trans rfl
    have m1 : w2.cell? ⟨w.heap.size + 1, 1, none⟩ = some (.int .i64 0) := (Ag HZ2.out 1).trans rfl
    have m2 : w2.cell? ⟨w.heap.size + 1, 2, none⟩ = some (.slice none 0 0) := (Ag HZ2.out 2).trans rfl
    have f0 := Ah HZ2.out 0
    have f1 := Ah HZ2.out 1
    have f2 := Ah HZ2.out 2
    clear ho hb HZR HBW
    go_wp2
    refine bodyPost_ret (results_ct rfl _ _ (w.heap.size + 1) 25 #[.int .i64 r1, .int .i64 r2, .slice A9 r3.length c9] (0, 0) _ rfl ?_ Try.underlying25 rfl (by kernel_rfl)) rfl ?_
    · exact Aq (Aq (Aq HZ2.out 0 _ rfl) 1 _ rfl) 2 _ rfl
    · exact ⟨_, rfl, Kd.B0 (Kd.B0 (Kd.B0 HO.out HZ2.out (by decide) 0 _) (Aq HZ2.out 0 _ rfl) (by decide) 1 _) (Aq (Aq HZ2.out 0 _ rfl) 1 _ rfl) (by decide) 2 _, ((HB2.out.setCell (show w.heap.size ≤ w.heap.size + 1 by omega) _).setCell (show w.heap.size ≤ w.heap.size + 1 by omega) _).setCell (show w.heap.size ≤ w.heap.size + 1 by omega) _⟩
set_option maxHeartbeats 8000000 in
set_option maxRecDepth 100000 in
theorem Ch.calls (k : Nat) (a0_0 : Int) (a0_1 : Int) (A0_2 : Option Addr) (c0_2 : Nat) (l0_2 : List Int) (a1 : Int) (a2 : Int) (a3 : Int) (r1 : Int) (r2 : Int) (r3 : List Int) (r4 : Int) (w : World) (hr0_2 : Kd.C (Kd.int .u32) w A0_2 l0_2.length l0_2) (hc0_2 : l0_2.length ≤ c0_2)
    (h : Ch.f k a0_0 a0_1 l0_2 a1 a2 a3 = some (r1, r2, r3, r4)) :
    Calls Try.prog 18 #[.agg #[.int .i64 a0_0, .int .i64 a0_1, .slice A0_2 l0_2.length c0_2], .int .i64 a1, .int .i64 a2, .int .i64 a3] w fun e w' => ∃ v2_ : Value, e = .returned (.tuple #[.agg #[.int .i64 r1, .int .i64 r2, v2_], .int .i64 r4]) ∧ Kd.R (Kd.int .u32) 41 w' w.heap.size (fun _ => True) v2_ r3 ∧ Below w.heap.size w w' := by
  have hzr : ((w.alloc (.cells #[.int .i64 a0_0, .int .i64 a0_1, .slice A0_2 l0_2.length c0_2] 25)).alloc (.cells #[.int .i64 0, .int .i64 0, .slice none 0 0] 25)).heap[w.heap.size + 1]? = some (.cells #[.int .i64 0, .int .i64 0, .slice none 0 0] 25 (0, 0)) := by
    have := heap_alloc_new (w.alloc (.cells #[.int .i64 a0_0, .int .i64 a0_1, .slice A0_2 l0_2.length c0_2] 25)) (.cells #[.int .i64 0, .int .i64 0, .slice none 0 0] 25)
    simpa using this
  have hbw : Below w.heap.size w ((w.alloc (.cells #[.int .i64 a0_0, .int .i64 a0_1, .slice A0_2 l0_2.length c0_2] 25)).alloc (.cells #[.int .i64 0, .int .i64 0, .slice none 0 0] 25)) := Ai (Ai (Below.refl _ _) _) _
  have HZR := Ac.mk hzr
  have HBW := Ac.mk hbw
  clear hzr hbw
  go_enter Try.func18, Try.ntmps18
  go_wp2_with fail
  refine (ranked35 k a0_0 a0_1 A0_2 c0_2 l0_2 a1 a2 a3 r1 r2 r3 r4 _ (Kd.Bo hr0_2 HBW.out) hc0_2 h).mono ?_
  rintro e w2 ⟨v2, rfl, ho, hb⟩
  have HZ2 := Ac.mk (Ak HZR.out hb)
  have HB2 := Ac.mk (At HBW.out hb)
  have HO := Ac.mk (Kd.Br ho (show w.heap.size ≤ (((w.alloc (.cells #[.int .i64 a0_0, .int .i64 a0_1, .slice A0_2 l0_2.length c0_2] 25)).alloc (.cells #[.int .i64 0, .int .i64 0, .slice none 0 0] 25))).heap.size by simp; omega))
  obtain ⟨A9, c9, e9⟩ := Kd.Bw ho
  subst e9
  have m0 : w2.cell? ⟨w.heap.size + 1, 0, none⟩ = some (.int .i64 0) := (Ag HZ2.out 0).trans rfl
  have m1 : w2.cell? ⟨w.heap.size + 1, 1, none⟩ = some (.int .i64 0) := (Ag HZ2.out 1).trans rfl
  have m2 : w2.cell? ⟨w.heap.size + 1, 2, none⟩ = some (.slice none 0 0) := (Ag HZ2.out 2).trans rfl
  have f0 := Ah HZ2.out 0
  have f1 := Ah HZ2.out 1
  have f2 := Ah HZ2.out 2
  clear ho hb HZR HBW
  go_wp2
  refine bodyPost_ret (results_ct rfl _ _ (w.heap.size + 1) 25 #[.int .i64 r1, .int .i64 r2, .slice A9 r3.length c9] (0, 0) _ rfl ?_ Try.underlying25 rfl (by kernel_rfl)) rfl ?_
  · exact Aq (Aq (Aq HZ2.out 0 _ rfl) 1 _ rfl) 2 _ rfl
  · exact ⟨_, rfl, Kd.B0 (Kd.B0 (Kd.B0 HO.out HZ2.out (by decide) 0 _) (Aq HZ2.out 0 _ rfl) (by decide) 1 _) (Aq (Aq HZ2.out 0 _ rfl) 1 _ rfl) (by decide) 2 _, ((HB2.out.setCell (show w.heap.size ≤ w.heap.size + 1 by omega) _).setCell (show w.heap.size ≤ w.heap.size + 1 by omega) _).setCell (show w.heap.size ≤ w.heap.size + 1 by omega) _⟩

set_option maxHeartbeats 1000000 in
theorem hk36 (n : Int) (w : World) : Calls Try.prog 36 #[.int .i64 n] w fun e w' => e = .returned (.int .i64 (wrap64 (n - 1))) ∧ ∃ q, w' = w.drewN q := by
  go_enter Try.func36, Try.ntmps36
  go_wp2
  go_ret
  exact ⟨rfl, 0, rfl⟩
def Cc.f (k : Nat) (a0_0 : Int) (a0_1 : Int) (l0_2 : List Int) (a1 : Int) (a2 : Int) (a3 : Int) : Option (Int × Int × List Int × Int) := Bi.f k a0_0 a0_1 l0_2 a1 a2 a3 (kOf (fun n => wrap64 (n - 1)) a2 a3)
set_option maxHeartbeats 8000000 in
set_option maxRecDepth 100000 in
theorem ranked36 (k : Nat) (a0_0 : Int) (a0_1 : Int) (A0_2 : Option Addr) (c0_2 : Nat) (l0_2 : List Int) (a1 : Int) (a2 : Int) (a3 : Int) (r1 : Int) (r2 : Int) (r3 : List Int) (r4 : Int) (w : World) (hr0_2 : Kd.C (Kd.int .u32) w A0_2 l0_2.length l0_2) (hc0_2 : l0_2.length ≤ c0_2)
    (h : Cc.f k a0_0 a0_1 l0_2 a1 a2 a3 = some (r1, r2, r3, r4)) :
    Calls Try.prog 33 #[.agg #[.int .i64 a0_0, .int .i64 a0_1, .slice A0_2 l0_2.length c0_2], .int .i64 a1, .int .i64 a2, .int .i64 a3, .func (.func 36) #[] #[]] w fun e w' => ∃ v2_ : Value, e = .returned (.tuple #[.agg #[.int .i64 r1, .int .i64 r2, v2_], .int .i64 r4]) ∧ Kd.R (Kd.int .u32) 41 w' w.heap.size (fun _ => True) v2_ r3 ∧ Below w.heap.size w w' := by
  unfold Cc.f at h
  have hzr : ((w.alloc (.cells #[.int .i64 a0_0, .int .i64 a0_1, .slice A0_2 l0_2.length c0_2] 25)).alloc (.cells #[.int .i64 0, .int .i64 0, .slice none 0 0] 25)).heap[w.heap.size + 1]? = some (.cells #[.int .i64 0, .int .i64 0, .slice none 0 0] 25 (0, 0)) := by
    have := heap_alloc_new (w.alloc (.cells #[.int .i64 a0_0, .int .i64 a0_1, .slice A0_2 l0_2.length c0_2] 25)) (.cells #[.int .i64 0, .int .i64 0, .slice none 0 0] 25)
    simpa using this
  have hbw : Below w.heap.size w ((w.alloc (.cells #[.int .i64 a0_0, .int .i64 a0_1, .slice A0_2 l0_2.length c0_2] 25)).alloc (.cells #[.int .i64 0, .int .i64 0, .slice none 0 0] 25)) := Ai (Ai (Below.refl _ _) _) _
  have HZR := Ac.mk hzr
  have HBW := Ac.mk hbw
  clear hzr hbw
  by_cases q1 : 1 ≤ a2
  · have d1 : decide (1 ≤ a2) = true := decide_eq_true q1
    by_cases q2 : 1 ≤ a3
    · have d2 : decide (1 ≤ a3) = true := decide_eq_true q2
      by_cases q3 : a2 ≤ 15
      · have d3 : decide (a2 ≤ 15) = true := decide_eq_true q3
        by_cases q4 : a3 ≤ 15
        · have d4 : decide (a3 ≤ 15) = true := decide_eq_true q4
          have hn : kOf (fun n => wrap64 (n - 1)) a2 a3 = wrap64 ((wrap64 (a2 * a3)) - 1) := by unfold kOf; rw [if_pos ⟨q1, q2, q3, q4⟩]
          rw [hn] at h
          go_enter Try.func33, Try.ntmps33
          go_wp2_with fail
          refine (hk36 _ _).mono ?_
          rintro e w1 ⟨rfl, ⟨nd, rfl⟩⟩
          go_wp2_with fail
          refine (Bi.calls k a0_0 a0_1 A0_2 c0_2 l0_2 a1 a2 a3 _ r1 r2 r3 r4 _ (Kd.Bo hr0_2 (below_drewN HBW.out _)) hc0_2 h).mono ?_
          rintro e w2 ⟨v2, rfl, ho, hb⟩
          have HZ2 := Ac.mk (Ak (Ab HZR.out _) hb)
          have HB2 := Ac.mk (At (below_drewN HBW.out _) hb)
          have HO := Ac.mk (Kd.Br ho (show w.heap.size ≤ (((w.alloc (.cells #[.int .i64 a0_0, .int .i64 a0_1, .slice A0_2 l0_2.length c0_2] 25)).alloc (.cells #[.int .i64 0, .int .i64 0, .slice none 0 0] 25)).drewN nd).heap.size by simp; omega))
          obtain ⟨A9, c9, e9⟩ := Kd.Bw ho
          subst e9
          have m0 : w2.cell? ⟨w.heap.size + 1, 0, none⟩ = some (.int .i64 0) := (Ag HZ2.out 0).trans rfl
          have m1 : w2.cell? ⟨w.heap.size + 1, 1, none⟩ = some (.int .i64 0) := (Ag HZ2.out 1).trans rfl
          have m2 : w2.cell? ⟨w.heap.size + 1, 2, none⟩ = some (.slice none 0 0) := (Ag HZ2.out 2).trans rfl
          have f0 := Ah HZ2.out 0
          have f1 := Ah HZ2.out 1
          have f2 := Ah HZ2.out 2
          clear ho hb HZR HBW
          go_wp2
          refine bodyPost_ret (results_ct rfl _ _ (w.heap.size + 1) 25 #[.int .i64 r1, .int .i64 r2, .slice A9 r3.length c9] (0, 0) _ rfl ?_ Try.underlying25 rfl (by kernel_rfl)) rfl ?_
          · exact Aq (Aq (Aq HZ2.out 0 _ rfl) 1 _ rfl) 2 _ rfl
          · exact ⟨_, rfl, Kd.B0 (Kd.B0 (Kd.B0 HO.out HZ2.out (by decide) 0 _) (Aq HZ2.out 0 _ rfl) (by decide) 1 _) (Aq (Aq HZ2.out 0 _ rfl) 1 _ rfl) (by decide) 2 _, ((HB2.out.setCell (show w.heap.size ≤ w.heap.size + 1 by omega) _).setCell (show w.heap.size ≤ w.heap.size + 1 by omega) _).setCell (show w.heap.size ≤ w.heap.size + 1 by omega) _⟩
        · have d4 : decide (a3 ≤ 15) = false := decide_eq_false q4
          have hn : kOf (fun n => wrap64 (n - 1)) a2 a3 = 0 := by unfold kOf; rw [if_neg (fun hh => q4 hh.2.2.2)]
          rw [hn] at h
          go_enter Try.func33, Try.ntmps33
          go_wp2_with fail
          refine (Bi.calls k a0_0 a0_1 A0_2 c0_2 l0_2 a1 a2 a3 _ r1 r2 r3 r4 _ (Kd.Bo hr0_2 HBW.out) hc0_2 h).mono ?_
          rintro e w2 ⟨v2, rfl, ho, hb⟩
          have HZ2 := Ac.mk (Ak HZR.out hb)
          have HB2 := Ac.mk (At HBW.out hb)
          have HO := Ac.mk (Kd.Br ho (show w.heap.size ≤ (((w.alloc (.cells #[.int .i64 a0_0, .int .i64 a0_1, .slice A0_2 l0_2.length c0_2] 25)).alloc (.cells #[.int .i64 0, .int .i64 0, .slice none 0 0] 25))).heap.size by simp; omega))
          obtain ⟨A9, c9, e9⟩ := Kd.Bw ho
          subst e9
          have m0 : w2.cell? ⟨w.heap.size + 1, 0, none⟩ = some (.int .i64 0) := (Ag HZ2.out 0).trans rfl
          have m1 : w2.cell? ⟨w.heap.size + 1, 1, none⟩ = some (.int .i64 0) := (Ag HZ2.out 1).trans rfl
          have m2 : w2.cell? ⟨w.heap.size + 1, 2, none⟩ = some (.slice none 0 0) := (Ag HZ2.out 2).trans rfl
          have f0 := Ah HZ2.out 0
          have f1 := Ah HZ2.out 1
          have f2 := Ah HZ2.out 2
          clear ho hb HZR HBW
          go_wp2
          refine bodyPost_ret (results_ct rfl _ _ (w.heap.size + 1) 25 #[.int .i64 r1, .int .i64 r2, .slice A9 r3.length c9] (0, 0) _ rfl ?_ Try.underlying25 rfl (by kernel_rfl)) rfl ?_
          · exact Aq (Aq (Aq HZ2.out 0 _ rfl) 1 _ rfl) 2 _ rfl
          · exact ⟨_, rfl, Kd.B0 (Kd.B0 (Kd.B0 HO.out HZ2.out (by decide) 0 _) (Aq HZ2.out 0 _ rfl) (by decide) 1 _) (Aq (Aq HZ2.out 0 _ rfl) 1 _ rfl) (by decide) 2 _, ((HB2.out.setCell (show w.heap.size ≤ w.heap.size + 1 by omega) _).setCell (show w.heap.size ≤ w.heap.size + 1 by omega) _).setCell (show w.heap.size ≤ w.heap.size + 1 by omega) _⟩
      · have d3 : decide (a2 ≤ 15) = false := decide_eq_false q3
        have hn : kOf (fun n => wrap64 (n - 1)) a2 a3 = 0 := by unfold kOf; rw [if_neg (fun hh => q3 hh.2.2.1)]
        rw [hn] at h
        go_enter Try.func33, Try.ntmps33
        go_wp2_with fail
        refine (Bi.calls k a0_0 a0_1 A0_2 c0_2 l0_2 a1 a2 a3 _ r1 r2 r3 r4 _ (Kd.Bo hr0_2 HBW.out) hc0_2 h).mono ?_
        rintro e w2 ⟨v2, rfl, ho, hb⟩
        have HZ2 := Ac.mk (Ak HZR.out hb)
        have HB2 := Ac.mk (At HBW.out hb)
        have HO := Ac.mk (Kd.Br ho (show w.heap.size ≤ (((w.alloc (.cells #[.int .i64 a0_0, .int .i64 a0_1, .slice A0_2 l0_2.length c0_2] 25)).alloc (.cells #[.int .i64 0, .int .i64 0, .slice none 0 0] 25))).heap.size by simp; omega))
        obtain ⟨A9, c9, e9⟩ := Kd.Bw ho
        subst e9
        have m0 : w2.cell? ⟨w.heap.size + 1, 0, none⟩ = some (.int .i64 0) := (Ag HZ2.out 0).trans rfl
        have m1 : w2.cell? ⟨w.heap.size + 1, 1, none⟩ = some (.int .i64 0) := (Ag HZ2.out 1).trans rfl
        have m2 : w2.cell? ⟨w.heap.size + 1, 2, none⟩ = some (.slice none 0 0) := (Ag HZ2.out 2).trans rfl
        have f0 := Ah HZ2.out 0
        have f1 := Ah HZ2.out 1
        have f2 := Ah HZ2.out 2
        clear ho hb HZR HBW
        go_wp2
        refine bodyPost_ret (results_ct rfl _ _ (w.heap.size + 1) 25 #[.int .i64 r1, .int .i64 r2, .slice A9 r3.length c9] (0, 0) _ rfl ?_ Try.underlying25 rfl (by kernel_rfl)) rfl ?_
        · exact Aq (Aq (Aq HZ2.out 0 _ rfl) 1 _ rfl) 2 _ rfl
        · exact ⟨_, rfl, Kd.B0 (Kd.B0 (Kd.B0 HO.out HZ2.out (by decide) 0 _) (Aq HZ2.out 0 _ rfl) (by decide) 1 _) (Aq (Aq HZ2.out 0 _ rfl) 1 _ rfl) (by decide) 2 _, ((HB2.out.setCell (show w.heap.size ≤ w.heap.size + 1 by omega) _).setCell (show w.heap.size ≤ w.heap.size + 1 by omega) _).setCell (show w.heap.size ≤ w.heap.size + 1 by omega) _⟩
    · have d2 : decide (1 ≤ a3) = false := decide_eq_false q2
      have hn : kOf (fun n => wrap64 (n - 1)) a2 a3 = 0 := by unfold kOf; rw [if_neg (fun hh => q2 hh.2.1)]
      rw [hn] at h
      go_enter Try.func33, Try.ntmps33
      go_wp2_with fail
      refine (Bi.calls k a0_0 a0_1 A0_2 c0_2 l0_2 a1 a2 a3 _ r1 r2 r3 r4 _ (Kd.Bo hr0_2 HBW.out) hc0_2 h).mono ?_
      rintro e w2 ⟨v2, rfl, ho, hb⟩
      have HZ2 := Ac.mk (Ak HZR.out hb)
      have HB2 := Ac.mk (At HBW.out hb)
      have HO := Ac.mk (Kd.Br ho (show w.heap.size ≤ (((w.alloc (.cells #[.int .i64 a0_0, .int .i64 a0_1, .slice A0_2 l0_2.length c0_2] 25)).alloc (.cells #[.int .i64 0, .int .i64 0, .slice none 0 0] 25))).heap.size by simp; omega))
      obtain ⟨A9, c9, e9⟩ := Kd.Bw ho
      subst e9
      have m0 : w2.cell? ⟨w.heap.size + 1, 0, none⟩ = some (.int .i64 0) := (Ag HZ2.out 0).trans rfl
      have m1 : w2.cell? ⟨w.heap.size + 1, 1, none⟩ = some (.int .i64 0) := (Ag HZ2.out 1).trans rfl
      have m2 : w2.cell? ⟨w.heap.size + 1, 2, none⟩ = some (.slice none 0 0) := (Ag HZ2.out 2).trans rfl
      have f0 := Ah HZ2.out 0
      have f1 := Ah HZ2.out 1
      have f2 := Ah HZ2.out 2
      clear ho hb HZR HBW
      go_wp2
      refine bodyPost_ret (results_ct rfl _ _ (w.heap.size + 1) 25 #[.int .i64 r1, .int .i64 r2, .slice A9 r3.length c9] (0, 0) _ rfl ?_ Try.underlying25 rfl (by kernel_rfl)) rfl ?_
      · exact Aq (Aq (Aq HZ2.out 0 _ rfl) 1 _ rfl) 2 _ rfl
      · exact ⟨_, rfl, Kd.B0 (Kd.B0 (Kd.B0 HO.out HZ2.out (by decide) 0 _) (Aq HZ2.out 0 _ rfl) (by decide) 1 _) (Aq (Aq HZ2.out 0 _ rfl) 1 _ rfl) (by decide) 2 _, ((HB2.out.setCell (show w.heap.size ≤ w.heap.size + 1 by omega) _).setCell (show w.heap.size ≤ w.heap.size + 1 by omega) _).setCell (show w.heap.size ≤ w.heap.size + 1 by omega) _⟩
  · have d1 : decide (1 ≤ a2) = false := decide_eq_false q1
    have hn : kOf (fun n => wrap64 (n - 1)) a2 a3 = 0 := by unfold kOf; rw [if_neg (fun hh => q1 hh.1)]
    rw [hn] at h
    go_enter Try.func33, Try.ntmps33
    go_wp2_with fail
    refine (Bi.calls k a0_0 a0_1 A0_2 c0_2 l0_2 a1 a2 a3 _ r1 r2 r3 r4 _ (Kd.Bo hr0_2 HBW.out) hc0_2 h).mono ?_
    rintro e w2 ⟨v2, rfl, ho, hb⟩
    have HZ2 := Ac.mk (Ak HZR.out hb)
    have HB2 := Ac.mk (At HBW.out hb)
    have HO := Ac.mk (Kd.Br ho (show w.heap.size ≤ (((w.alloc (.cells #[.int .i64 a0_0, .int .i64 a0_1, .slice A0_2 l0_2.length c0_2] 25)).alloc (.cells #[.int .i64 0, .int .i64 0, .slice none 0 0] 25))).heap.size by simp; omega))
    obtain ⟨A9, c9, e9⟩ := Kd.Bw ho
    subst e9
    have m0 : w2.cell? ⟨w.heap.size + 1, 0, none⟩ = some (.int .i64 0) := (Ag HZ2.out 0).trans rfl
    have m1 : w2.cell? ⟨w.heap.size + 1, 1, none⟩ = some (.int .i64 0) := (Ag HZ2.out 1).trans rfl
    have m2 : w2.cell? ⟨w.heap.size + 1, 2, none⟩ = some (.slice none 0 0) := (Ag HZ2.out 2).trans rfl
    have f0 := Ah HZ2.out 0
    have f1 := Ah HZ2.out 1
    have f2 := Ah HZ2.out 2
    clear ho hb HZR HBW
    go_wp2
    refine bodyPost_ret (results_ct rfl _ _ (w.heap.size + 1) 25 #[.int .i64 r1, .int .i64 r2, .slice A9 r3.length c9] (0, 0) _ rfl ?_ Try.underlying25 rfl (by kernel_rfl)) rfl ?_
    · exact Aq (Aq (Aq HZ2.out 0 _ rfl) 1 _ rfl) 2 _ rfl
    · exact ⟨_, rfl, Kd.B0 (Kd.B0 (Kd.B0 HO.out HZ2.out (by decide) 0 _) (Aq HZ2.out 0 _ rfl) (by decide) 1 _) (Aq (Aq HZ2.out 0 _ rfl) 1 _ rfl) (by decide) 2 _, ((HB2.out.setCell (show w.heap.size ≤ w.heap.size + 1 by omega) _).setCell (show w.heap.size ≤ w.heap.size + 1 by omega) _).setCell (show w.heap.size ≤ w.heap.size + 1 by omega) _⟩
set_option maxHeartbeats 8000000 in
set_option maxRecDepth 100000 in
theorem Cc.calls (k : Nat) (a0_0 : Int) (a0_1 : Int) (A0_2 : Option Addr) (c0_2 : Nat) (l0_2 : List Int) (a1 : Int) (a2 : Int) (a3 : Int) (r1 : Int) (r2 : Int) (r3 : List Int) (r4 : Int) (w : World) (hr0_2 : Kd.C (Kd.int .u32) w A0_2 l0_2.length l0_2) (hc0_2 : l0_2.length ≤ c0_2)
    (h : Cc.f k a0_0 a0_1 l0_2 a1 a2 a3 = some (r1, r2, r3, r4)) :
    Calls Try.prog 19 #[.agg #[.int .i64 a0_0, .int .i64 a0_1, .slice A0_2 l0_2.length c0_2], .int .i64 a1, .int .i64 a2, .int .i64 a3] w fun e w' => ∃ v2_ : Value, e = .returned (.tuple #[.agg #[.int .i64 r1, .int .i64 r2, v2_], .int .i64 r4]) ∧ Kd.R (Kd.int .u32) 41 w' w.heap.size (fun _ => True) v2_ r3 ∧ Below w.heap.size w w' := by
  have hzr : ((w.alloc (.cells #[.int .i64 a0_0, .int .i64 a0_1, .slice A0_2 l0_2.length c0_2] 25)).alloc (.cells #[.int .i64 0, .int .i64 0, .slice none 0 0] 25)).heap[w.heap.size + 1]? = some (.cells #[.int .i64 0, .int .i64 0, .slice none 0 0] 25 (0, 0)) := by
    have := heap_alloc_new (w.alloc (.cells #[.int .i64 a0_0, .int .i64 a0_1, .slice A0_2 l0_2.length c0_2] 25)) (.cells #[.int .i64 0, .int .i64 0, .slice none 0 0] 25)
    simpa using this
  have hbw : Below w.heap.size w ((w.alloc (.cells #[.int .i64 a0_0, .int .i64 a0_1, .slice A0_2 l0_2.length c0_2] 25)).alloc (.cells #[.int .i64 0, .int .i64 0, .slice none 0 0] 25)) := Ai (Ai (Below.refl _ _) _) _
  have HZR := Ac.mk hzr
  have HBW := Ac.mk hbw
  clear hzr hbw
  go_enter Try.func19, Try.ntmps19
  go_wp2_with fail
  refine (ranked36 k a0_0 a0_1 A0_2 c0_2 l0_2 a1 a2 a3 r1 r2 r3 r4 _ (Kd.Bo hr0_2 HBW.out) hc0_2 h).mono ?_
  rintro e w2 ⟨v2, rfl, ho, hb⟩
  have HZ2 := Ac.mk (Ak HZR.out hb)
  have HB2 := Ac.mk (At HBW.out hb)
  have HO := Ac.mk (Kd.Br ho (show w.heap.size ≤ (((w.alloc (.cells #[.int .i64 a0_0, .int .i64 a0_1, .slice A0_2 l0_2.length c0_2] 25)).alloc (.cells #[.int .i64 0, .int .i64 0, .slice none 0 0] 25))).heap.size by simp; omega))
  obtain ⟨A9, c9, e9⟩ := Kd.Bw ho
  subst e9
  have m0 : w2.cell? ⟨w.heap.size + 1, 0, none⟩ = some (.int .i64 0) := (Ag HZ2.out 0).trans rfl
  have m1 : w2.cell? ⟨w.heap.size + 1, 1, none⟩ = some (.int .i64 0) := (Ag HZ2.out 1).trans rfl
  have m2 : w2.cell? ⟨w.heap.size + 1, 2, none⟩ = some (.slice none 0 0) := (Ag HZ2.out 2).trans rfl
  have f0 := Ah HZ2.out 0
  have f1 := Ah HZ2.out 1
  have f2 := Ah HZ2.out 2
  clear ho hb HZR HBW
  go_wp2
  refine bodyPost_ret (results_ct rfl _ _ (w.heap.size + 1) 25 #[.int .i64 r1, .int .i64 r2, .slice A9 r3.length c9] (0, 0) _ rfl ?_ Try.underlying25 rfl (by kernel_rfl)) rfl ?_
  · exact Aq (Aq (Aq HZ2.out 0 _ rfl) 1 _ rfl) 2 _ rfl
  · exact ⟨_, rfl, Kd.B0 (Kd.B0 (Kd.B0 HO.out HZ2.out (by decide) 0 _) (Aq HZ2.out 0 _ rfl) (by decide) 1 _) (Aq (Aq HZ2.out 0 _ rfl) 1 _ rfl) (by decide) 2 _, ((HB2.out.setCell (show w.heap.size ≤ w.heap.size + 1 by omega) _).setCell (show w.heap.size ≤ w.heap.size + 1 by omega) _).setCell (show w.heap.size ≤ w.heap.size + 1 by omega) _⟩
end Go.Proofs.Ythpmkelcjlljmaa

