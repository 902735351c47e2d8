-- Written by a program of this session (hprint.py: the kit's printer, with this session's contracts beside it). Lean checks it.
import Derived.Test.YtmipbbkieadecaaPDOx0
import Derived.Test.YtmipbbkieadecaaH1
import Derived.Test.YtmipbbkieadecaaPDAx3
import Derived.Test.YtmipbbkieadecaaPDAx5
import Derived.Test.YtmipbbkieadecaaPDBx2
namespace Go.Proofs.Ytmipbbkieadecaa.PDO
open Go.Proofs.Ytmipbbkieadecaa.PDA Go.Proofs.Ytmipbbkieadecaa.PDB Go.Proofs.Ytmipbbkieadecaa.PDC Go.Proofs.Ytmipbbkieadecaa.PDK
open Go.RowKit Go.Proofs.YtmipbbkieadecaaW.PrintWords Go.Proofs.YtmipbbkieadecaaW.PrintLast Go.Proofs.YtmipbbkieadecaaW.PrintMore
attribute [local go_sem] max2_int min2_int max_two min_two max_three min_three max_four min_four   -- for this text's walks alone
set_option linter.unusedVariables false
set_option linter.unusedSimpArgs false

/-! ### halideref13_Pick: function 47 -/
def halideref13_Pick.l0 : Nat → Int → Int → Int → Int → Int → Int → Option (Int)
  | 0, _, _, _, _, _, _ => none
  | k + 1, x1, x2, x11, x12, x13, x14 => if x14 < x1 then ((halideref13_Unit.f x1 x14).bind fun bt103 => (if bt103.1 ≤ x12 then (halideref13_Pick.l0 k x1 x2 x11 x12 x14 (wrap64 (x14 + 1))) else (halideref13_Pick.l0 k x1 x2 x11 x12 x13 (wrap64 (x14 + 1))))) else (if x13 < (wrap64 (x1 - 1)) then ((halideref13_Unit.f x1 x13).bind fun bt105 => ((halideref13_Unit.f x1 (wrap64 (x13 + 1))).bind fun bt107 => (if (wrap64 ((wrap64 ((wrap64 (2 * x2)) * x2)) * (wrap64 (x12 - bt105.1)))) > (wrap64 ((wrap64 ((wrap64 (2 * x11)) + 1)) * (wrap64 (bt107.1 - bt105.1)))) then ((halideref13_Level.f x1 (wrap64 (x13 + 1))).bind fun bt109 => (some bt109.1)) else ((halideref13_Level.f x1 x13).bind fun bt111 => (some bt111.1))))) else ((halideref13_Level.f x1 x13).bind fun bt113 => (some bt113.1)))
def halideref13_Pick.f (k : Nat) (a0 : Int) (a1 : Int) (a2 : Int) (a3 : Int) (a4 : Int) : Option (Int) := if a2 = 0 then (none) else ((halideref13_Cell.f k a2 (Int.tmod (wrap64 ((Int.tmod a3 a2) + a2)) a2) (Int.tmod (wrap64 ((Int.tmod a4 a2) + a2)) a2)).bind fun t101 => ((halideref13_Units.f k a0).bind fun t102 => (halideref13_Pick.l0 k a1 a2 t101 t102 0 0)))
theorem halideref13_Pick.mono_l : ∀ k, (∀ y0 y1 y2 y3 y4 y5, LeO (halideref13_Pick.l0 k y0 y1 y2 y3 y4 y5) (halideref13_Pick.l0 (k + 1) y0 y1 y2 y3 y4 y5))
  | 0 => fun _ _ _ _ _ _ r h => by simp [halideref13_Pick.l0] at h
  | k + 1 => by
    have ih0 := halideref13_Pick.mono_l k
    · intro y0 y1 y2 y3 y4 y5
      unfold halideref13_Pick.l0
      repeat' first
      | (with_reducible exact ih0 _ _ _ _ _ _)
      | (with_reducible exact halideref13_Cell.mono _ _ _ _)
      | (with_reducible exact halideref13_Units.mono _ _)
      | (with_reducible exact LeO.refl _)
      | (with_reducible exact LeO.none _)
      | (with_reducible refine LeO.ite ?_ ?_)
      | (with_reducible refine LeO.bind ?_ (fun _ => ?_))
      | exact ih0 _ _ _ _ _ _
      | exact halideref13_Cell.mono _ _ _ _
      | exact halideref13_Units.mono _ _
      | exact LeO.none _
      | refine LeO.ite ?_ ?_
      | refine LeO.bind ?_ (fun _ => ?_)
theorem halideref13_Pick.mono : ∀ a0 a1 a2 a3 a4 k, LeO (halideref13_Pick.f k a0 a1 a2 a3 a4) (halideref13_Pick.f (k + 1) a0 a1 a2 a3 a4) := by
  intro a0 a1 a2 a3 a4 k
  have ih0 := halideref13_Pick.mono_l k
  unfold halideref13_Pick.f
  repeat' first
      | (with_reducible exact ih0 _ _ _ _ _ _)
      | (with_reducible exact halideref13_Cell.mono _ _ _ _)
      | (with_reducible exact halideref13_Units.mono _ _)
      | (with_reducible exact LeO.refl _)
      | (with_reducible exact LeO.none _)
      | (with_reducible refine LeO.ite ?_ ?_)
      | (with_reducible refine LeO.bind ?_ (fun _ => ?_))
      | exact ih0 _ _ _ _ _ _
      | exact halideref13_Cell.mono _ _ _ _
      | exact halideref13_Units.mono _ _
      | exact LeO.none _
      | refine LeO.ite ?_ ?_
      | refine LeO.bind ?_ (fun _ => ?_)
def halideref13_Pick.T1 : Bool × List (List Nat × List Nat) := (true, [([], []), ([], []), ([], []), ([1, 2], [1, 2]), ([], []), ([3, 4], [3, 4]), ([], []), ([5, 6], [5, 6]), ([], []), ([], []), ([8, 9], [8, 9]), ([], []), ([10, 11], [10, 11]), ([], []), ([12, 13], [12, 13]), ([0, 7, 14], [0, 7, 14]), ([15, 15, 0, 1, 2, 3, 4, 5, 6, 7, 8, 9, 10, 11, 12, 13, 14, 15], [15])])
def halideref13_Pick.B1 : List Nat := [0, 0, 0, 6, 0, 30, 0, 126, 0, 0, 768, 0, 3840, 0, 16128, 32767, 65535]
theorem halideref13_Pick.tab1 : rtab .any (opsOf Try.f47 1) = halideref13_Pick.T1 := by kernel_rfl
theorem halideref13_Pick.bits1 : waitsOk halideref13_Pick.T1.2 halideref13_Pick.B1 = true := by kernel_rfl
set_option maxHeartbeats 8000000 in
set_option maxRecDepth 100000 in
theorem halideref13_Pick.calls (k : Nat) (a0 : Int) (a1 : Int) (a2 : Int) (a3 : Int) (a4 : Int) (r : Int) (w : World) (h : halideref13_Pick.f k a0 a1 a2 a3 a4 = some r) :
    Calls Try.prog 47 #[.int .u32 a0, .int .i64 a1, .int .i64 a2, .int .i64 a3, .int .i64 a4] w fun e w' => e = .returned (.int .u32 r) ∧ Below w.heap.size w w' := by
  have HB := Aside0.mk (Below.refl w.heap.size w)
  have H : (if a2 = 0 then (none) else ((halideref13_Cell.f k a2 (Int.tmod (wrap64 ((Int.tmod a3 a2) + a2)) a2) (Int.tmod (wrap64 ((Int.tmod a4 a2) + a2)) a2)).bind fun t101 => ((halideref13_Units.f k a0).bind fun t102 => (halideref13_Pick.l0 k a1 a2 t101 t102 0 0)))) = some r := h
  clear h
  by_cases c6 : a2 = 0
  · rw [if_pos c6] at H
    exact absurd H (by simp)
  · rw [if_neg c6] at H
    have c6b0 : (a2 == 0) = false := beq_eq_false_iff_ne.mpr c6
    have c6b1 : (a2 != 0) = true := bne_iff_ne.mpr c6
    replace H := Option.bind_eq_some_iff.mp H
    obtain ⟨t101, A70, H⟩ := H
    replace H : ((halideref13_Units.f k a0).bind fun t102 => (halideref13_Pick.l0 k a1 a2 t101 t102 0 0)) = some r := H
    have A7 := Aside0.mk A70
    clear A70
    replace H := Option.bind_eq_some_iff.mp H
    obtain ⟨t102, A80, H⟩ := H
    replace H : (halideref13_Pick.l0 k a1 a2 t101 t102 0 0) = some r := H
    have A8 := Aside0.mk A80
    clear A80
    have H' := Aside0.mk H
    clear H
    go_enter Try.func47, Try.ntmps47
    try go_wp2
    have n0_ := Aside0.mk (below_drew1 HB.out)
    clear HB
    have HB := n0_
    clear n0_
    refine start_ (n := 17) (S := fun w' => True) (ds := []) #[false, false, false, false, false, false, false, false, false, false, false, false, false, false, false, false, false] (by kernel_rfl) rfl rfl trivial (fun hHeld => ?_); refine with_tabW halideref13_Pick.tab1 halideref13_Pick.bits1 (fun HT_ HW_ => ?_)
    generalize w.drew = w9 at HB hHeld ⊢
    refine pure_ (i := 0) (N := some 23) (v := ?_) (a' := ?_) #[true, false, false, false, false, false, false, false, false, false, false, false, false, false, false, false, false] rfl rfl (any_of HT_.out (by kernel_rfl)) (fun _ _ _ h => h) (Or.inl ⟨by rfl, ?_⟩) ?_ ?_
    rotate_left
    · intro w'
      go_simp
      with_reducible rfl
    rotate_left
    · simp only [Act.put, List.setIfInBounds_toArray, List.set_cons_zero, List.set_cons_succ, i64_w, i32_w]
      rfl
    refine pure_ (i := 1) (N := some 24) (v := ?_) (a' := ?_) #[true, true, false, false, false, false, false, false, false, false, false, false, false, false, false, false, false] rfl rfl (any_of HT_.out (by kernel_rfl)) (fun _ _ _ h => h) (Or.inl ⟨by rfl, ?_⟩) ?_ ?_
    rotate_left
    · intro w'
      go_simp
      with_reducible rfl
    rotate_left
    · simp only [Act.put, List.setIfInBounds_toArray, List.set_cons_zero, List.set_cons_succ, i64_w, i32_w]
      rfl
    refine pure_ (i := 2) (N := some 25) (v := ?_) (a' := ?_) #[true, true, true, false, false, false, false, false, false, false, false, false, false, false, false, false, false] rfl rfl (any_of HT_.out (by kernel_rfl)) (fun _ _ _ h => h) (Or.inl ⟨by rfl, ?_⟩) ?_ ?_
    rotate_left
    · intro w'
      go_simp
      with_reducible rfl
    rotate_left
    · simp only [Act.put, List.setIfInBounds_toArray, List.set_cons_zero, List.set_cons_succ, i64_w, i32_w]
      rfl
    refine pure_ (i := 3) (N := some 26) (v := ?_) (a' := ?_) #[true, true, true, true, false, false, false, false, false, false, false, false, false, false, false, false, false] rfl rfl (any_of HT_.out (by kernel_rfl)) (fun _ _ _ h => h) (Or.inl ⟨by rfl, ?_⟩) ?_ ?_
    rotate_left
    · intro w'
      go_simp
      with_reducible rfl
    rotate_left
    · simp only [Act.put, List.setIfInBounds_toArray, List.set_cons_zero, List.set_cons_succ, i64_w, i32_w]
      rfl
    refine pure_ (i := 4) (N := some 27) (v := ?_) (a' := ?_) #[true, true, true, true, true, false, false, false, false, false, false, false, false, false, false, false, false] rfl rfl (any_of HT_.out (by kernel_rfl)) (fun _ _ _ h => h) (Or.inl ⟨by rfl, ?_⟩) ?_ ?_
    rotate_left
    · intro w'
      go_simp
      with_reducible rfl
    rotate_left
    · simp only [Act.put, List.setIfInBounds_toArray, List.set_cons_zero, List.set_cons_succ, i64_w, i32_w]
      rfl
    refine pure_ (i := 5) (N := some 28) (v := ?_) (a' := ?_) #[true, true, true, true, true, true, false, false, false, false, false, false, false, false, false, false, false] rfl rfl (any_of HT_.out (by kernel_rfl)) (fun _ _ _ h => h) (Or.inl ⟨by rfl, ?_⟩) ?_ ?_
    rotate_left
    · intro w'
      go_simp
      with_reducible rfl
    rotate_left
    · simp only [Act.put, List.setIfInBounds_toArray, List.set_cons_zero, List.set_cons_succ, i64_w, i32_w]
      rfl
    refine pure_ (i := 6) (N := some 29) (v := ?_) (a' := ?_) #[true, true, true, true, true, true, true, false, false, false, false, false, false, false, false, false, false] rfl rfl (any_of HT_.out (by kernel_rfl)) (fun _ _ _ h => h) (Or.inl ⟨by rfl, ?_⟩) ?_ ?_
    rotate_left
    · intro w'
      go_simp
      with_reducible rfl
    rotate_left
    · simp only [Act.put, List.setIfInBounds_toArray, List.set_cons_zero, List.set_cons_succ, i64_w, i32_w]
      rfl
    refine pure_ (i := 7) (N := some 30) (v := ?_) (a' := ?_) #[true, true, true, true, true, true, true, true, false, false, false, false, false, false, false, false, false] rfl rfl (any_of HT_.out (by kernel_rfl)) (fun _ _ _ h => h) (Or.inl ⟨by rfl, ?_⟩) ?_ ?_
    rotate_left
    · intro w'
      go_simp
      with_reducible rfl
    rotate_left
    · simp only [Act.put, List.setIfInBounds_toArray, List.set_cons_zero, List.set_cons_succ, i64_w, i32_w]
      rfl
    refine pure_ (i := 8) (N := some 31) (v := ?_) (a' := ?_) #[true, true, true, true, true, true, true, true, true, false, false, false, false, false, false, false, false] rfl rfl (any_of HT_.out (by kernel_rfl)) (fun _ _ _ h => h) (Or.inl ⟨by rfl, ?_⟩) ?_ ?_
    rotate_left
    · intro w'
      go_simp
      with_reducible rfl
    rotate_left
    · simp only [Act.put, List.setIfInBounds_toArray, List.set_cons_zero, List.set_cons_succ, i64_w, i32_w]
      rfl
    refine pure_ (i := 9) (N := some 32) (v := ?_) (a' := ?_) #[true, true, true, true, true, true, true, true, true, true, false, false, false, false, false, false, false] rfl rfl (any_of HT_.out (by kernel_rfl)) (fun _ _ _ h => h) (Or.inl ⟨by rfl, ?_⟩) ?_ ?_
    rotate_left
    · intro w'
      go_simp
      with_reducible rfl
    rotate_left
    · simp only [Act.put, List.setIfInBounds_toArray, List.set_cons_zero, List.set_cons_succ, i64_w, i32_w]
      rfl
    refine pure_ (i := 10) (N := some 33) (v := ?_) (a' := ?_) #[true, true, true, true, true, true, true, true, true, true, true, false, false, false, false, false, false] rfl rfl (any_of HT_.out (by kernel_rfl)) (fun _ _ _ h => h) (Or.inl ⟨by rfl, ?_⟩) ?_ ?_
    rotate_left
    · intro w'
      go_simp
      with_reducible rfl
    rotate_left
    · simp only [Act.put, List.setIfInBounds_toArray, List.set_cons_zero, List.set_cons_succ, i64_w, i32_w]
      rfl
    refine pure_ (i := 11) (N := some 34) (v := ?_) (a' := ?_) #[true, true, true, true, true, true, true, true, true, true, true, true, false, false, false, false, false] rfl rfl (any_of HT_.out (by kernel_rfl)) (fun _ _ _ h => h) (Or.inl ⟨by rfl, ?_⟩) ?_ ?_
    rotate_left
    · intro w'
      go_simp
      with_reducible rfl
    rotate_left
    · simp only [Act.put, List.setIfInBounds_toArray, List.set_cons_zero, List.set_cons_succ, i64_w, i32_w]
      rfl
    refine pure_ (i := 12) (N := some 35) (v := ?_) (a' := ?_) #[true, true, true, true, true, true, true, true, true, true, true, true, true, false, false, false, false] rfl rfl (any_of HT_.out (by kernel_rfl)) (fun _ _ _ h => h) (Or.inl ⟨by rfl, ?_⟩) ?_ ?_
    rotate_left
    · intro w'
      go_simp
      with_reducible rfl
    rotate_left
    · simp only [Act.put, List.setIfInBounds_toArray, List.set_cons_zero, List.set_cons_succ, i64_w, i32_w]
      rfl
    refine pure_ (i := 13) (N := some 36) (v := ?_) (a' := ?_) #[true, true, true, true, true, true, true, true, true, true, true, true, true, true, false, false, false] rfl rfl (any_of HT_.out (by kernel_rfl)) (fun _ _ _ h => h) (Or.inl ⟨by rfl, ?_⟩) ?_ ?_
    rotate_left
    · intro w'
      go_simp
      with_reducible rfl
    rotate_left
    · simp only [Act.put, List.setIfInBounds_toArray, List.set_cons_zero, List.set_cons_succ, i64_w, i32_w]
      rfl
    refine pure_ (i := 14) (N := some 37) (v := ?_) (a' := ?_) #[true, true, true, true, true, true, true, true, true, true, true, true, true, true, true, false, false] rfl rfl (any_of HT_.out (by kernel_rfl)) (fun _ _ _ h => h) (Or.inl ⟨by rfl, ?_⟩) ?_ ?_
    rotate_left
    · intro w'
      go_simp
      with_reducible rfl
    rotate_left
    · simp only [Act.put, List.setIfInBounds_toArray, List.set_cons_zero, List.set_cons_succ, i64_w, i32_w]
      rfl
    refine one_ (i := 15) (N := some 38) #[true, true, true, true, true, true, true, true, true, true, true, true, true, true, true, true, false] rfl rfl (one_of HT_.out (by kernel_rfl)) (by decide) (fun K hK => ?_)
    refine goes_ Try.func38 (by kernel_rfl) rfl #[.int .i64 a2, .int .i64 (Int.tmod (wrap64 ((Int.tmod a3 a2) + a2)) a2), .int .i64 (Int.tmod (wrap64 ((Int.tmod a4 a2) + a2)) a2)] (by rfl) rfl rfl (by (try simp only [List.map_toArray, List.map_cons, List.map_nil]); first | done | rfl | (simp only [List.length_drop, List.length_take]; rfl)) ?_
    with_reducible refine (halideref13_Cell.calls k a2 (Int.tmod (wrap64 ((Int.tmod a3 a2) + a2)) a2) (Int.tmod (wrap64 ((Int.tmod a4 a2) + a2)) a2) t101 _ A7.out).mono ?_
    rintro e w10 ⟨rfl, hb⟩
    refine ⟨_, rfl, ?_⟩
    have n0_ := Aside0.mk (below_step (by repeat (first | (with_reducible first | exact HB.out | apply below_alloc | apply pw_below_drewN | apply below_drew1) | exact HB.out)) hb)
    clear HB
    have HB := n0_
    clear n0_
    (try clear hb)
    (try clear hb2)
    (try clear hk)
    (try clear hi)
    refine hK.out _ _ trivial (fun hHeld => ?_)
    clear hK K
    refine norm_ (a' := ?_) ?_ ?_
    rotate_left
    · show Act.put _ (some 38) _ = _
      simp only [Act.put, List.setIfInBounds_toArray, List.set_cons_zero, List.set_cons_succ, i64_w, i32_w]
      rfl
    refine pure_ (i := 16) (N := some 11) (v := ?_) (a' := ?_) #[true, true, true, true, true, true, true, true, true, true, true, true, true, true, true, true, true] rfl rfl (any_of HT_.out (by kernel_rfl)) (fun _ _ _ h => h) (Or.inl ⟨by rfl, ?_⟩) ?_ ?_
    rotate_left
    · intro w'
      go_simp
      with_reducible rfl
    rotate_left
    · simp only [Act.put, List.setIfInBounds_toArray, List.set_cons_zero, List.set_cons_succ, i64_w, i32_w]
      rfl
    refine done_ (done_of HT_.out (by kernel_rfl)) ?_
    try go_wp2_with (first | ((with_reducible refine gate_callee (f := 37) rfl ?_); refine goesL_ (some 40) rfl rfl Try.func37 (by kernel_rfl) rfl #[.int .u32 a0] rfl (by (try simp only [List.map_toArray, List.map_cons, List.map_nil]); first | done | rfl | (simp only [List.length_drop, List.length_take]; rfl)) ?_; (with_reducible refine (halideref13_Units.calls k a0 t102 _ A8.out).mono ?_); rintro e w' ⟨rfl, ⟨nd, rfl⟩⟩; refine ⟨_, rfl, ?_⟩))
    go_loopg [13, 14] k (fun kq v13 v14 w' => ∃ (x13_1 : Int) (x14_1 : Int), v13 = .int .i64 x13_1 ∧ v14 = .int .i64 x14_1 ∧ Aside0 (halideref13_Pick.l0 kq a1 a2 t101 t102 x13_1 x14_1 = some r) ∧ Aside0 (kq ≤ k) ∧ Aside0 (Below w.heap.size w w'))
    case atStart => exact ⟨(0), (0), (by first | rfl | (simp; done) | (simp [*]; done)), (by first | rfl | (simp; done) | (simp [*]; done)), H', ⟨Nat.le_refl _⟩, ⟨by repeat (first | (with_reducible first | exact HB.out | apply below_alloc | apply pw_below_drewN | apply below_drew1) | exact HB.out)⟩⟩
    case round =>
      clear H'
      try clear p2
      try clear c3
      try clear c4
      try clear c6
      try clear c6b0
      try clear c6b1
      try clear p6
      obtain ⟨x13_1, x14_1, rfl, rfl, HA, HK1, HB⟩ := hrel
      cases gk with
      | zero => exact absurd HA.out (by simp [halideref13_Pick.l0])
      | succ k1 =>
        have H := HA.out
        clear HA
        simp only [halideref13_Pick.l0] at H
        by_cases c11 : x14_1 < a1
        · rw [if_pos c11] at H
          have c11b0 : decide (x14_1 < a1) = true := decide_eq_true c11
          clear c11
          replace H := Option.bind_eq_some_iff.mp H
          obtain ⟨⟨t103, t104⟩, A120, H⟩ := H
          replace H : (if t103 ≤ t102 then (halideref13_Pick.l0 k1 a1 a2 t101 t102 x14_1 (wrap64 (x14_1 + 1))) else (halideref13_Pick.l0 k1 a1 a2 t101 t102 x13_1 (wrap64 (x14_1 + 1)))) = some r := H
          have A12 := Aside0.mk A120
          clear A120
          by_cases c13 : t103 ≤ t102
          · rw [if_pos c13] at H
            have c13b0 : decide (t103 ≤ t102) = true := decide_eq_true c13
            clear c13
            have H' := Aside0.mk H
            clear H
            go_wp2_with (first | ((with_reducible refine gate_callee (f := 35) rfl ?_); refine goesL_ (some 49) rfl rfl Try.func35 (by kernel_rfl) rfl #[.int .i64 a1, .int .i64 x14_1] rfl (by (try simp only [List.map_toArray, List.map_cons, List.map_nil]); first | done | rfl | (simp only [List.length_drop, List.length_take]; rfl)) ?_; (with_reducible refine (halideref13_Unit.calls a1 x14_1 t103 t104 _ A12.out).mono ?_); rintro e w' ⟨rfl, ⟨nd, rfl⟩⟩; refine ⟨_, rfl, ?_⟩))
            go_roundg k1
            case measure => have := HK1.out; omega
            case rel => exact ⟨(x14_1), (wrap64 (x14_1 + 1)), (by first | rfl | (simp; done) | (simp [*]; done)), (by first | rfl | (simp; done) | (simp [*]; done)), H', ⟨by have := HK1.out; omega⟩, ⟨by repeat (first | (with_reducible first | exact HB.out | apply below_alloc | apply pw_below_drewN | apply below_drew1) | exact HB.out)⟩⟩
          · rw [if_neg c13] at H
            have c13b0 : decide (t103 ≤ t102) = false := decide_eq_false c13
            clear c13
            have H' := Aside0.mk H
            clear H
            go_wp2_with (first | ((with_reducible refine gate_callee (f := 35) rfl ?_); refine goesL_ (some 49) rfl rfl Try.func35 (by kernel_rfl) rfl #[.int .i64 a1, .int .i64 x14_1] rfl (by (try simp only [List.map_toArray, List.map_cons, List.map_nil]); first | done | rfl | (simp only [List.length_drop, List.length_take]; rfl)) ?_; (with_reducible refine (halideref13_Unit.calls a1 x14_1 t103 t104 _ A12.out).mono ?_); rintro e w' ⟨rfl, ⟨nd, rfl⟩⟩; refine ⟨_, rfl, ?_⟩))
            go_roundg k1
            case measure => have := HK1.out; omega
            case rel => exact ⟨(x13_1), (wrap64 (x14_1 + 1)), (by first | rfl | (simp; done) | (simp [*]; done)), (by first | rfl | (simp; done) | (simp [*]; done)), H', ⟨by have := HK1.out; omega⟩, ⟨by repeat (first | (with_reducible first | exact HB.out | apply below_alloc | apply pw_below_drewN | apply below_drew1) | exact HB.out)⟩⟩
        · rw [if_neg c11] at H
          have c11b0 : decide (x14_1 < a1) = false := decide_eq_false c11
          clear c11
          by_cases c14 : x13_1 < (wrap64 (a1 - 1))
          · rw [if_pos c14] at H
            have c14b0 : decide (x13_1 < (wrap64 (a1 - 1))) = true := decide_eq_true c14
            clear c14
            replace H := Option.bind_eq_some_iff.mp H
            obtain ⟨⟨t105, t106⟩, A150, H⟩ := H
            replace H : ((halideref13_Unit.f a1 (wrap64 (x13_1 + 1))).bind fun bt107 => (if (wrap64 ((wrap64 ((wrap64 (2 * a2)) * a2)) * (wrap64 (t102 - t105)))) > (wrap64 ((wrap64 ((wrap64 (2 * t101)) + 1)) * (wrap64 (bt107.1 - t105)))) then ((halideref13_Level.f a1 (wrap64 (x13_1 + 1))).bind fun bt109 => (some bt109.1)) else ((halideref13_Level.f a1 x13_1).bind fun bt111 => (some bt111.1)))) = some r := H
            have A15 := Aside0.mk A150
            clear A150
            replace H := Option.bind_eq_some_iff.mp H
            obtain ⟨⟨t107, t108⟩, A160, H⟩ := H
            replace H : (if (wrap64 ((wrap64 ((wrap64 (2 * a2)) * a2)) * (wrap64 (t102 - t105)))) > (wrap64 ((wrap64 ((wrap64 (2 * t101)) + 1)) * (wrap64 (t107 - t105)))) then ((halideref13_Level.f a1 (wrap64 (x13_1 + 1))).bind fun bt109 => (some bt109.1)) else ((halideref13_Level.f a1 x13_1).bind fun bt111 => (some bt111.1))) = some r := H
            have A16 := Aside0.mk A160
            clear A160
            by_cases c17 : (wrap64 ((wrap64 ((wrap64 (2 * a2)) * a2)) * (wrap64 (t102 - t105)))) > (wrap64 ((wrap64 ((wrap64 (2 * t101)) + 1)) * (wrap64 (t107 - t105))))
            · rw [if_pos c17] at H
              have c17b0 : decide ((wrap64 ((wrap64 ((wrap64 (2 * t101)) + 1)) * (wrap64 (t107 - t105)))) < (wrap64 ((wrap64 ((wrap64 (2 * a2)) * a2)) * (wrap64 (t102 - t105))))) = true := decide_eq_true c17
              clear c17
              replace H := Option.bind_eq_some_iff.mp H
              obtain ⟨⟨t109, t110⟩, A180, H⟩ := H
              replace H : (some t109) = some r := H
              have A18 := Aside0.mk A180
              clear A180
              obtain rfl := Option.some.inj H
              go_wp2_with (first | ((with_reducible refine gate_callee (f := 35) rfl ?_); refine goesL_ (some 63) rfl rfl Try.func35 (by kernel_rfl) rfl #[.int .i64 a1, .int .i64 x13_1] rfl (by (try simp only [List.map_toArray, List.map_cons, List.map_nil]); first | done | rfl | (simp only [List.length_drop, List.length_take]; rfl)) ?_; (with_reducible refine (halideref13_Unit.calls a1 x13_1 t105 t106 _ A15.out).mono ?_); rintro e w' ⟨rfl, ⟨nd, rfl⟩⟩; refine ⟨_, rfl, ?_⟩) | ((with_reducible refine gate_callee (f := 35) rfl ?_); refine goesL_ (some 70) rfl rfl Try.func35 (by kernel_rfl) rfl #[.int .i64 a1, .int .i64 (wrap64 (x13_1 + 1))] rfl (by (try simp only [List.map_toArray, List.map_cons, List.map_nil]); first | done | rfl | (simp only [List.length_drop, List.length_take]; rfl)) ?_; (with_reducible refine (halideref13_Unit.calls a1 (wrap64 (x13_1 + 1)) t107 t108 _ A16.out).mono ?_); rintro e w' ⟨rfl, ⟨nd, rfl⟩⟩; refine ⟨_, rfl, ?_⟩) | ((with_reducible refine gate_callee (f := 34) rfl ?_); refine goesL_ (some 94) rfl rfl Try.func34 (by kernel_rfl) rfl #[.int .i64 a1, .int .i64 (wrap64 (x13_1 + 1))] rfl (by (try simp only [List.map_toArray, List.map_cons, List.map_nil]); first | done | rfl | (simp only [List.length_drop, List.length_take]; rfl)) ?_; (with_reducible refine (halideref13_Level.calls a1 (wrap64 (x13_1 + 1)) t109 t110 _ A18.out).mono ?_); rintro e w' ⟨rfl, ⟨nd, rfl⟩⟩; refine ⟨_, rfl, ?_⟩))
              go_ret
              exact ⟨by first | rfl | (simp [errW_none, errW_some] <;> rfl) | (simp [*, errW_none, errW_some] <;> rfl), by repeat (first | (with_reducible first | exact HB.out | apply below_alloc | apply pw_below_drewN | apply below_drew1) | exact HB.out)⟩
            · rw [if_neg c17] at H
              have c17b0 : decide ((wrap64 ((wrap64 ((wrap64 (2 * t101)) + 1)) * (wrap64 (t107 - t105)))) < (wrap64 ((wrap64 ((wrap64 (2 * a2)) * a2)) * (wrap64 (t102 - t105))))) = false := decide_eq_false c17
              clear c17
              replace H := Option.bind_eq_some_iff.mp H
              obtain ⟨⟨t111, t112⟩, A190, H⟩ := H
              replace H : (some t111) = some r := H
              have A19 := Aside0.mk A190
              clear A190
              obtain rfl := Option.some.inj H
              go_wp2_with (first | ((with_reducible refine gate_callee (f := 35) rfl ?_); refine goesL_ (some 63) rfl rfl Try.func35 (by kernel_rfl) rfl #[.int .i64 a1, .int .i64 x13_1] rfl (by (try simp only [List.map_toArray, List.map_cons, List.map_nil]); first | done | rfl | (simp only [List.length_drop, List.length_take]; rfl)) ?_; (with_reducible refine (halideref13_Unit.calls a1 x13_1 t105 t106 _ A15.out).mono ?_); rintro e w' ⟨rfl, ⟨nd, rfl⟩⟩; refine ⟨_, rfl, ?_⟩) | ((with_reducible refine gate_callee (f := 35) rfl ?_); refine goesL_ (some 70) rfl rfl Try.func35 (by kernel_rfl) rfl #[.int .i64 a1, .int .i64 (wrap64 (x13_1 + 1))] rfl (by (try simp only [List.map_toArray, List.map_cons, List.map_nil]); first | done | rfl | (simp only [List.length_drop, List.length_take]; rfl)) ?_; (with_reducible refine (halideref13_Unit.calls a1 (wrap64 (x13_1 + 1)) t107 t108 _ A16.out).mono ?_); rintro e w' ⟨rfl, ⟨nd, rfl⟩⟩; refine ⟨_, rfl, ?_⟩) | ((with_reducible refine gate_callee (f := 34) rfl ?_); refine goesL_ (some 94) rfl rfl Try.func34 (by kernel_rfl) rfl #[.int .i64 a1, .int .i64 x13_1] rfl (by (try simp only [List.map_toArray, List.map_cons, List.map_nil]); first | done | rfl | (simp only [List.length_drop, List.length_take]; rfl)) ?_; (with_reducible refine (halideref13_Level.calls a1 x13_1 t111 t112 _ A19.out).mono ?_); rintro e w' ⟨rfl, ⟨nd, rfl⟩⟩; refine ⟨_, rfl, ?_⟩))
              go_ret
              exact ⟨by first | rfl | (simp [errW_none, errW_some] <;> rfl) | (simp [*, errW_none, errW_some] <;> rfl), by repeat (first | (with_reducible first | exact HB.out | apply below_alloc | apply pw_below_drewN | apply below_drew1) | exact HB.out)⟩
          · rw [if_neg c14] at H
            have c14b0 : decide (x13_1 < (wrap64 (a1 - 1))) = false := decide_eq_false c14
            clear c14
            replace H := Option.bind_eq_some_iff.mp H
            obtain ⟨⟨t113, t114⟩, A200, H⟩ := H
            replace H : (some t113) = some r := H
            have A20 := Aside0.mk A200
            clear A200
            obtain rfl := Option.some.inj H
            go_wp2_with (first | ((with_reducible refine gate_callee (f := 34) rfl ?_); refine goesL_ (some 94) rfl rfl Try.func34 (by kernel_rfl) rfl #[.int .i64 a1, .int .i64 x13_1] rfl (by (try simp only [List.map_toArray, List.map_cons, List.map_nil]); first | done | rfl | (simp only [List.length_drop, List.length_take]; rfl)) ?_; (with_reducible refine (halideref13_Level.calls a1 x13_1 t113 t114 _ A20.out).mono ?_); rintro e w' ⟨rfl, ⟨nd, rfl⟩⟩; refine ⟨_, rfl, ?_⟩))
            go_ret
            exact ⟨by first | rfl | (simp [errW_none, errW_some] <;> rfl) | (simp [*, errW_none, errW_some] <;> rfl), by repeat (first | (with_reducible first | exact HB.out | apply below_alloc | apply pw_below_drewN | apply below_drew1) | exact HB.out)⟩

end Go.Proofs.Ytmipbbkieadecaa.PDO
