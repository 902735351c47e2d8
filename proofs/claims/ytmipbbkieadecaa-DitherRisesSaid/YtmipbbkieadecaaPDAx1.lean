-- Written by a program of this session (hprint.py: the kit's printer, with this session's contracts beside it). Lean checks it.
import Derived.Test.YtmipbbkieadecaaPDAx0
namespace Go.Proofs.Ytmipbbkieadecaa.PDA
open Go.RowKit Go.Proofs.YtmipbbkieadecaaW.PrintWords Go.Proofs.YtmipbbkieadecaaW.PrintLast Go.Proofs.YtmipbbkieadecaaW.PrintMore
attribute [local go_sem] max2_int min2_int max_two min_two max_three min_three max_four min_four   -- for this text's walks alone
set_option linter.unusedVariables false
set_option linter.unusedSimpArgs false

/-! ### dither_levels: function 41 -/
def dither_levels.f (a0 : Int) : Option (Bool) := if a0 ≥ 2 then (some (decide (a0 ≤ 256))) else (some false)
set_option maxHeartbeats 8000000 in
set_option maxRecDepth 100000 in
theorem dither_levels.calls (a0 : Int) (r : Bool) (w : World) (h : dither_levels.f a0 = some r) :
    Calls Try.prog 41 #[.int .i64 a0] w fun e w' => e = .returned (.bool r) ∧ Drawn0 w w' := by
  have H : (if a0 ≥ 2 then (some (decide (a0 ≤ 256))) else (some false)) = some r := h
  clear h
  by_cases c2 : a0 ≥ 2
  · rw [if_pos c2] at H
    have c2b0 : decide (2 ≤ a0) = true := decide_eq_true c2
    clear c2
    obtain rfl := Option.some.inj H
    go_enter Try.func41, Try.ntmps41
    go_wp2
    go_ret
    exact ⟨by first | rfl | (simp; done) | (simp [*]; done), by repeat (first | exact Drawn0.refl _ | apply Drawn0.step)⟩
  · rw [if_neg c2] at H
    have c2b0 : decide (2 ≤ a0) = false := decide_eq_false c2
    clear c2
    obtain rfl := Option.some.inj H
    go_enter Try.func41, Try.ntmps41
    go_wp2
    go_ret
    exact ⟨by first | rfl | (simp; done) | (simp [*]; done), by repeat (first | exact Drawn0.refl _ | apply Drawn0.step)⟩

/-! ### dither_level: function 50 -/
def dither_level.f (a0 : Int) (a1 : Int) : Option (Bool) := (dither_levels.f a0).bind fun t101 => (if t101 = true then (if a1 ≥ 0 then (some (decide (a1 < a0))) else (some false)) else (some false))
set_option maxHeartbeats 8000000 in
set_option maxRecDepth 100000 in
theorem dither_level.calls (a0 : Int) (a1 : Int) (r : Bool) (w : World) (h : dither_level.f a0 a1 = some r) :
    Calls Try.prog 50 #[.int .i64 a0, .int .i64 a1] w fun e w' => e = .returned (.bool r) ∧ Drawn0 w w' := by
  have H : ((dither_levels.f a0).bind fun t101 => (if t101 = true then (if a1 ≥ 0 then (some (decide (a1 < a0))) else (some false)) else (some false))) = some r := h
  clear h
  replace H := Option.bind_eq_some_iff.mp H
  obtain ⟨t101, A30, H⟩ := H
  replace H : (if t101 = true then (if a1 ≥ 0 then (some (decide (a1 < a0))) else (some false)) else (some false)) = some r := H
  have A3 := Aside0.mk A30
  clear A30
  by_cases c4 : t101 = true
  · subst c4
    have H1 : (if a1 ≥ 0 then (some (decide (a1 < a0))) else (some false)) = some r := by rw [if_pos rfl] at H; exact H
    clear H
    have H := H1
    clear H1
    by_cases c5 : a1 ≥ 0
    · rw [if_pos c5] at H
      have c5b0 : decide (0 ≤ a1) = true := decide_eq_true c5
      clear c5
      obtain rfl := Option.some.inj H
      go_enter Try.func50, Try.ntmps50
      go_wp2_with (first | ((with_reducible refine gate_callee (f := 41) rfl ?_); refine goesL_ (some 6) rfl rfl Try.func41 (by kernel_rfl) rfl #[.int .i64 a0] rfl (by (try simp only [List.map_toArray, List.map_cons, List.map_nil]); first | done | rfl | (simp only [List.length_drop, List.length_take]; rfl)) ?_; (with_reducible refine (dither_levels.calls a0 true _ A3.out).mono ?_); rintro e w' ⟨rfl, ⟨nd, rfl⟩⟩; refine ⟨_, rfl, ?_⟩))
      go_ret
      exact ⟨by first | rfl | (simp; done) | (simp [*]; done), by repeat (first | exact Drawn0.refl _ | apply Drawn0.step)⟩
    · rw [if_neg c5] at H
      have c5b0 : decide (0 ≤ a1) = false := decide_eq_false c5
      clear c5
      obtain rfl := Option.some.inj H
      go_enter Try.func50, Try.ntmps50
      go_wp2_with (first | ((with_reducible refine gate_callee (f := 41) rfl ?_); refine goesL_ (some 6) rfl rfl Try.func41 (by kernel_rfl) rfl #[.int .i64 a0] rfl (by (try simp only [List.map_toArray, List.map_cons, List.map_nil]); first | done | rfl | (simp only [List.length_drop, List.length_take]; rfl)) ?_; (with_reducible refine (dither_levels.calls a0 true _ A3.out).mono ?_); rintro e w' ⟨rfl, ⟨nd, rfl⟩⟩; refine ⟨_, rfl, ?_⟩))
      go_ret
      exact ⟨by first | rfl | (simp; done) | (simp [*]; done), by repeat (first | exact Drawn0.refl _ | apply Drawn0.step)⟩
  · replace c4 := Bool.eq_false_iff.mpr c4
    subst c4
    have H1 : (some false) = some r := by rw [if_neg (show ¬ (false = true) by decide)] at H; exact H
    clear H
    have H := H1
    clear H1
    obtain rfl := Option.some.inj H
    go_enter Try.func50, Try.ntmps50
    go_wp2_with (first | ((with_reducible refine gate_callee (f := 41) rfl ?_); refine goesL_ (some 6) rfl rfl Try.func41 (by kernel_rfl) rfl #[.int .i64 a0] rfl (by (try simp only [List.map_toArray, List.map_cons, List.map_nil]); first | done | rfl | (simp only [List.length_drop, List.length_take]; rfl)) ?_; (with_reducible refine (dither_levels.calls a0 false _ A3.out).mono ?_); rintro e w' ⟨rfl, ⟨nd, rfl⟩⟩; refine ⟨_, rfl, ?_⟩))
    go_ret
    exact ⟨by first | rfl | (simp; done) | (simp [*]; done), by repeat (first | exact Drawn0.refl _ | apply Drawn0.step)⟩

/-! ### dither_unit: function 52 -/
def dither_unit.f (a0 : Int) (a1 : Int) : Option (Int) := if (wrap64 (a0 - 1)) = 0 then (none) else (some (wrap64 (Int.tdiv (wrap64 (a1 * 16777216)) (wrap64 (a0 - 1)))))
set_option maxHeartbeats 8000000 in
set_option maxRecDepth 100000 in
theorem dither_unit.calls (a0 : Int) (a1 : Int) (r : Int) (w : World) (h : dither_unit.f a0 a1 = some r) :
    Calls Try.prog 52 #[.int .i64 a0, .int .i64 a1] w fun e w' => e = .returned (.int .i64 r) ∧ Drawn0 w w' := by
  have H : (if (wrap64 (a0 - 1)) = 0 then (none) else (some (wrap64 (Int.tdiv (wrap64 (a1 * 16777216)) (wrap64 (a0 - 1)))))) = some r := h
  clear h
  by_cases c3 : (wrap64 (a0 - 1)) = 0
  · rw [if_pos c3] at H
    exact absurd H (by simp)
  · rw [if_neg c3] at H
    have c3b0 : ((wrap64 (a0 - 1)) == 0) = false := beq_eq_false_iff_ne.mpr c3
    have c3b1 : ((wrap64 (a0 - 1)) != 0) = true := bne_iff_ne.mpr c3
    obtain rfl := Option.some.inj H
    go_enter Try.func52, Try.ntmps52
    go_wp2
    go_ret
    exact ⟨by first | rfl | (simp; done) | (simp [*]; done), by repeat (first | exact Drawn0.refl _ | apply Drawn0.step)⟩

/-! ### dither_Unit: function 25 -/
def dither_Unit.f (a0 : Int) (a1 : Int) : Option (Int × Int) := (dither_level.f a0 a1).bind fun t102 => (if t102 = true then ((dither_unit.f a0 a1).bind fun t103 => (some (t103, 0))) else (some (0, 130)))
set_option maxHeartbeats 8000000 in
set_option maxRecDepth 100000 in
theorem dither_Unit.calls (a0 : Int) (a1 : Int) (r1 : Int) (r2 : Int) (w : World) (h : dither_Unit.f a0 a1 = some (r1, r2)) :
    Calls Try.prog 25 #[.int .i64 a0, .int .i64 a1] w fun e w' => e = .returned (.tuple #[.int .i64 r1, .int .i64 r2]) ∧ Drawn0 w w' := by
  have H : ((dither_level.f a0 a1).bind fun t102 => (if t102 = true then ((dither_unit.f a0 a1).bind fun t103 => (some (t103, 0))) else (some (0, 130)))) = some (r1, r2) := h
  clear h
  replace H := Option.bind_eq_some_iff.mp H
  obtain ⟨t102, A30, H⟩ := H
  replace H : (if t102 = true then ((dither_unit.f a0 a1).bind fun t103 => (some (t103, 0))) else (some (0, 130))) = some (r1, r2) := H
  have A3 := Aside0.mk A30
  clear A30
  by_cases c4 : t102 = true
  · subst c4
    have H1 : ((dither_unit.f a0 a1).bind fun t103 => (some (t103, 0))) = some (r1, r2) := by rw [if_pos rfl] at H; exact H
    clear H
    have H := H1
    clear H1
    replace H := Option.bind_eq_some_iff.mp H
    obtain ⟨t103, A50, H⟩ := H
    replace H : (some (t103, 0)) = some (r1, r2) := H
    have A5 := Aside0.mk A50
    clear A50
    simp only [Option.some.injEq, Prod.mk.injEq] at H
    obtain ⟨rfl, rfl⟩ := H
    go_enter Try.func25, Try.ntmps25
    go_wp2_with (first | ((with_reducible refine gate_callee (f := 50) rfl ?_); refine goesL_ (some 8) rfl rfl Try.func50 (by kernel_rfl) rfl #[.int .i64 a0, .int .i64 a1] rfl (by (try simp only [List.map_toArray, List.map_cons, List.map_nil]); first | done | rfl | (simp only [List.length_drop, List.length_take]; rfl)) ?_; (with_reducible refine (dither_level.calls a0 a1 true _ A3.out).mono ?_); rintro e w' ⟨rfl, ⟨nd, rfl⟩⟩; refine ⟨_, rfl, ?_⟩) | ((with_reducible refine gate_callee (f := 52) rfl ?_); refine goesL_ (some 12) rfl rfl Try.func52 (by kernel_rfl) rfl #[.int .i64 a0, .int .i64 a1] rfl (by (try simp only [List.map_toArray, List.map_cons, List.map_nil]); first | done | rfl | (simp only [List.length_drop, List.length_take]; rfl)) ?_; (with_reducible refine (dither_unit.calls a0 a1 t103 _ A5.out).mono ?_); rintro e w' ⟨rfl, ⟨nd, rfl⟩⟩; refine ⟨_, rfl, ?_⟩))
    go_ret2
    exact ⟨by first | rfl | (simp; done) | (simp [*]; done), by repeat (first | exact Drawn0.refl _ | apply Drawn0.step)⟩
  · replace c4 := Bool.eq_false_iff.mpr c4
    subst c4
    have H1 : (some (0, 130)) = some (r1, r2) := by rw [if_neg (show ¬ (false = true) by decide)] at H; exact H
    clear H
    have H := H1
    clear H1
    simp only [Option.some.injEq, Prod.mk.injEq] at H
    obtain ⟨rfl, rfl⟩ := H
    go_enter Try.func25, Try.ntmps25
    go_wp2_with (first | ((with_reducible refine gate_callee (f := 50) rfl ?_); refine goesL_ (some 8) rfl rfl Try.func50 (by kernel_rfl) rfl #[.int .i64 a0, .int .i64 a1] rfl (by (try simp only [List.map_toArray, List.map_cons, List.map_nil]); first | done | rfl | (simp only [List.length_drop, List.length_take]; rfl)) ?_; (with_reducible refine (dither_level.calls a0 a1 false _ A3.out).mono ?_); rintro e w' ⟨rfl, ⟨nd, rfl⟩⟩; refine ⟨_, rfl, ?_⟩))
    go_ret2
    exact ⟨by first | rfl | (simp; done) | (simp [*]; done), by repeat (first | exact Drawn0.refl _ | apply Drawn0.step)⟩

/-! ### dither_away: function 62 -/
def dither_away.f (a0 : Int) (a1 : Int) (a2 : Int) : Option (Int) := (dither_unit.f a0 a1).bind fun t104 => ((dither_unit.f a0 a1).bind fun t105 => (some (mx (wrap64 (t104 - a2)) (wrap64 (a2 - t105)))))
set_option maxHeartbeats 8000000 in
set_option maxRecDepth 100000 in
theorem dither_away.calls (a0 : Int) (a1 : Int) (a2 : Int) (r : Int) (w : World) (h : dither_away.f a0 a1 a2 = some r) :
    Calls Try.prog 62 #[.int .i64 a0, .int .i64 a1, .int .i64 a2] w fun e w' => e = .returned (.int .i64 r) ∧ Below w.heap.size w w' := by
  have HB := Aside0.mk (Below.refl w.heap.size w)
  have H : ((dither_unit.f a0 a1).bind fun t104 => ((dither_unit.f a0 a1).bind fun t105 => (some (mx (wrap64 (t104 - a2)) (wrap64 (a2 - t105)))))) = some r := h
  clear h
  replace H := Option.bind_eq_some_iff.mp H
  obtain ⟨t104, A40, H⟩ := H
  replace H : ((dither_unit.f a0 a1).bind fun t105 => (some (mx (wrap64 (t104 - a2)) (wrap64 (a2 - t105))))) = some r := H
  have A4 := Aside0.mk A40
  clear A40
  replace H := Option.bind_eq_some_iff.mp H
  obtain ⟨t105, A50, H⟩ := H
  replace H : (some (mx (wrap64 (t104 - a2)) (wrap64 (a2 - t105)))) = some r := H
  have A5 := Aside0.mk A50
  clear A50
  obtain ⟨ji6, hji6⟩ : ∃ j_ : Int, (mx (wrap64 (t104 - a2)) (wrap64 (a2 - t105))) = j_ := ⟨_, rfl⟩
  replace H : (some ji6) = some r := by first | (rw [hji6] at H; exact H) | (simp only [hji6] at H ⊢; exact H)
  (try rw [hji6] at A4)
  (try rw [hji6] at A5)
  have hji6_ : (if (wrap64 (t104 - a2)) < (wrap64 (a2 - t105)) then (wrap64 (a2 - t105)) else (wrap64 (t104 - a2))) = ji6 := hji6
  obtain rfl := Option.some.inj H
  go_enter Try.func62, Try.ntmps62
  go_wp2_with (first | ((with_reducible refine gate_callee (f := 52) rfl ?_); refine goesL_ (some 9) rfl rfl Try.func52 (by kernel_rfl) rfl #[.int .i64 a0, .int .i64 a1] rfl (by (try simp only [List.map_toArray, List.map_cons, List.map_nil]); first | done | rfl | (simp only [List.length_drop, List.length_take]; rfl)) ?_; (with_reducible refine (dither_unit.calls a0 a1 t104 _ A4.out).mono ?_); rintro e w' ⟨rfl, ⟨nd, rfl⟩⟩; refine ⟨_, rfl, ?_⟩) | ((with_reducible refine gate_callee (f := 52) rfl ?_); refine goesL_ (some 15) rfl rfl Try.func52 (by kernel_rfl) rfl #[.int .i64 a0, .int .i64 a1] rfl (by (try simp only [List.map_toArray, List.map_cons, List.map_nil]); first | done | rfl | (simp only [List.length_drop, List.length_take]; rfl)) ?_; (with_reducible refine (dither_unit.calls a0 a1 t105 _ A5.out).mono ?_); rintro e w' ⟨rfl, ⟨nd, rfl⟩⟩; refine ⟨_, rfl, ?_⟩))
  go_ret
  exact ⟨by first | rfl | (simp [errW_none, errW_some] <;> rfl) | (simp only [← hji6]; first | rfl | (simp [errW_none, errW_some] <;> rfl)) | (simp [*, errW_none, errW_some] <;> rfl), by repeat (first | (with_reducible first | exact HB.out | apply below_alloc | apply pw_below_drewN | apply below_drew1) | exact HB.out)⟩

/-! ### dither_nearest: function 58 -/
def dither_nearest.l0 : Nat → Int → Int → Int → Int → Int → Option (Int)
  | 0, _, _, _, _, _ => none
  | k + 1, x0, x1, x5, x6, x7 => if x7 ≤ (mn (wrap64 (x5 + 2)) (wrap64 (x0 - 1))) then ((dither_away.f x0 x7 x1).bind fun t106 => ((dither_away.f x0 x6 x1).bind fun t107 => (if t106 < t107 then (dither_nearest.l0 k x0 x1 x5 x7 (wrap64 (x7 + 1))) else (dither_nearest.l0 k x0 x1 x5 x6 (wrap64 (x7 + 1)))))) else (some x6)
def dither_nearest.f (k : Nat) (a0 : Int) (a1 : Int) : Option (Int) := dither_nearest.l0 k a0 (mn (mx a1 0) 16777216) (wrap64 (Int.tdiv (wrap64 ((mn (mx a1 0) 16777216) * (wrap64 (a0 - 1)))) 16777216)) (mx (wrap64 ((wrap64 (Int.tdiv (wrap64 ((mn (mx a1 0) 16777216) * (wrap64 (a0 - 1)))) 16777216)) - 1)) 0) (mx (wrap64 ((wrap64 (Int.tdiv (wrap64 ((mn (mx a1 0) 16777216) * (wrap64 (a0 - 1)))) 16777216)) - 1)) 0)
theorem dither_nearest.mono_l : ∀ k, (∀ y0 y1 y2 y3 y4, LeO (dither_nearest.l0 k y0 y1 y2 y3 y4) (dither_nearest.l0 (k + 1) y0 y1 y2 y3 y4))
  | 0 => fun _ _ _ _ _ r h => by simp [dither_nearest.l0] at h
  | k + 1 => by
    have ih0 := dither_nearest.mono_l k
    · intro y0 y1 y2 y3 y4
      unfold dither_nearest.l0
      repeat' first
      | (with_reducible exact ih0 _ _ _ _ _)
      | (with_reducible exact LeO.refl _)
      | (with_reducible exact LeO.none _)
      | (with_reducible refine LeO.ite ?_ ?_)
      | (with_reducible refine LeO.bind ?_ (fun _ => ?_))
      | exact ih0 _ _ _ _ _
      | exact LeO.none _
      | refine LeO.ite ?_ ?_
      | refine LeO.bind ?_ (fun _ => ?_)
theorem dither_nearest.mono : ∀ a0 a1 k, LeO (dither_nearest.f k a0 a1) (dither_nearest.f (k + 1) a0 a1) := by
  intro a0 a1 k
  have ih0 := dither_nearest.mono_l k
  unfold dither_nearest.f
  repeat' first
      | (with_reducible exact ih0 _ _ _ _ _)
      | (with_reducible exact LeO.refl _)
      | (with_reducible exact LeO.none _)
      | (with_reducible refine LeO.ite ?_ ?_)
      | (with_reducible refine LeO.bind ?_ (fun _ => ?_))
      | exact ih0 _ _ _ _ _
      | exact LeO.none _
      | refine LeO.ite ?_ ?_
      | refine LeO.bind ?_ (fun _ => ?_)
set_option maxHeartbeats 8000000 in
set_option maxRecDepth 100000 in
theorem dither_nearest.calls (k : Nat) (a0 : Int) (a1 : Int) (r : Int) (w : World) (h : dither_nearest.f k a0 a1 = some r) :
    Calls Try.prog 58 #[.int .i64 a0, .int .i64 a1] w fun e w' => e = .returned (.int .i64 r) ∧ Below w.heap.size w w' := by
  have HB := Aside0.mk (Below.refl w.heap.size w)
  have H : (dither_nearest.l0 k a0 (mn (mx a1 0) 16777216) (wrap64 (Int.tdiv (wrap64 ((mn (mx a1 0) 16777216) * (wrap64 (a0 - 1)))) 16777216)) (mx (wrap64 ((wrap64 (Int.tdiv (wrap64 ((mn (mx a1 0) 16777216) * (wrap64 (a0 - 1)))) 16777216)) - 1)) 0) (mx (wrap64 ((wrap64 (Int.tdiv (wrap64 ((mn (mx a1 0) 16777216) * (wrap64 (a0 - 1)))) 16777216)) - 1)) 0)) = some r := h
  clear h
  obtain ⟨ji3, hji3⟩ : ∃ j_ : Int, (mx a1 0) = j_ := ⟨_, rfl⟩
  replace H : (dither_nearest.l0 k a0 (mn (ji3) 16777216) (wrap64 (Int.tdiv (wrap64 ((mn (ji3) 16777216) * (wrap64 (a0 - 1)))) 16777216)) (mx (wrap64 ((wrap64 (Int.tdiv (wrap64 ((mn (ji3) 16777216) * (wrap64 (a0 - 1)))) 16777216)) - 1)) 0) (mx (wrap64 ((wrap64 (Int.tdiv (wrap64 ((mn (ji3) 16777216) * (wrap64 (a0 - 1)))) 16777216)) - 1)) 0)) = some r := by first | (rw [hji3] at H; exact H) | (simp only [hji3] at H ⊢; exact H)
  (try (have hji3l : 0 ≤ ji3 := by (rw [← hji3]; unfold mx; (repeat' split) <;> omega)))
  (try (have hji3m : 0 ≤ ji3 := by omega))
  have hji3_ : (if a1 < 0 then 0 else a1) = ji3 := hji3
  obtain ⟨ji4, hji4⟩ : ∃ j_ : Int, (mn (ji3) 16777216) = j_ := ⟨_, rfl⟩
  replace H : (dither_nearest.l0 k a0 ji4 (wrap64 (Int.tdiv (wrap64 ((ji4) * (wrap64 (a0 - 1)))) 16777216)) (mx (wrap64 ((wrap64 (Int.tdiv (wrap64 ((ji4) * (wrap64 (a0 - 1)))) 16777216)) - 1)) 0) (mx (wrap64 ((wrap64 (Int.tdiv (wrap64 ((ji4) * (wrap64 (a0 - 1)))) 16777216)) - 1)) 0)) = some r := by first | (rw [hji4] at H; exact H) | (simp only [hji4] at H ⊢; exact H)
  have hji4_ : (if 16777216 < (ji3) then 16777216 else (ji3)) = ji4 := hji4
  obtain ⟨ji5, hji5⟩ : ∃ j_ : Int, (mx (wrap64 ((wrap64 (Int.tdiv (wrap64 ((ji4) * (wrap64 (a0 - 1)))) 16777216)) - 1)) 0) = j_ := ⟨_, rfl⟩
  replace H : (dither_nearest.l0 k a0 ji4 (wrap64 (Int.tdiv (wrap64 ((ji4) * (wrap64 (a0 - 1)))) 16777216)) ji5 ji5) = some r := by first | (rw [hji5] at H; exact H) | (simp only [hji5] at H ⊢; exact H)
  have hji5_ : (if (wrap64 ((wrap64 (Int.tdiv (wrap64 ((ji4) * (wrap64 (a0 - 1)))) 16777216)) - 1)) < 0 then 0 else (wrap64 ((wrap64 (Int.tdiv (wrap64 ((ji4) * (wrap64 (a0 - 1)))) 16777216)) - 1))) = ji5 := hji5
  have H' := Aside0.mk H
  clear H
  go_enter Try.func58, Try.ntmps58
  go_wp2
  go_loopg [6, 7] k (fun kq v6 v7 w' => ∃ (x6_1 : Int) (x7_1 : Int), v6 = .int .i64 x6_1 ∧ v7 = .int .i64 x7_1 ∧ Aside0 (dither_nearest.l0 kq a0 ji4 (wrap64 (Int.tdiv (wrap64 ((ji4) * (wrap64 (a0 - 1)))) 16777216)) x6_1 x7_1 = some r) ∧ Aside0 (kq ≤ k) ∧ Aside0 (Below w.heap.size w w'))
  case atStart => exact ⟨(ji5), (ji5), (by first | rfl | (simp; done) | (simp only [← hji5] <;> (first | rfl | simp)) | (simp [*]; done)), (by first | rfl | (simp; done) | (simp only [← hji5] <;> (first | rfl | simp)) | (simp [*]; done)), H', ⟨Nat.le_refl _⟩, ⟨by repeat (first | (with_reducible first | exact HB.out | apply below_alloc | apply pw_below_drewN | apply below_drew1) | exact HB.out)⟩⟩
  case round =>
    clear H'
    try clear p2
    try clear c5
    obtain ⟨x6_1, x7_1, rfl, rfl, HA, HK1, HB⟩ := hrel
    cases gk with
    | zero => exact absurd HA.out (by simp [dither_nearest.l0])
    | succ k1 =>
      have H := HA.out
      clear HA
      simp only [dither_nearest.l0] at H
      obtain ⟨ji6, hji6⟩ : ∃ j_ : Int, (mn (wrap64 ((wrap64 (Int.tdiv (wrap64 ((ji4) * (wrap64 (a0 - 1)))) 16777216)) + 2)) (wrap64 (a0 - 1))) = j_ := ⟨_, rfl⟩
      replace H : (if x7_1 ≤ (ji6) then ((dither_away.f a0 x7_1 ji4).bind fun t106 => ((dither_away.f a0 x6_1 ji4).bind fun t107 => (if t106 < t107 then (dither_nearest.l0 k1 a0 ji4 (wrap64 (Int.tdiv (wrap64 ((ji4) * (wrap64 (a0 - 1)))) 16777216)) x7_1 (wrap64 (x7_1 + 1))) else (dither_nearest.l0 k1 a0 ji4 (wrap64 (Int.tdiv (wrap64 ((ji4) * (wrap64 (a0 - 1)))) 16777216)) x6_1 (wrap64 (x7_1 + 1)))))) else (some x6_1)) = some r := by first | (rw [hji6] at H; exact H) | (simp only [hji6] at H ⊢; exact H)
      have hji6_ : (if (wrap64 (a0 - 1)) < (wrap64 ((wrap64 (Int.tdiv (wrap64 ((ji4) * (wrap64 (a0 - 1)))) 16777216)) + 2)) then (wrap64 (a0 - 1)) else (wrap64 ((wrap64 (Int.tdiv (wrap64 ((ji4) * (wrap64 (a0 - 1)))) 16777216)) + 2))) = ji6 := hji6
      by_cases c7 : x7_1 ≤ (ji6)
      · rw [if_pos c7] at H
        have c7b0 : decide (x7_1 ≤ (ji6)) = true := decide_eq_true c7
        clear c7
        replace H := Option.bind_eq_some_iff.mp H
        obtain ⟨t106, A80, H⟩ := H
        replace H : ((dither_away.f a0 x6_1 ji4).bind fun t107 => (if t106 < t107 then (dither_nearest.l0 k1 a0 ji4 (wrap64 (Int.tdiv (wrap64 ((ji4) * (wrap64 (a0 - 1)))) 16777216)) x7_1 (wrap64 (x7_1 + 1))) else (dither_nearest.l0 k1 a0 ji4 (wrap64 (Int.tdiv (wrap64 ((ji4) * (wrap64 (a0 - 1)))) 16777216)) x6_1 (wrap64 (x7_1 + 1))))) = some r := H
        have A8 := Aside0.mk A80
        clear A80
        replace H := Option.bind_eq_some_iff.mp H
        obtain ⟨t107, A90, H⟩ := H
        replace H : (if t106 < t107 then (dither_nearest.l0 k1 a0 ji4 (wrap64 (Int.tdiv (wrap64 ((ji4) * (wrap64 (a0 - 1)))) 16777216)) x7_1 (wrap64 (x7_1 + 1))) else (dither_nearest.l0 k1 a0 ji4 (wrap64 (Int.tdiv (wrap64 ((ji4) * (wrap64 (a0 - 1)))) 16777216)) x6_1 (wrap64 (x7_1 + 1)))) = some r := H
        have A9 := Aside0.mk A90
        clear A90
        by_cases c10 : t106 < t107
        · rw [if_pos c10] at H
          have c10b0 : decide (t106 < t107) = true := decide_eq_true c10
          clear c10
          have H' := Aside0.mk H
          clear H
          go_wp2_with (first | ((with_reducible refine gate_callee (f := 62) rfl ?_); refine goesL_ (some 32) rfl rfl Try.func62 (by kernel_rfl) rfl #[.int .i64 a0, .int .i64 x7_1, .int .i64 ji4] rfl (by (try simp only [List.map_toArray, List.map_cons, List.map_nil]); first | done | (simp only [hji4]; rfl) | rfl | (simp only [List.length_drop, List.length_take]; rfl)) ?_; (with_reducible refine (dither_away.calls a0 x7_1 ji4 t106 _ A8.out).mono ?_); rintro e w11 ⟨rfl, hb⟩; refine ⟨_, rfl, ?_⟩; have n0_ := Aside0.mk (below_step (by repeat (first | (with_reducible first | exact HB.out | apply below_alloc | apply pw_below_drewN | apply below_drew1) | exact HB.out)) hb); clear HB; have HB := n0_; clear n0_; (try clear hb); (try clear hb2); (try clear hk); (try clear hi)) | ((with_reducible refine gate_callee (f := 62) rfl ?_); refine goesL_ (some 36) rfl rfl Try.func62 (by kernel_rfl) rfl #[.int .i64 a0, .int .i64 x6_1, .int .i64 ji4] rfl (by (try simp only [List.map_toArray, List.map_cons, List.map_nil]); first | done | (simp only [hji4]; rfl) | rfl | (simp only [List.length_drop, List.length_take]; rfl)) ?_; (with_reducible refine (dither_away.calls a0 x6_1 ji4 t107 _ A9.out).mono ?_); rintro e w12 ⟨rfl, hb⟩; refine ⟨_, rfl, ?_⟩; have n0_ := Aside0.mk (below_step (by repeat (first | (with_reducible first | exact HB.out | apply below_alloc | apply pw_below_drewN | apply below_drew1) | exact HB.out)) hb); clear HB; have HB := n0_; clear n0_; (try clear hb); (try clear hb2); (try clear hk); (try clear hi)))
          go_roundg k1
          case measure => have := HK1.out; omega
          case rel => exact ⟨(x7_1), (wrap64 (x7_1 + 1)), (by first | rfl | (simp; done) | (simp [*]; done)), (by first | rfl | (simp; done) | (simp [*]; done)), H', ⟨by have := HK1.out; omega⟩, ⟨by repeat (first | (with_reducible first | exact HB.out | apply below_alloc | apply pw_below_drewN | apply below_drew1) | exact HB.out)⟩⟩
        · rw [if_neg c10] at H
          have c10b0 : decide (t106 < t107) = false := decide_eq_false c10
          clear c10
          have H' := Aside0.mk H
          clear H
          go_wp2_with (first | ((with_reducible refine gate_callee (f := 62) rfl ?_); refine goesL_ (some 32) rfl rfl Try.func62 (by kernel_rfl) rfl #[.int .i64 a0, .int .i64 x7_1, .int .i64 ji4] rfl (by (try simp only [List.map_toArray, List.map_cons, List.map_nil]); first | done | (simp only [hji4]; rfl) | rfl | (simp only [List.length_drop, List.length_take]; rfl)) ?_; (with_reducible refine (dither_away.calls a0 x7_1 ji4 t106 _ A8.out).mono ?_); rintro e w13 ⟨rfl, hb⟩; refine ⟨_, rfl, ?_⟩; have n0_ := Aside0.mk (below_step (by repeat (first | (with_reducible first | exact HB.out | apply below_alloc | apply pw_below_drewN | apply below_drew1) | exact HB.out)) hb); clear HB; have HB := n0_; clear n0_; (try clear hb); (try clear hb2); (try clear hk); (try clear hi)) | ((with_reducible refine gate_callee (f := 62) rfl ?_); refine goesL_ (some 36) rfl rfl Try.func62 (by kernel_rfl) rfl #[.int .i64 a0, .int .i64 x6_1, .int .i64 ji4] rfl (by (try simp only [List.map_toArray, List.map_cons, List.map_nil]); first | done | (simp only [hji4]; rfl) | rfl | (simp only [List.length_drop, List.length_take]; rfl)) ?_; (with_reducible refine (dither_away.calls a0 x6_1 ji4 t107 _ A9.out).mono ?_); rintro e w14 ⟨rfl, hb⟩; refine ⟨_, rfl, ?_⟩; have n0_ := Aside0.mk (below_step (by repeat (first | (with_reducible first | exact HB.out | apply below_alloc | apply pw_below_drewN | apply below_drew1) | exact HB.out)) hb); clear HB; have HB := n0_; clear n0_; (try clear hb); (try clear hb2); (try clear hk); (try clear hi)))
          go_roundg k1
          case measure => have := HK1.out; omega
          case rel => exact ⟨(x6_1), (wrap64 (x7_1 + 1)), (by first | rfl | (simp; done) | (simp [*]; done)), (by first | rfl | (simp; done) | (simp [*]; done)), H', ⟨by have := HK1.out; omega⟩, ⟨by repeat (first | (with_reducible first | exact HB.out | apply below_alloc | apply pw_below_drewN | apply below_drew1) | exact HB.out)⟩⟩
      · rw [if_neg c7] at H
        have c7b0 : decide (x7_1 ≤ (ji6)) = false := decide_eq_false c7
        clear c7
        obtain rfl := Option.some.inj H
        go_wp2
        go_ret
        exact ⟨by first | rfl | (simp [errW_none, errW_some] <;> rfl) | (simp only [← hji3, ← hji4, ← hji5, ← hji6]; first | rfl | (simp [errW_none, errW_some] <;> rfl)) | (simp [*, errW_none, errW_some] <;> rfl), by repeat (first | (with_reducible first | exact HB.out | apply below_alloc | apply pw_below_drewN | apply below_drew1) | exact HB.out)⟩

/-! ### dither_Nearest: function 33 -/
def dither_Nearest.f (k : Nat) (a0 : Int) (a1 : Int) : Option (Int × Int) := (dither_levels.f a0).bind fun t108 => (if t108 = true then ((dither_nearest.f k a0 a1).bind fun t109 => (some (t109, 0))) else (some (0, 130)))
theorem dither_Nearest.mono : ∀ a0 a1 k, LeO (dither_Nearest.f k a0 a1) (dither_Nearest.f (k + 1) a0 a1) := by
  intro a0 a1 k
  unfold dither_Nearest.f
  repeat' first
      | (with_reducible exact dither_nearest.mono _ _ _)
      | (with_reducible exact LeO.refl _)
      | (with_reducible exact LeO.none _)
      | (with_reducible refine LeO.ite ?_ ?_)
      | (with_reducible refine LeO.bind ?_ (fun _ => ?_))
      | exact dither_nearest.mono _ _ _
      | exact LeO.none _
      | refine LeO.ite ?_ ?_
      | refine LeO.bind ?_ (fun _ => ?_)
set_option maxHeartbeats 8000000 in
set_option maxRecDepth 100000 in
theorem dither_Nearest.calls (k : Nat) (a0 : Int) (a1 : Int) (r1 : Int) (r2 : Int) (w : World) (h : dither_Nearest.f k a0 a1 = some (r1, r2)) :
    Calls Try.prog 33 #[.int .i64 a0, .int .i64 a1] w fun e w' => e = .returned (.tuple #[.int .i64 r1, .int .i64 r2]) ∧ Below w.heap.size w w' := by
  have HB := Aside0.mk (Below.refl w.heap.size w)
  have H : ((dither_levels.f a0).bind fun t108 => (if t108 = true then ((dither_nearest.f k a0 a1).bind fun t109 => (some (t109, 0))) else (some (0, 130)))) = some (r1, r2) := h
  clear h
  replace H := Option.bind_eq_some_iff.mp H
  obtain ⟨t108, A30, H⟩ := H
  replace H : (if t108 = true then ((dither_nearest.f k a0 a1).bind fun t109 => (some (t109, 0))) else (some (0, 130))) = some (r1, r2) := H
  have A3 := Aside0.mk A30
  clear A30
  by_cases c4 : t108 = true
  · subst c4
    have H1 : ((dither_nearest.f k a0 a1).bind fun t109 => (some (t109, 0))) = some (r1, r2) := by rw [if_pos rfl] at H; exact H
    clear H
    have H := H1
    clear H1
    replace H := Option.bind_eq_some_iff.mp H
    obtain ⟨t109, A50, H⟩ := H
    replace H : (some (t109, 0)) = some (r1, r2) := H
    have A5 := Aside0.mk A50
    clear A50
    simp only [Option.some.injEq, Prod.mk.injEq] at H
    obtain ⟨rfl, rfl⟩ := H
    go_enter Try.func33, Try.ntmps33
    go_wp2_with (first | ((with_reducible refine gate_callee (f := 41) rfl ?_); refine goesL_ (some 7) rfl rfl Try.func41 (by kernel_rfl) rfl #[.int .i64 a0] rfl (by (try simp only [List.map_toArray, List.map_cons, List.map_nil]); first | done | rfl | (simp only [List.length_drop, List.length_take]; rfl)) ?_; (with_reducible refine (dither_levels.calls a0 true _ A3.out).mono ?_); rintro e w' ⟨rfl, ⟨nd, rfl⟩⟩; refine ⟨_, rfl, ?_⟩) | ((with_reducible refine gate_callee (f := 58) rfl ?_); refine goesL_ (some 11) rfl rfl Try.func58 (by kernel_rfl) rfl #[.int .i64 a0, .int .i64 a1] rfl (by (try simp only [List.map_toArray, List.map_cons, List.map_nil]); first | done | rfl | (simp only [List.length_drop, List.length_take]; rfl)) ?_; (with_reducible refine (dither_nearest.calls k a0 a1 t109 _ A5.out).mono ?_); rintro e w6 ⟨rfl, hb⟩; refine ⟨_, rfl, ?_⟩; have n0_ := Aside0.mk (below_step (by repeat (first | (with_reducible first | exact HB.out | apply below_alloc | apply pw_below_drewN | apply below_drew1) | exact HB.out)) hb); clear HB; have HB := n0_; clear n0_; (try clear hb); (try clear hb2); (try clear hk); (try clear hi)))
    go_ret2
    exact ⟨by first | rfl | (simp [errW_none, errW_some] <;> rfl) | (simp [*, errW_none, errW_some] <;> rfl), by repeat (first | (with_reducible first | exact HB.out | apply below_alloc | apply pw_below_drewN | apply below_drew1) | exact HB.out)⟩
  · replace c4 := Bool.eq_false_iff.mpr c4
    subst c4
    have H1 : (some (0, 130)) = some (r1, r2) := by rw [if_neg (show ¬ (false = true) by decide)] at H; exact H
    clear H
    have H := H1
    clear H1
    simp only [Option.some.injEq, Prod.mk.injEq] at H
    obtain ⟨rfl, rfl⟩ := H
    go_enter Try.func33, Try.ntmps33
    go_wp2_with (first | ((with_reducible refine gate_callee (f := 41) rfl ?_); refine goesL_ (some 7) rfl rfl Try.func41 (by kernel_rfl) rfl #[.int .i64 a0] rfl (by (try simp only [List.map_toArray, List.map_cons, List.map_nil]); first | done | rfl | (simp only [List.length_drop, List.length_take]; rfl)) ?_; (with_reducible refine (dither_levels.calls a0 false _ A3.out).mono ?_); rintro e w' ⟨rfl, ⟨nd, rfl⟩⟩; refine ⟨_, rfl, ?_⟩))
    go_ret2
    exact ⟨by first | rfl | (simp [errW_none, errW_some] <;> rfl) | (simp [*, errW_none, errW_some] <;> rfl), by repeat (first | (with_reducible first | exact HB.out | apply below_alloc | apply pw_below_drewN | apply below_drew1) | exact HB.out)⟩

/-! ### dither_side: function 39 -/
def dither_side.f (a0 : Int) : Option (Bool) := if a0 ≥ 1 then (if a0 ≤ 16 then (some ((Go.bits .and .i64 a0 (wrap64 (a0 - 1))) == 0)) else (some false)) else (some false)
set_option maxHeartbeats 8000000 in
set_option maxRecDepth 100000 in
theorem dither_side.calls (a0 : Int) (r : Bool) (w : World) (h : dither_side.f a0 = some r) :
    Calls Try.prog 39 #[.int .i64 a0] w fun e w' => e = .returned (.bool r) ∧ Drawn0 w w' := by
  have H : (if a0 ≥ 1 then (if a0 ≤ 16 then (some ((Go.bits .and .i64 a0 (wrap64 (a0 - 1))) == 0)) else (some false)) else (some false)) = some r := h
  clear h
  by_cases c2 : a0 ≥ 1
  · rw [if_pos c2] at H
    have c2b0 : decide (1 ≤ a0) = true := decide_eq_true c2
    clear c2
    by_cases c3 : a0 ≤ 16
    · rw [if_pos c3] at H
      have c3b0 : decide (a0 ≤ 16) = true := decide_eq_true c3
      clear c3
      obtain rfl := Option.some.inj H
      go_enter Try.func39, Try.ntmps39
      go_wp2
      go_ret
      exact ⟨by first | rfl | (simp; done) | (simp [*]; done), by repeat (first | exact Drawn0.refl _ | apply Drawn0.step)⟩
    · rw [if_neg c3] at H
      have c3b0 : decide (a0 ≤ 16) = false := decide_eq_false c3
      clear c3
      obtain rfl := Option.some.inj H
      go_enter Try.func39, Try.ntmps39
      go_wp2
      go_ret
      exact ⟨by first | rfl | (simp; done) | (simp [*]; done), by repeat (first | exact Drawn0.refl _ | apply Drawn0.step)⟩
  · rw [if_neg c2] at H
    have c2b0 : decide (1 ≤ a0) = false := decide_eq_false c2
    clear c2
    obtain rfl := Option.some.inj H
    go_enter Try.func39, Try.ntmps39
    go_wp2
    go_ret
    exact ⟨by first | rfl | (simp; done) | (simp [*]; done), by repeat (first | exact Drawn0.refl _ | apply Drawn0.step)⟩

/-! ### dither_rest: function 43 -/
def dither_rest.f (a0 : Int) (a1 : Int) : Option (Int) := some (Go.bits .and .i64 a0 (wrap64 (a1 - 1)))
set_option maxHeartbeats 8000000 in
set_option maxRecDepth 100000 in
theorem dither_rest.calls (a0 : Int) (a1 : Int) (r : Int) (w : World) (h : dither_rest.f a0 a1 = some r) :
    Calls Try.prog 43 #[.int .i64 a0, .int .i64 a1] w fun e w' => e = .returned (.int .i64 r) ∧ Drawn0 w w' := by
  have H : (some (Go.bits .and .i64 a0 (wrap64 (a1 - 1)))) = some r := h
  clear h
  obtain rfl := Option.some.inj H
  go_enter Try.func43, Try.ntmps43
  go_wp2
  go_ret
  exact ⟨by first | rfl | (simp; done) | (simp [*]; done), by repeat (first | exact Drawn0.refl _ | apply Drawn0.step)⟩

/-! ### dither_rounded: function 44 -/
mutual
def dither_rounded.j1 : Nat → Int → Int → Int → Int → Int → Option (Int)
  | 0, _, _, _, _, _ => none
  | k + 1, x0, x1, x2, x3, x9 => dither_rounded.l1 k x0 x1 x2 x3 x9
def dither_rounded.l1 : Nat → Int → Int → Int → Int → Int → Option (Int)
  | 0, _, _, _, _, _ => none
  | k + 1, x0, x1, x2, x3, x9 => (dither_unit.f x1 x9).bind fun t111 => (if t111 > x0 then (dither_rounded.l1 k x0 x1 x2 x3 (wrap64 (x9 - 1))) else (if x9 = (wrap64 (x1 - 1)) then (some x9) else ((dither_unit.f x1 (wrap64 (x9 + 1))).bind fun t112 => ((dither_unit.f x1 x9).bind fun t113 => ((dither_unit.f x1 x9).bind fun t114 => (if (wrap64 ((wrap64 ((wrap64 (2 * x2)) * x2)) * (wrap64 (x0 - t114)))) > (wrap64 ((wrap64 ((wrap64 (2 * x3)) + 1)) * (wrap64 (t112 - t113)))) then (some (wrap64 (x9 + 1))) else (some x9)))))))
def dither_rounded.l0 : Nat → Int → Int → Int → Int → Int → Option (Int)
  | 0, _, _, _, _, _ => none
  | k + 1, x0, x1, x2, x3, x9 => if (wrap64 (x9 + 1)) < x1 then ((dither_unit.f x1 (wrap64 (x9 + 1))).bind fun t110 => (if t110 ≤ x0 then (dither_rounded.l0 k x0 x1 x2 x3 (wrap64 (x9 + 1))) else (dither_rounded.j1 k x0 x1 x2 x3 x9))) else (dither_rounded.j1 k x0 x1 x2 x3 x9)
end
def dither_rounded.f (k : Nat) (a0 : Int) (a1 : Int) (a2 : Int) (a3 : Int) : Option (Int) := dither_rounded.l0 k a0 a1 a2 a3 (wrap64 (Int.tdiv (wrap64 (a0 * (wrap64 (a1 - 1)))) 16777216))
theorem dither_rounded.mono_l : ∀ k, (∀ y0 y1 y2 y3 y4, LeO (dither_rounded.j1 k y0 y1 y2 y3 y4) (dither_rounded.j1 (k + 1) y0 y1 y2 y3 y4)) ∧ (∀ y0 y1 y2 y3 y4, LeO (dither_rounded.l1 k y0 y1 y2 y3 y4) (dither_rounded.l1 (k + 1) y0 y1 y2 y3 y4)) ∧ (∀ y0 y1 y2 y3 y4, LeO (dither_rounded.l0 k y0 y1 y2 y3 y4) (dither_rounded.l0 (k + 1) y0 y1 y2 y3 y4))
  | 0 => ⟨fun _ _ _ _ _ r h => by simp [dither_rounded.j1] at h, fun _ _ _ _ _ r h => by simp [dither_rounded.l1] at h, fun _ _ _ _ _ r h => by simp [dither_rounded.l0] at h⟩
  | k + 1 => by
    obtain ⟨ih0, ih1, ih2⟩ := dither_rounded.mono_l k
    refine ⟨?_, ?_, ?_⟩
    · intro y0 y1 y2 y3 y4
      unfold dither_rounded.j1
      repeat' first
      | (with_reducible exact ih0 _ _ _ _ _)
      | (with_reducible exact ih1 _ _ _ _ _)
      | (with_reducible exact ih2 _ _ _ _ _)
      | (with_reducible exact LeO.refl _)
      | (with_reducible exact LeO.none _)
      | (with_reducible refine LeO.ite ?_ ?_)
      | (with_reducible refine LeO.bind ?_ (fun _ => ?_))
      | exact ih0 _ _ _ _ _
      | exact ih1 _ _ _ _ _
      | exact ih2 _ _ _ _ _
      | exact LeO.none _
      | refine LeO.ite ?_ ?_
      | refine LeO.bind ?_ (fun _ => ?_)
    · intro y0 y1 y2 y3 y4
      unfold dither_rounded.l1
      repeat' first
      | (with_reducible exact ih0 _ _ _ _ _)
      | (with_reducible exact ih1 _ _ _ _ _)
      | (with_reducible exact ih2 _ _ _ _ _)
      | (with_reducible exact LeO.refl _)
      | (with_reducible exact LeO.none _)
      | (with_reducible refine LeO.ite ?_ ?_)
      | (with_reducible refine LeO.bind ?_ (fun _ => ?_))
      | exact ih0 _ _ _ _ _
      | exact ih1 _ _ _ _ _
      | exact ih2 _ _ _ _ _
      | exact LeO.none _
      | refine LeO.ite ?_ ?_
      | refine LeO.bind ?_ (fun _ => ?_)
    · intro y0 y1 y2 y3 y4
      unfold dither_rounded.l0
      repeat' first
      | (with_reducible exact ih0 _ _ _ _ _)
      | (with_reducible exact ih1 _ _ _ _ _)
      | (with_reducible exact ih2 _ _ _ _ _)
      | (with_reducible exact LeO.refl _)
      | (with_reducible exact LeO.none _)
      | (with_reducible refine LeO.ite ?_ ?_)
      | (with_reducible refine LeO.bind ?_ (fun _ => ?_))
      | exact ih0 _ _ _ _ _
      | exact ih1 _ _ _ _ _
      | exact ih2 _ _ _ _ _
      | exact LeO.none _
      | refine LeO.ite ?_ ?_
      | refine LeO.bind ?_ (fun _ => ?_)
theorem dither_rounded.mono : ∀ a0 a1 a2 a3 k, LeO (dither_rounded.f k a0 a1 a2 a3) (dither_rounded.f (k + 1) a0 a1 a2 a3) := by
  intro a0 a1 a2 a3 k
  obtain ⟨ih0, ih1, ih2⟩ := dither_rounded.mono_l k
  unfold dither_rounded.f
  repeat' first
      | (with_reducible exact ih0 _ _ _ _ _)
      | (with_reducible exact ih1 _ _ _ _ _)
      | (with_reducible exact ih2 _ _ _ _ _)
      | (with_reducible exact LeO.refl _)
      | (with_reducible exact LeO.none _)
      | (with_reducible refine LeO.ite ?_ ?_)
      | (with_reducible refine LeO.bind ?_ (fun _ => ?_))
      | exact ih0 _ _ _ _ _
      | exact ih1 _ _ _ _ _
      | exact ih2 _ _ _ _ _
      | exact LeO.none _
      | refine LeO.ite ?_ ?_
      | refine LeO.bind ?_ (fun _ => ?_)
set_option maxHeartbeats 8000000 in
set_option maxRecDepth 100000 in
theorem dither_rounded.calls (k : Nat) (a0 : Int) (a1 : Int) (a2 : Int) (a3 : Int) (r : Int) (w : World) (h : dither_rounded.f k a0 a1 a2 a3 = some r) :
    Calls Try.prog 44 #[.int .i64 a0, .int .i64 a1, .int .i64 a2, .int .i64 a3] w fun e w' => e = .returned (.int .i64 r) ∧ Drawn0 w w' := by
  have H : (dither_rounded.l0 k a0 a1 a2 a3 (wrap64 (Int.tdiv (wrap64 (a0 * (wrap64 (a1 - 1)))) 16777216))) = some r := h
  clear h
  have HC5 := Aside0.mk H
  clear H
  go_enter Try.func44, Try.ntmps44
  go_upto_block 0 with (fail)
  go_cut [9] (fun v9 wc => ∃ (kq : Nat) (x9_4 : Int), v9 = .int .i64 x9_4 ∧ Aside0 (dither_rounded.j1 kq a0 a1 a2 a3 x9_4 = some r) ∧ Aside0 (kq ≤ k) ∧ Drawn0 w wc)
  case first =>
    have H := HC5.out
    clear HC5
    have H' := Aside0.mk H
    clear H
    go_wp2
    go_loopg [9] k (fun kq v9 w' => ∃ (x9_1 : Int), v9 = .int .i64 x9_1 ∧ Aside0 (dither_rounded.l0 kq a0 a1 a2 a3 x9_1 = some r) ∧ Aside0 (kq ≤ k) ∧ Drawn0 w w')
    case atStart => exact ⟨(wrap64 (Int.tdiv (wrap64 (a0 * (wrap64 (a1 - 1)))) 16777216)), (by first | rfl | (simp; done) | (simp [*]; done)), H', ⟨Nat.le_refl _⟩, by repeat (first | exact Drawn0.refl _ | apply Drawn0.step)⟩
    case round =>
      clear H'
      try clear p2
      try clear c4
      obtain ⟨x9_1, rfl, HA, HK1, ⟨m1, rfl⟩⟩ := hrel
      cases gk with
      | zero => exact absurd HA.out (by simp [dither_rounded.l0])
      | succ k1 =>
        have H := HA.out
        clear HA
        simp only [dither_rounded.l0] at H
        by_cases c6 : (wrap64 (x9_1 + 1)) < a1
        · rw [if_pos c6] at H
          have c6b0 : decide ((wrap64 (x9_1 + 1)) < a1) = true := decide_eq_true c6
          clear c6
          (first | rw [c6b0] | (simp only [i64_w, i32_w]; rw [c6b0]) | skip)
          replace H := Option.bind_eq_some_iff.mp H
          obtain ⟨t110, A70, H⟩ := H
          replace H : (if t110 ≤ a0 then (dither_rounded.l0 k1 a0 a1 a2 a3 (wrap64 (x9_1 + 1))) else (dither_rounded.j1 k1 a0 a1 a2 a3 x9_1)) = some r := H
          have A7 := Aside0.mk A70
          clear A70
          by_cases c8 : t110 ≤ a0
          · rw [if_pos c8] at H
            have c8b0 : decide (t110 ≤ a0) = true := decide_eq_true c8
            clear c8
            have H' := Aside0.mk H
            clear H
            go_wp2_with (first | (go_at_call 52; (with_reducible refine (dither_unit.calls a1 (wrap64 (x9_1 + 1)) t110 _ A7.out).mono ?_); rintro e w' ⟨rfl, ⟨nd, rfl⟩⟩))
            go_roundg k1
            case measure => have := HK1.out; omega
            case rel => exact ⟨(wrap64 (x9_1 + 1)), (by first | rfl | (simp; done) | (simp [*]; done)), H', ⟨by have := HK1.out; omega⟩, by repeat (first | exact Drawn0.refl _ | apply Drawn0.step)⟩
          · rw [if_neg c8] at H
            have c8b0 : decide (t110 ≤ a0) = false := decide_eq_false c8
            clear c8
            have H' := Aside0.mk H
            clear H
            go_wp2_with (first | (go_at_call 52; (with_reducible refine (dither_unit.calls a1 (wrap64 (x9_1 + 1)) t110 _ A7.out).mono ?_); rintro e w' ⟨rfl, ⟨nd, rfl⟩⟩))
            go_meet
            case rel => exact ⟨_, (x9_1), (by first | rfl | (simp; done) | (simp [*]; done)), H', ⟨by have := HK1.out; first | omega | exact Nat.le_refl _⟩, by repeat (first | exact Drawn0.refl _ | apply Drawn0.step)⟩
        · rw [if_neg c6] at H
          have c6b0 : decide ((wrap64 (x9_1 + 1)) < a1) = false := decide_eq_false c6
          clear c6
          (first | rw [c6b0] | (simp only [i64_w, i32_w]; rw [c6b0]) | skip)
          have H' := Aside0.mk H
          clear H
          go_wp2
          go_meet
          case rel => exact ⟨_, (x9_1), (by first | rfl | (simp; done) | (simp [*]; done)), H', ⟨by have := HK1.out; first | omega | exact Nat.le_refl _⟩, by repeat (first | exact Drawn0.refl _ | apply Drawn0.step)⟩
  case rest =>
    clear HC5
    try clear p2
    try clear c4
    try clear c6
    try clear c6b0
    try clear p6
    try clear c8
    try clear c8b0
    try clear p2
    obtain ⟨kq, x9_4, rfl, HA, HJ4, ⟨mc4, rfl⟩⟩ := hcut
    cases kq with
    | zero => exact absurd HA.out (by simp [dither_rounded.j1])
    | succ kj4 =>
      have H := HA.out
      clear HA
      simp only [dither_rounded.j1] at H
      have H' := Aside0.mk H
      clear H
      go_wp2
      go_loopg [9] kj4 (fun kq v9 w' => ∃ (x9_2 : Int), v9 = .int .i64 x9_2 ∧ Aside0 (dither_rounded.l1 kq a0 a1 a2 a3 x9_2 = some r) ∧ Aside0 (kq ≤ kj4) ∧ Drawn0 w w')
      case atStart => exact ⟨(x9_4), (by first | rfl | (simp; done) | (simp [*]; done)), H', ⟨Nat.le_refl _⟩, by repeat (first | exact Drawn0.refl _ | apply Drawn0.step)⟩
      case round =>
        clear H'
        try clear p2
        try clear c4
        try clear c6
        try clear c6b0
        try clear p6
        try clear c8
        try clear c8b0
        try clear p2
        try clear p6
        obtain ⟨x9_2, rfl, HA, HK2, ⟨m2, rfl⟩⟩ := hrel
        cases gk with
        | zero => exact absurd HA.out (by simp [dither_rounded.l1])
        | succ k2 =>
          have H := HA.out
          clear HA
          simp only [dither_rounded.l1] at H
          replace H := Option.bind_eq_some_iff.mp H
          obtain ⟨t111, A90, H⟩ := H
          replace H : (if t111 > a0 then (dither_rounded.l1 k2 a0 a1 a2 a3 (wrap64 (x9_2 - 1))) else (if x9_2 = (wrap64 (a1 - 1)) then (some x9_2) else ((dither_unit.f a1 (wrap64 (x9_2 + 1))).bind fun t112 => ((dither_unit.f a1 x9_2).bind fun t113 => ((dither_unit.f a1 x9_2).bind fun t114 => (if (wrap64 ((wrap64 ((wrap64 (2 * a2)) * a2)) * (wrap64 (a0 - t114)))) > (wrap64 ((wrap64 ((wrap64 (2 * a3)) + 1)) * (wrap64 (t112 - t113)))) then (some (wrap64 (x9_2 + 1))) else (some x9_2))))))) = some r := H
          have A9 := Aside0.mk A90
          clear A90
          by_cases c10 : t111 > a0
          · rw [if_pos c10] at H
            have c10b0 : decide (a0 < t111) = true := decide_eq_true c10
            clear c10
            have H' := Aside0.mk H
            clear H
            go_wp2_with (first | ((with_reducible refine gate_callee (f := 52) rfl ?_); refine goesL_ (some 32) rfl rfl Try.func52 (by kernel_rfl) rfl #[.int .i64 a1, .int .i64 x9_2] rfl (by (try simp only [List.map_toArray, List.map_cons, List.map_nil]); first | done | rfl | (simp only [List.length_drop, List.length_take]; rfl)) ?_; (with_reducible refine (dither_unit.calls a1 x9_2 t111 _ A9.out).mono ?_); rintro e w' ⟨rfl, ⟨nd, rfl⟩⟩; refine ⟨_, rfl, ?_⟩))
            go_roundg k2
            case measure => have := HJ4.out; have := HK2.out; omega
            case rel => exact ⟨(wrap64 (x9_2 - 1)), (by first | rfl | (simp; done) | (simp [*]; done)), H', ⟨by have := HJ4.out; have := HK2.out; omega⟩, by repeat (first | exact Drawn0.refl _ | apply Drawn0.step)⟩
          · rw [if_neg c10] at H
            have c10b0 : decide (a0 < t111) = false := decide_eq_false c10
            clear c10
            by_cases c11 : x9_2 = (wrap64 (a1 - 1))
            · rw [if_pos c11] at H
              have c11b0 : (x9_2 == (wrap64 (a1 - 1))) = true := beq_iff_eq.mpr c11
              have c11b1 : (x9_2 != (wrap64 (a1 - 1))) = false := bne_eq_false_iff_eq.mpr c11
              clear c11
              obtain rfl := Option.some.inj H
              go_wp2_with (first | ((with_reducible refine gate_callee (f := 52) rfl ?_); refine goesL_ (some 32) rfl rfl Try.func52 (by kernel_rfl) rfl #[.int .i64 a1, .int .i64 x9_2] rfl (by (try simp only [List.map_toArray, List.map_cons, List.map_nil]); first | done | rfl | (simp only [List.length_drop, List.length_take]; rfl)) ?_; (with_reducible refine (dither_unit.calls a1 x9_2 t111 _ A9.out).mono ?_); rintro e w' ⟨rfl, ⟨nd, rfl⟩⟩; refine ⟨_, rfl, ?_⟩))
              go_ret
              exact ⟨by first | rfl | (simp; done) | (simp [*]; done), by repeat (first | exact Drawn0.refl _ | apply Drawn0.step)⟩
            · rw [if_neg c11] at H
              have c11b0 : (x9_2 == (wrap64 (a1 - 1))) = false := beq_eq_false_iff_ne.mpr c11
              have c11b1 : (x9_2 != (wrap64 (a1 - 1))) = true := bne_iff_ne.mpr c11
              replace H := Option.bind_eq_some_iff.mp H
              obtain ⟨t112, A120, H⟩ := H
              replace H : ((dither_unit.f a1 x9_2).bind fun t113 => ((dither_unit.f a1 x9_2).bind fun t114 => (if (wrap64 ((wrap64 ((wrap64 (2 * a2)) * a2)) * (wrap64 (a0 - t114)))) > (wrap64 ((wrap64 ((wrap64 (2 * a3)) + 1)) * (wrap64 (t112 - t113)))) then (some (wrap64 (x9_2 + 1))) else (some x9_2)))) = some r := H
              have A12 := Aside0.mk A120
              clear A120
              replace H := Option.bind_eq_some_iff.mp H
              obtain ⟨t113, A130, H⟩ := H
              replace H : ((dither_unit.f a1 x9_2).bind fun t114 => (if (wrap64 ((wrap64 ((wrap64 (2 * a2)) * a2)) * (wrap64 (a0 - t114)))) > (wrap64 ((wrap64 ((wrap64 (2 * a3)) + 1)) * (wrap64 (t112 - t113)))) then (some (wrap64 (x9_2 + 1))) else (some x9_2))) = some r := H
              have A13 := Aside0.mk A130
              clear A130
              replace H := Option.bind_eq_some_iff.mp H
              obtain ⟨t114, A140, H⟩ := H
              replace H : (if (wrap64 ((wrap64 ((wrap64 (2 * a2)) * a2)) * (wrap64 (a0 - t114)))) > (wrap64 ((wrap64 ((wrap64 (2 * a3)) + 1)) * (wrap64 (t112 - t113)))) then (some (wrap64 (x9_2 + 1))) else (some x9_2)) = some r := H
              have A14 := Aside0.mk A140
              clear A140
              by_cases c15 : (wrap64 ((wrap64 ((wrap64 (2 * a2)) * a2)) * (wrap64 (a0 - t114)))) > (wrap64 ((wrap64 ((wrap64 (2 * a3)) + 1)) * (wrap64 (t112 - t113))))
              · rw [if_pos c15] at H
                have c15b0 : decide ((wrap64 ((wrap64 ((wrap64 (2 * a3)) + 1)) * (wrap64 (t112 - t113)))) < (wrap64 ((wrap64 ((wrap64 (2 * a2)) * a2)) * (wrap64 (a0 - t114))))) = true := decide_eq_true c15
                clear c15
                obtain rfl := Option.some.inj H
                go_wp2_with (first | ((with_reducible refine gate_callee (f := 52) rfl ?_); refine goesL_ (some 32) rfl rfl Try.func52 (by kernel_rfl) rfl #[.int .i64 a1, .int .i64 x9_2] rfl (by (try simp only [List.map_toArray, List.map_cons, List.map_nil]); first | done | rfl | (simp only [List.length_drop, List.length_take]; rfl)) ?_; (with_reducible refine (dither_unit.calls a1 x9_2 t111 _ A9.out).mono ?_); rintro e w' ⟨rfl, ⟨nd, rfl⟩⟩; refine ⟨_, rfl, ?_⟩) | ((with_reducible refine gate_callee (f := 52) rfl ?_); refine goesL_ (some 45) rfl rfl Try.func52 (by kernel_rfl) rfl #[.int .i64 a1, .int .i64 (wrap64 (x9_2 + 1))] rfl (by (try simp only [List.map_toArray, List.map_cons, List.map_nil]); first | done | rfl | (simp only [List.length_drop, List.length_take]; rfl)) ?_; (with_reducible refine (dither_unit.calls a1 (wrap64 (x9_2 + 1)) t112 _ A12.out).mono ?_); rintro e w' ⟨rfl, ⟨nd, rfl⟩⟩; refine ⟨_, rfl, ?_⟩) | ((with_reducible refine gate_callee (f := 52) rfl ?_); refine goesL_ (some 48) rfl rfl Try.func52 (by kernel_rfl) rfl #[.int .i64 a1, .int .i64 x9_2] rfl (by (try simp only [List.map_toArray, List.map_cons, List.map_nil]); first | done | rfl | (simp only [List.length_drop, List.length_take]; rfl)) ?_; (with_reducible refine (dither_unit.calls a1 x9_2 t113 _ A13.out).mono ?_); rintro e w' ⟨rfl, ⟨nd, rfl⟩⟩; refine ⟨_, rfl, ?_⟩) | ((with_reducible refine gate_callee (f := 52) rfl ?_); refine goesL_ (some 57) rfl rfl Try.func52 (by kernel_rfl) rfl #[.int .i64 a1, .int .i64 x9_2] rfl (by (try simp only [List.map_toArray, List.map_cons, List.map_nil]); first | done | rfl | (simp only [List.length_drop, List.length_take]; rfl)) ?_; (with_reducible refine (dither_unit.calls a1 x9_2 t114 _ A14.out).mono ?_); rintro e w' ⟨rfl, ⟨nd, rfl⟩⟩; refine ⟨_, rfl, ?_⟩))
                go_ret
                exact ⟨by first | rfl | (simp; done) | (simp [*]; done), by repeat (first | exact Drawn0.refl _ | apply Drawn0.step)⟩
              · rw [if_neg c15] at H
                have c15b0 : decide ((wrap64 ((wrap64 ((wrap64 (2 * a3)) + 1)) * (wrap64 (t112 - t113)))) < (wrap64 ((wrap64 ((wrap64 (2 * a2)) * a2)) * (wrap64 (a0 - t114))))) = false := decide_eq_false c15
                clear c15
                obtain rfl := Option.some.inj H
                go_wp2_with (first | ((with_reducible refine gate_callee (f := 52) rfl ?_); refine goesL_ (some 32) rfl rfl Try.func52 (by kernel_rfl) rfl #[.int .i64 a1, .int .i64 x9_2] rfl (by (try simp only [List.map_toArray, List.map_cons, List.map_nil]); first | done | rfl | (simp only [List.length_drop, List.length_take]; rfl)) ?_; (with_reducible refine (dither_unit.calls a1 x9_2 t111 _ A9.out).mono ?_); rintro e w' ⟨rfl, ⟨nd, rfl⟩⟩; refine ⟨_, rfl, ?_⟩) | ((with_reducible refine gate_callee (f := 52) rfl ?_); refine goesL_ (some 45) rfl rfl Try.func52 (by kernel_rfl) rfl #[.int .i64 a1, .int .i64 (wrap64 (x9_2 + 1))] rfl (by (try simp only [List.map_toArray, List.map_cons, List.map_nil]); first | done | rfl | (simp only [List.length_drop, List.length_take]; rfl)) ?_; (with_reducible refine (dither_unit.calls a1 (wrap64 (x9_2 + 1)) t112 _ A12.out).mono ?_); rintro e w' ⟨rfl, ⟨nd, rfl⟩⟩; refine ⟨_, rfl, ?_⟩) | ((with_reducible refine gate_callee (f := 52) rfl ?_); refine goesL_ (some 48) rfl rfl Try.func52 (by kernel_rfl) rfl #[.int .i64 a1, .int .i64 x9_2] rfl (by (try simp only [List.map_toArray, List.map_cons, List.map_nil]); first | done | rfl | (simp only [List.length_drop, List.length_take]; rfl)) ?_; (with_reducible refine (dither_unit.calls a1 x9_2 t113 _ A13.out).mono ?_); rintro e w' ⟨rfl, ⟨nd, rfl⟩⟩; refine ⟨_, rfl, ?_⟩) | ((with_reducible refine gate_callee (f := 52) rfl ?_); refine goesL_ (some 57) rfl rfl Try.func52 (by kernel_rfl) rfl #[.int .i64 a1, .int .i64 x9_2] rfl (by (try simp only [List.map_toArray, List.map_cons, List.map_nil]); first | done | rfl | (simp only [List.length_drop, List.length_take]; rfl)) ?_; (with_reducible refine (dither_unit.calls a1 x9_2 t114 _ A14.out).mono ?_); rintro e w' ⟨rfl, ⟨nd, rfl⟩⟩; refine ⟨_, rfl, ?_⟩))
                go_ret
                exact ⟨by first | rfl | (simp; done) | (simp [*]; done), by repeat (first | exact Drawn0.refl _ | apply Drawn0.step)⟩

/-! ### dither_floor: function 60 -/
def dither_floor.f (a0 : Int) : Option (Int) := some (a0 / 16)
set_option maxHeartbeats 8000000 in
set_option maxRecDepth 100000 in
theorem dither_floor.calls (a0 : Int) (r : Int) (w : World) (h : dither_floor.f a0 = some r) :
    Calls Try.prog 60 #[.int .i64 a0] w fun e w' => e = .returned (.int .i64 r) ∧ Drawn0 w w' := by
  have H : (some (a0 / 16)) = some r := h
  clear h
  obtain rfl := Option.some.inj H
  go_enter Try.func60, Try.ntmps60
  go_wp2
  go_ret
  exact ⟨by first | rfl | (simp; done) | (simp [*]; done), by repeat (first | exact Drawn0.refl _ | apply Drawn0.step)⟩

/-! ### plane_size: function 59 -/
def plane_size.f (a0 : Int) (a1 : Int) : Option (Bool) := if a0 ≥ 1 then (if a1 ≥ 1 then (if a0 ≤ 1024 then (if a1 ≤ 1024 then (some (decide ((wrap64 (a0 * a1)) ≤ 65536))) else (some false)) else (some false)) else (some false)) else (some false)
set_option maxHeartbeats 8000000 in
set_option maxRecDepth 100000 in
theorem plane_size.calls (a0 : Int) (a1 : Int) (r : Bool) (w : World) (h : plane_size.f a0 a1 = some r) :
    Calls Try.prog 59 #[.int .i64 a0, .int .i64 a1] w fun e w' => e = .returned (.bool r) ∧ Drawn0 w w' := by
  have H : (if a0 ≥ 1 then (if a1 ≥ 1 then (if a0 ≤ 1024 then (if a1 ≤ 1024 then (some (decide ((wrap64 (a0 * a1)) ≤ 65536))) else (some false)) else (some false)) else (some false)) else (some false)) = some r := h
  clear h
  by_cases c3 : a0 ≥ 1
  · rw [if_pos c3] at H
    have c3b0 : decide (1 ≤ a0) = true := decide_eq_true c3
    clear c3
    by_cases c4 : a1 ≥ 1
    · rw [if_pos c4] at H
      have c4b0 : decide (1 ≤ a1) = true := decide_eq_true c4
      clear c4
      by_cases c5 : a0 ≤ 1024
      · rw [if_pos c5] at H
        have c5b0 : decide (a0 ≤ 1024) = true := decide_eq_true c5
        clear c5
        by_cases c6 : a1 ≤ 1024
        · rw [if_pos c6] at H
          have c6b0 : decide (a1 ≤ 1024) = true := decide_eq_true c6
          clear c6
          obtain rfl := Option.some.inj H
          go_enter Try.func59, Try.ntmps59
          go_wp2
          go_ret
          exact ⟨by first | rfl | (simp; done) | (simp [*]; done), by repeat (first | exact Drawn0.refl _ | apply Drawn0.step)⟩
        · rw [if_neg c6] at H
          have c6b0 : decide (a1 ≤ 1024) = false := decide_eq_false c6
          clear c6
          obtain rfl := Option.some.inj H
          go_enter Try.func59, Try.ntmps59
          go_wp2
          go_ret
          exact ⟨by first | rfl | (simp; done) | (simp [*]; done), by repeat (first | exact Drawn0.refl _ | apply Drawn0.step)⟩
      · rw [if_neg c5] at H
        have c5b0 : decide (a0 ≤ 1024) = false := decide_eq_false c5
        clear c5
        obtain rfl := Option.some.inj H
        go_enter Try.func59, Try.ntmps59
        go_wp2
        go_ret
        exact ⟨by first | rfl | (simp; done) | (simp [*]; done), by repeat (first | exact Drawn0.refl _ | apply Drawn0.step)⟩
    · rw [if_neg c4] at H
      have c4b0 : decide (1 ≤ a1) = false := decide_eq_false c4
      clear c4
      obtain rfl := Option.some.inj H
      go_enter Try.func59, Try.ntmps59
      go_wp2
      go_ret
      exact ⟨by first | rfl | (simp; done) | (simp [*]; done), by repeat (first | exact Drawn0.refl _ | apply Drawn0.step)⟩
  · rw [if_neg c3] at H
    have c3b0 : decide (1 ≤ a0) = false := decide_eq_false c3
    clear c3
    obtain rfl := Option.some.inj H
    go_enter Try.func59, Try.ntmps59
    go_wp2
    go_ret
    exact ⟨by first | rfl | (simp; done) | (simp [*]; done), by repeat (first | exact Drawn0.refl _ | apply Drawn0.step)⟩

/-! ### plane_Check: function 42 -/
def plane_Check.f (a0_0 : Int) (a0_1 : Int) (l0_2 : List Int) : Option (Int) := (plane_size.f a0_0 a0_1).bind fun t116 => (if t116 = true then (if (l0_2.length : Int) = (wrap64 (a0_0 * a0_1)) then (some 0) else (some 51)) else (some 50))
set_option maxHeartbeats 8000000 in
set_option maxRecDepth 100000 in
theorem plane_Check.calls (a0_0 : Int) (a0_1 : Int) (A0_2 : Option Addr) (c0_2 : Nat) (l0_2 : List Int) (r : Int) (w : World) (hr0_2 : Kd.C (Kd.int .u32) w A0_2 l0_2.length l0_2) (hc0_2 : l0_2.length ≤ c0_2) (h : plane_Check.f a0_0 a0_1 l0_2 = some r) :
    Calls Try.prog 42 #[.agg #[.int .i64 a0_0, .int .i64 a0_1, .slice A0_2 l0_2.length c0_2]] w fun e w' => e = .returned (.int .i64 r) ∧ Below w.heap.size w w' := by
  have hu35 := Try.underlying35
  have HR0_2 := Aside0.mk hr0_2
  have HC0_2 := Aside0.mk hc0_2
  clear hr0_2 hc0_2
  have HB := Aside0.mk (Below.refl w.heap.size w)
  have H : ((plane_size.f a0_0 a0_1).bind fun t116 => (if t116 = true then (if (l0_2.length : Int) = (wrap64 (a0_0 * a0_1)) then (some 0) else (some 51)) else (some 50))) = some r := h
  clear h
  replace H := Option.bind_eq_some_iff.mp H
  obtain ⟨t116, A20, H⟩ := H
  replace H : (if t116 = true then (if (l0_2.length : Int) = (wrap64 (a0_0 * a0_1)) then (some 0) else (some 51)) else (some 50)) = some r := H
  have A2 := Aside0.mk A20
  clear A20
  by_cases c3 : t116 = true
  · subst c3
    have H1 : (if (l0_2.length : Int) = (wrap64 (a0_0 * a0_1)) then (some 0) else (some 51)) = some r := by rw [if_pos rfl] at H; exact H
    clear H
    have H := H1
    clear H1
    by_cases c4 : (l0_2.length : Int) = (wrap64 (a0_0 * a0_1))
    · rw [if_pos c4] at H
      have c4b0 : ((l0_2.length : Int) == (wrap64 (a0_0 * a0_1))) = true := beq_iff_eq.mpr c4
      have c4b1 : ((l0_2.length : Int) != (wrap64 (a0_0 * a0_1))) = false := bne_eq_false_iff_eq.mpr c4
      clear c4
      obtain rfl := Option.some.inj H
      go_enter Try.func42, Try.ntmps42
      go_wp2_with (first | ((with_reducible refine gate_dst (N := 1) rfl ?_); refine box_event ?hg (N := 1) ?hd (cs := #[.int .i64 a0_0, .int .i64 a0_1, .slice A0_2 l0_2.length c0_2]) (t := 35) ?hr ?_; (case hd => rfl); (case hg => rfl); (case hr => first | (go_simp; done) | (go_simp; rfl)); intro gb115 hg w5 hbox hb; have n0_ := Aside0.mk (below_step (by repeat (first | (with_reducible first | exact HB.out | apply below_alloc | apply pw_below_drewN | apply below_drew1) | exact HB.out)) hb); have n1_ := Aside0.mk (hbox); have n2_ := Aside0.mk ((by rw [hg]; exact (below_size (by repeat (first | (with_reducible first | exact HB.out | apply below_alloc | apply pw_below_drewN | apply below_drew1) | exact HB.out))) : w.heap.size ≤ gb115)); have n3_ := Aside0.mk ((by rw [hg]; exact (below_size (by repeat (first | (with_reducible first | exact HB.out | apply below_alloc | apply pw_below_drewN | apply below_drew1) | exact HB.out))) : w.heap.size ≤ gb115)); clear HB; have HB := n0_; have BK115 := n1_; have GW115 := n2_; have GE115 := n3_; clear n0_ n1_ n2_ n3_; clear hb hbox hg; have hcz6_0 : w5.cell? ⟨gb115, 0, none⟩ = some (.int .i64 a0_0) := (blk_cell BK115.out 0).trans rfl; have hcz6_1 : w5.cell? ⟨gb115, 1, none⟩ = some (.int .i64 a0_1) := (blk_cell BK115.out 1).trans rfl; have hcz6_2 : w5.cell? ⟨gb115, 2, none⟩ = some (.slice A0_2 l0_2.length c0_2) := (blk_cell BK115.out 2).trans rfl; have hfz6_0 := blk_frozen BK115.out 0; have hfz6_1 := blk_frozen BK115.out 1; have hfz6_2 := blk_frozen BK115.out 2) | ((with_reducible refine gate_callee (f := 59) rfl ?_); refine goesL_ (some 8) rfl rfl Try.func59 (by kernel_rfl) rfl #[.int .i64 a0_0, .int .i64 a0_1] rfl (by (try simp only [List.map_toArray, List.map_cons, List.map_nil]); first | done | rfl | (simp only [List.length_drop, List.length_take]; rfl)) ?_; (with_reducible refine (plane_size.calls a0_0 a0_1 true _ A2.out).mono ?_); rintro e w' ⟨rfl, ⟨nd, rfl⟩⟩; refine ⟨_, rfl, ?_⟩))
      go_ret
      exact ⟨by first | rfl | (simp [errW_none, errW_some] <;> rfl) | (simp [*, errW_none, errW_some] <;> rfl), by repeat (first | (with_reducible first | exact HB.out | apply below_alloc | apply pw_below_drewN | apply below_drew1 | refine below_set ?_ GE115.out) | exact HB.out)⟩
    · rw [if_neg c4] at H
      have c4b0 : ((l0_2.length : Int) == (wrap64 (a0_0 * a0_1))) = false := beq_eq_false_iff_ne.mpr c4
      have c4b1 : ((l0_2.length : Int) != (wrap64 (a0_0 * a0_1))) = true := bne_iff_ne.mpr c4
      obtain rfl := Option.some.inj H
      go_enter Try.func42, Try.ntmps42
      go_wp2_with (first | ((with_reducible refine gate_dst (N := 1) rfl ?_); refine box_event ?hg (N := 1) ?hd (cs := #[.int .i64 a0_0, .int .i64 a0_1, .slice A0_2 l0_2.length c0_2]) (t := 35) ?hr ?_; (case hd => rfl); (case hg => rfl); (case hr => first | (go_simp; done) | (go_simp; rfl)); intro gb115 hg w7 hbox hb; have n0_ := Aside0.mk (below_step (by repeat (first | (with_reducible first | exact HB.out | apply below_alloc | apply pw_below_drewN | apply below_drew1) | exact HB.out)) hb); have n1_ := Aside0.mk (hbox); have n2_ := Aside0.mk ((by rw [hg]; exact (below_size (by repeat (first | (with_reducible first | exact HB.out | apply below_alloc | apply pw_below_drewN | apply below_drew1) | exact HB.out))) : w.heap.size ≤ gb115)); have n3_ := Aside0.mk ((by rw [hg]; exact (below_size (by repeat (first | (with_reducible first | exact HB.out | apply below_alloc | apply pw_below_drewN | apply below_drew1) | exact HB.out))) : w.heap.size ≤ gb115)); clear HB; have HB := n0_; have BK115 := n1_; have GW115 := n2_; have GE115 := n3_; clear n0_ n1_ n2_ n3_; clear hb hbox hg; have hcz8_0 : w7.cell? ⟨gb115, 0, none⟩ = some (.int .i64 a0_0) := (blk_cell BK115.out 0).trans rfl; have hcz8_1 : w7.cell? ⟨gb115, 1, none⟩ = some (.int .i64 a0_1) := (blk_cell BK115.out 1).trans rfl; have hcz8_2 : w7.cell? ⟨gb115, 2, none⟩ = some (.slice A0_2 l0_2.length c0_2) := (blk_cell BK115.out 2).trans rfl; have hfz8_0 := blk_frozen BK115.out 0; have hfz8_1 := blk_frozen BK115.out 1; have hfz8_2 := blk_frozen BK115.out 2) | ((with_reducible refine gate_callee (f := 59) rfl ?_); refine goesL_ (some 8) rfl rfl Try.func59 (by kernel_rfl) rfl #[.int .i64 a0_0, .int .i64 a0_1] rfl (by (try simp only [List.map_toArray, List.map_cons, List.map_nil]); first | done | rfl | (simp only [List.length_drop, List.length_take]; rfl)) ?_; (with_reducible refine (plane_size.calls a0_0 a0_1 true _ A2.out).mono ?_); rintro e w' ⟨rfl, ⟨nd, rfl⟩⟩; refine ⟨_, rfl, ?_⟩))
      go_ret
      exact ⟨by first | rfl | (simp [errW_none, errW_some] <;> rfl) | (simp [*, errW_none, errW_some] <;> rfl), by repeat (first | (with_reducible first | exact HB.out | apply below_alloc | apply pw_below_drewN | apply below_drew1 | refine below_set ?_ GE115.out) | exact HB.out)⟩
  · replace c3 := Bool.eq_false_iff.mpr c3
    subst c3
    have H1 : (some 50) = some r := by rw [if_neg (show ¬ (false = true) by decide)] at H; exact H
    clear H
    have H := H1
    clear H1
    obtain rfl := Option.some.inj H
    go_enter Try.func42, Try.ntmps42
    go_wp2_with (first | ((with_reducible refine gate_dst (N := 1) rfl ?_); refine box_event ?hg (N := 1) ?hd (cs := #[.int .i64 a0_0, .int .i64 a0_1, .slice A0_2 l0_2.length c0_2]) (t := 35) ?hr ?_; (case hd => rfl); (case hg => rfl); (case hr => first | (go_simp; done) | (go_simp; rfl)); intro gb115 hg w9 hbox hb; have n0_ := Aside0.mk (below_step (by repeat (first | (with_reducible first | exact HB.out | apply below_alloc | apply pw_below_drewN | apply below_drew1) | exact HB.out)) hb); have n1_ := Aside0.mk (hbox); have n2_ := Aside0.mk ((by rw [hg]; exact (below_size (by repeat (first | (with_reducible first | exact HB.out | apply below_alloc | apply pw_below_drewN | apply below_drew1) | exact HB.out))) : w.heap.size ≤ gb115)); have n3_ := Aside0.mk ((by rw [hg]; exact (below_size (by repeat (first | (with_reducible first | exact HB.out | apply below_alloc | apply pw_below_drewN | apply below_drew1) | exact HB.out))) : w.heap.size ≤ gb115)); clear HB; have HB := n0_; have BK115 := n1_; have GW115 := n2_; have GE115 := n3_; clear n0_ n1_ n2_ n3_; clear hb hbox hg; have hcz10_0 : w9.cell? ⟨gb115, 0, none⟩ = some (.int .i64 a0_0) := (blk_cell BK115.out 0).trans rfl; have hcz10_1 : w9.cell? ⟨gb115, 1, none⟩ = some (.int .i64 a0_1) := (blk_cell BK115.out 1).trans rfl; have hcz10_2 : w9.cell? ⟨gb115, 2, none⟩ = some (.slice A0_2 l0_2.length c0_2) := (blk_cell BK115.out 2).trans rfl; have hfz10_0 := blk_frozen BK115.out 0; have hfz10_1 := blk_frozen BK115.out 1; have hfz10_2 := blk_frozen BK115.out 2) | ((with_reducible refine gate_callee (f := 59) rfl ?_); refine goesL_ (some 8) rfl rfl Try.func59 (by kernel_rfl) rfl #[.int .i64 a0_0, .int .i64 a0_1] rfl (by (try simp only [List.map_toArray, List.map_cons, List.map_nil]); first | done | rfl | (simp only [List.length_drop, List.length_take]; rfl)) ?_; (with_reducible refine (plane_size.calls a0_0 a0_1 false _ A2.out).mono ?_); rintro e w' ⟨rfl, ⟨nd, rfl⟩⟩; refine ⟨_, rfl, ?_⟩))
    go_ret
    exact ⟨by first | rfl | (simp [errW_none, errW_some] <;> rfl) | (simp [*, errW_none, errW_some] <;> rfl), by repeat (first | (with_reducible first | exact HB.out | apply below_alloc | apply pw_below_drewN | apply below_drew1 | refine below_set ?_ GE115.out) | exact HB.out)⟩

/-! ### bits_split: function 63 -/
def bits_split.f (a0 : Int) : Option (Bool × Int × Int) := some (decide (a0 ≥ 2147483648), wrap64 (Go.bits .and .u32 (a0 / 8388608) 255), wrap64 (Go.bits .and .u32 a0 8388607))
set_option maxHeartbeats 8000000 in
set_option maxRecDepth 100000 in
theorem bits_split.calls (a0 : Int) (r1 : Bool) (r2 : Int) (r3 : Int) (w : World) (h : bits_split.f a0 = some (r1, r2, r3)) :
    Calls Try.prog 63 #[.int .u32 a0] w fun e w' => e = .returned (.agg #[.bool r1, .int .i64 r2, .int .i64 r3]) ∧ Below w.heap.size w w' := by
  have hu103 := Try.underlying103
  have HB := Aside0.mk (Below.refl w.heap.size w)
  have H : (some (decide (a0 ≥ 2147483648), wrap64 (Go.bits .and .u32 (a0 / 8388608) 255), wrap64 (Go.bits .and .u32 a0 8388607))) = some (r1, r2, r3) := h
  clear h
  simp only [Option.some.injEq, Prod.mk.injEq] at H
  obtain ⟨rfl, rfl, rfl⟩ := H
  go_enter Try.func63, Try.ntmps63
  go_wp2_with (first | ((with_reducible refine gate_dst (N := 2) rfl ?_); refine box_event ?hg (N := 2) ?hd (cs := #[.bool false, .int .i64 0, .int .i64 0]) (t := 103) ?hr ?_; (case hd => rfl); (case hg => rfl); (case hr => first | (go_simp; done) | (go_simp; rfl)); intro gb117 hg w2 hbox hb; have n0_ := Aside0.mk (below_step (by repeat (first | (with_reducible first | exact HB.out | apply below_alloc | apply pw_below_drewN | apply below_drew1) | exact HB.out)) hb); have n1_ := Aside0.mk (hbox); have n2_ := Aside0.mk ((by rw [hg]; exact (below_size (by repeat (first | (with_reducible first | exact HB.out | apply below_alloc | apply pw_below_drewN | apply below_drew1) | exact HB.out))) : w.heap.size ≤ gb117)); have n3_ := Aside0.mk ((by rw [hg]; exact (below_size (by repeat (first | (with_reducible first | exact HB.out | apply below_alloc | apply pw_below_drewN | apply below_drew1) | exact HB.out))) : w.heap.size ≤ gb117)); clear HB; have HB := n0_; have BK117 := n1_; have GW117 := n2_; have GE117 := n3_; clear n0_ n1_ n2_ n3_; clear hb hbox hg; have hcz3_0 : w2.cell? ⟨gb117, 0, none⟩ = some (.bool false) := (blk_cell BK117.out 0).trans rfl; have hcz3_1 : w2.cell? ⟨gb117, 1, none⟩ = some (.int .i64 0) := (blk_cell BK117.out 1).trans rfl; have hcz3_2 : w2.cell? ⟨gb117, 2, none⟩ = some (.int .i64 0) := (blk_cell BK117.out 2).trans rfl; have hfz3_0 := blk_frozen BK117.out 0; have hfz3_1 := blk_frozen BK117.out 1; have hfz3_2 := blk_frozen BK117.out 2))
  refine bodyPost_ret (results_cell_row rfl _ _ gb117 103 #[.bool (decide (a0 ≥ 2147483648)), .int .i64 (wrap64 (Go.bits .and .u32 (a0 / 8388608) 255)), .int .i64 (wrap64 (Go.bits .and .u32 a0 8388607))] (0, 0) _ rfl (by (with_reducible repeat (first | refine blk_drewN ?_ _ | refine blk_drew ?_ | refine blk_alloc ?_ _)); refine blk_put (cs := #[.bool (decide (a0 ≥ 2147483648)), .int .i64 (wrap64 (Go.bits .and .u32 (a0 / 8388608) 255)), .int .i64 0]) ?_ 2 _ rfl; (with_reducible repeat (first | refine blk_drewN ?_ _ | refine blk_drew ?_ | refine blk_alloc ?_ _)); refine blk_put (cs := #[.bool (decide (a0 ≥ 2147483648)), .int .i64 0, .int .i64 0]) ?_ 1 _ rfl; (with_reducible repeat (first | refine blk_drewN ?_ _ | refine blk_drew ?_ | refine blk_alloc ?_ _)); refine blk_put (cs := #[.bool false, .int .i64 0, .int .i64 0]) ?_ 0 _ rfl; (with_reducible repeat (first | refine blk_drewN ?_ _ | refine blk_drew ?_ | refine blk_alloc ?_ _)); exact BK117.out) Try.underlying103 rfl (by kernel_rfl)) rfl ?_
  exact ⟨by first | rfl | (simp [errW_none, errW_some] <;> rfl) | (simp [*, errW_none, errW_some] <;> rfl), by repeat (first | (with_reducible first | exact HB.out | apply below_alloc | apply pw_below_drewN | apply below_drew1 | refine below_set ?_ GE117.out) | exact HB.out)⟩

end Go.Proofs.Ytmipbbkieadecaa.PDA
