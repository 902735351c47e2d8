/- Level (of the program and of the document): walked by hand: floats. -/
import Derived.Test.YtmipbbkieadecaaF1
import Derived.Test.YtmipbbkieadecaaPDAx1
import Derived.Test.YtmipbbkieadecaaPDAx3
import Derived.Laws.Externs
open Go Go.RowKit Go.Proofs.YtmipbbkieadecaaW.PrintWords Go.Proofs.YtmipbbkieadecaaW.PrintLast
set_option linter.unusedVariables false
set_option linter.unusedSimpArgs false
namespace Go.Proofs.Ytmipbbkieadecaa
open PDA

theorem call51 (b : Nat) (w : World) : (callFunc 51 #[.float .f32 b]).run Try.prog w = .ok (.value (.int .u32 b)) w := by
  rw [run_callFunc_extern (e := Extern.MathFloatBits.float32bits) Try.func51 (by kernel_rfl) (by kernel_rfl) (by kernel_rfl) (by kernel_rfl)]; rfl
attribute [local go_sem] call51

theorem lvl_parts (n k : Nat) (h2 : 2 ≤ n) (h : n ≤ 256) (hk : k < n) :
    ∃ D : Nat, floatBits .quo .f64 (floatOfInt .f64 (k : Int)) (floatOfInt .f64 ((n : Int) - 1)) = some D ∧ floatToFloatBits .f64 D .f32 = some (lvlN n k) := by
  have hs := lvl_some n k h2 h hk
  unfold lvlo at hs
  obtain ⟨D, h1, h3⟩ := Option.bind_eq_some_iff.mp hs
  refine ⟨D, ?_, h3⟩
  rw [show ((n : Int) - 1) = ((n - 1 : Nat) : Int) by omega]
  exact h1

def dither_Level.f (a0 a1 : Int) : Option (Int × Int) := if 2 ≤ a0 ∧ a0 ≤ 256 ∧ 0 ≤ a1 ∧ a1 < a0 then some (lvl a0 a1, 0) else some (0, 130)

theorem level_yes (a0 a1 : Int) (h : 2 ≤ a0 ∧ a0 ≤ 256 ∧ 0 ≤ a1 ∧ a1 < a0) : dither_level.f a0 a1 = some true := by
  unfold dither_level.f dither_levels.f
  rw [if_pos h.1, Option.bind_some, if_pos (by simp [h.2.1]), if_pos h.2.2.1]
  simp [h.2.2.2]
theorem level_no (a0 a1 : Int) (h : ¬ (2 ≤ a0 ∧ a0 ≤ 256 ∧ 0 ≤ a1 ∧ a1 < a0)) : dither_level.f a0 a1 = some false := by
  unfold dither_level.f dither_levels.f
  by_cases h1 : a0 ≥ 2
  · by_cases h2 : a0 ≤ 256
    · rw [if_pos h1, Option.bind_some, if_pos (by simp [h2])]
      by_cases h3 : a1 ≥ 0
      · rw [if_pos h3]; simp; omega
      · rw [if_neg h3]
    · rw [if_pos h1, Option.bind_some, if_neg (by simp; omega)]
  · rw [if_neg h1, Option.bind_some, if_neg (by simp)]

theorem dither_Level.calls (a0 a1 : Int) (r1 r2 : Int) (w : World) (h : dither_Level.f a0 a1 = some (r1, r2)) :
    Calls Try.prog 24 #[.int .i64 a0, .int .i64 a1] w fun e w' => e = .returned (.tuple #[.int .u32 r1, .int .i64 r2]) ∧ Drawn0 w w' := by
  unfold dither_Level.f at h
  by_cases hs : 2 ≤ a0 ∧ a0 ≤ 256 ∧ 0 ≤ a1 ∧ a1 < a0
  · rw [if_pos hs] at h
    simp only [Option.some.injEq, Prod.mk.injEq] at h
    obtain ⟨rfl, rfl⟩ := h
    have hl := level_yes _ _ hs
    obtain ⟨n, rfl⟩ := Int.eq_ofNat_of_zero_le (show 0 ≤ a0 by omega)
    obtain ⟨k, rfl⟩ := Int.eq_ofNat_of_zero_le (show 0 ≤ a1 by omega)
    obtain ⟨D, h1, h2⟩ := lvl_parts n k (by omega) (by omega) (by omega)
    have hq : ∀ w, (binOp .quo 94 (.float .f64 (floatOfInt .f64 (k : Int))) (.float .f64 (floatOfInt .f64 ((n : Int) - 1)))).run Try.prog w = .ok (.float .f64 D) w := fun w => run_float_arith w .quo 94 .f64 _ _ D h1
    have hc : ∀ w, (convert 94 60 (.float .f64 D)).run Try.prog w = .ok (.float .f32 (lvlN n k)) w := fun w => run_convert_float_float w 94 60 .f64 .f32 D _ (by rw [Try.underlying94]; rfl) Try.underlying60 h2
    have hw : IntKind.i64.wrap ((n : Int) - 1) = (n : Int) - 1 := by rw [IntKind.wrap_i64]; omega
    clear hs h1 h2
    go_enter Try.func24, Try.ntmps24
    go_wp2_with fail
    refine (dither_level.calls _ _ true _ hl).mono ?_
    rintro e w1 ⟨rfl, ⟨nd, rfl⟩⟩
    go_wp2
    go_ret2
    exact ⟨rfl, by repeat (first | exact Drawn0.refl _ | apply Drawn0.step)⟩
  · rw [if_neg hs] at h
    simp only [Option.some.injEq, Prod.mk.injEq] at h
    obtain ⟨rfl, rfl⟩ := h
    have hl := level_no _ _ hs
    clear hs
    go_enter Try.func24, Try.ntmps24
    go_wp2_with fail
    refine (dither_level.calls _ _ false _ hl).mono ?_
    rintro e w1 ⟨rfl, ⟨nd, rfl⟩⟩
    go_wp2
    go_ret2
    exact ⟨rfl, by repeat (first | exact Drawn0.refl _ | apply Drawn0.step)⟩

def halideref13_Level.f (a0 a1 : Int) : Option (Int × Int) := if 2 ≤ a0 ∧ a0 ≤ 256 ∧ 0 ≤ a1 ∧ a1 < a0 then some (lvl a0 a1, 0) else some (0, 130)

theorem halideref13_Level.calls (a0 a1 : Int) (r1 r2 : Int) (w : World) (h : halideref13_Level.f a0 a1 = some (r1, r2)) :
    Calls Try.prog 34 #[.int .i64 a0, .int .i64 a1] w fun e w' => e = .returned (.tuple #[.int .u32 r1, .int .i64 r2]) ∧ Drawn0 w w' := by
  unfold halideref13_Level.f at h
  by_cases hs : 2 ≤ a0 ∧ a0 ≤ 256 ∧ 0 ≤ a1 ∧ a1 < a0
  · rw [if_pos hs] at h
    simp only [Option.some.injEq, Prod.mk.injEq] at h
    obtain ⟨rfl, rfl⟩ := h
    have hl : halideref13_Is.f a0 = some true := by
      unfold halideref13_Is.f
      rw [if_pos hs.1]; simp [hs.2.1]
    obtain ⟨n, rfl⟩ := Int.eq_ofNat_of_zero_le (show 0 ≤ a0 by omega)
    obtain ⟨k, rfl⟩ := Int.eq_ofNat_of_zero_le (show 0 ≤ a1 by omega)
    obtain ⟨D, h1, h2⟩ := lvl_parts n k (by omega) (by omega) (by omega)
    have hq : ∀ w, (binOp .quo 94 (.float .f64 (floatOfInt .f64 (k : Int))) (.float .f64 (floatOfInt .f64 ((n : Int) - 1)))).run Try.prog w = .ok (.float .f64 D) w := fun w => run_float_arith w .quo 94 .f64 _ _ D h1
    have hc : ∀ w, (convert 94 60 (.float .f64 D)).run Try.prog w = .ok (.float .f32 (lvlN n k)) w := fun w => run_convert_float_float w 94 60 .f64 .f32 D _ (by rw [Try.underlying94]; rfl) Try.underlying60 h2
    have hw : IntKind.i64.wrap ((n : Int) - 1) = (n : Int) - 1 := by rw [IntKind.wrap_i64]; omega
    have c1 : decide ((k : Int) < 0) = false := decide_eq_false (by omega)
    have c2 : decide (n ≤ k) = false := decide_eq_false (by omega)
    clear hs h1 h2
    go_enter Try.func34, Try.ntmps34
    go_wp2_with fail
    refine (halideref13_Is.calls _ true _ hl).mono ?_
    rintro e w1 ⟨rfl, ⟨nd, rfl⟩⟩
    go_wp2
    go_ret2
    exact ⟨rfl, by repeat (first | exact Drawn0.refl _ | apply Drawn0.step)⟩
  · rw [if_neg hs] at h
    simp only [Option.some.injEq, Prod.mk.injEq] at h
    obtain ⟨rfl, rfl⟩ := h
    by_cases h2 : 2 ≤ a0 ∧ a0 ≤ 256
    · have hl : halideref13_Is.f a0 = some true := by
        unfold halideref13_Is.f
        rw [if_pos h2.1]; simp [h2.2]
      by_cases h3 : a1 < 0
      · have c1 : decide (a1 < 0) = true := decide_eq_true h3
        clear hs h2 h3
        go_enter Try.func34, Try.ntmps34
        go_wp2_with fail
        refine (halideref13_Is.calls _ true _ hl).mono ?_
        rintro e w1 ⟨rfl, ⟨nd, rfl⟩⟩
        go_wp2
        go_ret2
        exact ⟨rfl, by repeat (first | exact Drawn0.refl _ | apply Drawn0.step)⟩
      · have c1 : decide (a1 < 0) = false := decide_eq_false h3
        have c2 : decide (a0 ≤ a1) = true := decide_eq_true (by omega)
        clear hs h2 h3
        go_enter Try.func34, Try.ntmps34
        go_wp2_with fail
        refine (halideref13_Is.calls _ true _ hl).mono ?_
        rintro e w1 ⟨rfl, ⟨nd, rfl⟩⟩
        go_wp2
        go_ret2
        exact ⟨rfl, by repeat (first | exact Drawn0.refl _ | apply Drawn0.step)⟩
    · have hl : halideref13_Is.f a0 = some false := by
        unfold halideref13_Is.f
        by_cases h1 : a0 ≥ 2
        · rw [if_pos h1]; simp; omega
        · rw [if_neg h1]
      clear hs h2
      go_enter Try.func34, Try.ntmps34
      go_wp2_with fail
      refine (halideref13_Is.calls _ false _ hl).mono ?_
      rintro e w1 ⟨rfl, ⟨nd, rfl⟩⟩
      go_wp2
      go_ret2
      exact ⟨rfl, by repeat (first | exact Drawn0.refl _ | apply Drawn0.step)⟩
end Go.Proofs.Ytmipbbkieadecaa
