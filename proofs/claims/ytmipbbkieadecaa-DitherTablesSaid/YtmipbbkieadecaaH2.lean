/- Units of the program: walked by hand: floats; and what IsNaN tells. -/
import Derived.Test.YtmipbbkieadecaaF2
import Derived.Test.YtmipbbkieadecaaPDBx2
import Derived.Laws.Externs
open Go Go.RowKit Go.Proofs.YtmipbbkieadecaaW.PrintWords Go.Proofs.YtmipbbkieadecaaW.PrintLast
set_option linter.unusedVariables false
set_option linter.unusedSimpArgs false
namespace Go.Proofs.Ytmipbbkieadecaa
open PDA PDB

theorem and255 (x : Int) (h0 : 0 ≤ x) (h1 : x < 4294967296) : Go.bits .and .u32 x 255 = x % 256 :=
  bits_mask .u32 32 (by decide) (fun n h h' => by rw [IntKind.wrap_u32]; omega) 8 (by decide) x h0 h1
theorem and23 (x : Int) (h0 : 0 ≤ x) (h1 : x < 4294967296) : Go.bits .and .u32 x 8388607 = x % 8388608 :=
  bits_mask .u32 32 (by decide) (fun n h h' => by rw [IntKind.wrap_u32]; omega) 23 (by decide) x h0 h1

theorem w64 (x : Int) (h0 : -9223372036854775808 ≤ x) (h1 : x < 9223372036854775808) : wrap64 x = x := by unfold wrap64; omega

theorem isNaN_eq (s : Nat) (hs : s < 4294967296) : bits_IsNaN.f (s : Int) = some (decide (2139095040 < s % 2147483648)) := by
  unfold bits_IsNaN.f bits_Class.f bits_split.f
  rw [and255 _ (by omega) (by omega), and23 _ (by omega) (by omega)]
  rw [w64 _ (by omega) (by omega), w64 _ (by omega) (by omega)]
  simp only [Option.bind_some]
  have e1 : ((s : Int) / 8388608 % 256) = ((s / 8388608 % 256 : Nat) : Int) := by omega
  have e2 : ((s : Int) % 8388608) = ((s % 8388608 : Nat) : Int) := by omega
  rw [e1, e2]
  by_cases h1 : s / 8388608 % 256 = 255
  · rw [h1]
    by_cases h2 : s % 8388608 = 0
    · rw [h2]
      have : decide (2139095040 < s % 2147483648) = false := decide_eq_false (by omega)
      rw [this]; rfl
    · have : decide (2139095040 < s % 2147483648) = true := decide_eq_true (by omega)
      rw [this]
      have h3 : (((s % 8388608 : Nat) : Int) == 0) = false := by rw [beq_eq_false_iff_ne]; omega
      rw [h3]; rfl
  · have : decide (2139095040 < s % 2147483648) = false := decide_eq_false (by omega)
    rw [this]
    have h3 : (((s / 8388608 % 256 : Nat) : Int) == 255) = false := by rw [beq_eq_false_iff_ne]; omega
    rw [h3]
    have h4 : ¬ ((s / 8388608 % 256 : Nat) : Int) = 255 := by omega
    rw [if_neg h4]
    simp only [Bool.false_and, Bool.false_eq_true, if_false]
    split
    · rfl
    · split <;> rfl

theorem call29 (s : Nat) (w : World) : (callFunc 29 #[.int .u32 (s : Int)]).run Try.prog w = .ok (.value (.float .f32 s)) w := by
  rw [run_callFunc_extern (e := Extern.MathFloatBits.float32frombits) Try.func29 (by kernel_rfl) (by kernel_rfl) (by kernel_rfl) (by kernel_rfl)]; rfl
theorem call54 (x : Nat) (d : Ieee.Datum) (hd : FloatKind.f64.decode x = d) (hn : ∀ a b, d ≠ .nan a b) (w : World) :
    (callFunc 54 #[.float .f64 x]).run Try.prog w = .ok (.value (.float .f64 (FloatKind.f64.encode (d.integral .even)))) w := by
  rw [run_callFunc_extern (e := Extern.MathFloor.toIntegral "math.RoundToEven" .even) Try.func54 (by kernel_rfl) (by kernel_rfl) (by kernel_rfl) (by kernel_rfl)]
  have h : ∃ g : Bool → Nat → Sem Value, Extern.MathFloor.toIntegral "math.RoundToEven" .even #[.float .f64 x] =
      (match FloatKind.f64.decode x with
      | .nan s t => g s t
      | d => pure (.float .f64 (FloatKind.f64.encode (d.integral .even)))) := ⟨_, rfl⟩
  obtain ⟨g, h⟩ := h
  rw [h, hd]
  cases d with
  | nan a b => exact absurd rfl (hn a b)
  | number a b c => rfl
  | infinity a => rfl

theorem conv_draws (s : Nat) (h : 2139095040 < s % 2147483648) (w : World) : ∃ b w', (convert 60 94 (.float .f32 s)).run Try.prog w = .ok (.float .f64 b) w' ∧ Drawn0 w w' := by
  have hc : (convert 60 94 (.float .f32 s)).run Try.prog w = (Conv.floatToFloat .f32 s .f64).run Try.prog w := by
    simp [convert, run_underlying Try.underlying60, run_underlying Try.underlying94]
  rw [hc]
  unfold Conv.floatToFloat
  rw [if_neg (by decide), conv_nan s h]
  simp only [run_choose_drew, Sem.run_bind, Sem.run_pure, Result.andThen]
  by_cases hf : (Question.nanConv .f64 s).forced = true
  · rw [if_pos hf]; exact ⟨_, _, rfl, Drawn0.refl _⟩
  · rw [if_neg hf]; exact ⟨_, _, rfl, ⟨⟨1, rfl⟩⟩⟩

attribute [local go_sem] call29

def dither_Units.f (a0 : Int) : Option Int := if 0 ≤ a0 ∧ a0 < 4294967296 then some (unitsN a0.toNat : Int) else none

theorem dither_Units.calls (a0 : Int) (r : Int) (w : World) (h : dither_Units.f a0 = some r) :
    Calls Try.prog 26 #[.int .u32 a0] w fun e w' => e = .returned (.int .i64 r) ∧ Below w.heap.size w w' := by
  unfold dither_Units.f at h
  split at h
  · rename_i hb
    obtain rfl := Option.some.inj h
    obtain ⟨s, rfl⟩ := Int.eq_ofNat_of_zero_le hb.1
    have hs : s < 4294967296 := by omega
    have hN := isNaN_eq s hs
    clear hb h
    rw [Int.toNat_natCast]
    by_cases hnan : 2139095040 < s % 2147483648
    · rw [decide_eq_true hnan] at hN
      have hu : unitsN s = 0 := by unfold unitsN; rw [if_pos (by omega)]
      rw [hu]
      obtain ⟨b, w2, hc, ⟨nd, rfl⟩⟩ := conv_draws s hnan w
      go_enter Try.func26, Try.ntmps26
      go_wp2_with fail
      refine (bits_IsNaN.calls _ true _ hN).mono ?_
      rintro e w1 ⟨rfl, hb⟩
      go_wp2
      go_ret
      exact ⟨rfl, (Drawn0.below ⟨⟨nd, rfl⟩⟩).trans hb⟩
    · rw [decide_eq_false hnan] at hN
      have hc : ∀ w, (convert 60 94 (.float .f32 s)).run Try.prog w = .ok (.float .f64 (wideN s)) w := fun w => run_convert_float_float w 60 94 .f32 .f64 s _ (by rw [Try.underlying60]; rfl) Try.underlying94 (conv_some s (by omega))
      have hz := below_zero s (by omega) hs
      by_cases h1 : 2147483648 ≤ s ∨ s = 0
      · rw [decide_eq_true h1] at hz
        have hu : unitsN s = 0 := by
          rcases h1 with h1 | h1
          · unfold unitsN; rw [if_pos (by omega)]
          · subst h1; rfl
        rw [hu]
        go_enter Try.func26, Try.ntmps26
        go_wp2_with fail
        refine (bits_IsNaN.calls _ false _ hN).mono ?_
        rintro e w1 ⟨rfl, hb⟩
        go_wp2
        go_ret
        exact ⟨rfl, hb⟩
      · rw [decide_eq_false h1] at hz
        have ho := from_one s (by omega) (by omega)
        by_cases h2 : 1065353216 ≤ s
        · rw [decide_eq_true h2] at ho
          have hu : unitsN s = 16777216 := by unfold unitsN; rw [if_neg (by omega), if_pos h2]
          rw [hu]
          go_enter Try.func26, Try.ntmps26
          go_wp2_with fail
          refine (bits_IsNaN.calls _ false _ hN).mono ?_
          rintro e w1 ⟨rfl, hb⟩
          go_wp2
          go_ret
          exact ⟨rfl, hb⟩
        · rw [decide_eq_false h2] at ho
          obtain ⟨X, d, hm, hd, hn, hi⟩ := last_step s (by omega) (by omega)
          have hq : ∀ w, (binOp .mul 94 (.float .f64 (wideN s)) (.float .f64 4715268809856909312)).run Try.prog w = .ok (.float .f64 X) w := fun w => run_float_arith w .mul 94 .f64 _ _ X hm
          have hk := fun w => call54 X d hd hn w
          have hv : ∀ w, (convert 94 3 (.float .f64 (FloatKind.f64.encode (d.integral .even)))).run Try.prog w = .ok (.int .i64 (unitsN s : Int)) w := fun w => run_convert_float_int w 94 3 .f64 .i64 _ _ (by rw [Try.underlying94]; rfl) Try.underlying3 hi
          go_enter Try.func26, Try.ntmps26
          go_wp2_with fail
          refine (bits_IsNaN.calls _ false _ hN).mono ?_
          rintro e w1 ⟨rfl, hb⟩
          go_wp2
          go_ret
          exact ⟨rfl, hb⟩
  · cases h
end Go.Proofs.Ytmipbbkieadecaa
