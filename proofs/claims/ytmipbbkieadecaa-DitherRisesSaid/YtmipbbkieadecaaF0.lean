/- Binary floats in plain Lean: the levels of chapter 13 (what is checked) and the units (rounding at a place). No program in sight. -/
import Derived.Laws.FloatArith
open Go
set_option linter.unusedVariables false
set_option linter.unusedSimpArgs false
namespace Go.Proofs.Ytmipbbkieadecaa

/-- A level's bits, as the program reckons them. -/
def lvlo (n k : Nat) : Option Nat := (FloatKind.f64.format.div (floatOfInt .f64 (k : Int)) (floatOfInt .f64 ((n - 1 : Nat) : Int))).bind fun b => floatToFloatBits .f64 b .f32
def lvlN (n k : Nat) : Nat := (lvlo n k).getD 0

/-- From place k on, f levels, each greater than the one ahead. -/
def upRow (n : Nat) : Nat → Nat → Nat → Bool
  | 0, _, _ => true
  | f + 1, k, prev => match lvlo n k with
    | none => false
    | some v => Nat.blt prev v && upRow n f (k + 1) v
def chkRow (n : Nat) : Bool := lvlo n 0 == some 0 && upRow n (n - 1) 1 0 && lvlo n (n - 1) == some 1065353216

theorem upRow_spec (n : Nat) : ∀ f k prev, upRow n f k prev = true → ∀ j, k ≤ j → j < k + f → lvlo n j = some (lvlN n j) ∧ (if j = k then prev else lvlN n (j - 1)) < lvlN n j
  | 0, k, prev, _, j, h1, h2 => by omega
  | f + 1, k, prev, h, j, h1, h2 => by
    unfold upRow at h
    split at h
    · cases h
    · rename_i v hv
      simp only [Bool.and_eq_true, Nat.blt_eq] at h
      by_cases hj : j = k
      · subst hj
        rw [if_pos rfl]
        simp only [lvlN, hv, Option.getD_some]
        exact ⟨trivial, h.1⟩
      · have ih := upRow_spec n f (k + 1) v h.2 j (by omega) (by omega)
        rw [if_neg hj]
        refine ⟨ih.1, ?_⟩
        by_cases hj2 : j = k + 1
        · have := ih.2
          rw [if_pos hj2] at this
          rw [show j - 1 = k by omega]
          simpa [lvlN, hv] using this
        · have := ih.2
          rwa [if_neg hj2] at this

end Go.Proofs.Ytmipbbkieadecaa
