/- Samples compared as floats: by their bits; what is not greater has not more units. -/
import Derived.Test.YtmipbbkieadecaaF2
import Derived.Test.YtmipbbkieadecaaH2
open Go Ieee Go.RowKit Go.Proofs.YtmipbbkieadecaaW.PrintWords Go.Proofs.YtmipbbkieadecaaW.PrintLast Go.Proofs.YtmipbbkieadecaaW.PrintMore
set_option linter.unusedVariables false
set_option linter.unusedSimpArgs false
namespace Go.Proofs.Ytmipbbkieadecaa

def math_Float32frombits.f (a0 : Int) : Option Int := some a0
theorem call29i (x : Int) (w : World) : (callFunc 29 #[.int .u32 x]).run Try.prog w = .ok (.value (.float .f32 x.toNat)) w := by
  rw [run_callFunc_extern (e := Extern.MathFloatBits.float32frombits) Try.func29 (by kernel_rfl) (by kernel_rfl) (by kernel_rfl) (by kernel_rfl)]; rfl

/-- a ≤ b, as floats. -/
def leF (a b : Int) : Bool := (FloatKind.f32.format.order a.toNat b.toNat == some .lt || FloatKind.f32.format.order a.toNat b.toNat == some .eq)

def mS (s : Nat) : Nat := if s < 8388608 then s else 8388608 + s % 8388608
def eS (s : Nat) : Nat := if s < 8388608 then 0 else s / 8388608 - 1
theorem read_pos (s : Nat) (h : s < 2139095040) : single.read s = .number false (mS s) (-149 + (eS s : Int)) := by
  rw [read_single]
  have e : s % 2147483648 = s := by omega
  have hb : (s / 2147483648 % 2 == 1) = false := by simp; omega
  rw [e, hb]
  unfold mS eS
  by_cases h1 : s < 8388608
  · rw [if_pos h1, if_pos h1, if_pos h1]; rfl
  · rw [if_neg h1, if_pos h, if_neg h1, if_neg h1]
theorem ord_core (s t : Nat) (hs : s < 2139095040) (ht : t < 2139095040) (he : eS s ≤ eS t) :
    FloatKind.f32.format.order s t = some (compare (mS s : Int) ((mS t * 2 ^ (eS t - eS s) : Nat) : Int)) ∧ FloatKind.f32.format.order t s = some (compare ((mS t * 2 ^ (eS t - eS s) : Nat) : Int) (mS s : Int)) := by
  have h1 : FloatKind.f32.format.order s t = (single.read s).order (single.read t) := rfl
  have h2 : FloatKind.f32.format.order t s = (single.read t).order (single.read s) := rfl
  rw [h1, h2, read_pos s hs, read_pos t ht]
  simp only [Datum.order]
  have m1 : min (-149 + (eS s : Int)) (-149 + (eS t : Int)) = -149 + (eS s : Int) := by omega
  have m2 : min (-149 + (eS t : Int)) (-149 + (eS s : Int)) = -149 + (eS s : Int) := by omega
  rw [m1, m2]
  have d0 : (-149 + (eS s : Int) - (-149 + (eS s : Int))).toNat = 0 := by omega
  have d1 : (-149 + (eS t : Int) - (-149 + (eS s : Int))).toNat = eS t - eS s := by omega
  rw [d0, d1]
  simp only [signed, Bool.false_eq_true, if_false, Nat.shiftLeft_eq, Nat.pow_zero, Nat.mul_one]
  exact ⟨trivial, trivial⟩
theorem mS_lo (s : Nat) (h : s < 8388608) : mS s = s ∧ eS s = 0 := by unfold mS eS; rw [if_pos h, if_pos h]; exact ⟨rfl, rfl⟩
theorem mS_hi (s : Nat) (h : ¬s < 8388608) : mS s = 8388608 + s % 8388608 ∧ eS s = s / 8388608 - 1 := by unfold mS eS; rw [if_neg h, if_neg h]; exact ⟨rfl, rfl⟩
theorem ms_all (s : Nat) : s = mS s ∧ s < 8388608 ∧ eS s = 0 ∨ 8388608 ≤ s ∧ 8388608 ≤ mS s ∧ mS s < 16777216 ∧ s = eS s * 8388608 + mS s := by
  by_cases h : s < 8388608
  · have := mS_lo s h; omega
  · have := mS_hi s h; omega
theorem val_lt (s t : Nat) (hst : s < t) : eS s ≤ eS t ∧ mS s < mS t * 2 ^ (eS t - eS s) := by
  have hs := ms_all s
  have ht := ms_all t
  have he : eS s ≤ eS t := by omega
  refine ⟨he, ?_⟩
  rcases Nat.eq_or_lt_of_le he with h | h
  · rw [h, Nat.sub_self, Nat.pow_zero, Nat.mul_one]
    omega
  · have h1 : mS s < 16777216 := by omega
    have h2 : 8388608 ≤ mS t := by omega
    obtain ⟨d, hd⟩ : ∃ d, eS t - eS s = d + 1 := ⟨eS t - eS s - 1, by omega⟩
    rw [hd, Nat.pow_succ]
    have h3 : 8388608 * (1 * 2) ≤ mS t * (2 ^ d * 2) := Nat.mul_le_mul h2 (Nat.mul_le_mul_right 2 (Nat.two_pow_pos d))
    omega
theorem leF_le (s t : Nat) (hst : s ≤ t) (ht : t < 2139095040) : leF s t = true := by
  unfold leF
  rw [Int.toNat_natCast, Int.toNat_natCast]
  rcases Nat.eq_or_lt_of_le hst with h | h
  · subst h
    rw [(ord_core s s ht ht (Nat.le_refl _)).1]
    refine cmp_le _ _ ?_
    simp
  · have hv := val_lt s t h
    rw [(ord_core s t (by omega) ht hv.1).1]
    refine cmp_le _ _ ?_
    omega
theorem leF_gt (s t : Nat) (hst : t < s) (hs : s < 2139095040) : leF s t = false := by
  unfold leF
  rw [Int.toNat_natCast, Int.toNat_natCast]
  have hv := val_lt t s hst
  rw [(ord_core t s (by omega) hs hv.1).2]
  refine cmp_gt _ _ ?_
  omega

theorem leF_pos (a b : Nat) (ha0 : 0 < a) (ha : a ≤ 2139095040) (hb : b < 4294967296) (h : leF a b = true) : a ≤ b ∧ b ≤ 2139095040 := by
  unfold leF at h
  rw [Int.toNat_natCast, Int.toNat_natCast] at h
  have ho : FloatKind.f32.format.order a b = (single.read a).order (single.read b) := rfl
  have hpos : 0 < mS a := by have := ms_all a; omega
  by_cases hn : 2139095040 < b % 2147483648
  · exfalso
    have hr : single.read b = .nan (b / 2147483648 % 2 == 1) (b % 2147483648 - 2139095040) := by
      rw [read_single, if_neg (by omega), if_neg (by omega), if_neg (by omega)]
    have : (single.read a).order (single.read b) = none := by
      rw [hr]; cases single.read a <;> rfl
    rw [ho, this] at h
    simp at h
  · by_cases hneg : 2147483648 ≤ b
    · exfalso
      have hb1 : (b / 2147483648 % 2 == 1) = true := by simp; omega
      have hlt : (single.read a).order (single.read b) = some .gt := by
        rcases Nat.lt_or_ge a 2139095040 with h1 | h1
        · rw [read_pos a h1, read_single]
          rw [hb1]
          by_cases h2 : b % 2147483648 < 2139095040
          · have hc : ∀ (x y : Int), y < x → some (compare x y) = some Ordering.gt := by
              intro x y hxy
              rw [Int.compare_eq_gt.mpr hxy]
            have hs0 : ∀ m u v, signed true m v < signed false (mS a) u := by
              intro m u v
              simp only [signed, if_true, Bool.false_eq_true, if_false, Nat.shiftLeft_eq]
              have := Nat.mul_pos hpos (Nat.two_pow_pos u)
              omega
            by_cases h3 : b % 2147483648 < 8388608
            · rw [if_pos h3]
              simp only [Datum.order]
              exact hc _ _ (hs0 _ _ _)
            · rw [if_neg h3, if_pos h2]
              simp only [Datum.order]
              exact hc _ _ (hs0 _ _ _)
          · rw [if_neg (by omega), if_neg h2, if_pos (by omega)]
            rfl
        · obtain rfl : a = 2139095040 := by omega
          have hra : single.read 2139095040 = .infinity false := by decide +kernel
          rw [hra, read_single, hb1]
          by_cases h3 : b % 2147483648 < 8388608
          · rw [if_pos h3]; rfl
          · rw [if_neg h3]
            by_cases h2 : b % 2147483648 < 2139095040
            · rw [if_pos h2]; rfl
            · rw [if_neg h2, if_pos (by omega)]; rfl
      rw [ho, hlt] at h
      simp at h
    · refine ⟨?_, by omega⟩
      rcases Nat.lt_or_ge b a with hba | hba
      · exfalso
        rcases Nat.lt_or_ge a 2139095040 with h1 | h1
        · have := leF_gt a b hba h1
          unfold leF at this
          rw [Int.toNat_natCast, Int.toNat_natCast, h] at this
          simp at this
        · obtain rfl : a = 2139095040 := by omega
          have hra : single.read 2139095040 = .infinity false := by decide +kernel
          rw [ho, hra, read_pos b (by omega)] at h
          simp [Datum.order] at h
      · exact hba
end Go.Proofs.Ytmipbbkieadecaa
