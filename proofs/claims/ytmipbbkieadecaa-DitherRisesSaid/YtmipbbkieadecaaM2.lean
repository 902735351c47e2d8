/- Plain laws of chapter 13: the document's Units by whole numbers. -/
import Derived.Test.YtmipbbkieadecaaM1
open Go Go.RowKit Go.Proofs.YtmipbbkieadecaaW.PrintWords Go.Proofs.YtmipbbkieadecaaW.PrintLast Go.Proofs.YtmipbbkieadecaaW.PrintMore
set_option linter.unusedVariables false
set_option linter.unusedSimpArgs false
namespace Go.Proofs.Ytmipbbkieadecaa
open PDA PDB

theorem refUnits_j1 (e m k : Nat) (he : 1 ≤ e) (he2 : e ≤ 126) (hm : m < 16777216) : halideref13_Units.j1 (k + 1) e m = some (rne m (126 - e) : Int) := by
  rw [halideref13_Units.j1]
  obtain ⟨d, hd⟩ : ∃ d, d = 126 - e := ⟨_, rfl⟩
  have e0 : wrap64 (126 - (e : Int)) = (d : Int) := by rw [w64 _ (by omega) (by omega)]; omega
  rw [e0, ← hd]
  by_cases h40 : (d : Int) > 40
  · rw [if_pos h40, rne_small]
    · rfl
    · have : 2 ^ 25 ≤ 2 ^ d := Nat.pow_le_pow_right (by omega) (by omega)
      omega
  · rw [if_neg h40, if_pos (by omega)]
    have hp : 0 < 2 ^ d := Nat.two_pow_pos d
    have hp40 : 2 ^ d ≤ 2 ^ 40 := Nat.pow_le_pow_right (by omega) (by omega)
    have hq : m / 2 ^ d ≤ m := Nat.div_le_self _ _
    have e1 : shr .i64 (m : Int) (d : Int) = ((m / 2 ^ d : Nat) : Int) := by
      unfold shr
      rw [Int.toNat_natCast, show IntKind.i64.bits = 64 from rfl, Nat.min_eq_left (by omega)]
      simp
    rw [e1]
    have hmd : m / 2 ^ d * 2 ^ d ≤ m := Nat.div_mul_le_self _ _
    have e2 : shl .i64 ((m / 2 ^ d : Nat) : Int) (d : Int) = ((m / 2 ^ d * 2 ^ d : Nat) : Int) := by
      unfold shl
      rw [Int.toNat_natCast, show IntKind.i64.bits = 64 from rfl, Nat.min_eq_left (by omega)]
      rw [show ((m / 2 ^ d : Nat) : Int) * 2 ^ d = ((m / 2 ^ d * 2 ^ d : Nat) : Int) by simp, i64_w, w64 _ (by omega) (by omega)]
    rw [e2]
    have hr : m % 2 ^ d = m - m / 2 ^ d * 2 ^ d := by
      have := Nat.div_add_mod m (2 ^ d)
      rw [Nat.mul_comm] at this
      omega
    have e3 : wrap64 ((m : Int) - ((m / 2 ^ d * 2 ^ d : Nat) : Int)) = ((m % 2 ^ d : Nat) : Int) := by
      rw [w64 _ (by omega) (by omega), hr]; omega
    rw [e3]
    by_cases hd0 : (d : Int) > 0
    · rw [if_pos hd0]
      have e4 : wrap64 ((d : Int) - 1) = ((d - 1 : Nat) : Int) := by rw [w64 _ (by omega) (by omega)]; omega
      rw [e4, if_pos (by omega)]
      have hh : 2 ^ d = 2 * 2 ^ (d - 1) := by
        have : d = (d - 1) + 1 := by omega
        rw [this, Nat.pow_succ, Nat.add_sub_cancel]; omega
      have hh40 : 2 ^ (d - 1) ≤ 2 ^ 40 := Nat.pow_le_pow_right (by omega) (by omega)
      have e5 : shl .i64 1 ((d - 1 : Nat) : Int) = ((2 ^ (d - 1) : Nat) : Int) := by
        unfold shl
        rw [Int.toNat_natCast, show IntKind.i64.bits = 64 from rfl, Nat.min_eq_left (by omega)]
        rw [show (1 : Int) * 2 ^ (d - 1) = ((2 ^ (d - 1) : Nat) : Int) by simp, i64_w, w64 _ (by omega) (by omega)]
      rw [e5]
      have e6 : ∀ q : Nat, q ≤ m → wrap64 ((q : Int) + 1) = ((q + 1 : Nat) : Int) := fun q hq => by rw [w64 _ (by omega) (by omega)]; omega
      have e7 : Int.tmod ((m / 2 ^ d : Nat) : Int) 2 = ((m / 2 ^ d % 2 : Nat) : Int) := by
        rw [show (2 : Int) = ((2 : Nat) : Int) from rfl, ← Int.ofNat_tmod]
      rw [e6 _ hq, e7]
      have hlt : m % 2 ^ d < 2 ^ d := Nat.mod_lt _ hp
      unfold rne
      obtain ⟨q, hqq⟩ : ∃ q, q = m / 2 ^ d := ⟨_, rfl⟩
      obtain ⟨r, hrr⟩ : ∃ r, r = m % 2 ^ d := ⟨_, rfl⟩
      obtain ⟨P, hP⟩ : ∃ P, P = 2 ^ (d - 1) := ⟨_, rfl⟩
      rw [← hqq, ← hrr, ← hP, hh, ← hP]
      by_cases c1 : (r : Int) > (P : Int)
      · rw [if_pos c1]
        have : decide (2 * P < 2 * r) = true := decide_eq_true (by omega)
        rw [this]; rfl
      · rw [if_neg c1]
        have b1 : decide (2 * P < 2 * r) = false := decide_eq_false (by omega)
        rw [b1]
        by_cases c2 : (r : Int) = (P : Int)
        · rw [if_pos c2]
          have b2 : (2 * P == 2 * r) = true := by rw [beq_iff_eq]; omega
          rw [b2]
          by_cases c3 : ((q % 2 : Nat) : Int) = 1
          · rw [if_pos c3]
            have b3 : (q % 2 == 1) = true := by rw [beq_iff_eq]; omega
            rw [b3]; rfl
          · rw [if_neg c3]
            have b3 : (q % 2 == 1) = false := by rw [beq_eq_false_iff_ne]; omega
            rw [b3]; rfl
        · rw [if_neg c2]
          have b2 : (2 * P == 2 * r) = false := by rw [beq_eq_false_iff_ne]; omega
          rw [b2]; rfl
    · rw [if_neg hd0]
      have : d = 0 := by omega
      subst this
      rw [rne_zero, Nat.pow_zero, Nat.div_one]

theorem refUnits_eq (s : Nat) (hs : s < 4294967296) (k : Nat) (hk : 2 ≤ k) : halideref13_Units.f k s = some (unitsN s : Int) := by
  obtain ⟨k, rfl⟩ : ∃ k', k = k' + 2 := ⟨k - 2, by omega⟩
  unfold halideref13_Units.f
  rw [and255 _ (by omega) (by omega), and23 _ (by omega) (by omega)]
  have e1 : wrap64 ((s : Int) / 8388608 % 256) = ((s / 8388608 % 256 : Nat) : Int) := by rw [w64 _ (by omega) (by omega)]; omega
  have e2 : wrap64 ((s : Int) % 8388608) = ((s % 8388608 : Nat) : Int) := by rw [w64 _ (by omega) (by omega)]; omega
  rw [e1, e2]
  by_cases h1 : (s : Int) ≥ 2147483648
  · rw [if_pos h1]
    rw [halideref13_Units.j0]
    rw [if_pos rfl]
    have : unitsN s = 0 := by unfold unitsN; rw [if_pos (by omega)]
    rw [this]; rfl
  · rw [if_neg h1]
    by_cases h2 : ((s / 8388608 % 256 : Nat) : Int) = 255
    · rw [if_pos h2]
      by_cases h3 : ((s % 8388608 : Nat) : Int) > 0
      · rw [decide_eq_true h3]
        rw [halideref13_Units.j0]
        rw [if_pos rfl]
        have : unitsN s = 0 := by unfold unitsN; rw [if_pos (by omega)]
        rw [this]; rfl
      · rw [decide_eq_false h3]
        rw [halideref13_Units.j0]
        rw [if_neg (by decide), if_pos (by omega)]
        have : unitsN s = 16777216 := by unfold unitsN; rw [if_neg (by omega), if_pos (by omega)]
        rw [this]; rfl
    · rw [if_neg h2]
      rw [halideref13_Units.j0]
      rw [if_neg (by decide)]
      by_cases h3 : ((s / 8388608 % 256 : Nat) : Int) ≥ 127
      · rw [if_pos h3]
        have : unitsN s = 16777216 := by unfold unitsN; rw [if_neg (by omega), if_pos (by omega)]
        rw [this]; rfl
      · rw [if_neg h3]
        by_cases h4 : ((s / 8388608 % 256 : Nat) : Int) = 0
        · rw [if_pos h4]
          have := refUnits_j1 1 (s % 8388608) k (by omega) (by omega) (by omega)
          rw [show ((1 : Nat) : Int) = 1 from rfl] at this
          rw [this]
          have : unitsN s = rne s 125 := by unfold unitsN; rw [if_neg (by omega), if_neg (by omega), if_pos (by omega)]
          rw [this, show s % 8388608 = s by omega]
        · rw [if_neg h4]
          have e3 : wrap64 (((s % 8388608 : Nat) : Int) + 8388608) = ((8388608 + s % 8388608 : Nat) : Int) := by rw [w64 _ (by omega) (by omega)]; omega
          rw [e3, refUnits_j1 (s / 8388608 % 256) (8388608 + s % 8388608) k (by omega) (by omega) (by omega)]
          have : unitsN s = rne (8388608 + s % 8388608) (126 - s / 8388608) := by unfold unitsN; rw [if_neg (by omega), if_neg (by omega), if_neg (by omega)]
          rw [this, show s / 8388608 % 256 = s / 8388608 by omega]
end Go.Proofs.Ytmipbbkieadecaa
