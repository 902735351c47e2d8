/- Binary floats in plain Lean: the levels of chapter 13. No program in sight. -/
import Derived.Test.YtmipbbkieadecaaF1c0
import Derived.Test.YtmipbbkieadecaaF1c1
import Derived.Test.YtmipbbkieadecaaF1c3
open Go
set_option linter.unusedVariables false
set_option linter.unusedSimpArgs false
namespace Go.Proofs.Ytmipbbkieadecaa

theorem row237 : chkRow 237 = true := by decide +kernel
theorem row238 : chkRow 238 = true := by decide +kernel
theorem row239 : chkRow 239 = true := by decide +kernel
theorem row240 : chkRow 240 = true := by decide +kernel
theorem row241 : chkRow 241 = true := by decide +kernel
theorem row242 : chkRow 242 = true := by decide +kernel
theorem row243 : chkRow 243 = true := by decide +kernel
theorem row244 : chkRow 244 = true := by decide +kernel
theorem row245 : chkRow 245 = true := by decide +kernel
theorem row246 : chkRow 246 = true := by decide +kernel
theorem row247 : chkRow 247 = true := by decide +kernel
theorem row248 : chkRow 248 = true := by decide +kernel
theorem row249 : chkRow 249 = true := by decide +kernel
theorem row250 : chkRow 250 = true := by decide +kernel
theorem row251 : chkRow 251 = true := by decide +kernel
theorem row252 : chkRow 252 = true := by decide +kernel
theorem row253 : chkRow 253 = true := by decide +kernel
theorem row254 : chkRow 254 = true := by decide +kernel
theorem row255 : chkRow 255 = true := by decide +kernel
theorem row256 : chkRow 256 = true := by decide +kernel
theorem rows5 (n : Nat) (h1 : 237 ≤ n) (h2 : n ≤ 256) : chkRow n = true := by
  match n, h1, h2 with
  | 237, _, _ => exact row237
  | 238, _, _ => exact row238
  | 239, _, _ => exact row239
  | 240, _, _ => exact row240
  | 241, _, _ => exact row241
  | 242, _, _ => exact row242
  | 243, _, _ => exact row243
  | 244, _, _ => exact row244
  | 245, _, _ => exact row245
  | 246, _, _ => exact row246
  | 247, _, _ => exact row247
  | 248, _, _ => exact row248
  | 249, _, _ => exact row249
  | 250, _, _ => exact row250
  | 251, _, _ => exact row251
  | 252, _, _ => exact row252
  | 253, _, _ => exact row253
  | 254, _, _ => exact row254
  | 255, _, _ => exact row255
  | 256, _, _ => exact row256
  | n + 257, _, h2 => omega
theorem chk (n : Nat) (h2 : 2 ≤ n) (h : n ≤ 256) : chkRow n = true := by
  by_cases h10 : n ≤ 105
  · exact rows0 n (by omega) (by omega)
  by_cases h11 : n ≤ 149
  · exact rows1 n (by omega) (by omega)
  by_cases h12 : n ≤ 183
  · exact rows2 n (by omega) (by omega)
  by_cases h13 : n ≤ 211
  · exact rows3 n (by omega) (by omega)
  by_cases h14 : n ≤ 236
  · exact rows4 n (by omega) (by omega)
  exact rows5 n (by omega) (by omega)

theorem lvl_first (n : Nat) (h2 : 2 ≤ n) (h : n ≤ 256) : lvlN n 0 = 0 := by
  have c := chk n h2 h
  simp only [chkRow, Bool.and_eq_true, beq_iff_eq] at c
  simp [lvlN, c.1.1]
theorem lvl_last (n : Nat) (h2 : 2 ≤ n) (h : n ≤ 256) : lvlN n (n - 1) = 1065353216 := by
  have c := chk n h2 h
  simp only [chkRow, Bool.and_eq_true, beq_iff_eq] at c
  simp [lvlN, c.2]
theorem lvl_some (n k : Nat) (h2 : 2 ≤ n) (h : n ≤ 256) (hk : k < n) : lvlo n k = some (lvlN n k) := by
  have c := chk n h2 h
  simp only [chkRow, Bool.and_eq_true, beq_iff_eq] at c
  by_cases h0 : k = 0
  · subst h0; simp [lvlN, c.1.1]
  · exact (upRow_spec n (n - 1) 1 0 c.1.2 k (by omega) (by omega)).1
theorem lvl_step (n k : Nat) (h2 : 2 ≤ n) (h : n ≤ 256) (hk : k + 1 < n) : lvlN n k < lvlN n (k + 1) := by
  have c := chk n h2 h
  simp only [chkRow, Bool.and_eq_true, beq_iff_eq] at c
  have := (upRow_spec n (n - 1) 1 0 c.1.2 (k + 1) (by omega) (by omega)).2
  by_cases h0 : k = 0
  · subst h0; rw [lvl_first n h2 h]; simpa using this
  · rw [if_neg (by omega)] at this; simpa using this

theorem lvl_lt (n : Nat) (h2 : 2 ≤ n) (h : n ≤ 256) (j : Nat) : ∀ k, k < j → j < n → lvlN n k < lvlN n j := by
  induction j with
  | zero => intro k hk; omega
  | succ j ih =>
    intro k hk hj
    have s := lvl_step n j h2 h hj
    rcases Nat.lt_or_ge k j with hlt | hge
    · have := ih k hlt (by omega); omega
    · rw [show k = j by omega]; exact s

theorem lvl_inj (n k j : Nat) (h2 : 2 ≤ n) (h : n ≤ 256) (hk : k < n) (hj : j < n) (e : lvlN n k = lvlN n j) : k = j := by
  rcases Nat.lt_trichotomy k j with h1 | h1 | h1
  · have := lvl_lt n h2 h j k h1 hj; omega
  · exact h1
  · have := lvl_lt n h2 h k j h1 hk; omega

theorem lvl_le (n k : Nat) (h2 : 2 ≤ n) (h : n ≤ 256) (hk : k < n) : lvlN n k ≤ 1065353216 := by
  rw [← lvl_last n h2 h]
  rcases Nat.lt_or_ge k (n - 1) with h1 | h1
  · exact Nat.le_of_lt (lvl_lt n h2 h (n - 1) k h1 (by omega))
  · rw [show k = n - 1 by omega]; exact Nat.le_refl _

/-- A level's bits, as a whole number. -/
def lvl (n k : Int) : Int := (lvlN n.toNat k.toNat : Int)

end Go.Proofs.Ytmipbbkieadecaa
