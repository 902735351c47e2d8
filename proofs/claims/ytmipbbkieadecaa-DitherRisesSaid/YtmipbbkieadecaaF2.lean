/- Binary floats in plain Lean: a sample's units: the float road of the program and the whole-number road tell the same. No program in sight. -/
import Derived.Laws.FloatArith
open Go
set_option linter.unusedVariables false
set_option linter.unusedSimpArgs false
namespace Go.Proofs.Ytmipbbkieadecaa
open Ieee

/-- m / 2^d, rounded to the nearest, ties to even. -/
def rne (m d : Nat) : Nat := m / 2 ^ d + (decide (2 ^ d < 2 * (m % 2 ^ d)) || (2 ^ d == 2 * (m % 2 ^ d)) && m / 2 ^ d % 2 == 1).toNat

/-- A sample's units, by its bits. -/
def unitsN (s : Nat) : Nat :=
  if 2147483648 ≤ s ∨ 2139095040 < s then 0
  else if 1065353216 ≤ s then 16777216
  else if s < 8388608 then rne s 125
  else rne (8388608 + s % 8388608) (126 - s / 8388608)

theorem log2_mul_pow (m j : Nat) (h : m ≠ 0) : (m * 2 ^ j).log2 = m.log2 + j := by
  have hp : 0 < 2 ^ j := Nat.two_pow_pos j
  rw [Nat.log2_eq_iff (Nat.mul_ne_zero h (by omega))]
  constructor
  · rw [Nat.pow_add]; exact Nat.mul_le_mul_right _ (Nat.log2_self_le h)
  · rw [show m.log2 + j + 1 = (m.log2 + 1) + j by omega, Nat.pow_add]
    exact Nat.mul_lt_mul_of_pos_right Nat.lt_log2_self hp

theorem log2_norm (M : Nat) (h1 : 2 ^ 52 ≤ M) (h2 : M < 2 ^ 53) : M.log2 = 52 := (Nat.log2_eq_iff (by omega)).mpr ⟨h1, h2⟩

theorem cut_even (n drop : Nat) (neg : Bool) (h : drop ≤ n.log2 + 2) : Toward.even.cut neg n drop = rne n drop := by
  unfold Toward.cut rne
  simp only [Nat.min_eq_left h, Nat.one_shiftLeft]

theorem double_binade : double.binade = 2 ^ 52 := rfl
theorem double_least : double.leastPlace = -1074 := rfl
theorem double_inf : double.infRung = 2047 * 2 ^ 52 := rfl
theorem double_sign : double.signWeight = 2 ^ 63 := rfl

theorem rne_zero (m : Nat) : rne m 0 = m := by
  simp [rne, Nat.mod_one]

theorem le_inf (a X : Nat) (ha : a ≤ 2045) (hX : X < 2 ^ 53) : a * 2 ^ 52 + X ≤ 2047 * 2 ^ 52 := by omega

/-- A number of few digits is written as it is. -/
theorem write_up (neg : Bool) (m : Nat) (p : Int) (h0 : m ≠ 0) (h1 : m < 2 ^ 53) (h2 : -1074 ≤ p + m.log2 - 52) (h3 : p + m.log2 - 52 ≤ 971) :
    double.nearest neg m p = double.word neg ((p + m.log2 - 52 + 1074).toNat * 2 ^ 52 + m * 2 ^ (52 - m.log2)) := by
  have hl : m.log2 ≤ 52 := by
    have := Nat.log2_self_le h0
    rcases Nat.lt_or_ge m.log2 53 with h | h
    · omega
    · have := Nat.pow_le_pow_right (show 0 < 2 by omega) h
      omega
  have hM1 : m * 2 ^ (52 - m.log2) < 2 ^ 53 := by
    have := Nat.lt_log2_self (n := m)
    calc m * 2 ^ (52 - m.log2) < 2 ^ (m.log2 + 1) * 2 ^ (52 - m.log2) := Nat.mul_lt_mul_of_pos_right this (Nat.two_pow_pos _)
      _ = 2 ^ 53 := by rw [← Nat.pow_add]; congr 1; omega
  unfold Format.nearest
  rw [if_neg h0]
  simp only [double_least, double_binade, double_inf]
  rw [show double.fractionBits = 52 from rfl]
  have hmax : max (p + (m.log2 : Int) - ((52 : Nat) : Int)) (-1074) = p + m.log2 - 52 := by omega
  rw [hmax]
  have e1 : (p - (p + (m.log2 : Int) - 52)).toNat = 52 - m.log2 := by omega
  have e2 : ((p + (m.log2 : Int) - 52) - p).toNat = 0 := by omega
  rw [e1, e2, cut_even _ _ _ (Nat.zero_le _), rne_zero, Nat.shiftLeft_eq]
  congr 1
  rw [Nat.min_eq_left]
  · congr 2
  · exact le_inf _ _ (by omega) hM1

/-- A number whose last digits are noughts is written as it is. -/
theorem write_down (neg : Bool) (M j : Nat) (p : Int) (h0 : 2 ^ 52 ≤ M) (h1 : M < 2 ^ 53) (h2 : -1074 ≤ p + j) (h3 : p + j ≤ 971) :
    double.nearest neg (M * 2 ^ j) p = double.word neg ((p + j + 1074).toNat * 2 ^ 52 + M) := by
  have hM := log2_norm M h0 h1
  have hlog : (M * 2 ^ j).log2 = 52 + j := by rw [log2_mul_pow M j (by omega), hM]
  have hne : M * 2 ^ j ≠ 0 := Nat.mul_ne_zero (by omega) (by have := Nat.two_pow_pos j; omega)
  unfold Format.nearest
  rw [if_neg hne, hlog]
  simp only [double_least, double_binade, double_inf]
  rw [show double.fractionBits = 52 from rfl]
  have hmax : max (p + ((52 + j : Nat) : Int) - ((52 : Nat) : Int)) (-1074) = p + j := by omega
  rw [hmax]
  have e1 : (p - (p + (j : Int))).toNat = 0 := by omega
  have e2 : ((p + (j : Int)) - p).toNat = j := by omega
  rw [e1, e2, Nat.shiftLeft_zero, cut_even _ _ _ (by rw [hlog]; omega)]
  have hr : rne (M * 2 ^ j) j = M := by
    have hp : 0 < 2 ^ j := Nat.two_pow_pos j
    unfold rne
    rw [Nat.mul_div_cancel _ hp, Nat.mul_mod_left]
    have a1 : decide (2 ^ j < 2 * 0) = false := by simp
    have a2 : (2 ^ j == 2 * 0) = false := by simp
    rw [a1, a2]; simp
  rw [hr]
  congr 1
  rw [Nat.min_eq_left]
  · congr 2
  · exact le_inf _ _ (by omega) h1

theorem read_double (s : Nat) : double.read s =
    if s % 2 ^ 63 < 2 ^ 52 then .number (s / 2 ^ 63 % 2 == 1) (s % 2 ^ 63) (-1074)
    else if s % 2 ^ 63 < 2047 * 2 ^ 52 then .number (s / 2 ^ 63 % 2 == 1) (2 ^ 52 + s % 2 ^ 63 % 2 ^ 52) (-1074 + (s % 2 ^ 63 / 2 ^ 52 - 1 : Nat))
    else if s % 2 ^ 63 = 2047 * 2 ^ 52 then .infinity (s / 2 ^ 63 % 2 == 1) else .nan (s / 2 ^ 63 % 2 == 1) (s % 2 ^ 63 - 2047 * 2 ^ 52) := rfl

/-- A normal number, read. -/
theorem read_word (neg : Bool) (E : Int) (M : Nat) (h0 : 2 ^ 52 ≤ M) (h1 : M < 2 ^ 53) (h2 : -1074 ≤ E) (h3 : E ≤ 971) :
    double.read (double.word neg ((E + 1074).toNat * 2 ^ 52 + M)) = .number neg M E := by
  obtain ⟨a, ha⟩ : ∃ a : Nat, (E + 1074).toNat = a := ⟨_, rfl⟩
  have hE : E = (a : Int) - 1074 := by omega
  have ha2 : a ≤ 2045 := by omega
  rw [ha]
  have hr : a * 2 ^ 52 + M < 2 ^ 63 := by omega
  have hq : (double.word neg (a * 2 ^ 52 + M)) % 2 ^ 63 = a * 2 ^ 52 + M := by
    unfold Format.word
    rw [double_sign]
    split
    · omega
    · omega
  have hn : ((double.word neg (a * 2 ^ 52 + M)) / 2 ^ 63 % 2 == 1) = neg := by
    unfold Format.word
    rw [double_sign]
    cases neg
    · simp; omega
    · simp; omega
  rw [read_double, hq, hn]
  rw [if_neg (by omega), if_pos (by omega)]
  have e1 : 2 ^ 52 + (a * 2 ^ 52 + M) % 2 ^ 52 = M := by omega
  have e2 : (a * 2 ^ 52 + M) / 2 ^ 52 - 1 = a := by omega
  rw [e1, e2, hE]
  congr 1

/-- Few digits, written and read. -/
theorem back (neg : Bool) (m : Nat) (p : Int) (h0 : m ≠ 0) (h1 : m < 2 ^ 53) (h2 : -1074 ≤ p + m.log2 - 52) (h3 : p + m.log2 - 52 ≤ 971) :
    double.read (double.write (.number neg m p)) = .number neg (m * 2 ^ (52 - m.log2)) (p + m.log2 - 52) := by
  have hl : m.log2 ≤ 52 := by
    have := Nat.log2_self_le h0
    rcases Nat.lt_or_ge m.log2 53 with h | h
    · omega
    · have := Nat.pow_le_pow_right (show 0 < 2 by omega) h
      omega
  show double.read (double.nearest neg m p) = _
  rw [write_up neg m p h0 h1 h2 h3]
  refine read_word neg _ _ ?_ ?_ h2 h3
  · calc 2 ^ 52 = 2 ^ m.log2 * 2 ^ (52 - m.log2) := by rw [← Nat.pow_add]; congr 1; omega
      _ ≤ m * 2 ^ (52 - m.log2) := Nat.mul_le_mul_right _ (Nat.log2_self_le h0)
  · calc m * 2 ^ (52 - m.log2) < 2 ^ (m.log2 + 1) * 2 ^ (52 - m.log2) := Nat.mul_lt_mul_of_pos_right Nat.lt_log2_self (Nat.two_pow_pos _)
      _ = 2 ^ 53 := by rw [← Nat.pow_add]; congr 1; omega

theorem back_zero (neg : Bool) (p : Int) : double.read (double.write (.number neg 0 p)) = .number neg 0 (-1074) := by
  have h : double.write (.number neg 0 p) = double.word neg 0 := rfl
  rw [h]
  cases neg <;> rfl

theorem rne_shift (m d j : Nat) : rne (m * 2 ^ j) (d + j) = rne m d := by
  have hp : 0 < 2 ^ j := Nat.two_pow_pos j
  unfold rne
  rw [Nat.pow_add, Nat.mul_div_mul_right _ _ hp, Nat.mul_mod_mul_right]
  have e1 : decide (2 ^ d * 2 ^ j < 2 * (m % 2 ^ d * 2 ^ j)) = decide (2 ^ d < 2 * (m % 2 ^ d)) := by
    rw [decide_eq_decide, ← Nat.mul_assoc]
    exact Nat.mul_lt_mul_right hp
  have e2 : (2 ^ d * 2 ^ j == 2 * (m % 2 ^ d * 2 ^ j)) = (2 ^ d == 2 * (m % 2 ^ d)) := by
    rw [Bool.eq_iff_iff, beq_iff_eq, beq_iff_eq, ← Nat.mul_assoc]
    exact Nat.mul_left_inj (by omega)
  rw [e1, e2]

theorem rne_small (m d : Nat) (h : 2 * m < 2 ^ d) : rne m d = 0 := by
  unfold rne
  rw [Nat.div_eq_of_lt (by omega), Nat.mod_eq_of_lt (by omega)]
  have a1 : decide (2 ^ d < 2 * m) = false := by simp; omega
  have a2 : (2 ^ d == 2 * m) = false := by simp; omega
  rw [a1, a2]; simp

theorem cut_any (m t d : Nat) (ht : t ≤ 52) (h0 : 2 ^ t ≤ m) (h1 : m < 2 ^ (t + 1)) : Toward.even.cut false (m * 2 ^ (52 - t)) (d + (52 - t)) = rne m d := by
  have hm : m ≠ 0 := by have := Nat.two_pow_pos t; omega
  have hlm : m.log2 = t := (Nat.log2_eq_iff hm).mpr ⟨h0, h1⟩
  have hl : (m * 2 ^ (52 - t)).log2 = 52 := by rw [log2_mul_pow _ _ hm, hlm]; omega
  rcases Nat.lt_or_ge (d + (52 - t)) 55 with h | h
  · rw [cut_even _ _ _ (by rw [hl]; omega), rne_shift]
  · have e : Toward.even.cut false (m * 2 ^ (52 - t)) (d + (52 - t)) = rne (m * 2 ^ (52 - t)) 54 := by
      unfold Toward.cut rne
      simp only [hl, Nat.min_eq_right (show 52 + 2 ≤ d + (52 - t) by omega), Nat.one_shiftLeft]
    rw [e, rne_small, rne_small]
    · have : 2 ^ (t + 2) ≤ 2 ^ d := Nat.pow_le_pow_right (by omega) (by omega)
      rw [show t + 2 = (t + 1) + 1 by omega, Nat.pow_succ] at this
      omega
    · have : m * 2 ^ (52 - t) < 2 ^ (t + 1) * 2 ^ (52 - t) := Nat.mul_lt_mul_of_pos_right h1 (Nat.two_pow_pos _)
      rw [← Nat.pow_add, show t + 1 + (52 - t) = 53 by omega] at this
      omega

theorem rne_le (m d b : Nat) (h : m < b * 2 ^ d) : rne m d ≤ b := by
  have hp : 0 < 2 ^ d := Nat.two_pow_pos d
  have h1 : m / 2 ^ d < b := (Nat.div_lt_iff_lt_mul hp).mpr h
  unfold rne
  have : ∀ c : Bool, c.toNat ≤ 1 := by intro c; cases c <;> simp
  have := this (decide (2 ^ d < 2 * (m % 2 ^ d)) || (2 ^ d == 2 * (m % 2 ^ d)) && m / 2 ^ d % 2 == 1)
  omega

/-- A small whole number, written, read and cut. -/
theorem whole_back (q : Nat) (h : q ≤ 2 ^ 24) : (double.read (double.write (.number false q 0))).toInt .zero = some (q : Int) := by
  rcases Nat.eq_zero_or_pos q with h0 | h0
  · subst h0; rfl
  · have hq : q ≠ 0 := by omega
    have hl : q.log2 ≤ 24 := by
      have := Nat.log2_self_le hq
      rcases Nat.lt_or_ge q.log2 25 with h' | h'
      · omega
      · have := Nat.pow_le_pow_right (show 0 < 2 by omega) h'
        omega
    rw [back false q 0 hq (by omega) (by omega) (by omega)]
    simp only [Datum.toInt, Datum.integral, signed]
    have e1 : (0 + (q.log2 : Int) - 52).toNat = 0 := by omega
    have e2 : (-(0 + (q.log2 : Int) - 52)).toNat = 52 - q.log2 := by omega
    rw [e1, e2]
    simp only [Nat.shiftLeft_zero]
    have hlog : (q * 2 ^ (52 - q.log2)).log2 = 52 := by rw [log2_mul_pow _ _ hq]; omega
    have : Toward.zero.cut false (q * 2 ^ (52 - q.log2)) (52 - q.log2) = q := by
      unfold Toward.cut
      simp only [hlog, Nat.min_eq_left (show 52 - q.log2 ≤ 52 + 2 by omega), Nat.one_shiftLeft]
      rw [Nat.mul_div_cancel _ (Nat.two_pow_pos _)]
      simp
    rw [this]; simp

/-- What a sample stands for, read as a binary32. -/
theorem single_binade : single.binade = 8388608 := rfl
theorem single_least : single.leastPlace = -149 := rfl
theorem single_inf : single.infRung = 2139095040 := rfl
theorem single_sign : single.signWeight = 2147483648 := rfl

theorem read_single (s : Nat) : single.read s =
    if s % 2147483648 < 8388608 then .number (s / 2147483648 % 2 == 1) (s % 2147483648) (-149)
    else if s % 2147483648 < 2139095040 then .number (s / 2147483648 % 2 == 1) (8388608 + s % 2147483648 % 8388608) (-149 + (s % 2147483648 / 8388608 - 1 : Nat))
    else if s % 2147483648 = 2139095040 then .infinity (s / 2147483648 % 2 == 1) else .nan (s / 2147483648 % 2 == 1) (s % 2147483648 - 2139095040) := rfl

/-- A sample's bits as a binary64. -/
def wideN (s : Nat) : Nat := double.write (single.read s)

theorem cmp_ge (x y : Int) (h : y ≤ x) : (some (compare x y) == some Ordering.gt || some (compare x y) == some Ordering.eq) = true := by
  show (some (compareOfLessAndEq x y) == some Ordering.gt || some (compareOfLessAndEq x y) == some Ordering.eq) = true
  unfold compareOfLessAndEq
  rw [if_neg (by omega)]
  split <;> rfl
theorem cmp_lt (x y : Int) (h : x < y) : (some (compare x y) == some Ordering.gt || some (compare x y) == some Ordering.eq) = false := by
  show (some (compareOfLessAndEq x y) == some Ordering.gt || some (compareOfLessAndEq x y) == some Ordering.eq) = false
  unfold compareOfLessAndEq
  rw [if_pos h]
  rfl
theorem cmp_le (x y : Int) (h : x ≤ y) : (some (compare x y) == some Ordering.lt || some (compare x y) == some Ordering.eq) = true := by
  show (some (compareOfLessAndEq x y) == some Ordering.lt || some (compareOfLessAndEq x y) == some Ordering.eq) = true
  unfold compareOfLessAndEq
  split
  · rfl
  · rw [if_pos (by omega)]; rfl
theorem cmp_gt (x y : Int) (h : y < x) : (some (compare x y) == some Ordering.lt || some (compare x y) == some Ordering.eq) = false := by
  show (some (compareOfLessAndEq x y) == some Ordering.lt || some (compareOfLessAndEq x y) == some Ordering.eq) = false
  unfold compareOfLessAndEq
  rw [if_neg (by omega), if_neg (by omega)]
  rfl

/-- A finite sample that is no nought: its digits and their place. -/
theorem finite (s : Nat) (h0 : s % 2147483648 ≠ 0) (h1 : s % 2147483648 < 2139095040) :
    ∃ (m : Nat) (p : Int), single.read s = .number (s / 2147483648 % 2 == 1) m p ∧ m ≠ 0 ∧ m.log2 ≤ 23 ∧ -149 ≤ p ∧ p ≤ 104 ∧
      double.read (wideN s) = .number (s / 2147483648 % 2 == 1) (m * 2 ^ (52 - m.log2)) (p + m.log2 - 52) ∧
      (1065353216 ≤ s % 2147483648 → 0 ≤ p + m.log2) ∧ (s < 1065353216 → p ≤ -24 ∧ unitsN s = rne m (-24 - p).toNat) := by
  have key : ∀ (m : Nat) (p : Int), single.read s = .number (s / 2147483648 % 2 == 1) m p → m ≠ 0 → m < 2 ^ 24 → -149 ≤ p → p ≤ 104 →
      m.log2 ≤ 23 ∧ double.read (wideN s) = .number (s / 2147483648 % 2 == 1) (m * 2 ^ (52 - m.log2)) (p + m.log2 - 52) := by
    intro m p hr hm hlt hp1 hp2
    have hl : m.log2 ≤ 23 := by
      have := Nat.log2_self_le hm
      rcases Nat.lt_or_ge m.log2 24 with h | h
      · omega
      · have := Nat.pow_le_pow_right (show 0 < 2 by omega) h
        omega
    refine ⟨hl, ?_⟩
    unfold wideN
    rw [hr]
    exact back _ m p hm (by omega) (by omega) (by omega)
  have hr := read_single s
  by_cases hs : s % 2147483648 < 8388608
  · rw [if_pos hs] at hr
    obtain ⟨k1, k2⟩ := key _ _ hr h0 (by omega) (by omega) (by omega)
    refine ⟨_, _, hr, h0, k1, by omega, by omega, k2, by omega, fun h => ⟨by omega, ?_⟩⟩
    have e : s % 2147483648 = s := by omega
    unfold unitsN
    rw [if_neg (by omega), if_neg (by omega), if_pos (by omega), e]
    rfl
  · rw [if_neg hs, if_pos h1] at hr
    obtain ⟨k1, k2⟩ := key _ _ hr (by omega) (by omega) (by omega) (by omega)
    refine ⟨_, _, hr, by omega, k1, by omega, by omega, k2, ?_, fun h => ⟨by omega, ?_⟩⟩
    · intro h
      have hm : (8388608 + s % 2147483648 % 8388608).log2 = 23 := (Nat.log2_eq_iff (by omega)).mpr ⟨by omega, by omega⟩
      rw [hm]; omega
    · have e : s % 2147483648 = s := by omega
      unfold unitsN
      rw [if_neg (by omega), if_neg (by omega), if_neg (by omega), e]
      congr 1
      omega

theorem wide_zero (s : Nat) (h0 : s % 2147483648 = 0) : double.read (wideN s) = .number (s / 2147483648 % 2 == 1) 0 (-1074) := by
  unfold wideN
  rw [read_single, if_pos (by omega), h0]
  exact back_zero _ _
theorem wide_inf (s : Nat) (h0 : s % 2147483648 = 2139095040) : double.read (wideN s) = .infinity (s / 2147483648 % 2 == 1) := by
  unfold wideN
  rw [read_single, if_neg (by omega), if_neg (by omega), if_pos h0]
  cases (s / 2147483648 % 2 == 1) <;> rfl

/-- 'float64(x)' of a sample that is no NaN. -/
theorem conv_some (s : Nat) (h : s % 2147483648 ≤ 2139095040) : floatToFloatBits .f32 s .f64 = some (wideN s) := by
  unfold floatToFloatBits
  rw [if_neg (by decide)]
  have hd : FloatKind.f32.decode s = single.read s := rfl
  have hw : ∀ d, FloatKind.f64.encode d = double.write d := fun _ => rfl
  have hv : ∀ b, FloatKind.f64.decode b = double.read b := fun _ => rfl
  by_cases h0 : s % 2147483648 = 0
  · have hz := wide_zero s h0
    have hr := read_single s
    rw [if_pos (by omega)] at hr
    unfold wideN at hz ⊢
    rw [hr] at hz
    rw [hd, hr]
    simp only [hw, hv, hz, Datum.isInfinity, Bool.false_eq_true, if_false]
  · by_cases h1 : s % 2147483648 < 2139095040
    · obtain ⟨m, p, hr, hm, hl, hp1, hp2, hb, _⟩ := finite s h0 h1
      unfold wideN at hb ⊢
      rw [hr] at hb
      rw [hd, hr]
      simp only [hw, hv, hb, Datum.isInfinity, Bool.false_eq_true, if_false]
    · have hr := read_single s
      rw [if_neg (by omega), if_neg (by omega), if_pos (by omega)] at hr
      unfold wideN
      rw [hd, hr]
      rfl

theorem conv_nan (s : Nat) (h : 2139095040 < s % 2147483648) : FloatKind.f32.decode s = .nan (s / 2147483648 % 2 == 1) (s % 2147483648 - 2139095040) := by
  show single.read s = _
  rw [read_single, if_neg (by omega), if_neg (by omega), if_neg (by omega)]

theorem read_nought : double.read 0 = .number false 0 (-1074) := rfl
theorem read_one : double.read 4607182418800017408 = .number false (2 ^ 52) (-52) := by decide +kernel
theorem read_many : double.read 4715268809856909312 = .number false (2 ^ 52) (-28) := by decide +kernel

/-- v ≤ 0. -/
theorem below_zero (s : Nat) (h : s % 2147483648 ≤ 2139095040) (hs : s < 4294967296) :
    (FloatKind.f64.format.order (wideN s) 0 == some .lt || FloatKind.f64.format.order (wideN s) 0 == some .eq) = decide (2147483648 ≤ s ∨ s = 0) := by
  have ho : FloatKind.f64.format.order (wideN s) 0 = (double.read (wideN s)).order (double.read 0) := rfl
  rw [ho, read_nought]
  by_cases h0 : s % 2147483648 = 0
  · rw [wide_zero s h0]
    have : decide (2147483648 ≤ s ∨ s = 0) = true := by simp; omega
    rw [this]
    cases (s / 2147483648 % 2 == 1) <;> rfl
  · by_cases h1 : s % 2147483648 < 2139095040
    · obtain ⟨m, p, hr, hm, hl, hp1, hp2, hb, _⟩ := finite s h0 h1
      rw [hb]
      simp only [Datum.order]
      have hmin : min (p + (m.log2 : Int) - 52) (-1074) = -1074 := by omega
      rw [hmin]
      have hz : signed false 0 (-1074 - -1074 : Int).toNat = 0 := rfl
      rw [hz]
      have hpos : 0 < (m * 2 ^ (52 - m.log2)) <<< (p + (m.log2 : Int) - 52 - -1074).toNat := by
        rw [Nat.shiftLeft_eq]
        exact Nat.mul_pos (Nat.mul_pos (by omega) (Nat.two_pow_pos _)) (Nat.two_pow_pos _)
      by_cases hn : 2147483648 ≤ s
      · have hb1 : (s / 2147483648 % 2 == 1) = true := by simp; omega
        rw [hb1, cmp_le _ _ (by simp only [signed, if_true]; omega)]
        simp [hn]
      · have hb1 : (s / 2147483648 % 2 == 1) = false := by simp; omega
        rw [hb1, cmp_gt _ _ (by simp only [signed, Bool.false_eq_true, if_false]; omega)]
        have : decide (2147483648 ≤ s ∨ s = 0) = false := by simp; omega
        rw [this]
    · rw [wide_inf s (by omega)]
      by_cases hn : 2147483648 ≤ s
      · have hb1 : (s / 2147483648 % 2 == 1) = true := by simp; omega
        rw [hb1]
        simp [hn, Datum.order]
      · have hb1 : (s / 2147483648 % 2 == 1) = false := by simp; omega
        rw [hb1]
        have : decide (2147483648 ≤ s ∨ s = 0) = false := by simp; omega
        rw [this]
        simp [Datum.order]

/-- v ≥ 1. -/
theorem from_one (s : Nat) (h : s ≤ 2139095040) (h0 : s ≠ 0) :
    (FloatKind.f64.format.order (wideN s) 4607182418800017408 == some .gt || FloatKind.f64.format.order (wideN s) 4607182418800017408 == some .eq) = decide (1065353216 ≤ s) := by
  have ho : FloatKind.f64.format.order (wideN s) 4607182418800017408 = (double.read (wideN s)).order (double.read 4607182418800017408) := rfl
  rw [ho, read_one]
  have es : s % 2147483648 = s := by omega
  have hb1 : (s / 2147483648 % 2 == 1) = false := by simp; omega
  by_cases h1 : s < 2139095040
  · obtain ⟨m, p, hr, hm, hl, hp1, hp2, hb, hge, hlt⟩ := finite s (by omega) (by omega)
    rw [hb1] at hb
    rw [hb]
    simp only [Datum.order]
    have hM1 : 2 ^ 52 ≤ m * 2 ^ (52 - m.log2) := by
      calc 2 ^ 52 = 2 ^ m.log2 * 2 ^ (52 - m.log2) := by rw [← Nat.pow_add]; congr 1; omega
        _ ≤ m * 2 ^ (52 - m.log2) := Nat.mul_le_mul_right _ (Nat.log2_self_le hm)
    have hM2 : m * 2 ^ (52 - m.log2) < 2 ^ 53 := by
      calc m * 2 ^ (52 - m.log2) < 2 ^ (m.log2 + 1) * 2 ^ (52 - m.log2) := Nat.mul_lt_mul_of_pos_right Nat.lt_log2_self (Nat.two_pow_pos _)
        _ = 2 ^ 53 := by rw [← Nat.pow_add]; congr 1; omega
    by_cases hs : 1065353216 ≤ s
    · have hp := hge (by omega)
      have hmin : min (p + (m.log2 : Int) - 52) (-52) = -52 := by omega
      rw [hmin, cmp_ge _ _ ?_]
      · simp [hs]
      · simp only [signed, Bool.false_eq_true, if_false, Nat.shiftLeft_eq]
        have hz : (-52 - -52 : Int).toNat = 0 := rfl
        rw [hz, Nat.pow_zero, Nat.mul_one]
        have hp2 : 1 ≤ 2 ^ (p + (m.log2 : Int) - 52 - -52).toNat := Nat.two_pow_pos _
        have := Nat.mul_le_mul hM1 hp2
        omega
    · obtain ⟨hp, _⟩ := hlt (by omega)
      have hmin : min (p + (m.log2 : Int) - 52) (-52) = p + (m.log2 : Int) - 52 := by omega
      rw [hmin, cmp_lt _ _ ?_]
      · simp [hs]
      · simp only [signed, Bool.false_eq_true, if_false, Nat.shiftLeft_eq]
        have hz : (p + (m.log2 : Int) - 52 - (p + (m.log2 : Int) - 52)).toNat = 0 := by omega
        rw [hz, Nat.pow_zero, Nat.mul_one]
        have hp2 : 2 ^ 1 ≤ 2 ^ (-52 - (p + (m.log2 : Int) - 52)).toNat := Nat.pow_le_pow_right (by omega) (by omega)
        have := Nat.mul_le_mul (Nat.le_refl (2 ^ 52)) hp2
        omega
  · have he : s = 2139095040 := by omega
    subst he
    decide +kernel

/-- The last step: times 2^24, to the nearest whole number, told as an int. -/
theorem last_step (s : Nat) (h0 : s ≠ 0) (h1 : s < 1065353216) :
    ∃ X : Nat, ∃ d : Datum, floatBits .mul .f64 (wideN s) 4715268809856909312 = some X ∧ FloatKind.f64.decode X = d ∧ (∀ a b, d ≠ .nan a b) ∧ floatToIntVal .f64 (FloatKind.f64.encode (d.integral .even)) .i64 = some (unitsN s : Int) := by
  have es : s % 2147483648 = s := by omega
  have hb1 : (s / 2147483648 % 2 == 1) = false := by simp; omega
  obtain ⟨m, p, hr, hm, hl, hp1, hp2, hb, hge, hlt⟩ := finite s (by omega) (by omega)
  obtain ⟨hp, hu⟩ := hlt h1
  rw [hb1] at hb
  have hM1 : 2 ^ 52 ≤ m * 2 ^ (52 - m.log2) := by
    calc 2 ^ 52 = 2 ^ m.log2 * 2 ^ (52 - m.log2) := by rw [← Nat.pow_add]; congr 1; omega
      _ ≤ m * 2 ^ (52 - m.log2) := Nat.mul_le_mul_right _ (Nat.log2_self_le hm)
  have hM2 : m * 2 ^ (52 - m.log2) < 2 ^ 53 := by
    calc m * 2 ^ (52 - m.log2) < 2 ^ (m.log2 + 1) * 2 ^ (52 - m.log2) := Nat.mul_lt_mul_of_pos_right Nat.lt_log2_self (Nat.two_pow_pos _)
      _ = 2 ^ 53 := by rw [← Nat.pow_add]; congr 1; omega
  have hmul : double.mul (wideN s) 4715268809856909312 = some (double.word false ((p + m.log2 - 52 + -28 + (52 : Nat) + 1074).toNat * 2 ^ 52 + m * 2 ^ (52 - m.log2))) := by
    unfold Format.mul
    rw [hb, read_many]
    simp only [Datum.product, Option.map_some]
    congr 1
    exact write_down false _ 52 _ hM1 hM2 (by omega) (by omega)
  refine ⟨_, _, hmul, rfl, ?_, ?_⟩
  · have : FloatKind.f64.decode (double.word false ((p + m.log2 - 52 + -28 + (52 : Nat) + 1074).toNat * 2 ^ 52 + m * 2 ^ (52 - m.log2))) = _ := read_word false _ _ hM1 hM2 (by omega) (by omega)
    rw [this]
    intro a b hh
    cases hh
  · have : FloatKind.f64.decode (double.word false ((p + m.log2 - 52 + -28 + (52 : Nat) + 1074).toNat * 2 ^ 52 + m * 2 ^ (52 - m.log2))) = _ := read_word false _ _ hM1 hM2 (by omega) (by omega)
    rw [this]
    simp only [Datum.integral]
    have e1 : (p + (m.log2 : Int) - 52 + -28 + ((52 : Nat) : Int)).toNat = 0 := by omega
    have e2 : (-(p + (m.log2 : Int) - 52 + -28 + ((52 : Nat) : Int))).toNat = (-24 - p).toNat + (52 - m.log2) := by omega
    rw [e1, e2, Nat.shiftLeft_zero, cut_any m m.log2 _ (by omega) (Nat.log2_self_le hm) Nat.lt_log2_self, ← hu]
    have hq : unitsN s ≤ 2 ^ 24 := by
      rw [hu]
      refine rne_le _ _ _ ?_
      have h24 : m < 2 ^ (m.log2 + 1) := Nat.lt_log2_self
      have : 2 ^ (m.log2 + 1) ≤ 2 ^ 24 := Nat.pow_le_pow_right (by omega) (by omega)
      have := Nat.two_pow_pos (-24 - p).toNat
      calc m < 2 ^ 24 * 1 := by omega
        _ ≤ 2 ^ 24 * 2 ^ (-24 - p).toNat := Nat.mul_le_mul_left _ this
    have hw := whole_back (unitsN s) hq
    unfold floatToIntVal
    have hd : FloatKind.f64.decode (FloatKind.f64.encode (.number false (unitsN s) 0)) = double.read (double.write (.number false (unitsN s) 0)) := rfl
    rw [hd, hw]
    have : IntKind.i64.min ≤ (unitsN s : Int) ∧ (unitsN s : Int) ≤ IntKind.i64.max := by
      rw [show IntKind.i64.min = -9223372036854775808 from rfl, show IntKind.i64.max = 9223372036854775807 from rfl]
      omega
    simp only [this, and_self, if_true]

end Go.Proofs.Ytmipbbkieadecaa
