/- DitherRises: units, picks and levels rise; the plain law. -/
import Derived.Test.YtmipbbkieadecaaM4
import Derived.Test.YtmipbbkieadecaaM9
import Derived.Test.YtmipbbkieadecaaPDRx1
open Go Go.RowKit Go.Proofs.YtmipbbkieadecaaW.PrintWords Go.Proofs.YtmipbbkieadecaaW.PrintLast Go.Proofs.YtmipbbkieadecaaW.PrintMore
set_option linter.unusedVariables false
set_option linter.unusedSimpArgs false
namespace Go.Proofs.Ytmipbbkieadecaa
open PDA PDB PDC PDK PDR

theorem rne_mono (m p d : Nat) (h : m ≤ p) : rne m d ≤ rne p d := by
  unfold rne
  have hp := Nat.two_pow_pos d
  have hq : m / 2 ^ d ≤ p / 2 ^ d := Nat.div_le_div_right h
  have em := Nat.div_add_mod m (2 ^ d)
  have ep := Nat.div_add_mod p (2 ^ d)
  have b1 : ∀ b : Bool, b.toNat ≤ 1 := by intro b; cases b <;> decide
  rcases Nat.lt_or_ge (m / 2 ^ d) (p / 2 ^ d) with hl | hl
  · have := b1 (decide (2 ^ d < 2 * (m % 2 ^ d)) || (2 ^ d == 2 * (m % 2 ^ d)) && m / 2 ^ d % 2 == 1)
    omega
  · have e : m / 2 ^ d = p / 2 ^ d := by omega
    rw [e] at em ⊢
    have hr : m % 2 ^ d ≤ p % 2 ^ d := by
      generalize 2 ^ d * (p / 2 ^ d) = X at *
      omega
    refine Nat.add_le_add_left ?_ _
    generalize p / 2 ^ d = q at *
    generalize m % 2 ^ d = r at *
    generalize p % 2 ^ d = s at *
    generalize 2 ^ d = D at *
    by_cases h1 : D < 2 * r
    · rw [decide_eq_true h1, decide_eq_true (show D < 2 * s by omega)]; simp
    · by_cases h2 : D = 2 * r
      · by_cases h3 : D < 2 * s
        · rw [decide_eq_true h3]
          exact Nat.le_trans (b1 _) (by simp)
        · have e3 : s = r := by omega
          rw [e3]; exact Nat.le_refl _
      · have e4 : (D == 2 * r) = false := by simp [h2]
        rw [decide_eq_false h1, e4]
        simp

theorem unitsN_step (s : Nat) (h : s + 1 ≤ 2139095040) : unitsN s ≤ unitsN (s + 1) := by
  have hle := unitsN_le s
  by_cases h1 : 1065353216 ≤ s + 1
  · have : unitsN (s + 1) = 16777216 := by
      unfold unitsN
      rw [if_neg (by omega), if_pos h1]
    omega
  · have e0 : unitsN (s + 1) = if s + 1 < 8388608 then rne (s + 1) 125 else rne (8388608 + (s + 1) % 8388608) (126 - (s + 1) / 8388608) := by
      unfold unitsN
      rw [if_neg (by omega), if_neg h1]
    have e1 : unitsN s = if s < 8388608 then rne s 125 else rne (8388608 + s % 8388608) (126 - s / 8388608) := by
      unfold unitsN
      rw [if_neg (by omega), if_neg (by omega)]
    rw [e0, e1]
    clear e0 e1 hle
    by_cases h2 : s + 1 < 8388608
    · rw [if_pos h2, if_pos (by omega)]
      exact rne_mono _ _ _ (by omega)
    · rw [if_neg h2]
      by_cases h3 : s < 8388608
      · obtain rfl : s = 8388607 := by omega
        rw [if_pos h3]
        exact rne_mono _ _ _ (by decide)
      · rw [if_neg h3]
        by_cases h4 : s % 8388608 = 8388607
        · have d1 : (s + 1) / 8388608 = s / 8388608 + 1 := by omega
          have d2 : (s + 1) % 8388608 = 0 := by omega
          rw [d1, d2, h4]
          have hq : s / 8388608 ≤ 125 := by omega
          generalize s / 8388608 = q at *
          have hs := rne_shift 8388608 (126 - (q + 1)) 1
          rw [show 126 - (q + 1) + 1 = 126 - q by omega] at hs
          rw [Nat.add_zero, ← hs]
          exact rne_mono _ _ _ (by decide)
        · have d1 : (s + 1) / 8388608 = s / 8388608 := by omega
          have d2 : (s + 1) % 8388608 = s % 8388608 + 1 := by omega
          rw [d1, d2]
          exact rne_mono _ _ _ (by omega)
theorem unitsN_mono (s : Nat) : ∀ d, s + d ≤ 2139095040 → unitsN s ≤ unitsN (s + d)
  | 0, h => Nat.le_refl _
  | d + 1, h => Nat.le_trans (unitsN_mono s d (by omega)) (unitsN_step (s + d) (by omega))

theorem fl_mono (n u v : Nat) (h2 : 2 ≤ n) (h : n ≤ 256) (huv : u ≤ v) (hv : v ≤ 16777216) : fl n u ≤ fl n v := by
  rcases Nat.lt_or_ge (fl n v) (fl n u) with hl | hl
  · have h3 := fl_above n v (fl n u) h2 h hl (fl_lt n u h2 (by omega))
    have h4 := fl_below n u h2
    omega
  · exact hl
theorem pick_mono (n S b u v : Nat) (h2 : 2 ≤ n) (h : n ≤ 256) (huv : u ≤ v) (hv : v ≤ 16777216) : pick n S b u ≤ pick n S b v := by
  have hm := fl_mono n u v h2 h huv hv
  have hlv := fl_lt n v h2 hv
  rcases Nat.lt_or_ge (fl n u) (fl n v) with hl | hl
  · have h3 : pick n S b u ≤ fl n u + 1 := by unfold pick; split; · omega
                                              · split <;> omega
    have h4 : fl n v ≤ pick n S b v := by unfold pick; split; · omega
                                          · split <;> omega
    omega
  · have e : fl n v = fl n u := by omega
    unfold pick
    rw [e]
    by_cases h5 : fl n u = n - 1
    · rw [if_pos h5, if_pos h5]; exact Nat.le_refl _
    · rw [if_neg h5, if_neg h5]
      have hmul : 2 * S * S * (u - U n (fl n u)) ≤ 2 * S * S * (v - U n (fl n u)) := Nat.mul_le_mul_left _ (by omega)
      by_cases h6 : 2 * S * S * (u - U n (fl n u)) > (2 * b + 1) * (U n (fl n u + 1) - U n (fl n u))
      · rw [if_pos h6, if_pos (by omega)]; exact Nat.le_refl _
      · rw [if_neg h6]
        split <;> omega
theorem lvlN_mono (n j k : Nat) (h2 : 2 ≤ n) (h : n ≤ 256) (hjk : j ≤ k) (hk : k < n) : lvlN n j ≤ lvlN n k := by
  rcases Nat.lt_or_ge j k with hl | hl
  · exact Nat.le_of_lt (lvl_lt n h2 h k j hl hk)
  · obtain rfl : j = k := by omega
    exact Nat.le_refl _
theorem unitsN_zero : unitsN 0 = 0 := by decide +kernel
theorem unitsN_one : unitsN 1065353216 = 16777216 := by unfold unitsN; rw [if_neg (by omega), if_pos (by omega)]
theorem pick_zero (n S b : Nat) (h2 : 2 ≤ n) (h : n ≤ 256) : pick n S b 0 = 0 := by
  have hf : fl n 0 = 0 := by
    have h1 := fl_below n 0 h2
    rcases Nat.eq_zero_or_pos (fl n 0) with h0 | h0
    · exact h0
    · have h3 := U_lt n h2 h (fl n 0) 0 h0
      rw [U_zero] at h3
      omega
  unfold pick
  rw [hf, if_neg (by omega), if_neg (by simp)]
theorem pick_one (n S b : Nat) (h2 : 2 ≤ n) (h : n ≤ 256) : pick n S b 16777216 = n - 1 := by
  have hf : fl n 16777216 = n - 1 := by
    rcases Nat.lt_or_ge (fl n 16777216) (n - 1) with hl | hl
    · have h3 := fl_above n 16777216 (n - 1) h2 h hl (by omega)
      rw [U_last n h2] at h3
      omega
    · have := fl_lt n 16777216 h2 (Nat.le_refl _)
      omega
  unfold pick
  rw [if_pos hf, hf]
theorem leF_units (a b : Nat) (ha : a < 4294967296) (hb : b < 4294967296) (h : leF a b = true) : unitsN a ≤ unitsN b := by
  by_cases h0 : a = 0
  · subst h0; rw [unitsN_zero]; omega
  · by_cases h1 : 2147483648 ≤ a ∨ 2139095040 < a
    · have : unitsN a = 0 := by unfold unitsN; rw [if_pos h1]
      omega
    · have h2 := leF_pos a b (by omega) (by omega) hb h
      have h3 := unitsN_mono a (b - a) (by omega)
      rw [show a + (b - a) = b by omega] at h3
      exact h3

namespace RI
theorem law (a b n side x y : Int) (w0 : (Lit.int .u32 a).wf = true) (w1 : (Lit.int .u32 b).wf = true)
    (w3 : (Lit.int .i64 n).wf = true) (w4 : (Lit.int .i64 side).wf = true) (w5 : (Lit.int .i64 x).wf = true) (w6 : (Lit.int .i64 y).wf = true) : ∃ k, halidelaw13_DitherRises.f k a b n side x y = some true := by
  refine ⟨1000, ?_⟩
  have ha := u32_all (l := [a]) (by simpa using w0) a (by simp)
  have hb := u32_all (l := [b]) (by simpa using w1) b (by simp)
  clear w0 w1 w3 w4 w5 w6
  unfold halidelaw13_DitherRises.f
  rw [known_up 1000 (by omega), Option.bind_some, if_pos rfl]
  show (dither_Ordered.f 4 1 [0, 1065353216, 0, 0] n side x y).bind _ = _
  by_cases hn : 2 ≤ n ∧ n ≤ 256
  · cases hs : sideE side with
    | none =>
      rw [ordered_bad_side _ _ _ n side x y hn hs, Option.bind_some, ordered_bad_side _ _ _ n side x y hn hs, Option.bind_some, ordered_bad_side _ _ _ n side x y hn hs, Option.bind_some]
      rw [if_neg (by decide), if_pos rfl, if_pos rfl]
      rfl
    | some E =>
      obtain ⟨n, rfl⟩ := Int.eq_ofNat_of_zero_le (show 0 ≤ n by omega)
      obtain ⟨a, rfl⟩ := Int.eq_ofNat_of_zero_le ha.1
      obtain ⟨b, rfl⟩ := Int.eq_ofNat_of_zero_le hb.1
      have hE := sideE_some hs
      have h2 : 2 ≤ n := by omega
      have h3 : n ≤ 256 := by omega
      have c4 : plane_Check.f ((4 : Nat) : Int) ((1 : Nat) : Int) [0, 1065353216, 0, 0] = some 0 := check_good 4 1 _ (by omega) (by omega) (by omega) (by omega) (by omega) rfl
      have ca : plane_Check.f ((1 : Nat) : Int) ((1 : Nat) : Int) [(a : Int)] = some 0 := check_good 1 1 _ (by omega) (by omega) (by omega) (by omega) (by omega) rfl
      have cb : plane_Check.f ((1 : Nat) : Int) ((1 : Nat) : Int) [(b : Int)] = some 0 := check_good 1 1 _ (by omega) (by omega) (by omega) (by omega) (by omega) rfl
      have o4 := ordered_good n 4 1 E [0, 1065353216, 0, 0] side x y ⟨h2, h3⟩ hs c4 (by intro s hs; simp at hs; omega)
      have oa := ordered_good n 1 1 E [(a : Int)] side x y ⟨h2, h3⟩ hs ca (by intro s hs; simp at hs; omega)
      have ob := ordered_good n 1 1 E [(b : Int)] side x y ⟨h2, h3⟩ hs cb (by intro s hs; simp at hs; omega)
      have v0 : ∀ W i, ordV n x y E W i 0 = 0 := by
        intro W i
        unfold ordV
        rw [show (0 : Int).toNat = 0 from rfl, unitsN_zero, pick_zero n _ _ h2 h3, lvl_first n h2 h3]; rfl
      have v1 : ∀ W i, ordV n x y E W i 1065353216 = 1065353216 := by
        intro W i
        unfold ordV
        rw [show (1065353216 : Int).toNat = 1065353216 from rfl, unitsN_one, pick_one n _ _ h2 h3, lvl_last n h2 h3]; rfl
      have l4 : ordR n x y E 4 0 [0, 1065353216, 0, 0] = [0, 1065353216, 0, 0] := by
        simp only [ordR, v0, v1]
      have la : ∀ c : Int, ordR n x y E 1 0 [c] = [ordV n x y E 1 0 c] := fun c => rfl
      rw [l4] at o4
      rw [la] at oa ob
      have o4' : dither_Ordered.f 4 1 [0, 1065353216, 0, 0] n side x y = some (4, 1, [0, 1065353216, 0, 0], 0) := o4
      have oa' : dither_Ordered.f 1 1 [(a : Int)] n side x y = some (1, 1, [ordV n x y E 1 0 a], 0) := oa
      have ob' : dither_Ordered.f 1 1 [(b : Int)] n side x y = some (1, 1, [ordV n x y E 1 0 b], 0) := ob
      rw [o4', Option.bind_some, oa', Option.bind_some, ob', Option.bind_some]
      rw [if_pos rfl, if_pos rfl, if_pos rfl, if_pos (by rfl), if_pos (by rfl), if_pos (by rfl), if_pos (by decide), if_pos (by rfl), if_pos (by decide), if_pos (by rfl), if_pos (by decide)]
      show halidelaw13_DitherRises.j0 1000 a b ((0 : Int) != 0) 1 1 [ordV n x y E 1 0 a] 1 1 [ordV n x y E 1 0 b] = _
      rw [show (1000 : Nat) = 999 + 1 from rfl, halidelaw13_DitherRises.j0, if_neg (by decide)]
      by_cases hle : leF a b = true
      · rw [if_pos hle, if_pos (by simp)]
        show (if 0 < ((1 : Nat) : Int) then (some (leF (ordV n x y E 1 0 a) (ordV n x y E 1 0 b))) else none) = _
        rw [if_pos (by omega)]
        have hu := leF_units a b (by omega) (by omega) hle
        have hub := unitsN_le b
        have hp := fun B => pick_mono n (2 ^ E) B (unitsN a) (unitsN b) h2 h3 hu hub
        have hl := fun B => lvlN_mono n _ _ h2 h3 (hp B) (pick_lt n (2 ^ E) B (unitsN b) h2 hub)
        have hb2 := fun B => lvl_le n (pick n (2 ^ E) B (unitsN b)) h2 h3 (pick_lt n (2 ^ E) B (unitsN b) h2 hub)
        unfold ordV
        rw [Int.toNat_natCast, Int.toNat_natCast]
        rw [leF_le _ _ (hl _) (Nat.lt_of_le_of_lt (hb2 _) (by omega))]
      · rw [if_neg hle]
  · rw [(ordered_bad_n _ _ _ n side x y hn).1, Option.bind_some, (ordered_bad_n _ _ _ n side x y hn).1, Option.bind_some, (ordered_bad_n _ _ _ n side x y hn).1, Option.bind_some]
    rw [if_neg (by decide), if_pos rfl, if_pos rfl]
    rfl
end RI
end Go.Proofs.Ytmipbbkieadecaa
