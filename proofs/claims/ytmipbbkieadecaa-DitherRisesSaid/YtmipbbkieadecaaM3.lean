/- The plain law of rounding by a table: rounded's answer, the reference's cell and pick. -/
import Derived.Test.YtmipbbkieadecaaM2
import Derived.Test.YtmipbbkieadecaaH6

open Go Go.RowKit Go.Proofs.YtmipbbkieadecaaW.PrintWords Go.Proofs.YtmipbbkieadecaaW.PrintLast Go.Proofs.YtmipbbkieadecaaW.PrintMore
set_option linter.unusedVariables false
set_option linter.unusedSimpArgs false
namespace Go.Proofs.Ytmipbbkieadecaa
open PDA PDB

/-- The greatest level of n whose unit is u at most. -/
def fl (n u : Nat) : Nat := if kz n u + 1 < n ∧ U n (kz n u + 1) ≤ u then kz n u + 1 else kz n u
theorem fl_lt (n u : Nat) (h2 : 2 ≤ n) (hu : u ≤ 16777216) : fl n u < n := by
  have := kz_le n u hu
  unfold fl; split <;> omega
theorem fl_below (n u : Nat) (h2 : 2 ≤ n) : U n (fl n u) ≤ u := by
  have := kz_below n u h2
  unfold fl; split <;> omega
theorem fl_above (n u j : Nat) (h2 : 2 ≤ n) (h : n ≤ 256) (hj : fl n u < j) (hjn : j < n) : u < U n j := by
  have h3 := kz_above n u h2
  unfold fl at hj
  split at hj
  · have := U_lt n h2 h j (kz n u + 1) hj
    omega
  · rename_i hc
    rcases Nat.lt_or_ge (kz n u + 1) j with h4 | h4
    · have := U_lt n h2 h j (kz n u + 1) h4
      omega
    · have e : j = kz n u + 1 := by omega
      subst e
      exact Nat.lt_of_not_le (fun h5 => hc ⟨hjn, h5⟩)
/-- The level picked, by the number b of a table of side S. -/
def pick (n S b u : Nat) : Nat :=
  if fl n u = n - 1 then fl n u else if 2 * S * S * (u - U n (fl n u)) > (2 * b + 1) * (U n (fl n u + 1) - U n (fl n u)) then fl n u + 1 else fl n u
theorem pick_lt (n S b u : Nat) (h2 : 2 ≤ n) (hu : u ≤ 16777216) : pick n S b u < n := by
  have := fl_lt n u h2 hu
  unfold pick; split
  · omega
  · split <;> omega

theorem cmp_eq (n S b u f V0 V1 : Nat) (hS : S ≤ 16) (hb : b < 256) (hu : u ≤ 16777216) (h0 : V0 ≤ u) (h1 : V0 ≤ V1) (h2 : V1 ≤ 16777216) :
    ((wrap64 ((wrap64 ((wrap64 (2 * (S : Int))) * (S : Int))) * (wrap64 ((u : Int) - (V0 : Int))))) > (wrap64 ((wrap64 ((wrap64 (2 * (b : Int))) + 1)) * (wrap64 ((V1 : Int) - (V0 : Int)))))) ↔ 2 * S * S * (u - V0) > (2 * b + 1) * (V1 - V0) := by
  have e1 : wrap64 (2 * (S : Int)) = ((2 * S : Nat) : Int) := by rw [w64 _ (by omega) (by omega)]; omega
  have hSS : 2 * S * S ≤ 512 := Nat.mul_le_mul (show 2 * S ≤ 32 by omega) hS
  have e2 : wrap64 (((2 * S : Nat) : Int) * (S : Int)) = ((2 * S * S : Nat) : Int) := by
    have : ((2 * S : Nat) : Int) * (S : Int) = ((2 * S * S : Nat) : Int) := by push_cast; rfl
    rw [this, w64 _ (by omega) (by omega)]
  have e3 : wrap64 ((u : Int) - (V0 : Int)) = ((u - V0 : Nat) : Int) := by rw [w64 _ (by omega) (by omega)]; omega
  have e4 : wrap64 ((V1 : Int) - (V0 : Int)) = ((V1 - V0 : Nat) : Int) := by rw [w64 _ (by omega) (by omega)]; omega
  have e5 : wrap64 (2 * (b : Int)) = ((2 * b : Nat) : Int) := by rw [w64 _ (by omega) (by omega)]; omega
  have e6 : wrap64 (((2 * b : Nat) : Int) + 1) = ((2 * b + 1 : Nat) : Int) := by rw [w64 _ (by omega) (by omega)]; omega
  rw [e1, e2, e3, e4, e5, e6]
  generalize hP : 2 * S * S = P at *
  generalize hD : u - V0 = D
  generalize hQ : 2 * b + 1 = Q
  generalize hR : V1 - V0 = R
  have hD' : D ≤ 16777216 := by omega
  have hR' : R ≤ 16777216 := by omega
  have hQ' : Q ≤ 512 := by omega
  have k1 : P * D ≤ 512 * 16777216 := Nat.mul_le_mul hSS hD'
  have k2 : Q * R ≤ 512 * 16777216 := Nat.mul_le_mul hQ' hR'
  have e7 : (P : Int) * (D : Int) = ((P * D : Nat) : Int) := by push_cast; rfl
  have e8 : (Q : Int) * (R : Int) = ((Q * R : Nat) : Int) := by push_cast; rfl
  rw [e7, e8]
  generalize P * D = X at *
  generalize Q * R = Y at *
  rw [w64 _ (by omega) (by omega), w64 _ (by omega) (by omega)]
  omega

theorem w_pred (n : Nat) (h2 : 2 ≤ n) (h : n ≤ 256) : wrap64 ((n : Int) - 1) = ((n - 1 : Nat) : Int) := by rw [w64 _ (by omega) (by omega)]; omega
theorem w_succ (n : Nat) (h : n ≤ 100000000) : wrap64 ((n : Int) + 1) = ((n + 1 : Nat) : Int) := by rw [w64 _ (by omega) (by omega)]; omega
theorem w_mul (a b B : Nat) (h : a * b ≤ 9223372036854775807) : wrap64 ((a : Int) * (b : Int)) = ((a * b : Nat) : Int) := by
  have : (a : Int) * (b : Int) = ((a * b : Nat) : Int) := by push_cast; rfl
  rw [this]
  generalize a * b = X at *
  rw [w64 _ (by omega) (by omega)]
theorem w_div (X Q : Nat) (h : X ≤ 9223372036854775807) : wrap64 (Int.tdiv (X : Int) (Q : Int)) = ((X / Q : Nat) : Int) := by
  rw [← Int.ofNat_tdiv]
  have : X / Q ≤ X := Nat.div_le_self _ _
  generalize X / Q = Y at *
  rw [w64 _ (by omega) (by omega)]
theorem kz_wrap (n u : Nat) (h2 : 2 ≤ n) (h : n ≤ 256) (hu : u ≤ 16777216) : wrap64 (Int.tdiv (wrap64 ((u : Int) * (wrap64 ((n : Int) - 1)))) 16777216) = ((kz n u : Nat) : Int) := by
  have h5 : u * (n - 1) ≤ 16777216 * 255 := Nat.mul_le_mul hu (by omega)
  rw [w_pred n h2 h, w_mul u (n - 1) 0 (Nat.le_trans h5 (by decide))]
  unfold kz
  exact w_div _ 16777216 (Nat.le_trans h5 (by decide))

/-- From the greatest level on. -/
theorem rounded_end (n S b u : Nat) (h2 : 2 ≤ n) (h : n ≤ 256) (hS : S ≤ 16) (hb : b < 256) (hu : u ≤ 16777216) (k : Nat) :
    dither_rounded.l1 (k + 1) u n S b (fl n u : Nat) = some (pick n S b u : Int) := by
  have hlt := fl_lt n u h2 hu
  have hlow := fl_below n u h2
  unfold dither_rounded.l1
  rw [unit_eq n _ h2 h hlt, Option.bind_some, if_neg (by omega)]
  rw [w_pred n h2 h]
  unfold pick
  by_cases hl : fl n u = n - 1
  · rw [if_pos (by omega), if_pos hl]
  · rw [if_neg (by omega), if_neg hl]
    rw [w_succ (fl n u) (by omega), unit_eq n _ h2 h (by omega), Option.bind_some, Option.bind_some, Option.bind_some]
    have hm := U_mono n h2 h (fl n u) (fl n u + 1) (by omega)
    have hx := U_le n (fl n u + 1) h2 (by omega)
    have hc := cmp_eq n S b u (fl n u) (U n (fl n u)) (U n (fl n u + 1)) hS hb hu hlow hm hx
    by_cases hq : 2 * S * S * (u - U n (fl n u)) > (2 * b + 1) * (U n (fl n u + 1) - U n (fl n u))
    · rw [if_pos (hc.mpr hq), if_pos hq]
    · rw [if_neg (fun h9 => hq (hc.mp h9)), if_neg hq]

theorem rounded_eq (n S b u : Nat) (h2 : 2 ≤ n) (h : n ≤ 256) (hS : S ≤ 16) (hb : b < 256) (hu : u ≤ 16777216) (k : Nat) (hk : 5 ≤ k) :
    dither_rounded.f k u n S b = some (pick n S b u : Int) := by
  obtain ⟨k, rfl⟩ : ∃ q, k = q + 5 := ⟨k - 5, by omega⟩
  have hkz := kz_le n u hu
  unfold dither_rounded.f
  rw [kz_wrap n u h2 h hu]
  have hend := rounded_end n S b u h2 h hS hb hu
  have hab := kz_above n u h2
  rw [dither_rounded.l0, w_succ (kz n u) (by omega)]
  by_cases h6 : kz n u + 1 < n
  · rw [if_pos (by omega), unit_eq n _ h2 h h6, Option.bind_some]
    by_cases h7 : U n (kz n u + 1) ≤ u
    · rw [if_pos (by omega)]
      have hf : fl n u = kz n u + 1 := by unfold fl; rw [if_pos ⟨h6, h7⟩]
      rw [dither_rounded.l0, w_succ (kz n u + 1) (by omega)]
      by_cases h8 : kz n u + 2 < n
      · rw [if_pos (by omega), unit_eq n _ h2 h h8, Option.bind_some]
        have := U_lt n h2 h (kz n u + 2) (kz n u + 1) (by omega)
        rw [if_neg (by omega), dither_rounded.j1, ← hf]
        exact hend _
      · rw [if_neg (by omega), dither_rounded.j1, ← hf]
        exact hend _
    · rw [if_neg (by omega), dither_rounded.j1]
      have hf : fl n u = kz n u := by unfold fl; rw [if_neg (fun h9 => h7 h9.2)]
      rw [← hf]
      exact hend _
  · rw [if_neg (by omega), dither_rounded.j1]
    have hf : fl n u = kz n u := by unfold fl; rw [if_neg (fun h9 => h6 h9.1)]
    rw [← hf]
    exact hend _

theorem half_wrap (s : Nat) (h : s ≤ 16) : wrap64 (Int.tdiv ((2 * s : Nat) : Int) 2) = (s : Int) := by
  have := w_div (2 * s) 2 (by omega)
  rw [show 2 * s / 2 = s by omega] at this
  exact this
theorem cell_wrap (t c : Int) (h : 0 ≤ t ∧ t < 64) (h0 : 0 ≤ c) (h1 : c ≤ 3) : wrap64 ((wrap64 (4 * t)) + c) = 4 * t + c := by
  rw [w64 (4 * t) (by omega) (by omega), w64 _ (by omega) (by omega)]
/-- The reference's cell. -/
theorem cell_eq : ∀ (E x y k : Nat), E ≤ 4 → x < 2 ^ E → y < 2 ^ E → 3 * E < k → halideref13_Cell.f k ((2 ^ E : Nat) : Int) x y = some (tb E y x)
  | 0, x, y, k, hE, hx, hy, hk => by
    obtain ⟨k, rfl⟩ : ∃ q, k = q + 1 := ⟨k - 1, by omega⟩
    rw [halideref13_Cell.f]
    simp [tb]
  | E + 1, x, y, k, hE, hx, hy, hk => by
    obtain ⟨k, rfl⟩ : ∃ q, k = q + 3 := ⟨k - 3, by omega⟩
    have hs : 0 < 2 ^ E := Nat.two_pow_pos E
    have hs2 : 2 ^ E ≤ 16 := Nat.pow_le_pow_right (by omega) (show E ≤ 4 by omega)
    have ih := cell_eq E (x % 2 ^ E) (y % 2 ^ E)
    have hb := tb_bound E (y % 2 ^ E) (x % 2 ^ E)
    have h4 : (4 : Int) ^ E ≤ 64 := by
      have : E = 0 ∨ E = 1 ∨ E = 2 ∨ E = 3 := by omega
      rcases this with rfl | rfl | rfl | rfl <;> decide
    have e2 : 2 ^ (E + 1) = 2 * 2 ^ E := by rw [Nat.pow_succ, Nat.mul_comm]
    have i1 : ∀ q, 3 * E < q → halideref13_Cell.f q ((2 ^ E : Nat) : Int) ((x % 2 ^ E : Nat) : Int) ((y % 2 ^ E : Nat) : Int) = some (tb E (y % 2 ^ E) (x % 2 ^ E)) := fun q hq => ih q (by omega) (Nat.mod_lt _ hs) (Nat.mod_lt _ hs) hq
    have et : tb (E + 1) y x = 4 * tb E (y % 2 ^ E) (x % 2 ^ E) + nn (y / 2 ^ E) (x / 2 ^ E) := rfl
    rw [et, e2]
    rw [e2] at hx hy
    generalize tb E (y % 2 ^ E) (x % 2 ^ E) = t at *
    generalize 2 ^ E = s at *
    have ex : Int.tmod (x : Int) (s : Int) = ((x % s : Nat) : Int) := by rw [← Int.ofNat_tmod]
    have ey : Int.tmod (y : Int) (s : Int) = ((y % s : Nat) : Int) := by rw [← Int.ofNat_tmod]
    have h0 : 0 ≤ t ∧ t < 64 := by omega
    clear hb h4 e2 ih et hE
    rw [halideref13_Cell.f, half_wrap s hs2, if_neg (by omega)]
    have yd : y / s = 0 ∧ y < s ∨ y / s = 1 ∧ s ≤ y := by
      rcases Nat.lt_or_ge y s with h5 | h5
      · exact .inl ⟨Nat.div_eq_of_lt h5, h5⟩
      · refine .inr ⟨?_, h5⟩
        rw [Nat.div_eq_of_lt_le (k := 1) (by omega) (by omega)]
    have xd : x / s = 0 ∧ x < s ∨ x / s = 1 ∧ s ≤ x := by
      rcases Nat.lt_or_ge x s with h5 | h5
      · exact .inl ⟨Nat.div_eq_of_lt h5, h5⟩
      · refine .inr ⟨?_, h5⟩
        rw [Nat.div_eq_of_lt_le (k := 1) (by omega) (by omega)]
    rcases xd with ⟨x1, x2⟩ | ⟨x1, x2⟩ <;> rcases yd with ⟨y1, y2⟩ | ⟨y1, y2⟩ <;> rw [x1, y1]
    · rw [if_neg (by omega), halideref13_Cell.j0, if_neg (by decide), if_pos (by omega), halideref13_Cell.j1, if_neg (by simp; omega), if_neg (by omega), if_neg (by omega), ex, ey, i1 _ (by omega), Option.bind_some, cell_wrap t 0 h0 (by omega) (by omega)]
      simp [nn]
    · rw [if_neg (by omega), halideref13_Cell.j0, if_neg (by decide), if_pos (by omega), halideref13_Cell.j1, if_pos (by simp; omega), if_neg (by omega), ex, ey, i1 _ (by omega), Option.bind_some, cell_wrap t 3 h0 (by omega) (by omega)]
      simp [nn]
    · rw [if_pos (by omega), halideref13_Cell.j0, if_pos (by simp; omega), if_neg (by omega), ex, ey, i1 _ (by omega), Option.bind_some, cell_wrap t 2 h0 (by omega) (by omega)]
      simp [nn]
    · rw [if_pos (by omega), halideref13_Cell.j0, if_neg (by simp; omega), if_neg (by omega), halideref13_Cell.j1, if_neg (by decide), if_pos (by omega), if_pos (by omega), if_neg (by omega), ex, ey, i1 _ (by omega), Option.bind_some, cell_wrap t 1 h0 (by omega) (by omega)]
      simp [nn]

theorem level_some (n k : Nat) (h2 : 2 ≤ n) (h : n ≤ 256) (hk : k < n) : dither_Level.f n k = some ((lvlN n k : Int), 0) := by
  unfold dither_Level.f
  rw [if_pos (by omega)]
  rfl
end Go.Proofs.Ytmipbbkieadecaa
