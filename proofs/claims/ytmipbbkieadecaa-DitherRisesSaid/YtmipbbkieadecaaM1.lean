/- Plain laws of chapter 13: units of levels, and the level that is nearest: both scans tell the same. No program in sight but the printed functions. -/
import Derived.Test.YtmipbbkieadecaaF2
import Derived.Test.YtmipbbkieadecaaH2
import Derived.Test.YtmipbbkieadecaaPDAx4
open Go Go.RowKit Go.Proofs.YtmipbbkieadecaaW.PrintWords Go.Proofs.YtmipbbkieadecaaW.PrintLast Go.Proofs.YtmipbbkieadecaaW.PrintMore
set_option linter.unusedVariables false
set_option linter.unusedSimpArgs false
namespace Go.Proofs.Ytmipbbkieadecaa
open PDA PDB

/-- A level's units. -/
def U (n j : Nat) : Nat := j * 16777216 / (n - 1)

theorem U_le (n j : Nat) (h2 : 2 ≤ n) (hj : j < n) : U n j ≤ 16777216 := by
  unfold U
  refine Nat.div_le_of_le_mul ?_
  exact Nat.mul_le_mul_right _ (by omega)
theorem U_step (n j : Nat) (h2 : 2 ≤ n) (h : n ≤ 256) : U n j + 65793 ≤ U n (j + 1) := by
  unfold U
  have hm : 0 < n - 1 := by omega
  rw [Nat.le_div_iff_mul_le hm, Nat.add_mul, Nat.add_mul]
  have h1 : j * 16777216 / (n - 1) * (n - 1) ≤ j * 16777216 := Nat.div_mul_le_self _ _
  have h2 : 65793 * (n - 1) ≤ 65793 * 255 := Nat.mul_le_mul_left _ (by omega)
  omega
theorem U_lt (n : Nat) (h2 : 2 ≤ n) (h : n ≤ 256) (k : Nat) : ∀ j, j < k → U n j < U n k := by
  induction k with
  | zero => intro j hj; omega
  | succ k ih =>
    intro j hj
    have s := U_step n k h2 h
    rcases Nat.lt_or_ge j k with hlt | hge
    · have := ih j hlt; omega
    · rw [show j = k by omega]; omega
theorem U_mono (n : Nat) (h2 : 2 ≤ n) (h : n ≤ 256) (j k : Nat) (hjk : j ≤ k) : U n j ≤ U n k := by
  rcases Nat.lt_or_ge j k with hlt | hge
  · exact Nat.le_of_lt (U_lt n h2 h k j hlt)
  · rw [show j = k by omega]; exact Nat.le_refl _
theorem U_zero (n : Nat) : U n 0 = 0 := by unfold U; rw [Nat.zero_mul, Nat.zero_div]
theorem U_last (n : Nat) (h2 : 2 ≤ n) : U n (n - 1) = 16777216 := by unfold U; exact Nat.mul_div_cancel_left _ (by omega)

/-- About where a number of units lies. -/
def kz (n c : Nat) : Nat := c * (n - 1) / 16777216
theorem kz_le (n c : Nat) (hc : c ≤ 16777216) : kz n c ≤ n - 1 := by
  unfold kz
  refine Nat.div_le_of_le_mul ?_
  exact Nat.mul_le_mul_right _ hc
theorem kz_below (n c : Nat) (h2 : 2 ≤ n) : U n (kz n c) ≤ c := by
  unfold U kz
  refine Nat.div_le_of_le_mul ?_
  have := Nat.div_mul_le_self (c * (n - 1)) 16777216
  rw [Nat.mul_comm (n - 1) c]; exact this
theorem kz_above (n c : Nat) (h2 : 2 ≤ n) : c ≤ U n (kz n c + 1) := by
  unfold U kz
  rw [Nat.le_div_iff_mul_le (by omega)]
  have h1 : c * (n - 1) < (c * (n - 1) / 16777216 + 1) * 16777216 := by
    have := Nat.div_add_mod (c * (n - 1)) 16777216
    have := Nat.mod_lt (c * (n - 1)) (show 0 < 16777216 by omega)
    omega
  exact Nat.le_of_lt h1

/-- How far a level is from some units. -/
def dist (n c j : Nat) : Int := mx ((U n j : Int) - c) ((c : Int) - U n j)
theorem dist_low (n c j : Nat) (h : U n j ≤ c) : dist n c j = (c : Int) - U n j := by
  unfold dist mx; split <;> omega
theorem dist_high (n c j : Nat) (h : c ≤ U n j) : dist n c j = (U n j : Int) - c := by
  unfold dist mx; split <;> omega
/-- The level that is nearest; of two the lower one. -/
def near (n c : Nat) : Nat := if kz n c + 1 < n ∧ dist n c (kz n c + 1) < dist n c (kz n c) then kz n c + 1 else kz n c
theorem near_lt (n c : Nat) (h2 : 2 ≤ n) (hc : c ≤ 16777216) : near n c < n := by
  unfold near
  have := kz_le n c hc
  split <;> omega
theorem near_first (n c : Nat) (h2 : 2 ≤ n) (h : n ≤ 256) (hc : c ≤ 16777216) : ∀ j, j < near n c → dist n c (near n c) < dist n c j := by
  intro j hj
  have b := kz_below n c h2
  have a := kz_above n c h2
  unfold near at hj ⊢
  by_cases hk : kz n c + 1 < n ∧ dist n c (kz n c + 1) < dist n c (kz n c)
  · rw [if_pos hk] at hj ⊢
    by_cases e : j = kz n c
    · rw [e]; exact hk.2
    · have := U_lt n h2 h (kz n c) j (by omega)
      have h1 := dist_low n c j (by omega)
      have h2 := dist_low n c (kz n c) b
      have := hk.2
      omega
  · rw [if_neg hk] at hj ⊢
    have := U_lt n h2 h (kz n c) j hj
    rw [dist_low n c j (by omega), dist_low n c _ b]
    omega
theorem near_rest (n c : Nat) (h2 : 2 ≤ n) (h : n ≤ 256) (hc : c ≤ 16777216) : ∀ j, near n c < j → j < n → dist n c (near n c) ≤ dist n c j := by
  intro j hj hjn
  have b := kz_below n c h2
  have a := kz_above n c h2
  unfold near at hj ⊢
  by_cases hk : kz n c + 1 < n ∧ dist n c (kz n c + 1) < dist n c (kz n c)
  · rw [if_pos hk] at hj ⊢
    have := U_lt n h2 h j (kz n c + 1) hj
    rw [dist_high n c j (by omega), dist_high n c _ a]
    omega
  · rw [if_neg hk] at hj ⊢
    have hle := U_mono n h2 h (kz n c + 1) j (by omega)
    have h1 := dist_high n c j (by omega)
    have h2 := dist_high n c (kz n c + 1) a
    have : ¬ dist n c (kz n c + 1) < dist n c (kz n c) := fun hh => hk ⟨by omega, hh⟩
    omega

theorem near_about (n c : Nat) : kz n c ≤ near n c ∧ near n c ≤ kz n c + 1 := by unfold near; split <;> omega
attribute [irreducible] dist near kz
theorem unit_eq (n j : Nat) (h2 : 2 ≤ n) (h : n ≤ 256) (hj : j < n) : dither_unit.f n j = some (U n j : Int) := by
  unfold dither_unit.f
  have e1 : wrap64 ((n : Int) - 1) = ((n - 1 : Nat) : Int) := by rw [w64 _ (by omega) (by omega)]; omega
  have e2 : wrap64 ((j : Int) * 16777216) = ((j * 16777216 : Nat) : Int) := by rw [w64 _ (by omega) (by omega)]; omega
  rw [e1, e2, if_neg (by omega), ← Int.ofNat_tdiv]
  have hu := U_le n j h2 hj
  have hd : j * 16777216 / (n - 1) = U n j := rfl
  rw [hd]
  generalize U n j = q at hu
  rw [w64 _ (by omega) (by omega)]
attribute [irreducible] U
theorem away_eq (n j c : Nat) (h2 : 2 ≤ n) (h : n ≤ 256) (hj : j < n) (hc : c ≤ 16777216) : dither_away.f n j c = some (dist n c j) := by
  unfold dither_away.f
  have := U_le n j h2 hj
  rw [unit_eq n j h2 h hj, Option.bind_some, Option.bind_some, w64 _ (by omega) (by omega), w64 _ (by omega) (by omega)]
  unfold dist; rfl
theorem refUnit_eq (n j : Nat) (h2 : 2 ≤ n) (h : n ≤ 256) (hj : j < n) : halideref13_Unit.f n j = some ((U n j : Int), 0) := by
  unfold halideref13_Unit.f halideref13_Is.f
  have hu := unit_eq n j h2 h hj
  unfold dither_unit.f at hu
  rw [if_pos (by omega), Option.bind_some, if_pos (by simp; omega), if_neg (by omega), if_neg (by omega)]
  split at hu
  · cases hu
  · rename_i h3
    rw [if_neg h3]
    rw [Option.some.inj hu]

theorem scan_prog (n c hi t : Nat) (D : Nat → Int) (hD : ∀ j, j < n → dither_away.f n j c = some (D j)) (h2 : 2 ≤ n) (h : n ≤ 256) (hc : c ≤ 16777216) (k0 : Int) (hhi : mn (wrap64 (k0 + 2)) (wrap64 ((n : Int) - 1)) = (hi : Int)) (hin : hi < n) (ht : t ≤ hi)
    (hlt : ∀ j, j < t → D t < D j) (hge : ∀ j, t < j → j < n → D t ≤ D j) :
    ∀ m best cur fuel, cur + m = hi + 1 → best ≤ hi → (cur ≤ t → best ≤ t) → (t < cur → best = t) → m < fuel → dither_nearest.l0 fuel n c k0 best cur = some (t : Int)
  | 0, best, cur, fuel, hm, hb, h3, h4, hf => by
    cases fuel with
    | zero => omega
    | succ fuel =>
      unfold dither_nearest.l0
      rw [hhi, if_neg (by omega), h4 (by omega)]
  | m + 1, best, cur, fuel, hm, hb, h3, h4, hf => by
    cases fuel with
    | zero => omega
    | succ fuel =>
      unfold dither_nearest.l0
      rw [hhi, if_pos (by omega), hD cur (by omega), Option.bind_some, hD best (by omega), Option.bind_some]
      have e : wrap64 ((cur : Int) + 1) = ((cur + 1 : Nat) : Int) := by rw [w64 _ (by omega) (by omega)]; omega
      rw [e]
      by_cases hd : D cur < D best
      · rw [if_pos hd]
        refine scan_prog n c hi t D hD h2 h hc k0 hhi hin ht hlt hge m cur (cur + 1) fuel (by omega) (by omega) (by omega) ?_ (by omega)
        intro hcur
        rcases Nat.lt_or_ge t cur with h5 | h5
        · have := h4 h5
          subst this
          have := hge cur h5 (by omega)
          omega
        · omega
      · rw [if_neg hd]
        refine scan_prog n c hi t D hD h2 h hc k0 hhi hin ht hlt hge m best (cur + 1) fuel (by omega) hb (fun h5 => h3 (by omega)) ?_ (by omega)
        intro hcur
        rcases Nat.lt_or_ge t cur with h5 | h5
        · exact h4 h5
        · have e2 : cur = t := by omega
          subst e2
          rcases Nat.lt_or_ge best cur with h6 | h6
          · exact absurd (hlt best h6) hd
          · have := h3 (Nat.le_refl _); omega

def DD (c : Nat) (V : Nat → Nat) (j : Nat) : Int := mx ((V j : Int) - c) ((c : Int) - V j)
theorem DD_eq (n c j : Nat) : DD c (U n) j = dist n c j := by unfold DD dist; rfl
theorem scan_ref (n c t : Nat) (V : Nat → Nat) (hV : ∀ j, j < n → halideref13_Unit.f n j = some ((V j : Int), 0) ∧ V j ≤ 16777216) (h2 : 2 ≤ n) (h : n ≤ 256) (hc : c ≤ 16777216) (ht : t < n)
    (hlt : ∀ j, j < t → DD c V t < DD c V j) (hge : ∀ j, t < j → j < n → DD c V t ≤ DD c V j) :
    ∀ m best cur fuel, cur + m = n → best < n → (cur ≤ t → best ≤ t) → (t < cur → best = t) → m < fuel → halideref13_Nearest.l0 fuel n c best cur = some ((t : Int), 0)
  | 0, best, cur, fuel, hm, hb, h3, h4, hf => by
    cases fuel with
    | zero => omega
    | succ fuel =>
      unfold halideref13_Nearest.l0
      rw [if_neg (by omega), h4 (by omega)]
  | m + 1, best, cur, fuel, hm, hb, h3, h4, hf => by
    cases fuel with
    | zero => omega
    | succ fuel =>
      unfold halideref13_Nearest.l0
      have u1 := (hV best hb).2
      have u2 := (hV cur (by omega)).2
      rw [if_pos (by omega), (hV best hb).1, Option.bind_some, (hV cur (by omega)).1, Option.bind_some]
      dsimp only
      rw [w64 _ (by omega) (by omega), w64 _ (by omega) (by omega), w64 _ (by omega) (by omega), w64 _ (by omega) (by omega)]
      have e : wrap64 ((cur : Int) + 1) = ((cur + 1 : Nat) : Int) := by rw [w64 _ (by omega) (by omega)]; omega
      rw [e]
      show (if DD c V cur < DD c V best then _ else _) = _
      by_cases hd : DD c V cur < DD c V best
      · rw [if_pos hd]
        refine scan_ref n c t V hV h2 h hc ht hlt hge m cur (cur + 1) fuel (by omega) (by omega) (by omega) ?_ (by omega)
        intro hcur
        rcases Nat.lt_or_ge t cur with h5 | h5
        · have := h4 h5
          subst this
          have := hge cur h5 (by omega)
          omega
        · omega
      · rw [if_neg hd]
        refine scan_ref n c t V hV h2 h hc ht hlt hge m best (cur + 1) fuel (by omega) hb (fun h5 => h3 (by omega)) ?_ (by omega)
        intro hcur
        rcases Nat.lt_or_ge t cur with h5 | h5
        · exact h4 h5
        · have e2 : cur = t := by omega
          subst e2
          rcases Nat.lt_or_ge best cur with h6 | h6
          · exact absurd (hlt best h6) hd
          · have := h3 (Nat.le_refl _); omega

/-- A number of units, kept between 0 and 2^24. -/
def clampU (v : Int) : Nat := (if v < 0 then 0 else if 16777216 < v then 16777216 else v).toNat
theorem clampU_le (v : Int) : clampU v ≤ 16777216 := by unfold clampU; split; · omega
                                                        · split <;> omega

theorem clampU_mn (v : Int) : mn (mx v 0) 16777216 = (clampU v : Int) := by
  have h1 : mx v 0 = if v < 0 then 0 else v := rfl
  rw [h1]
  unfold clampU
  by_cases h : v < 0
  · rw [if_pos h, if_pos h]; rfl
  · rw [if_neg h, if_neg h]
    have h2 : mn v 16777216 = if 16777216 < v then 16777216 else v := rfl
    rw [h2]
    by_cases h3 : 16777216 < v
    · rw [if_pos h3]; rfl
    · rw [if_neg h3]; omega
theorem nearest_core (n c z t k : Nat) (D : Nat → Int) (h2 : 2 ≤ n) (h : n ≤ 256) (hc : c ≤ 16777216) (hD : ∀ j, j < n → dither_away.f n j c = some (D j)) (hkz : z ≤ n - 1) (hn2 : z ≤ t) (hn1 : t ≤ z + 1) (hnl : t < n)
    (f1 : ∀ j, j < t → D t < D j) (f2 : ∀ j, t < j → j < n → D t ≤ D j) (hk : 300 ≤ k) :
    dither_nearest.l0 k n c z (mx (wrap64 ((z : Int) - 1)) 0) (mx (wrap64 ((z : Int) - 1)) 0) = some (t : Int) := by
  have e5 : mx (wrap64 ((z : Int) - 1)) 0 = ((z - 1 : Nat) : Int) := by
    rw [w64 _ (by omega) (by omega)]
    by_cases hz : (z : Int) - 1 < 0
    · show (if (z : Int) - 1 < 0 then (0 : Int) else (z : Int) - 1) = _
      rw [if_pos hz]; omega
    · show (if (z : Int) - 1 < 0 then (0 : Int) else (z : Int) - 1) = _
      rw [if_neg hz]; omega
  rw [e5]
  clear e5
  obtain ⟨hi, hhi⟩ : ∃ hi : Nat, hi = min (z + 2) (n - 1) := ⟨_, rfl⟩
  have g1 : hi < n := by omega
  have g2 : t ≤ hi := by omega
  have g3 : z - 1 + (hi + 1 - (z - 1)) = hi + 1 := by omega
  have g4 : z - 1 ≤ hi := by omega
  have g5 : hi + 1 - (z - 1) < k := by omega
  have g6 : t < z - 1 → z - 1 = t := fun h => by omega
  have e6 : mn (wrap64 ((z : Int) + 2)) (wrap64 ((n : Int) - 1)) = (hi : Int) := by
    rw [w64 _ (by omega) (by omega), w64 _ (by omega) (by omega)]
    show (if (n : Int) - 1 < (z : Int) + 2 then (n : Int) - 1 else (z : Int) + 2) = _
    by_cases hz : (n : Int) - 1 < (z : Int) + 2
    · rw [if_pos hz]; omega
    · rw [if_neg hz]; omega
  exact scan_prog n c hi t D hD h2 h hc _ e6 g1 g2 f1 f2 (hi + 1 - (z - 1)) (z - 1) (z - 1) k g3 g4 (fun h => h) g6 g5
theorem nearest_eq (n : Nat) (v : Int) (h2 : 2 ≤ n) (h : n ≤ 256) (k : Nat) (hk : 300 ≤ k) : dither_nearest.f k n v = some (near n (clampU v) : Int) := by
  have hc := clampU_le v
  have e1 := clampU_mn v
  unfold dither_nearest.f
  rw [e1]
  obtain ⟨c, hcc⟩ : ∃ c, c = clampU v := ⟨_, rfl⟩
  rw [← hcc] at hc ⊢
  clear e1 hcc
  have e2 : wrap64 ((n : Int) - 1) = ((n - 1 : Nat) : Int) := by rw [w64 _ (by omega) (by omega)]; omega
  have hb : c * (n - 1) ≤ 16777216 * 255 := Nat.mul_le_mul hc (by omega)
  have e3 : wrap64 ((c : Int) * ((n - 1 : Nat) : Int)) = ((c * (n - 1) : Nat) : Int) := by rw [← Int.natCast_mul, w64 _ (by omega) (by omega)]
  have hkz := kz_le n c hc
  have e4 : wrap64 (Int.tdiv ((c * (n - 1) : Nat) : Int) 16777216) = (kz n c : Int) := by
    rw [show (16777216 : Int) = ((16777216 : Nat) : Int) from rfl, ← Int.ofNat_tdiv]
    have hk0 : c * (n - 1) / 16777216 = kz n c := by unfold kz; rfl
    rw [hk0, w64 _ (by omega) (by omega)]
  rw [e2, e3, e4]
  clear e3 e4 hb
  obtain ⟨hn2, hn1⟩ := near_about n c
  exact nearest_core n c (kz n c) (near n c) k (dist n c) h2 h hc (fun j hj => away_eq n j c h2 h hj hc) hkz hn2 hn1 (near_lt n c h2 hc) (near_first n c h2 h hc) (near_rest n c h2 h hc) hk

theorem refNearest_eq (n : Nat) (v : Int) (h2 : 2 ≤ n) (h : n ≤ 256) (k : Nat) (hk : 300 ≤ k) : halideref13_Nearest.f k n v = some ((near n (clampU v) : Int), 0) := by
  have hc := clampU_le v
  unfold halideref13_Nearest.f halideref13_Is.f
  rw [if_pos (by omega), Option.bind_some, if_pos (by simp; omega)]
  obtain ⟨k, rfl⟩ : ∃ k', k = k' + 2 := ⟨k - 2, by omega⟩
  have key : ∀ c : Nat, c ≤ 16777216 → halideref13_Nearest.l0 k n c 0 1 = some ((near n c : Int), 0) := by
    intro c hc
    exact scan_ref n c (near n c) (U n) (fun j hj => ⟨refUnit_eq n j h2 h hj, U_le n j h2 hj⟩) h2 h hc (near_lt n c h2 hc) (fun j hj => by rw [DD_eq, DD_eq]; exact near_first n c h2 h hc j hj) (fun j hj hn => by rw [DD_eq, DD_eq]; exact near_rest n c h2 h hc j hj hn) (n - 1) 0 1 k (by omega) (by omega) (by omega) (by omega) (by omega)
  by_cases h1 : v > 16777216
  · rw [if_pos h1]
    simp only [halideref13_Nearest.j0, halideref13_Nearest.j1]
    rw [if_neg (by omega)]
    have e : clampU v = 16777216 := by unfold clampU; rw [if_neg (by omega), if_pos (by omega)]; rfl
    rw [e]
    exact key 16777216 (by omega)
  · rw [if_neg h1]
    simp only [halideref13_Nearest.j0, halideref13_Nearest.j1]
    by_cases h3 : v < 0
    · rw [if_pos h3]
      have e : clampU v = 0 := by unfold clampU; rw [if_pos h3]; rfl
      rw [e]
      exact key 0 (by omega)
    · rw [if_neg h3]
      have e : (clampU v : Int) = v := by unfold clampU; rw [if_neg h3, if_neg (by omega)]; omega
      have := key (clampU v) hc
      rw [e] at this
      exact this
end Go.Proofs.Ytmipbbkieadecaa
