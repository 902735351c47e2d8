import Derived.Test.YthpmkelcjlljmaaXRM18
import Derived.Test.YthpmkelcjlljmaaXPRAx3
import Derived.Laws.BitsAllLaws
open Go Go.RowKit Go.Proofs.YthpmkelcjlljmaaW.PrintWords Go.Proofs.YthpmkelcjlljmaaW.PrintLast Go.Proofs.YthpmkelcjlljmaaW.PrintMore
set_option linter.unusedVariables false
set_option linter.unusedSimpArgs false
namespace Go.Proofs.Ythpmkelcjlljmaa
open PRA PRB
def kI (s : Int) : Int := ((keyN s.toNat : Nat) : Int)
theorem kI_eq (s : Int) (h : u32 s) : kI s = if s < 2147483648 then s + 2147483648 else 4294967295 - s := by
  unfold kI keyN u32 at *
  split <;> split <;> omega
theorem leK_iff (a b : Int) : leK a b = true ↔ kI a ≤ kI b := by
  unfold leK kI
  rw [decide_eq_true_iff]
  omega
theorem kI_lt (s : Int) (h : u32 s) : 0 ≤ kI s ∧ kI s < 4294967296 := by
  rw [kI_eq s h]; unfold u32 at h; split <;> omega
theorem key_val (s : Int) (h : u32 s) : Bj.f s = some (kI s) := by
  unfold Bj.f
  rw [kI_eq s h]
  unfold u32 at h
  by_cases c : s < 2147483648
  · rw [if_pos (by omega), if_pos c, Int.emod_eq_of_lt (by omega) (by omega)]
  · rw [if_neg (by omega), if_neg c, Int.emod_eq_of_lt (by omega) (by omega)]
def fromK (v : Int) : Int := if v / 2147483648 = 1 then v - 2147483648 else 4294967295 - v
theorem from_val (v : Int) (h : u32 v) : Bq.f v = some (fromK v) := by
  unfold Bq.f fromK
  unfold u32 at h
  by_cases c : v / 2147483648 = 1
  · rw [if_pos c, if_pos c, Int.emod_eq_of_lt (by omega) (by omega)]
  · rw [if_neg c, if_neg c, Int.emod_eq_of_lt (by omega) (by omega)]
theorem from_key (v : Int) (h : u32 v) : u32 (fromK v) ∧ kI (fromK v) = v := by
  unfold u32 at h
  have hu : u32 (fromK v) := by
    unfold fromK u32; split <;> omega
  refine ⟨hu, ?_⟩
  rw [kI_eq _ hu]
  unfold fromK
  by_cases c : v / 2147483648 = 1
  · rw [if_pos c, if_pos (by omega)]; omega
  · rw [if_neg c, if_neg (by omega)]; omega
def rough (lo hi d x : Int) : Int := (mn (mx x (mn (kI lo) (kI hi))) (mx (kI lo) (kI hi))) / 2 ^ d.toNat * 2 ^ d.toNat
def riseV (lo hi d s : Int) : Int := fromK (rough lo hi d (kI s))
theorem rough_u32 (lo hi d x : Int) (hlo : u32 lo) (hhi : u32 hi) (hx : 0 ≤ x ∧ x < 4294967296) : u32 (rough lo hi d x) := by
  have h1 := kI_lt lo hlo
  have h2 := kI_lt hi hhi
  have h3 : 0 ≤ mn (mx x (mn (kI lo) (kI hi))) (mx (kI lo) (kI hi)) ∧ mn (mx x (mn (kI lo) (kI hi))) (mx (kI lo) (kI hi)) < 4294967296 := by
    unfold mn mx; split <;> split <;> (try split) <;> (try split) <;> omega
  unfold rough
  generalize mn (mx x (mn (kI lo) (kI hi))) (mx (kI lo) (kI hi)) = n at h3
  have hp : (0 : Int) < 2 ^ d.toNat := Int.pow_pos (by decide)
  generalize (2 : Int) ^ d.toNat = p at hp
  have h4 : n / p * p ≤ n := Int.ediv_mul_le n (by omega)
  have h5 : 0 ≤ n / p := Int.ediv_nonneg h3.1 (by omega)
  have h6 : 0 ≤ n / p * p := Int.mul_nonneg h5 (by omega)
  exact ⟨h6, by omega⟩
theorem rough_mono (lo hi d x y : Int) (h : x ≤ y) : rough lo hi d x ≤ rough lo hi d y := by
  have h3 : mn (mx x (mn (kI lo) (kI hi))) (mx (kI lo) (kI hi)) ≤ mn (mx y (mn (kI lo) (kI hi))) (mx (kI lo) (kI hi)) := by
    unfold mn mx; repeat' split
    all_goals omega
  unfold rough
  have hp : (0 : Int) < 2 ^ d.toNat := Int.pow_pos (by decide)
  exact Int.mul_le_mul_of_nonneg_right (Int.ediv_le_ediv hp h3) (by omega)
theorem rises_val (s lo hi d : Int) (hs : u32 s) (hlo : u32 lo) (hhi : u32 hi) (hd : 0 ≤ d ∧ d < 32) : B4.f s lo hi d = some (riseV lo hi d s) := by
  have hr := rough_u32 lo hi d (kI s) hlo hhi (kI_lt s hs)
  unfold B4.f riseV
  rw [key_val s hs, key_val lo hlo, key_val hi hhi]
  simp only [Option.bind_some]
  rw [if_pos hd.1]
  have e : shl .u32 (shr .u32 (mn (mx (kI s) (mn (kI lo) (kI hi))) (mx (kI lo) (kI hi))) d) d = rough lo hi d (kI s) := by
    unfold shl shr
    have hb : min d.toNat IntKind.u32.bits = d.toNat := by
      have : IntKind.u32.bits = 32 := rfl
      rw [this]; omega
    rw [hb]
    show IntKind.u32.wrap (rough lo hi d (kI s)) = _
    unfold u32 at hr
    have : IntKind.u32.wrap (rough lo hi d (kI s)) = (rough lo hi d (kI s)) % 4294967296 := by
      unfold IntKind.wrap
      rfl
    rw [this, Int.emod_eq_of_lt hr.1 hr.2]
  rw [e, from_val _ hr]
  rfl
theorem rise_u32 (lo hi d s : Int) (hs : u32 s) (hlo : u32 lo) (hhi : u32 hi) : u32 (riseV lo hi d s) := (from_key _ (rough_u32 lo hi d (kI s) hlo hhi (kI_lt s hs))).1
theorem rise_mono (lo hi d a b : Int) (ha : u32 a) (hb : u32 b) (hlo : u32 lo) (hhi : u32 hi) (h : leK a b = true) : leK (riseV lo hi d a) (riseV lo hi d b) = true := by
  rw [leK_iff] at h ⊢
  unfold riseV
  rw [(from_key _ (rough_u32 lo hi d (kI a) hlo hhi (kI_lt a ha))).2, (from_key _ (rough_u32 lo hi d (kI b) hlo hhi (kI_lt b hb))).2]
  exact rough_mono lo hi d _ _ h
def turnV (s : Int) : Int := Go.bits .xor .u32 s 2147483648
theorem turn_eq (s : Int) (h : u32 s) : turnV s = if s < 2147483648 then s + 2147483648 else s - 2147483648 := by
  unfold turnV
  unfold u32 at h
  rw [Go.u32_xor s 2147483648 h.1 h.2 (by decide) (by decide)]
  obtain ⟨n, rfl⟩ := Int.eq_ofNat_of_zero_le h.1
  have hn : n < 4294967296 := by omega
  rw [Int.toNat_natCast, show (2147483648 : Int).toNat = 2147483648 from rfl]
  have e1 : (n ^^^ 2147483648) % 2 ^ 31 = n % 2 ^ 31 := by
    rw [Nat.xor_mod_two_pow, show 2147483648 % 2 ^ 31 = 0 from rfl, Nat.xor_zero]
  have e2 : (n ^^^ 2147483648) / 2 ^ 31 = (n / 2 ^ 31) ^^^ 1 := by
    rw [Nat.xor_div_two_pow, show 2147483648 / 2 ^ 31 = 1 from rfl]
  by_cases c : n < 2147483648
  · rw [show n / 2 ^ 31 = 0 by omega, show (0 : Nat) ^^^ 1 = 1 from rfl] at e2
    rw [if_pos (by omega)]
    omega
  · rw [show n / 2 ^ 31 = 1 by omega, show (1 : Nat) ^^^ 1 = 0 from rfl] at e2
    rw [if_neg (by omega)]
    omega
theorem turn_u32 (s : Int) (h : u32 s) : u32 (turnV s) := by
  rw [turn_eq s h]; unfold u32 at *; split <;> omega
theorem turn_anti (a b : Int) (ha : u32 a) (hb : u32 b) (h : leK a b = true) : leK (turnV b) (turnV a) = true := by
  rw [leK_iff] at h ⊢
  rw [kI_eq _ (turn_u32 a ha), kI_eq _ (turn_u32 b hb), turn_eq a ha, turn_eq b hb]
  rw [kI_eq a ha, kI_eq b hb] at h
  unfold u32 at *
  repeat' split at h
  all_goals repeat' split
  all_goals omega
end Go.Proofs.Ythpmkelcjlljmaa

