import Derived.Test.YthpmkelcjlljmaaXRM10
import Derived.Test.YthpmkelcjlljmaaXRH5
open Go Go.RowKit Go.Proofs.YthpmkelcjlljmaaW.PrintWords
set_option linter.unusedVariables false
set_option linter.unusedSimpArgs false
namespace Go.Proofs.Ythpmkelcjlljmaa
open PRA PRB

theorem border_bad (bk : Int) (hk : ¬(1 ≤ bk ∧ bk ≤ 3)) (K : Nat) (hK : 2 ≤ K) : Bp.f K bk 1 0 = some (0, 53) := by
  obtain ⟨K, rfl⟩ : ∃ q, K = q + 1 := ⟨K - 1, by omega⟩
  unfold Bp.f
  by_cases h1 : bk < 1
  · rw [if_pos h1, Bp.j0, if_pos rfl]
  · rw [if_neg h1, decide_eq_true (by omega), Bp.j0, if_pos rfl]
theorem check_any (K : Nat) (hK : 6 ≤ K) (a b : Int) (l : List Int) (bk w h k e0 : Int) (hc : Bx.f a b l = some e0) (hk : 1 ≤ w ∧ 1 ≤ h ∧ w ≤ 15 ∧ h ≤ 15 → 0 ≤ k ∧ k < w * h) :
    Ax.f K a b l bk w h k = some (if e0 ≠ 0 then e0 else if 1 ≤ w ∧ 1 ≤ h ∧ w ≤ 15 ∧ h ≤ 15 then (if 1 ≤ bk ∧ bk ≤ 3 then 0 else 53) else 120) := by
  obtain ⟨K, rfl⟩ : ∃ q, K = q + 1 := ⟨K - 1, by omega⟩
  unfold Ax.f
  rw [hc, Option.bind_some]
  by_cases h0 : e0 = 0
  · subst h0
    rw [if_pos rfl, if_neg (show ¬((0 : Int) ≠ 0) by simp)]
    by_cases hw : 1 ≤ w ∧ 1 ≤ h ∧ w ≤ 15 ∧ h ≤ 15
    · obtain ⟨k0, k1⟩ := hk hw
      have hwh : w * h ≤ 15 * 15 := Int.mul_le_mul hw.2.2.1 hw.2.2.2 (by omega) (by omega)
      have hwp : 0 ≤ w * h := Int.mul_nonneg (by omega) (by omega)
      have e : wrap64 (w * h) = w * h := wd _ (by omega) (by omega)
      rw [if_pos hw, if_neg (by omega), if_neg (by omega), if_neg (by omega), decide_eq_false (by omega), Ax.j0, if_neg (by decide), if_neg (by omega), e, if_neg (by omega)]
      by_cases hb : 1 ≤ bk ∧ bk ≤ 3
      · have h9 := border_eq bk 1 0 hb (by omega) (by omega) K (by omega)
        rw [show ((1 : Nat) : Int) = 1 from rfl] at h9
        rw [h9, if_pos hb]; rfl
      · rw [border_bad bk hb K (by omega), if_neg hb]; rfl
    · rw [if_neg hw]
      by_cases q1 : w < 1
      · rw [if_pos q1, Ax.j0, if_pos rfl]
      · rw [if_neg q1]
        by_cases q2 : h < 1
        · rw [if_pos q2, Ax.j0, if_pos rfl]
        · rw [if_neg q2]
          by_cases q3 : w > 15
          · rw [if_pos q3, Ax.j0, if_pos rfl]
          · rw [if_neg q3, decide_eq_true (by omega), Ax.j0, if_pos rfl]
  · rw [if_neg h0, if_pos (show e0 ≠ 0 from h0)]
end Go.Proofs.Ythpmkelcjlljmaa

