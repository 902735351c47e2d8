import Derived.Test.YthpmkelcjlljmaaRM14
open Go Go.RowKit Go.Proofs.YthpmkelcjlljmaaW.PrintWords Go.Proofs.YthpmkelcjlljmaaW.PrintLast Go.Proofs.YthpmkelcjlljmaaW.PrintMore
set_option linter.unusedVariables false
set_option linter.unusedSimpArgs false
namespace Go.Proofs.Ythpmkelcjlljmaa
open PRA PRB PRD
theorem chk_zero {e0 bk w h k : Int} (h0 : chk e0 bk w h k = 0) : e0 = 0 ∧ (1 ≤ w ∧ 1 ≤ h ∧ w ≤ 15 ∧ h ≤ 15) ∧ (0 ≤ k ∧ k < w * h) ∧ (1 ≤ bk ∧ bk ≤ 3) := by
  unfold chk at h0
  by_cases h1 : e0 = 0
  · subst h1
    rw [if_neg (show ¬((0 : Int) ≠ 0) by simp)] at h0
    by_cases hf : 1 ≤ w ∧ 1 ≤ h ∧ w ≤ 15 ∧ h ≤ 15
    · rw [if_pos hf] at h0
      by_cases hk : k < 0 ∨ k ≥ w * h
      · rw [if_pos hk] at h0; omega
      · rw [if_neg hk] at h0
        by_cases hb : 1 ≤ bk ∧ bk ≤ 3
        · exact ⟨rfl, hf, by omega, hb⟩
        · rw [if_neg hb] at h0; omega
    · rw [if_neg hf] at h0; omega
  · rw [if_pos h1] at h0; exact absurd h0 h1
theorem part_good (K : Nat) (bk : Int) (W H : Nat) (l : List Int) (w h k X0 Y0 X1 Y1 : Nat) (hc : B9.f W H l = some 0) (hz : chk 0 bk w h k = 0) (hk : 1 ≤ bk ∧ bk ≤ 3) (hW1 : 1 ≤ W) (hW : W ≤ 1024) (hH1 : 1 ≤ H) (hH : H ≤ 1024) (hl : l.length = W * H)
    (hw : w ≤ 15) (hh : h ≤ 15) (hkw : k < w * h) (hu : U32 l) (hK : H * (W + 2) + 400 ≤ K) (hx : X0 < X1) (hy : Y0 < Y1) (hX : X1 ≤ W) (hY : Y1 ≤ H) :
    Cd.f K W H l bk w h k X0 Y0 X1 Y1 = some (((X1 - X0 : Nat) : Int), ((Y1 - Y0 : Nat) : Int), allP bk W H l w h k X0 Y0 (X1 - X0) (Y1 - Y0) 0, 0) ∧
    Ax.f K W H l bk w h k X0 Y0 X1 Y1 = some (((X1 - X0 : Nat) : Int), ((Y1 - Y0 : Nat) : Int), allP bk W H l w h k X0 Y0 (X1 - X0) (Y1 - Y0) 0, 0) := by
  have hHW : H * (W + 2) ≤ 1024 * 1026 := Nat.mul_le_mul hH (by omega)
  have hm : (Y1 - Y0) * (X1 - X0 + 2) ≤ H * (W + 2) := Nat.mul_le_mul (by omega) (by omega)
  have hm2 : (Y1 - Y0) * (X1 - X0) ≤ 1024 * 1024 := Nat.mul_le_mul (by omega) (by omega)
  have e1 : wrap64 ((X1 : Int) - (X0 : Int)) = ((X1 - X0 : Nat) : Int) := by rw [wd _ (by omega) (by omega)]; omega
  have e2 : wrap64 ((Y1 : Int) - (Y0 : Int)) = ((Y1 - Y0 : Nat) : Int) := by rw [wd _ (by omega) (by omega)]; omega
  constructor
  · unfold Cd.f
    rw [check_eq K (by omega) W H l bk w h k 0 hc, Option.bind_some, hz, if_pos rfl, if_neg (by omega), if_neg (by omega), if_neg (by omega), if_neg (by omega), if_neg (by omega), if_neg (by omega)]
    have h1 := part_rows bk W H l w h k X0 Y0 X1 Y1 (X1 - X0) (Y1 - Y0) hk hW1 hW hH1 hH hl hw hh hkw hu (by omega) (by omega) (by omega) (by omega) (Y1 - Y0) 0 [] (by omega) (by rw [List.length_nil]; omega)
    have h2 : Az.f ((Y1 - Y0) * (X1 - X0 + 2) + 1) W H l bk w h k X0 Y0 X1 Y1 = some (((X1 - X0 : Nat) : Int), ((Y1 - Y0 : Nat) : Int), allP bk W H l w h k X0 Y0 (X1 - X0) (Y1 - Y0) 0) := by
      unfold Az.f
      rw [e1, e2]
      exact h1
    rw [upF (fun K => Az.f K W H l bk w h k X0 Y0 X1 Y1) (fun K => Az.mono _ _ _ _ _ _ _ _ _ _ _ K) h2 (by omega), Option.bind_some]
  · obtain ⟨K, rfl⟩ : ∃ q, K = q + 1 := ⟨K - 1, by omega⟩
    have h1 := refpart_rows bk W H l w h k X0 Y0 X1 Y1 (X1 - X0) ((X1 - X0 : Nat) : Int) ((Y1 - Y0 : Nat) : Int) hk hW1 hW hH1 hH hl hw hh hkw hu (by omega) (by omega) (by omega) (Y1 - Y0) 0 [] (by omega) (by rw [List.length_nil]; omega)
    rw [Nat.add_zero, List.nil_append] at h1
    have h2 : Ax.f ((Y1 - Y0) * (X1 - X0 + 2) + 301 + 1) W H l bk w h k X0 Y0 X1 Y1 = some (((X1 - X0 : Nat) : Int), ((Y1 - Y0 : Nat) : Int), allP bk W H l w h k X0 Y0 (X1 - X0) (Y1 - Y0) 0, 0) := by
      unfold Ax.f
      rw [refcheck_eq _ (by omega) W H l bk w h k 0 hc, Option.bind_some, hz, if_pos rfl, if_neg (by omega), if_neg (by omega), if_neg (by omega), if_neg (by omega), if_neg (by omega), decide_eq_false (by omega), Ax.j0, if_neg (by decide), e1, e2]
      exact h1
    exact upF (fun K => Ax.f K W H l bk w h k X0 Y0 X1 Y1) (fun K => Ax.mono _ _ _ _ _ _ _ _ _ _ _ K) h2 (by omega)
end Go.Proofs.Ythpmkelcjlljmaa

