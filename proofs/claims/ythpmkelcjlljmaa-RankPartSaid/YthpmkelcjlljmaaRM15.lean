/- Parts and places: the program's and the reference's answers are one. -/
import Derived.Test.YthpmkelcjlljmaaRM14
open Go Go.RowKit Go.Proofs.YthpmkelcjlljmaaW.PrintWords Go.Proofs.YthpmkelcjlljmaaW.PrintLast Go.Proofs.YthpmkelcjlljmaaW.PrintMore
set_option linter.unusedVariables false
set_option linter.unusedSimpArgs false
namespace Go.Proofs.Ythpmkelcjlljmaa
open PRA PRB PRD
theorem chk_zero {e0 bk w h k : Int} (h0 : chk e0 bk w h k = 0) : e0 = 0 ∧ (1 ≤ w ∧ 1 ≤ h ∧ w ≤ 15 ∧ h ≤ 15) ∧ (0 ≤ k ∧ k < w * h) ∧ (1 ≤ bk ∧ bk ≤ 3) := by
  unfold chk at h0
  by_cases h1 : e0 = 0
  · subst h1
    rw [if_neg (show ¬((0 : Int) ≠ 0) by simp)] at h0
    by_cases hf : 1 ≤ w ∧ 1 ≤ h ∧ w ≤ 15 ∧ h ≤ 15
    · rw [if_pos hf] at h0
      by_cases hk : k < 0 ∨ k ≥ w * h
      · rw [if_pos hk] at h0; omega
      · rw [if_neg hk] at h0
        by_cases hb : 1 ≤ bk ∧ bk ≤ 3
        · exact ⟨rfl, hf, by omega, hb⟩
        · rw [if_neg hb] at h0; omega
    · rw [if_neg hf] at h0; omega
  · rw [if_pos h1] at h0; exact absurd h0 h1
theorem part_good (K : Nat) (bk : Int) (W H : Nat) (l : List Int) (w h k X0 Y0 X1 Y1 : Nat) (hc : plane_Check.f W H l = some 0) (hz : chk 0 bk w h k = 0) (hk : 1 ≤ bk ∧ bk ≤ 3) (hW1 : 1 ≤ W) (hW : W ≤ 1024) (hH1 : 1 ≤ H) (hH : H ≤ 1024) (hl : l.length = W * H)
    (hw : w ≤ 15) (hh : h ≤ 15) (hkw : k < w * h) (hu : U32 l) (hK : H * (W + 2) + 400 ≤ K) (hx : X0 < X1) (hy : Y0 < Y1) (hX : X1 ≤ W) (hY : Y1 ≤ H) :
    rank_Part.f K W H l bk w h k X0 Y0 X1 Y1 = some (((X1 - X0 : Nat) : Int), ((Y1 - Y0 : Nat) : Int), allP bk W H l w h k X0 Y0 (X1 - X0) (Y1 - Y0) 0, 0) ∧
    halideref12_Part.f K W H l bk w h k X0 Y0 X1 Y1 = some (((X1 - X0 : Nat) : Int), ((Y1 - Y0 : Nat) : Int), allP bk W H l w h k X0 Y0 (X1 - X0) (Y1 - Y0) 0, 0) := by
  have hHW : H * (W + 2) ≤ 1024 * 1026 := Nat.mul_le_mul hH (by omega)
  have hm : (Y1 - Y0) * (X1 - X0 + 2) ≤ H * (W + 2) := Nat.mul_le_mul (by omega) (by omega)
  have hm2 : (Y1 - Y0) * (X1 - X0) ≤ 1024 * 1024 := Nat.mul_le_mul (by omega) (by omega)
  have e1 : wrap64 ((X1 : Int) - (X0 : Int)) = ((X1 - X0 : Nat) : Int) := by rw [wd _ (by omega) (by omega)]; omega
  have e2 : wrap64 ((Y1 : Int) - (Y0 : Int)) = ((Y1 - Y0 : Nat) : Int) := by rw [wd _ (by omega) (by omega)]; omega
  constructor
  · unfold rank_Part.f
    rw [check_eq K (by omega) W H l bk w h k 0 hc, Option.bind_some, hz, if_pos rfl, if_neg (by omega), if_neg (by omega), if_neg (by omega), if_neg (by omega), if_neg (by omega), if_neg (by omega)]
    have h1 := part_rows bk W H l w h k X0 Y0 X1 Y1 (X1 - X0) (Y1 - Y0) hk hW1 hW hH1 hH hl hw hh hkw hu (by omega) (by omega) (by omega) (by omega) (Y1 - Y0) 0 [] (by omega) (by rw [List.length_nil]; omega)
    have h2 : rank_window_part.f ((Y1 - Y0) * (X1 - X0 + 2) + 1) W H l bk w h k X0 Y0 X1 Y1 = some (((X1 - X0 : Nat) : Int), ((Y1 - Y0 : Nat) : Int), allP bk W H l w h k X0 Y0 (X1 - X0) (Y1 - Y0) 0) := by
      unfold rank_window_part.f
      rw [e1, e2]
      exact h1
    rw [upF (fun K => rank_window_part.f K W H l bk w h k X0 Y0 X1 Y1) (fun K => rank_window_part.mono _ _ _ _ _ _ _ _ _ _ _ K) h2 (by omega), Option.bind_some]
  · obtain ⟨K, rfl⟩ : ∃ q, K = q + 1 := ⟨K - 1, by omega⟩
    have h1 := refpart_rows bk W H l w h k X0 Y0 X1 Y1 (X1 - X0) ((X1 - X0 : Nat) : Int) ((Y1 - Y0 : Nat) : Int) hk hW1 hW hH1 hH hl hw hh hkw hu (by omega) (by omega) (by omega) (Y1 - Y0) 0 [] (by omega) (by rw [List.length_nil]; omega)
    rw [Nat.add_zero, List.nil_append] at h1
    have h2 : halideref12_Part.f ((Y1 - Y0) * (X1 - X0 + 2) + 301 + 1) W H l bk w h k X0 Y0 X1 Y1 = some (((X1 - X0 : Nat) : Int), ((Y1 - Y0 : Nat) : Int), allP bk W H l w h k X0 Y0 (X1 - X0) (Y1 - Y0) 0, 0) := by
      unfold halideref12_Part.f
      rw [refcheck_eq _ (by omega) W H l bk w h k 0 hc, Option.bind_some, hz, if_pos rfl, if_neg (by omega), if_neg (by omega), if_neg (by omega), if_neg (by omega), if_neg (by omega), decide_eq_false (by omega), halideref12_Part.j0, if_neg (by decide), e1, e2]
      exact h1
    exact upF (fun K => halideref12_Part.f K W H l bk w h k X0 Y0 X1 Y1) (fun K => halideref12_Part.mono _ _ _ _ _ _ _ _ _ _ _ K) h2 (by omega)
theorem part_bad (K : Nat) (hK : 10 ≤ K) (a b : Int) (l : List Int) (bk w h k x0 y0 x1 y1 e0 : Int) (hc : plane_Check.f a b l = some e0) (hz : chk e0 bk w h k ≠ 0) :
    rank_Part.f K a b l bk w h k x0 y0 x1 y1 = some (0, 0, [], chk e0 bk w h k) ∧ halideref12_Part.f K a b l bk w h k x0 y0 x1 y1 = some (0, 0, [], chk e0 bk w h k) ∧
    rank_At.f K a b l bk w h k x0 y0 = some (0, chk e0 bk w h k) ∧ halideref12_At.f K a b l bk w h k x0 y0 = some (0, chk e0 bk w h k) := by
  have h1 := check_eq K (by omega) a b l bk w h k e0 hc
  have h2 := refcheck_eq K (by omega) a b l bk w h k e0 hc
  refine ⟨?_, ?_, ?_, ?_⟩
  · unfold rank_Part.f; rw [h1, Option.bind_some, if_neg hz]
  · unfold halideref12_Part.f; rw [h2, Option.bind_some, if_neg hz]
  · unfold rank_At.f; rw [h1, Option.bind_some, if_neg hz]
  · unfold halideref12_At.f; rw [h2, Option.bind_some, if_neg hz]
theorem part_rect (K : Nat) (hK : 10 ≤ K) (a b : Int) (l : List Int) (bk w h k x0 y0 x1 y1 e0 : Int) (hc : plane_Check.f a b l = some e0) (hz : chk e0 bk w h k = 0) (hr : ¬(0 ≤ x0 ∧ 0 ≤ y0 ∧ x0 < x1 ∧ y0 < y1 ∧ x1 ≤ a ∧ y1 ≤ b)) :
    rank_Part.f K a b l bk w h k x0 y0 x1 y1 = some (0, 0, [], 52) ∧ halideref12_Part.f K a b l bk w h k x0 y0 x1 y1 = some (0, 0, [], 52) := by
  have h1 := check_eq K (by omega) a b l bk w h k e0 hc
  have h2 := refcheck_eq K (by omega) a b l bk w h k e0 hc
  obtain ⟨K, rfl⟩ : ∃ q, K = q + 1 := ⟨K - 1, by omega⟩
  unfold rank_Part.f halideref12_Part.f
  rw [h1, h2, Option.bind_some, Option.bind_some, hz, if_pos rfl, if_pos rfl]
  by_cases q1 : x0 < 0
  · rw [if_pos q1, if_pos q1, halideref12_Part.j0, if_pos rfl]; exact ⟨rfl, rfl⟩
  · rw [if_neg q1, if_neg q1]
    by_cases q2 : y0 < 0
    · rw [if_pos q2, if_pos q2, halideref12_Part.j0, if_pos rfl]; exact ⟨rfl, rfl⟩
    · rw [if_neg q2, if_neg q2]
      by_cases q3 : x0 ≥ x1
      · rw [if_pos q3, if_pos q3, halideref12_Part.j0, if_pos rfl]; exact ⟨rfl, rfl⟩
      · rw [if_neg q3, if_neg q3]
        by_cases q4 : y0 ≥ y1
        · rw [if_pos q4, if_pos q4, halideref12_Part.j0, if_pos rfl]; exact ⟨rfl, rfl⟩
        · rw [if_neg q4, if_neg q4]
          by_cases q5 : x1 > a
          · rw [if_pos q5, if_pos q5, halideref12_Part.j0, if_pos rfl]; exact ⟨rfl, rfl⟩
          · rw [if_neg q5, if_neg q5, if_pos (by omega), decide_eq_true (by omega), halideref12_Part.j0, if_pos rfl]; exact ⟨rfl, rfl⟩
theorem at_both (K : Nat) (hK : 300 ≤ K) (bk : Int) (W H : Nat) (l : List Int) (w h k : Nat) (x y : Int) (hc : plane_Check.f W H l = some 0) (hz : chk 0 bk w h k = 0) (hk : 1 ≤ bk ∧ bk ≤ 3) (hW1 : 1 ≤ W) (hW : W ≤ 1024) (hH1 : 1 ≤ H) (hH : H ≤ 1024) (hl : l.length = W * H)
    (hw : w ≤ 15) (hh : h ≤ 15) (hkw : k < w * h) (hu : U32 l) : ∃ r, rank_At.f K W H l bk w h k x y = some r ∧ halideref12_At.f K W H l bk w h k x y = some r := by
  have h1 := check_eq K (by omega) W H l bk w h k 0 hc
  have h2 := refcheck_eq K (by omega) W H l bk w h k 0 hc
  unfold rank_At.f halideref12_At.f
  rw [h1, h2, Option.bind_some, Option.bind_some, hz, if_pos rfl, if_pos rfl]
  by_cases q1 : x < 0
  · rw [if_pos q1, if_pos q1]; exact ⟨_, rfl, rfl⟩
  · rw [if_neg q1, if_neg q1]
    by_cases q2 : y < 0
    · rw [if_pos q2, if_pos q2]; exact ⟨_, rfl, rfl⟩
    · rw [if_neg q2, if_neg q2]
      by_cases q3 : x ≥ (W : Int)
      · rw [if_pos q3, if_pos q3]; exact ⟨_, rfl, rfl⟩
      · rw [if_neg q3, if_neg q3]
        by_cases q4 : y ≥ (H : Int)
        · rw [if_pos q4, if_pos q4]; exact ⟨_, rfl, rfl⟩
        · rw [if_neg q4, if_neg q4, at_eq bk W H l w h k x y hk hW1 hW hH1 hH hl hw hh hkw hu, refat_eq bk W H l w h k x y hk hW1 hW hH1 hH hl hw hh hkw hu K (by omega)]
          exact ⟨_, rfl, rfl⟩
end Go.Proofs.Ythpmkelcjlljmaa
