/- RankPart: the plain law. -/
import Derived.Test.YthpmkelcjlljmaaRM15
import Derived.Test.YthpmkelcjlljmaaRMK
import Derived.Test.YthpmkelcjlljmaaPRQx1
open Go Go.RowKit Go.Proofs.YthpmkelcjlljmaaW.PrintWords Go.Proofs.YthpmkelcjlljmaaW.PrintLast Go.Proofs.YthpmkelcjlljmaaW.PrintMore
set_option linter.unusedVariables false
set_option linter.unusedSimpArgs false
namespace Go.Proofs.Ythpmkelcjlljmaa
open PRA PRB PRD PRK PRQ
namespace PT
theorem law (a b : Int) (l : List Int) (bk w h k x0 y0 x1 y1 : Int) (_ : (Lit.int .i64 a).wf = true) (_ : (Lit.int .i64 b).wf = true) (hw : ∀ x ∈ l, (Lit.int .u32 x).wf = true) (_ : (Lit.int .i64 bk).wf = true) (_ : (Lit.int .i64 w).wf = true) (_ : (Lit.int .i64 h).wf = true) (_ : (Lit.int .i64 k).wf = true)
    (_ : (Lit.int .i64 x0).wf = true) (_ : (Lit.int .i64 y0).wf = true) (_ : (Lit.int .i64 x1).wf = true) (_ : (Lit.int .i64 y1).wf = true) :
    ∃ q, halidelaw12_RankPart.f q a b l bk w h k x0 y0 x1 y1 = some true := by
  refine ⟨10000, ?_⟩
  have hu := u32_all hw
  unfold halidelaw12_RankPart.f
  rw [known_up 10000 (by omega), Option.bind_some, if_pos rfl]
  unfold halidelaw12_small.f
  by_cases hl : (l.length : Int) ≤ 2000
  rotate_left
  · rw [if_neg hl]; rfl
  rw [if_pos hl]
  by_cases ha : a ≤ 4000
  rotate_left
  · rw [if_neg ha]; rfl
  rw [if_pos ha]
  by_cases hb : b ≤ 4000
  rotate_left
  · rw [decide_eq_false hb]; rfl
  rw [decide_eq_true hb, Option.bind_some, if_pos rfl]
  have fin : ∀ (P : Int × Int × List Int × Int) (A : Int × Int), P.2.2.1.length ≤ 2000 → rank_Part.f 10000 a b l bk w h k x0 y0 x1 y1 = some P → halideref12_Part.f 10000 a b l bk w h k x0 y0 x1 y1 = some P →
      rank_At.f 10000 a b l bk w h k x0 y0 = some A → halideref12_At.f 10000 a b l bk w h k x0 y0 = some A →
      ((halideref12_Part.f 10000 a b l bk w h k x0 y0 x1 y1).bind fun bt105 => ((rank_Part.f 10000 a b l bk w h k x0 y0 x1 y1).bind fun bt112 => ((halideref12_At.f 10000 a b l bk w h k x0 y0).bind fun bt119 => ((rank_At.f 10000 a b l bk w h k x0 y0).bind fun bt121 => ((halidehelp_Plane.f 10000 bt112.1 bt112.2.1 bt112.2.2.1 bt105.1 bt105.2.1 bt105.2.2.1).bind fun t123 => (if t123 = true then (if bt112.2.2.2 = bt105.2.2.2 then (if bt119.1 = bt121.1 then (some (bt119.2 == bt121.2)) else (some false)) else (some false)) else (some false))))))) = some true := by
    intro P A hP h1 h2 h3 h4
    rw [h2, Option.bind_some, h1, Option.bind_some, h4, Option.bind_some, h3, Option.bind_some, planes_eq _ _ _ _ (by omega) (by omega), Option.bind_some, if_pos rfl, if_pos rfl, if_pos rfl]
    simp
  have bad : ∀ e0, plane_Check.f a b l = some e0 → chk e0 bk w h k ≠ 0 → _ := fun e0 hc hz => by
    obtain ⟨h1, h2, h3, h4⟩ := part_bad 10000 (by omega) a b l bk w h k x0 y0 x1 y1 e0 hc hz
    exact fin _ _ (by simp) h1 h2 h3 h4
  rcases check_cases a b l with ⟨e0, hc, he⟩ | ⟨W, H, rfl, rfl, hW1, hW, hH1, hH, hWH, hlen, hc⟩
  · refine bad e0 hc (fun hz => he (chk_zero hz).1)
  · by_cases hz : chk 0 bk w h k = 0
    rotate_left
    · exact bad 0 hc hz
    obtain ⟨_, hf, hk, hb2⟩ := chk_zero hz
    obtain ⟨w, rfl⟩ := Int.eq_ofNat_of_zero_le (show 0 ≤ w by omega)
    obtain ⟨h, rfl⟩ := Int.eq_ofNat_of_zero_le (show 0 ≤ h by omega)
    obtain ⟨k, rfl⟩ := Int.eq_ofNat_of_zero_le (show 0 ≤ k by omega)
    have hkw : k < w * h := by exact_mod_cast hk.2
    have hsz : H * (W + 2) + 400 ≤ 10000 := by
      have : H * (W + 2) = W * H + 2 * H := by rw [Nat.mul_add, Nat.mul_comm H W, Nat.mul_comm H 2]
      omega
    obtain ⟨A, h3, h4⟩ := at_both 10000 (by omega) bk W H l w h k x0 y0 hc hz hb2 hW1 hW hH1 hH hlen (by omega) (by omega) hkw hu
    by_cases hr : 0 ≤ x0 ∧ 0 ≤ y0 ∧ x0 < x1 ∧ y0 < y1 ∧ x1 ≤ (W : Int) ∧ y1 ≤ (H : Int)
    · obtain ⟨X0, rfl⟩ := Int.eq_ofNat_of_zero_le (show 0 ≤ x0 by omega)
      obtain ⟨Y0, rfl⟩ := Int.eq_ofNat_of_zero_le (show 0 ≤ y0 by omega)
      obtain ⟨X1, rfl⟩ := Int.eq_ofNat_of_zero_le (show 0 ≤ x1 by omega)
      obtain ⟨Y1, rfl⟩ := Int.eq_ofNat_of_zero_le (show 0 ≤ y1 by omega)
      obtain ⟨h1, h2⟩ := part_good 10000 bk W H l w h k X0 Y0 X1 Y1 hc hz hb2 hW1 hW hH1 hH hlen (by omega) (by omega) hkw hu hsz (by omega) (by omega) (by omega) (by omega)
      refine fin _ A ?_ h1 h2 h3 h4
      show (allP bk W H l w h k X0 Y0 (X1 - X0) (Y1 - Y0) 0).length ≤ 2000
      rw [allP_length]
      have : (Y1 - Y0) * (X1 - X0) ≤ H * W := Nat.mul_le_mul (by omega) (by omega)
      rw [Nat.mul_comm H W] at this
      omega
    · obtain ⟨h1, h2⟩ := part_rect 10000 (by omega) W H l bk w h k x0 y0 x1 y1 0 hc hz hr
      exact fin _ A (by simp) h1 h2 h3 h4
end PT
end Go.Proofs.Ythpmkelcjlljmaa
