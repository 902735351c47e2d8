/- A plane is right or wrong; the answers of Plane. -/
import Derived.Test.YthpmkelcjlljmaaRM11
open Go Go.RowKit Go.Proofs.YthpmkelcjlljmaaW.PrintWords Go.Proofs.YthpmkelcjlljmaaW.PrintLast Go.Proofs.YthpmkelcjlljmaaW.PrintMore
set_option linter.unusedVariables false
set_option linter.unusedSimpArgs false
namespace Go.Proofs.Ythpmkelcjlljmaa
open PRA PRB
theorem wmul (W H : Nat) (h : W * H ≤ 100000000) : wrap64 ((W : Int) * (H : Int)) = ((W * H : Nat) : Int) := by
  rw [show (W : Int) * (H : Int) = ((W * H : Nat) : Int) by push_cast; rfl]
  generalize W * H = x at *
  exact wd _ (by omega) (by omega)
theorem check_len (a b : Int) (l l' : List Int) (h : l.length = l'.length) : plane_Check.f a b l = plane_Check.f a b l' := by
  unfold plane_Check.f; rw [h]
theorem check_cases (a b : Int) (l : List Int) : (∃ e0, plane_Check.f a b l = some e0 ∧ e0 ≠ 0) ∨
    (∃ W H : Nat, a = W ∧ b = H ∧ 1 ≤ W ∧ W ≤ 1024 ∧ 1 ≤ H ∧ H ≤ 1024 ∧ W * H ≤ 65536 ∧ l.length = W * H ∧ plane_Check.f a b l = some 0) := by
  have bad : ∀ x : Bool, x = false → (plane_size.f a b = some x) → plane_Check.f a b l = some 50 := by
    intro x hx hs; unfold plane_Check.f; rw [hs, hx]; rfl
  by_cases h1 : a ≥ 1
  · by_cases h2 : b ≥ 1
    · by_cases h3 : a ≤ 1024
      · by_cases h4 : b ≤ 1024
        · by_cases h5 : wrap64 (a * b) ≤ 65536
          · have hs : plane_size.f a b = some true := by unfold plane_size.f; rw [if_pos h1, if_pos h2, if_pos h3, if_pos h4, decide_eq_true h5]
            obtain ⟨W, rfl⟩ := Int.eq_ofNat_of_zero_le (show 0 ≤ a by omega)
            obtain ⟨H, rfl⟩ := Int.eq_ofNat_of_zero_le (show 0 ≤ b by omega)
            have hm : W * H ≤ 1024 * 1024 := Nat.mul_le_mul (by omega) (by omega)
            have e := wmul W H (by omega)
            rw [e] at h5
            by_cases h6 : (l.length : Int) = ((W * H : Nat) : Int)
            · refine .inr ⟨W, H, rfl, rfl, by omega, by omega, by omega, by omega, ?_, Int.ofNat_inj.mp h6, ?_⟩
              · clear h6 hs
                generalize W * H = x at *
                omega
              · unfold plane_Check.f; rw [hs, Option.bind_some, if_pos rfl, e, if_pos h6]
            · refine .inl ⟨51, ?_, by decide⟩
              unfold plane_Check.f; rw [hs, Option.bind_some, if_pos rfl, e, if_neg h6]
          · exact .inl ⟨50, bad false rfl (by unfold plane_size.f; rw [if_pos h1, if_pos h2, if_pos h3, if_pos h4, decide_eq_false h5]), by decide⟩
        · exact .inl ⟨50, bad false rfl (by unfold plane_size.f; rw [if_pos h1, if_pos h2, if_pos h3, if_neg h4]), by decide⟩
      · exact .inl ⟨50, bad false rfl (by unfold plane_size.f; rw [if_pos h1, if_pos h2, if_neg h3]), by decide⟩
    · exact .inl ⟨50, bad false rfl (by unfold plane_size.f; rw [if_pos h1, if_neg h2]), by decide⟩
  · exact .inl ⟨50, bad false rfl (by unfold plane_size.f; rw [if_neg h1]), by decide⟩
theorem plane_bad (K : Nat) (a b : Int) (l : List Int) (bk w h k e : Int) (hc : rank_window_check.f K a b l bk w h k = some e) (he : e ≠ 0) : rank_Plane.f K a b l bk w h k = some (0, 0, [], e) := by
  unfold rank_Plane.f
  rw [hc, Option.bind_some, if_neg he]
theorem kOf_fine (kf : Int → Int) (w h : Int) (hf : 1 ≤ w ∧ 1 ≤ h ∧ w ≤ 15 ∧ h ≤ 15) : kOf kf w h = kf (wrap64 (w * h)) := by unfold kOf; rw [if_pos hf]
theorem zero_place (w h : Int) (hf : 1 ≤ w ∧ 1 ≤ h ∧ w ≤ 15 ∧ h ≤ 15) : 0 ≤ kOf (fun _ => 0) w h ∧ kOf (fun _ => 0) w h < w * h := by
  rw [kOf_fine _ _ _ hf]
  have : 0 < w * h := Int.mul_pos (by omega) (by omega)
  exact ⟨Int.le_refl _, this⟩
theorem last_place (w h : Int) (hf : 1 ≤ w ∧ 1 ≤ h ∧ w ≤ 15 ∧ h ≤ 15) : kOf (fun n => wrap64 (n - 1)) w h = w * h - 1 := by
  rw [kOf_fine _ _ _ hf]
  have h1 : 0 < w * h := Int.mul_pos (by omega) (by omega)
  have h2 : w * h ≤ 15 * 15 := Int.mul_le_mul hf.2.2.1 hf.2.2.2 (by omega) (by omega)
  show wrap64 (wrap64 (w * h) - 1) = _
  generalize w * h = x at *
  rw [wd x (by omega) (by omega), wd _ (by omega) (by omega)]
end Go.Proofs.Ythpmkelcjlljmaa
