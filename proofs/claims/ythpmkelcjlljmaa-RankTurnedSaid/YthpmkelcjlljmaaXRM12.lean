import Derived.Test.YthpmkelcjlljmaaXRM11
open Go Go.RowKit Go.Proofs.YthpmkelcjlljmaaW.PrintWords Go.Proofs.YthpmkelcjlljmaaW.PrintLast Go.Proofs.YthpmkelcjlljmaaW.PrintMore
set_option linter.unusedVariables false
set_option linter.unusedSimpArgs false
namespace Go.Proofs.Ythpmkelcjlljmaa
open PRA PRB
theorem wmul (W H : Nat) (h : W * H ≤ 100000000) : wrap64 ((W : Int) * (H : Int)) = ((W * H : Nat) : Int) := by
  rw [show (W : Int) * (H : Int) = ((W * H : Nat) : Int) by push_cast; rfl]
  generalize W * H = x at *
  exact wd _ (by omega) (by omega)
theorem check_len (a b : Int) (l l' : List Int) (h : l.length = l'.length) : Bx.f a b l = Bx.f a b l' := by
  unfold Bx.f; rw [h]
theorem check_cases (a b : Int) (l : List Int) : (∃ e0, Bx.f a b l = some e0 ∧ e0 ≠ 0) ∨
    (∃ W H : Nat, a = W ∧ b = H ∧ 1 ≤ W ∧ W ≤ 1024 ∧ 1 ≤ H ∧ H ≤ 1024 ∧ W * H ≤ 65536 ∧ l.length = W * H ∧ Bx.f a b l = some 0) := by
  have bad : ∀ x : Bool, x = false → (B6.f a b = some x) → Bx.f a b l = some 50 := by
    intro x hx hs; unfold Bx.f; rw [hs, hx]; rfl
  by_cases h1 : a ≥ 1
  · by_cases h2 : b ≥ 1
    · by_cases h3 : a ≤ 1024
      · by_cases h4 : b ≤ 1024
        · by_cases h5 : wrap64 (a * b) ≤ 65536
          · have hs : B6.f a b = some true := by unfold B6.f; rw [if_pos h1, if_pos h2, if_pos h3, if_pos h4, decide_eq_true h5]
            obtain ⟨W, rfl⟩ := Int.eq_ofNat_of_zero_le (show 0 ≤ a by omega)
            obtain ⟨H, rfl⟩ := Int.eq_ofNat_of_zero_le (show 0 ≤ b by omega)
            have hm : W * H ≤ 1024 * 1024 := Nat.mul_le_mul (by omega) (by omega)
            have e := wmul W H (by omega)
            rw [e] at h5
            by_cases h6 : (l.length : Int) = ((W * H : Nat) : Int)
            · refine .inr ⟨W, H, rfl, rfl, by omega, by omega, by omega, by omega, ?_, Int.ofNat_inj.mp h6, ?_⟩
              · clear h6 hs
                generalize W * H = x at *
                omega
              · unfold Bx.f; rw [hs, Option.bind_some, if_pos rfl, e, if_pos h6]
            · refine .inl ⟨51, ?_, by decide⟩
              unfold Bx.f; rw [hs, Option.bind_some, if_pos rfl, e, if_neg h6]
          · exact .inl ⟨50, bad false rfl (by unfold B6.f; rw [if_pos h1, if_pos h2, if_pos h3, if_pos h4, decide_eq_false h5]), by decide⟩
        · exact .inl ⟨50, bad false rfl (by unfold B6.f; rw [if_pos h1, if_pos h2, if_pos h3, if_neg h4]), by decide⟩
      · exact .inl ⟨50, bad false rfl (by unfold B6.f; rw [if_pos h1, if_pos h2, if_neg h3]), by decide⟩
    · exact .inl ⟨50, bad false rfl (by unfold B6.f; rw [if_pos h1, if_neg h2]), by decide⟩
  · exact .inl ⟨50, bad false rfl (by unfold B6.f; rw [if_neg h1]), by decide⟩
theorem plane_bad (K : Nat) (a b : Int) (l : List Int) (bk w h k e : Int) (hc : Ax.f K a b l bk w h k = some e) (he : e ≠ 0) : Bi.f K a b l bk w h k = some (0, 0, [], e) := by
  unfold Bi.f
  rw [hc, Option.bind_some, if_neg he]
end Go.Proofs.Ythpmkelcjlljmaa

