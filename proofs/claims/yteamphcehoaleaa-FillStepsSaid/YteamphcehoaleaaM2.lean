import Derived.Test.YteamphcehoaleaaMP
import Derived.Test.YteamphcehoaleaaI3
set_option linter.unusedVariables false
set_option linter.unusedSimpArgs false
namespace Go.Proofs.Yteamphcehoaleaa
namespace FM
end FM
theorem nbs_iff {w h : Nat} {ways : Int} {i : Nat} (hw : 1 ≤ w) (hi : i < w * h) (k : Nat) : k ∈ nbs w h ways i ↔
    (k < w * h ∧ k ≠ i ∧ k % w ≤ i % w + 1 ∧ i % w ≤ k % w + 1 ∧ k / w ≤ i / w + 1 ∧ i / w ≤ k / w + 1 ∧ (ways = 4 → k % w = i % w ∨ k / w = i / w)) := by
  have hx : i % w < w := Nat.mod_lt _ (by omega)
  have hy : i / w < h := (Nat.div_lt_iff_lt_mul (by omega)).mpr (by rw [Nat.mul_comm]; exact hi)
  have hdm : i = w * (i / w) + i % w := (Nat.div_add_mod i w).symm
  unfold nbs nbTo
  rw [List.mem_filterMap]
  constructor
  · rintro ⟨t, ht, e⟩
    unfold nbAt at e
    split at e
    · cases e
    · rename_i hs
      have e2 : k = ((i : Int) + ((t / 3 : Nat) - 1) * w + ((t % 3 : Nat) - 1)).toNat := by simpa using e.symm
      unfold nbSkip at hs
      have hlt : k < w * h := nbs_lt hw hi k (by unfold nbs nbTo; rw [List.mem_filterMap]; exact ⟨t, ht, by unfold nbAt; rw [if_neg (by unfold nbSkip; exact hs), e2]⟩)
      have ht3 : t % 3 < 3 := Nat.mod_lt _ (by omega)
      have ht9 : t / 3 < 3 := by have := List.mem_range.mp ht; omega
      generalize i % w = x at *
      generalize i / w = y at *
      generalize t % 3 = b at *
      generalize t / 3 = a at *
      obtain ⟨X, hX⟩ : ∃ X : Nat, (X : Int) = (x : Int) + ((b : Int) - 1) := ⟨((x : Int) + ((b : Int) - 1)).toNat, Int.toNat_of_nonneg (by omega)⟩
      obtain ⟨Y, hY⟩ : ∃ Y : Nat, (Y : Int) = (y : Int) + ((a : Int) - 1) := ⟨((y : Int) + ((a : Int) - 1)).toNat, Int.toNat_of_nonneg (by omega)⟩
      have hk : k = w * Y + X := by
        have : (i : Int) + ((a : Int) - 1) * w + ((b : Int) - 1) = ((w * Y + X : Nat) : Int) := by
          push_cast
          rw [hdm, hX, hY]
          push_cast
          rw [Int.mul_add, Int.mul_comm (w : Int) ((a : Int) - 1)]
          omega
        rw [e2, this, Int.toNat_natCast]
      have hXw : X < w := by omega
      have e3 : k % w = X := by rw [hk, Nat.mul_add_mod, Nat.mod_eq_of_lt hXw]
      have e4 : k / w = Y := by rw [hk, Nat.mul_add_div (by omega), Nat.div_eq_of_lt hXw]; rfl
      rw [e3, e4]
      refine ⟨hlt, fun e5 => ?_, by omega, by omega, by omega, by omega, fun h4 => by omega⟩
      have : X = x ∧ Y = y := by
        rw [hk] at e5
        have a1 : (w * Y + X) % w = (w * y + x) % w := by rw [e5, hdm]
        have a2 : (w * Y + X) / w = (w * y + x) / w := by rw [e5, hdm]
        rw [Nat.mul_add_mod, Nat.mul_add_mod, Nat.mod_eq_of_lt hXw, Nat.mod_eq_of_lt hx] at a1
        rw [Nat.mul_add_div (by omega), Nat.mul_add_div (by omega), Nat.div_eq_of_lt hXw, Nat.div_eq_of_lt hx] at a2
        exact ⟨a1, by omega⟩
      omega
  · rintro ⟨h1, h2, h3, h4, h5, h6, h7⟩
    have hkx : k % w < w := Nat.mod_lt _ (by omega)
    have hky : k / w < h := (Nat.div_lt_iff_lt_mul (by omega)).mpr (by rw [Nat.mul_comm]; exact h1)
    have hkm : k = w * (k / w) + k % w := (Nat.div_add_mod k w).symm
    have hne : ¬(k % w = i % w ∧ k / w = i / w) := fun e => h2 (by rw [hkm, hdm, e.1, e.2])
    obtain ⟨t, htd⟩ : ∃ t, t = (k / w + 1 - i / w) * 3 + (k % w + 1 - i % w) := ⟨_, rfl⟩
    have t1 : t % 3 = k % w + 1 - i % w := by rw [htd]; omega
    have t2 : t / 3 = k / w + 1 - i / w := by rw [htd]; omega
    refine ⟨t, List.mem_range.mpr (by omega), ?_⟩
    unfold nbAt
    rw [t1, t2]
    generalize hX : k % w = X at *
    generalize hY : k / w = Y at *
    generalize hx9 : i % w = x at *
    generalize hy9 : i / w = y at *
    rw [if_neg (by unfold nbSkip; rw [hx9, hy9]; omega)]
    congr 1
    have e1 : ((Y + 1 - y : Nat) : Int) - 1 = (Y : Int) - y := by omega
    have e2 : ((X + 1 - x : Nat) : Int) - 1 = (X : Int) - x := by omega
    rw [e1, e2]
    have : (i : Int) + ((Y : Int) - y) * w + ((X : Int) - x) = (k : Int) := by
      rw [hdm, hkm]
      push_cast
      rw [Int.sub_mul, Int.mul_comm (Y : Int), Int.mul_comm (y : Int)]
      omega
    rw [this, Int.toNat_natCast]
theorem nbs_sym {w h : Nat} {ways : Int} (hw : 1 ≤ w) : ∀ j, j < w * h → ∀ k ∈ nbs w h ways j, j ∈ nbs w h ways k := by
  intro j hj k hk
  have h := (nbs_iff hw hj k).mp hk
  exact (nbs_iff hw h.1 j).mpr ⟨hj, h.2.1.symm, by omega, by omega, by omega, by omega, fun h4 => by have := h.2.2.2.2.2.2 h4; omega⟩
end Go.Proofs.Yteamphcehoaleaa

