/- The least and the greatest of a list by key. -/
import Derived.Test.YthpmkelcjlljmaaRM0
open Go Go.RowKit
set_option linter.unusedVariables false
set_option linter.unusedSimpArgs false
namespace Go.Proofs.Ythpmkelcjlljmaa

def U32 (l : List Int) : Prop := ∀ s ∈ l, 0 ≤ s ∧ s < 4294967296
theorem leK_anti (a b : Int) (ha : 0 ≤ a ∧ a < 4294967296) (hb : 0 ≤ b ∧ b < 4294967296) (h1 : leK a b = true) (h2 : leK b a = true) : a = b := by
  unfold leK at h1 h2
  have h1 := of_decide_eq_true h1
  have h2 := of_decide_eq_true h2
  have := keyN_inj a.toNat b.toNat (by omega) (by omega) (by omega)
  omega
theorem isrt_length (l : List Int) : (isrt l).length = l.length := (isrt_perm l).length_eq
/-- The k-th is in the list; what stands ahead is not greater, what stands behind is not less. -/
theorem isrt_mem (l : List Int) (k : Nat) (hk : k < l.length) : (isrt l).getD k 0 ∈ l := by
  have h : k < (isrt l).length := by rw [isrt_length]; exact hk
  rw [List.getD_eq_getElem?_getD, List.getElem?_eq_getElem h]
  exact (isrt_perm l).mem_iff.mp (List.getElem_mem _)
theorem isrt_le (l : List Int) (i j : Nat) (hij : i ≤ j) (hj : j < l.length) : leK ((isrt l).getD i 0) ((isrt l).getD j 0) = true := by
  have hj2 : j < (isrt l).length := by rw [isrt_length]; exact hj
  rw [List.getD_eq_getElem?_getD, List.getD_eq_getElem?_getD, List.getElem?_eq_getElem hj2, List.getElem?_eq_getElem (show i < (isrt l).length by omega)]
  rcases Nat.lt_or_ge i j with h | h
  · exact List.pairwise_iff_getElem.mp (isrt_up l) i j (by omega) hj2 h
  · obtain rfl : i = j := by omega
    unfold leK
    exact decide_eq_true (Nat.le_refl _)
theorem isrt_first (l : List Int) (hl : 0 < l.length) : ∀ y ∈ l, leK ((isrt l).getD 0 0) y = true := by
  intro y hy
  obtain ⟨j, hj, e⟩ := List.mem_iff_getElem.mp ((isrt_perm l).mem_iff.mpr hy)
  have h := isrt_le l 0 j (by omega) (by rw [← isrt_length]; exact hj)
  have e2 : (isrt l).getD j 0 = y := by rw [List.getD_eq_getElem?_getD, List.getElem?_eq_getElem hj]; exact e
  rw [e2] at h
  exact h
theorem isrt_last (l : List Int) (hl : 0 < l.length) : ∀ y ∈ l, leK y ((isrt l).getD (l.length - 1) 0) = true := by
  intro y hy
  obtain ⟨j, hj, e⟩ := List.mem_iff_getElem.mp ((isrt_perm l).mem_iff.mpr hy)
  have hj2 : j < l.length := by rw [← isrt_length]; exact hj
  have h := isrt_le l j (l.length - 1) (by omega) (by omega)
  have e2 : (isrt l).getD j 0 = y := by rw [List.getD_eq_getElem?_getD, List.getElem?_eq_getElem hj]; exact e
  rw [e2] at h
  exact h
theorem least_one (l : List Int) (x : Int) (hu : U32 l) (hx : x ∈ l) (hm : ∀ y ∈ l, leK x y = true) : (isrt l).getD 0 0 = x := by
  have hl : 0 < l.length := List.length_pos_of_mem hx
  have h1 := isrt_mem l 0 hl
  exact leK_anti _ _ (hu _ h1) (hu _ hx) (isrt_first l hl x hx) (hm _ h1)
theorem greatest_one (l : List Int) (x : Int) (hu : U32 l) (hx : x ∈ l) (hm : ∀ y ∈ l, leK y x = true) : (isrt l).getD (l.length - 1) 0 = x := by
  have hl : 0 < l.length := List.length_pos_of_mem hx
  have h1 := isrt_mem l (l.length - 1) (by omega)
  exact leK_anti _ _ (hu _ h1) (hu _ hx) (hm _ h1) (isrt_last l hl x hx)
end Go.Proofs.Ythpmkelcjlljmaa
