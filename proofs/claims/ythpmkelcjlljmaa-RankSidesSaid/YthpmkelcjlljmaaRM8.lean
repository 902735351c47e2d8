/- Side by side: the least of a window is the least of its rows' least ones; the greatest too. -/
import Derived.Test.YthpmkelcjlljmaaRM7
import Derived.Test.YthpmkelcjlljmaaRM4
open Go Go.RowKit
set_option linter.unusedVariables false
set_option linter.unusedSimpArgs false
namespace Go.Proofs.Ythpmkelcjlljmaa

theorem bdr_id (bk : Int) (n : Nat) (c : Nat) (hc : c < n) : bdr bk n (c : Int) = c := by
  unfold bdr
  split
  · rw [if_neg (by omega), if_neg (by omega)]; omega
  · split
    · rw [Int.emod_eq_of_lt (by omega) (by omega)]; omega
    · split
      · omega
      · rw [Int.emod_eq_of_lt (by omega) (by omega)]
        rw [if_pos (by omega)]; omega
theorem rowL_length (bk : Int) (W : Nat) (l : List Int) (y : Nat) (x0 : Int) : ∀ m i, (rowL bk W l y x0 m i).length = m
  | 0, i => rfl
  | m + 1, i => by rw [rowL, List.length_cons, rowL_length bk W l y x0 m]
theorem allL_length (bk : Int) (W H : Nat) (l : List Int) (x0 y0 : Int) (w : Nat) : ∀ m j, (allL bk W H l x0 y0 w m j).length = m * w
  | 0, j => by rw [allL, Nat.zero_mul]; rfl
  | m + 1, j => by rw [allL, List.length_append, rowL_length, allL_length bk W H l x0 y0 w m, Nat.succ_mul]; omega
theorem getD_u32 {l : List Int} (hu : U32 l) (i : Nat) : 0 ≤ l.getD i 0 ∧ l.getD i 0 < 4294967296 := by
  rcases Nat.lt_or_ge i l.length with h | h
  · rw [List.getD_eq_getElem?_getD, List.getElem?_eq_getElem h]
    exact hu _ (List.getElem_mem _)
  · rw [List.getD_eq_getElem?_getD, List.getElem?_eq_none h]
    simp
theorem rowL_u32 (bk : Int) (W : Nat) (l : List Int) (y : Nat) (x0 : Int) (hu : U32 l) : ∀ m i, U32 (rowL bk W l y x0 m i)
  | 0, i => fun s hs => by simp [rowL] at hs
  | m + 1, i => fun s hs => by
    rw [rowL] at hs
    rcases List.mem_cons.mp hs with rfl | hs
    · exact getD_u32 hu _
    · exact rowL_u32 bk W l y x0 hu m (i + 1) s hs
theorem allL_u32 (bk : Int) (W H : Nat) (l : List Int) (x0 y0 : Int) (w : Nat) (hu : U32 l) : ∀ m j, U32 (allL bk W H l x0 y0 w m j)
  | 0, j => fun s hs => by simp [allL] at hs
  | m + 1, j => fun s hs => by
    rw [allL] at hs
    rcases List.mem_append.mp hs with hs | hs
    · exact rowL_u32 bk W l _ x0 hu w 0 s hs
    · exact allL_u32 bk W H l x0 y0 w hu m (j + 1) s hs
/-- The rows' least ones, and all of the rows. -/
theorem rows_least (bk : Int) (W H : Nat) (l C : List Int) (x0 y0 : Int) (c w : Nat) (hw : 1 ≤ w)
    (hC : ∀ y, C.getD (bdr bk H y * W + c) 0 = (isrt (rowL bk W l (bdr bk H y) x0 w 0)).getD 0 0) (hb : bdr bk W (wrap64 ((c : Int) + ((0 : Nat) : Int))) = c) : ∀ m j,
    (∀ x ∈ allL bk W H C (c : Int) y0 1 m j, x ∈ allL bk W H l x0 y0 w m j) ∧ (∀ y ∈ allL bk W H l x0 y0 w m j, ∃ x ∈ allL bk W H C (c : Int) y0 1 m j, leK x y = true)
  | 0, j => ⟨fun x hx => by simp [allL] at hx, fun y hy => by simp [allL] at hy⟩
  | m + 1, j => by
    obtain ⟨h1, h2⟩ := rows_least bk W H l C x0 y0 c w hw hC hb m (j + 1)
    have hlen := rowL_length bk W l (bdr bk H (wrap64 (y0 + (j : Int)))) x0 w 0
    have e : allL bk W H C (c : Int) y0 1 (m + 1) j = (isrt (rowL bk W l (bdr bk H (wrap64 (y0 + (j : Int)))) x0 w 0)).getD 0 0 :: allL bk W H C (c : Int) y0 1 m (j + 1) := by
      rw [allL, rowL, rowL, hb, hC]
      rfl
    rw [e, allL]
    refine ⟨fun x hx => ?_, fun y hy => ?_⟩
    · rcases List.mem_cons.mp hx with rfl | hx
      · exact List.mem_append_left _ (isrt_mem _ 0 (by omega))
      · exact List.mem_append_right _ (h1 x hx)
    · rcases List.mem_append.mp hy with hy | hy
      · exact ⟨_, List.mem_cons_self, isrt_first _ (by omega) y hy⟩
      · obtain ⟨x, hx, hxy⟩ := h2 y hy
        exact ⟨x, List.mem_cons_of_mem _ hx, hxy⟩
/-- The rows' greatest ones, and all of the rows. -/
theorem rows_greatest (bk : Int) (W H : Nat) (l C : List Int) (x0 y0 : Int) (c w : Nat) (hw : 1 ≤ w)
    (hC : ∀ y, C.getD (bdr bk H y * W + c) 0 = (isrt (rowL bk W l (bdr bk H y) x0 w 0)).getD (w - 1) 0) (hb : bdr bk W (wrap64 ((c : Int) + ((0 : Nat) : Int))) = c) : ∀ m j,
    (∀ x ∈ allL bk W H C (c : Int) y0 1 m j, x ∈ allL bk W H l x0 y0 w m j) ∧ (∀ y ∈ allL bk W H l x0 y0 w m j, ∃ x ∈ allL bk W H C (c : Int) y0 1 m j, leK y x = true)
  | 0, j => ⟨fun x hx => by simp [allL] at hx, fun y hy => by simp [allL] at hy⟩
  | m + 1, j => by
    obtain ⟨h1, h2⟩ := rows_greatest bk W H l C x0 y0 c w hw hC hb m (j + 1)
    have hlen := rowL_length bk W l (bdr bk H (wrap64 (y0 + (j : Int)))) x0 w 0
    have e : allL bk W H C (c : Int) y0 1 (m + 1) j = (isrt (rowL bk W l (bdr bk H (wrap64 (y0 + (j : Int)))) x0 w 0)).getD (w - 1) 0 :: allL bk W H C (c : Int) y0 1 m (j + 1) := by
      rw [allL, rowL, rowL, hb, hC]
      rfl
    rw [e, allL]
    refine ⟨fun x hx => ?_, fun y hy => ?_⟩
    · rcases List.mem_cons.mp hx with rfl | hx
      · exact List.mem_append_left _ (isrt_mem _ (w - 1) (by omega))
      · exact List.mem_append_right _ (h1 x hx)
    · rcases List.mem_append.mp hy with hy | hy
      · exact ⟨_, List.mem_cons_self, by have h9 := isrt_last _ (show 0 < (rowL bk W l (bdr bk H (wrap64 (y0 + (j : Int)))) x0 w 0).length by omega) y hy; rw [hlen] at h9; exact h9⟩
      · obtain ⟨x, hx, hxy⟩ := h2 y hy
        exact ⟨x, List.mem_cons_of_mem _ hx, hxy⟩
/-- Column by column, then row by row: the least. -/
theorem sides_least (bk : Int) (W H : Nat) (l C : List Int) (x0 y0 : Int) (c w h : Nat) (hw : 1 ≤ w) (hh : 1 ≤ h) (hu : U32 l)
    (hC : ∀ y, C.getD (bdr bk H y * W + c) 0 = (isrt (rowL bk W l (bdr bk H y) x0 w 0)).getD 0 0) (hb : bdr bk W (wrap64 ((c : Int) + ((0 : Nat) : Int))) = c) :
    (isrt (allL bk W H C (c : Int) y0 1 h 0)).getD 0 0 = (isrt (allL bk W H l x0 y0 w h 0)).getD 0 0 := by
  obtain ⟨h1, h2⟩ := rows_least bk W H l C x0 y0 c w hw hC hb h 0
  have hl : 0 < (allL bk W H C (c : Int) y0 1 h 0).length := by rw [allL_length]; omega
  refine (least_one _ _ (allL_u32 bk W H l x0 y0 w hu h 0) (h1 _ (isrt_mem _ 0 hl)) (fun y hy => ?_)).symm
  obtain ⟨x, hx, hxy⟩ := h2 y hy
  exact leK_trans _ _ _ (isrt_first _ hl x hx) hxy
theorem sides_greatest (bk : Int) (W H : Nat) (l C : List Int) (x0 y0 : Int) (c w h : Nat) (hw : 1 ≤ w) (hh : 1 ≤ h) (hu : U32 l)
    (hC : ∀ y, C.getD (bdr bk H y * W + c) 0 = (isrt (rowL bk W l (bdr bk H y) x0 w 0)).getD (w - 1) 0) (hb : bdr bk W (wrap64 ((c : Int) + ((0 : Nat) : Int))) = c) :
    (isrt (allL bk W H C (c : Int) y0 1 h 0)).getD (h - 1) 0 = (isrt (allL bk W H l x0 y0 w h 0)).getD (w * h - 1) 0 := by
  obtain ⟨h1, h2⟩ := rows_greatest bk W H l C x0 y0 c w hw hC hb h 0
  have hlC : (allL bk W H C (c : Int) y0 1 h 0).length = h := by rw [allL_length]; omega
  have hlA : (allL bk W H l x0 y0 w h 0).length = w * h := by rw [allL_length, Nat.mul_comm]
  have hm : (isrt (allL bk W H C (c : Int) y0 1 h 0)).getD (h - 1) 0 ∈ allL bk W H C (c : Int) y0 1 h 0 := isrt_mem _ _ (by omega)
  have hg := greatest_one _ _ (allL_u32 bk W H l x0 y0 w hu h 0) (h1 _ hm) (fun y hy => by
    obtain ⟨x, hx, hxy⟩ := h2 y hy
    have h9 := isrt_last _ (show 0 < (allL bk W H C (c : Int) y0 1 h 0).length by omega) x hx
    rw [hlC] at h9
    exact leK_trans _ _ _ hxy h9)
  rw [hlA] at hg
  exact hg.symm
end Go.Proofs.Ythpmkelcjlljmaa
