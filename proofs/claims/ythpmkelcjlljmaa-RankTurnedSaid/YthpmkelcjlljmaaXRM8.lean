import Derived.Test.YthpmkelcjlljmaaXRM7
import Derived.Test.YthpmkelcjlljmaaXRM4
open Go Go.RowKit
set_option linter.unusedVariables false
set_option linter.unusedSimpArgs false
namespace Go.Proofs.Ythpmkelcjlljmaa

theorem bdr_id (bk : Int) (n : Nat) (c : Nat) (hc : c < n) : bdr bk n (c : Int) = c := by
  unfold bdr
  split
  · rw [if_neg (by omega), if_neg (by omega)]; omega
  · split
    · rw [Int.emod_eq_of_lt (by omega) (by omega)]; omega
    · split
      · omega
      · rw [Int.emod_eq_of_lt (by omega) (by omega)]
        rw [if_pos (by omega)]; omega
theorem rowL_length (bk : Int) (W : Nat) (l : List Int) (y : Nat) (x0 : Int) : ∀ m i, (rowL bk W l y x0 m i).length = m
  | 0, i => rfl
  | m + 1, i => by rw [rowL, List.length_cons, rowL_length bk W l y x0 m]
theorem allL_length (bk : Int) (W H : Nat) (l : List Int) (x0 y0 : Int) (w : Nat) : ∀ m j, (allL bk W H l x0 y0 w m j).length = m * w
  | 0, j => by rw [allL, Nat.zero_mul]; rfl
  | m + 1, j => by rw [allL, List.length_append, rowL_length, allL_length bk W H l x0 y0 w m, Nat.succ_mul]; omega
theorem getD_u32 {l : List Int} (hu : U32 l) (i : Nat) : 0 ≤ l.getD i 0 ∧ l.getD i 0 < 4294967296 := by
  rcases Nat.lt_or_ge i l.length with h | h
  · rw [List.getD_eq_getElem?_getD, List.getElem?_eq_getElem h]
    exact hu _ (List.getElem_mem _)
  · rw [List.getD_eq_getElem?_getD, List.getElem?_eq_none h]
    simp
theorem rowL_u32 (bk : Int) (W : Nat) (l : List Int) (y : Nat) (x0 : Int) (hu : U32 l) : ∀ m i, U32 (rowL bk W l y x0 m i)
  | 0, i => fun s hs => by simp [rowL] at hs
  | m + 1, i => fun s hs => by
    rw [rowL] at hs
    rcases List.mem_cons.mp hs with rfl | hs
    · exact getD_u32 hu _
    · exact rowL_u32 bk W l y x0 hu m (i + 1) s hs
theorem allL_u32 (bk : Int) (W H : Nat) (l : List Int) (x0 y0 : Int) (w : Nat) (hu : U32 l) : ∀ m j, U32 (allL bk W H l x0 y0 w m j)
  | 0, j => fun s hs => by simp [allL] at hs
  | m + 1, j => fun s hs => by
    rw [allL] at hs
    rcases List.mem_append.mp hs with hs | hs
    · exact rowL_u32 bk W l _ x0 hu w 0 s hs
    · exact allL_u32 bk W H l x0 y0 w hu m (j + 1) s hs
end Go.Proofs.Ythpmkelcjlljmaa

