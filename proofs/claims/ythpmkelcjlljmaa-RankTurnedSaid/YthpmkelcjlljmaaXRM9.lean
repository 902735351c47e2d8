import Derived.Test.YthpmkelcjlljmaaXRM8
import Derived.Test.YthpmkelcjlljmaaXRM6
open Go Go.RowKit
set_option linter.unusedVariables false
set_option linter.unusedSimpArgs false
namespace Go.Proofs.Ythpmkelcjlljmaa

theorem getD_left (a b : List Int) (i : Nat) (h : i < a.length) : (a ++ b).getD i 0 = a.getD i 0 := by
  rw [List.getD_eq_getElem?_getD, List.getD_eq_getElem?_getD, List.getElem?_append_left h]
theorem getD_right (a b : List Int) (i : Nat) (h : a.length ≤ i) : (a ++ b).getD i 0 = b.getD (i - a.length) 0 := by
  rw [List.getD_eq_getElem?_getD, List.getD_eq_getElem?_getD, List.getElem?_append_right h]
theorem rowP_getD (bk : Int) (W H : Nat) (l : List Int) (w h k X0 y : Nat) : ∀ m i t, t < m → (rowP bk W H l w h k X0 y m i).getD t 0 = atV bk W H l w h k ((X0 + (i + t) : Nat) : Int) (y : Int)
  | 0, i, t, ht => by omega
  | m + 1, i, 0, ht => by rw [rowP]; simp
  | m + 1, i, t + 1, ht => by
    rw [rowP, List.getD_cons_succ, rowP_getD bk W H l w h k X0 y m (i + 1) t (by omega), show i + 1 + t = i + (t + 1) by omega]
theorem allP_length (bk : Int) (W H : Nat) (l : List Int) (w h k X0 Y0 n : Nat) : ∀ m j, (allP bk W H l w h k X0 Y0 n m j).length = m * n
  | 0, j => by rw [allP, Nat.zero_mul]; rfl
  | m + 1, j => by rw [allP, List.length_append, rowP_length, allP_length bk W H l w h k X0 Y0 n m, Nat.succ_mul]; omega
theorem allP_getD (bk : Int) (W H : Nat) (l : List Int) (w h k X0 Y0 n : Nat) : ∀ m j t i, t < m → i < n → (allP bk W H l w h k X0 Y0 n m j).getD (t * n + i) 0 = atV bk W H l w h k ((X0 + i : Nat) : Int) ((Y0 + (j + t) : Nat) : Int)
  | 0, j, t, i, ht, hi => by omega
  | m + 1, j, 0, i, ht, hi => by
    have h1 := rowP_getD bk W H l w h k X0 (Y0 + j) n 0 i hi
    rw [allP, Nat.zero_mul, Nat.zero_add, getD_left _ _ _ (by rw [rowP_length]; exact hi), h1]
    simp
  | m + 1, j, t + 1, i, ht, hi => by
    have h1 := allP_getD bk W H l w h k X0 Y0 n m (j + 1) t i (by omega) hi
    rw [allP, getD_right _ _ _ (by rw [rowP_length, Nat.succ_mul]; omega), rowP_length, show (t + 1) * n + i - n = t * n + i by rw [Nat.succ_mul]; omega, h1, show j + 1 + t = j + (t + 1) by omega]
theorem atV_u32 (bk : Int) (W H : Nat) (l : List Int) (w h k : Nat) (c r : Int) (hu : U32 l) : 0 ≤ atV bk W H l w h k c r ∧ atV bk W H l w h k c r < 4294967296 := by
  unfold atV win
  refine getD_u32 (fun s hs => ?_) k
  exact allL_u32 bk W H l _ _ w hu h 0 s ((isrt_perm _).mem_iff.mp hs)
theorem rowP_u32 (bk : Int) (W H : Nat) (l : List Int) (w h k X0 y : Nat) (hu : U32 l) : ∀ m i, U32 (rowP bk W H l w h k X0 y m i)
  | 0, i => fun s hs => by simp [rowP] at hs
  | m + 1, i => fun s hs => by
    rw [rowP] at hs
    rcases List.mem_cons.mp hs with rfl | hs
    · exact atV_u32 bk W H l w h k _ _ hu
    · exact rowP_u32 bk W H l w h k X0 y hu m (i + 1) s hs
theorem allP_u32 (bk : Int) (W H : Nat) (l : List Int) (w h k X0 Y0 n : Nat) (hu : U32 l) : ∀ m j, U32 (allP bk W H l w h k X0 Y0 n m j)
  | 0, j => fun s hs => by simp [allP] at hs
  | m + 1, j => fun s hs => by
    rw [allP] at hs
    rcases List.mem_append.mp hs with hs | hs
    · exact rowP_u32 bk W H l w h k X0 _ hu n 0 s hs
    · exact allP_u32 bk W H l w h k X0 Y0 n hu m (j + 1) s hs
end Go.Proofs.Ythpmkelcjlljmaa

