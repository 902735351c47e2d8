/- RankSides' plain core: the least (greatest) of all, column by column and then row by row. -/
import Derived.Test.YthpmkelcjlljmaaRM9
open Go Go.RowKit Go.Proofs.YthpmkelcjlljmaaW.PrintWords
set_option linter.unusedVariables false
set_option linter.unusedSimpArgs false
namespace Go.Proofs.Ythpmkelcjlljmaa

theorem wc (c : Nat) (h : c ≤ 1024) : wrap64 ((c : Int) - ((1 / 2 : Nat) : Int)) = (c : Int) := by
  rw [show ((1 / 2 : Nat) : Int) = 0 from rfl, Int.sub_zero]
  exact wd _ (by omega) (by omega)
theorem one_row (bk : Int) (W H : Nat) (l : List Int) (w c t : Nat) (hH : H ≤ 1024) (ht : t < H) : win bk W H l w 1 (c : Int) (t : Int) = rowL bk W l t (wrap64 ((c : Int) - ((w / 2 : Nat) : Int))) w 0 := by
  unfold win
  rw [wc t (by omega), allL, allL, List.append_nil, show ((0 : Nat) : Int) = 0 from rfl, Int.add_zero, wd (t : Int) (by omega) (by omega), bdr_id bk H t ht]
theorem sides_at (bk : Int) (W H : Nat) (l : List Int) (w h c r : Nat) (hW : W ≤ 1024) (hH1 : 1 ≤ H) (hH : H ≤ 1024) (hw : 1 ≤ w) (hh : 1 ≤ h) (hc : c < W) (hu : U32 l) :
    atV bk W H (allP bk W H l w 1 0 0 0 W H 0) 1 h 0 c r = atV bk W H l w h 0 c r := by
  unfold atV win
  rw [wc c (by omega)]
  refine sides_least bk W H l _ _ _ c w h hw hh hu (fun y => ?_) ?_
  · have hy := bdr_lt bk H y hH1
    rw [allP_getD bk W H l w 1 0 0 0 W H 0 _ c hy hc]
    unfold atV
    rw [show 0 + c = c by omega, show 0 + (0 + bdr bk H y) = bdr bk H y by omega, one_row bk W H l w c _ hH hy]
  · rw [show ((0 : Nat) : Int) = 0 from rfl, Int.add_zero, wd (c : Int) (by omega) (by omega), bdr_id bk W c hc]
theorem sides_at2 (bk : Int) (W H : Nat) (l : List Int) (w h c r : Nat) (hW : W ≤ 1024) (hH1 : 1 ≤ H) (hH : H ≤ 1024) (hw : 1 ≤ w) (hh : 1 ≤ h) (hc : c < W) (hu : U32 l) :
    atV bk W H (allP bk W H l w 1 (w - 1) 0 0 W H 0) 1 h (h - 1) c r = atV bk W H l w h (w * h - 1) c r := by
  unfold atV win
  rw [wc c (by omega)]
  refine sides_greatest bk W H l _ _ _ c w h hw hh hu (fun y => ?_) ?_
  · have hy := bdr_lt bk H y hH1
    rw [allP_getD bk W H l w 1 (w - 1) 0 0 W H 0 _ c hy hc]
    unfold atV
    rw [show 0 + c = c by omega, show 0 + (0 + bdr bk H y) = bdr bk H y by omega, one_row bk W H l w c _ hH hy]
  · rw [show ((0 : Nat) : Int) = 0 from rfl, Int.add_zero, wd (c : Int) (by omega) (by omega), bdr_id bk W c hc]
theorem rowP_congr (bk : Int) (W H : Nat) (l C : List Int) (w h k w2 h2 k2 y n : Nat) (ha : ∀ c, c < n → atV bk W H C w2 h2 k2 (c : Nat) (y : Nat) = atV bk W H l w h k (c : Nat) (y : Nat)) : ∀ m i, i + m ≤ n →
    rowP bk W H C w2 h2 k2 0 y m i = rowP bk W H l w h k 0 y m i
  | 0, i, hi => rfl
  | m + 1, i, hi => by
    rw [rowP, rowP, rowP_congr bk W H l C w h k w2 h2 k2 y n ha m (i + 1) (by omega), show 0 + i = i by omega, ha i (by omega)]
theorem allP_congr (bk : Int) (W H : Nat) (l C : List Int) (w h k w2 h2 k2 n : Nat) (ha : ∀ c r, c < n → atV bk W H C w2 h2 k2 (c : Nat) (r : Nat) = atV bk W H l w h k (c : Nat) (r : Nat)) : ∀ m j,
    allP bk W H C w2 h2 k2 0 0 n m j = allP bk W H l w h k 0 0 n m j
  | 0, j => rfl
  | m + 1, j => by
    rw [allP, allP, allP_congr bk W H l C w h k w2 h2 k2 n ha m (j + 1), rowP_congr bk W H l C w h k w2 h2 k2 (0 + j) n (fun c hc => ha c _ hc) n 0 (by omega)]
theorem sides_plane (bk : Int) (W H : Nat) (l : List Int) (w h : Nat) (hW : W ≤ 1024) (hH1 : 1 ≤ H) (hH : H ≤ 1024) (hw : 1 ≤ w) (hh : 1 ≤ h) (hu : U32 l) :
    allP bk W H (allP bk W H l w 1 0 0 0 W H 0) 1 h 0 0 0 W H 0 = allP bk W H l w h 0 0 0 W H 0 ∧
    allP bk W H (allP bk W H l w 1 (w - 1) 0 0 W H 0) 1 h (h - 1) 0 0 W H 0 = allP bk W H l w h (w * h - 1) 0 0 W H 0 :=
  ⟨allP_congr bk W H l _ w h 0 1 h 0 W (fun c r hc => sides_at bk W H l w h c r hW hH1 hH hw hh hc hu) H 0,
   allP_congr bk W H l _ w h (w * h - 1) 1 h (h - 1) W (fun c r hc => sides_at2 bk W H l w h c r hW hH1 hH hw hh hc hu) H 0⟩
end Go.Proofs.Ythpmkelcjlljmaa
