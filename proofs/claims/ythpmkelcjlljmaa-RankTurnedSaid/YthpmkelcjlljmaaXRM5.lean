import Derived.Test.YthpmkelcjlljmaaXRM4
import Derived.Test.YthpmkelcjlljmaaXPRBx2
open Go Go.RowKit Go.Proofs.YthpmkelcjlljmaaW.PrintWords Go.Proofs.YthpmkelcjlljmaaW.PrintLast Go.Proofs.YthpmkelcjlljmaaW.PrintMore
set_option linter.unusedVariables false
set_option linter.unusedSimpArgs false
namespace Go.Proofs.Ythpmkelcjlljmaa
open PRA PRB

def rowP (bk : Int) (W H : Nat) (l : List Int) (w h k X0 y : Nat) : Nat → Nat → List Int
  | 0, _ => []
  | m + 1, i => atV bk W H l w h k ((X0 + i : Nat) : Int) (y : Int) :: rowP bk W H l w h k X0 y m (i + 1)
def allP (bk : Int) (W H : Nat) (l : List Int) (w h k X0 Y0 n : Nat) : Nat → Nat → List Int
  | 0, _ => []
  | m + 1, j => rowP bk W H l w h k X0 (Y0 + j) n 0 ++ allP bk W H l w h k X0 Y0 n m (j + 1)
theorem rowP_length (bk : Int) (W H : Nat) (l : List Int) (w h k X0 y : Nat) : ∀ m i, (rowP bk W H l w h k X0 y m i).length = m
  | 0, i => rfl
  | m + 1, i => by rw [rowP, List.length_cons, rowP_length bk W H l w h k X0 y m]
theorem part_row (bk : Int) (W H : Nat) (l : List Int) (w h k X0 Y0 X1 Y1 n m2 j : Nat) (hk : 1 ≤ bk ∧ bk ≤ 3) (hW1 : 1 ≤ W) (hW : W ≤ 1024) (hH1 : 1 ≤ H) (hH : H ≤ 1024) (hl : l.length = W * H)
    (hw : w ≤ 15) (hh : h ≤ 15) (hkw : k < w * h) (hu : ∀ s ∈ l, 0 ≤ s ∧ s < 4294967296) (hX : X0 ≤ 1024) (hY : Y0 ≤ 1024) (hj : j ≤ 1024) (hn : n ≤ 1024) (F : Nat) : ∀ m i (acc : List Int), i + m = n → acc.length + m ≤ 100000000 →
    Aw.l1 (m + 1 + F) k j m2 j n (i : Nat) W H l bk w h (X0 : Nat) (Y0 : Nat) (X1 : Nat) (Y1 : Nat) n m2 acc =
      Aw.l0 F k m2 ((j + 1 : Nat) : Int) W H l bk w h (X0 : Nat) (Y0 : Nat) (X1 : Nat) (Y1 : Nat) n m2 (acc ++ rowP bk W H l w h k X0 (Y0 + j) m i)
  | 0, i, acc, hi, ha => by
    rw [show 0 + 1 + F = F + 1 by omega, Aw.l1, if_neg (by omega), rowP, List.append_nil]
    rw [wd ((j : Int) + 1) (by omega) (by omega)]
    rfl
  | m + 1, i, acc, hi, ha => by
    have e1 : wrap64 ((X0 : Int) + (i : Int)) = ((X0 + i : Nat) : Int) := by rw [wd _ (by omega) (by omega)]; omega
    have e2 : wrap64 ((Y0 : Int) + (j : Int)) = ((Y0 + j : Nat) : Int) := by rw [wd _ (by omega) (by omega)]; omega
    have e3 : wrap64 ((i : Int) + 1) = ((i + 1 : Nat) : Int) := by rw [wd _ (by omega) (by omega)]; omega
    rw [show m + 1 + 1 + F = (m + 1 + F) + 1 by omega, Aw.l1, if_pos (by omega), e1, e2, at_eq bk W H l w h k _ _ hk hW1 hW hH1 hH hl hw hh hkw hu, Option.bind_some, if_pos (by omega), e3]
    clear e1 e2 e3
    rw [part_row bk W H l w h k X0 Y0 X1 Y1 n m2 j hk hW1 hW hH1 hH hl hw hh hkw hu hX hY hj hn F m (i + 1) (acc ++ [atV bk W H l w h k ((X0 + i : Nat) : Int) ((Y0 + j : Nat) : Int)]) (by omega) (by rw [List.length_append, List.length_singleton]; omega), rowP, List.append_assoc]
    rfl
theorem part_rows (bk : Int) (W H : Nat) (l : List Int) (w h k X0 Y0 X1 Y1 n m2 : Nat) (hk : 1 ≤ bk ∧ bk ≤ 3) (hW1 : 1 ≤ W) (hW : W ≤ 1024) (hH1 : 1 ≤ H) (hH : H ≤ 1024) (hl : l.length = W * H)
    (hw : w ≤ 15) (hh : h ≤ 15) (hkw : k < w * h) (hu : ∀ s ∈ l, 0 ≤ s ∧ s < 4294967296) (hX : X0 ≤ 1024) (hY : Y0 ≤ 1024) (hn : n ≤ 1024) (hm2 : m2 ≤ 1024) : ∀ m j (acc : List Int), j + m = m2 → acc.length + m * n ≤ 90000000 →
    Aw.l0 (m * (n + 2) + 1) k m2 (j : Nat) W H l bk w h (X0 : Nat) (Y0 : Nat) (X1 : Nat) (Y1 : Nat) n m2 acc = some ((n : Int), (m2 : Int), acc ++ allP bk W H l w h k X0 Y0 n m j)
  | 0, j, acc, hj, ha => by
    rw [show 0 * (n + 2) + 1 = 0 + 1 by omega, Aw.l0, if_neg (by omega), allP, List.append_nil]
  | m + 1, j, acc, hj, ha => by
    rw [Nat.succ_mul] at ha
    rw [show (m + 1) * (n + 2) + 1 = (n + 1 + (m * (n + 2) + 1)) + 1 by rw [Nat.succ_mul]; omega, Aw.l0, if_pos (by omega)]
    have h1 := part_row bk W H l w h k X0 Y0 X1 Y1 n m2 j hk hW1 hW hH1 hH hl hw hh hkw hu hX hY (by omega) hn (m * (n + 2) + 1) n 0 acc (by omega) (by omega)
    refine Eq.trans h1 ?_
    rw [part_rows bk W H l w h k X0 Y0 X1 Y1 n m2 hk hW1 hW hH1 hH hl hw hh hkw hu hX hY hn hm2 m (j + 1) _ (by omega) (by rw [List.length_append, rowP_length]; omega), allP, List.append_assoc]
end Go.Proofs.Ythpmkelcjlljmaa

