import Derived.Test.YthpmkelcjlljmaaRM8
import Derived.Test.YthpmkelcjlljmaaRM6
open Go Go.RowKit
set_option linter.unusedVariables false
set_option linter.unusedSimpArgs false
namespace Go.Proofs.Ythpmkelcjlljmaa

theorem allP_length (bk : Int) (W H : Nat) (l : List Int) (w h k X0 Y0 n : Nat) : ∀ m j, (allP bk W H l w h k X0 Y0 n m j).length = m * n
  | 0, j => by rw [allP, Nat.zero_mul]; rfl
  | m + 1, j => by rw [allP, List.length_append, rowP_length, allP_length bk W H l w h k X0 Y0 n m, Nat.succ_mul]; omega
end Go.Proofs.Ythpmkelcjlljmaa

