import Derived.Test.YthpmkelcjlljmaaXRM9
open Go Go.RowKit Go.Proofs.YthpmkelcjlljmaaW.PrintWords
set_option linter.unusedVariables false
set_option linter.unusedSimpArgs false
namespace Go.Proofs.Ythpmkelcjlljmaa

theorem wc (c : Nat) (h : c ≤ 1024) : wrap64 ((c : Int) - ((1 / 2 : Nat) : Int)) = (c : Int) := by
  rw [show ((1 / 2 : Nat) : Int) = 0 from rfl, Int.sub_zero]
  exact wd _ (by omega) (by omega)
end Go.Proofs.Ythpmkelcjlljmaa

