import Derived.Test.YtobdfiglgdbecaaQUQ
import Derived.Test.YtobdfiglgdbecaaQPGRx0
import Derived.Test.YtobdfiglgdbecaaQPGRx2
import Derived.Test.YtobdfiglgdbecaaQPGRx4
import Derived.Test.YtobdfiglgdbecaaQPGHx2
import Derived.Test.YtobdfiglgdbecaaQPGRx11
namespace Go.Proofs.Ytobdfiglgdbecaa.PGR
open Go.Proofs.Ytobdfiglgdbecaa.PGA Go.Proofs.Ytobdfiglgdbecaa.PGB Go.Proofs.Ytobdfiglgdbecaa.PGH Go.Proofs.Ytobdfiglgdbecaa.PGI
open Go.RowKit Go.Proofs.YtobdfiglgdbecaaW.PrintWords Go.Proofs.YtobdfiglgdbecaaW.PrintLast Go.Proofs.YtobdfiglgdbecaaW.PrintMore
attribute [local go_sem] max2_int min2_int max_two min_two max_three min_three max_four min_four
set_option linter.unusedVariables false
set_option linter.unusedSimpArgs false

def Dc.T11 : Bool × List (List Nat × List Nat) := (true, [([], []), ([], []), ([], []), ([1, 2], [1, 2]), ([3], [3]), ([4], [4]), ([0, 5], [0, 5]), ([], []), ([], []), ([7, 8], [7, 8]), ([9], [9]), ([10], [10]), ([6, 11, 6], [6, 11]), ([12, 12, 0, 1, 2, 3, 4, 5, 6, 7, 8, 9, 10, 11, 12], [0, 12])])
def Dc.B11 : List Nat := [0, 0, 0, 6, 14, 30, 63, 0, 0, 384, 896, 1920, 4095, 8191]
theorem Dc.tab11 : rtab .any (opsOf Try.f37 11) = Dc.T11 := by kernel_rfl
theorem Dc.bits11 : waitsOk Dc.T11.2 Dc.B11 = true := by kernel_rfl
end Go.Proofs.Ytobdfiglgdbecaa.PGR

