import Derived.Test.YthpmkelcjlljmaaProg
import Derived.Below
import Derived.Deep.Draws
import Derived.Deep.AppendLies
import Derived.Maps.AppendAt
import Derived.OwnWalk
import Derived.Laws.BytesArg
import Derived.Laws.MakeOwn
import Derived.Laws.OwnMore
import Derived.Deep.OwnRows
import Derived.Tactics
import Derived.Lib.ConvBytes
import Derived.Laws.Slices
import Derived.WalkKit
import Derived.KernelRfl
import Derived.RowKit3
import Derived.Deep.LoopGhost
import Derived.Deep.QuietTactic
import Derived.BigQuiet
import Derived.WideLaws
import Derived.Deep.DeepCutAuto
import Derived.Deep.CutBlock
import Derived.Deep.RegionHeld3
import Derived.Laws.Rows
import Derived.Lib.AppendStr
import Derived.ArgAppend
import Derived.Laws.IdiomCopy
import Derived.OrdersHeld
import Derived.Laws.BitsLemmas
import Derived.RowKit
import Derived.Test.YthpmkelcjlljmaaXPRAx0
import Derived.Test.YthpmkelcjlljmaaXPRBx0
import Derived.Test.YthpmkelcjlljmaaXWWords
import Derived.Test.YthpmkelcjlljmaaXWLast
import Derived.Test.YthpmkelcjlljmaaXWTab
import Derived.Test.YthpmkelcjlljmaaXWQPut
import Derived.Test.YthpmkelcjlljmaaXWApart
import Derived.Test.YthpmkelcjlljmaaXWArr
import Derived.Test.YthpmkelcjlljmaaXWZeros
import Derived.Test.YthpmkelcjlljmaaXWFoot
import Derived.Test.YthpmkelcjlljmaaXWKept
import Derived.Test.YthpmkelcjlljmaaXWShare
import Derived.Test.YthpmkelcjlljmaaXWN
import Derived.Test.YthpmkelcjlljmaaXWEqStruct
import Derived.Test.YthpmkelcjlljmaaXWRepsOne
import Derived.Test.YthpmkelcjlljmaaXWGuard
import Derived.Test.YthpmkelcjlljmaaXWNEv
import Derived.Test.YthpmkelcjlljmaaXWMore
namespace Go.Proofs.Ythpmkelcjlljmaa.PRK
open Go.Proofs.Ythpmkelcjlljmaa.PRA Go.Proofs.Ythpmkelcjlljmaa.PRB
open Go.RowKit Go.Proofs.YthpmkelcjlljmaaW.PrintWords Go.Proofs.YthpmkelcjlljmaaW.PrintLast Go.Proofs.YthpmkelcjlljmaaW.PrintMore
attribute [local go_sem] max2_int min2_int max_two min_two max_three min_three max_four min_four
set_option linter.unusedVariables false
set_option linter.unusedSimpArgs false



def errW : Option Int → Value
 | none => .nilIface
 | some c => .iface 0 (.int .i64 c)
theorem Bb : errW none = .nilIface := rfl
theorem Ba (c : Int) : errW (some c) = .iface 0 (.int .i64 c) := rfl

theorem info41 : (Try.prog.info? 41).map (fun i => (i.zero, i.size, i.bytes)) = some (some (.int .u32 0), 1, 4) := by kernel_rfl

end Go.Proofs.Ythpmkelcjlljmaa.PRK

