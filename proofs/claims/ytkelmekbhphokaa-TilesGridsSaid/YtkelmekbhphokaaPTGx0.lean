-- Written by a program of this session (hprint.py: the kit's printer, with this session's contracts beside it). Lean checks it.
import Derived.Test.YtkelmekbhphokaaProg
import Derived.Below
import Derived.Deep.Draws
import Derived.Deep.AppendLies
import Derived.Maps.AppendAt
import Derived.OwnWalk
import Derived.Laws.BytesArg
import Derived.Laws.MakeOwn
import Derived.Laws.OwnMore
import Derived.Deep.OwnRows
import Derived.Tactics
import Derived.Lib.ConvBytes
import Derived.Laws.Slices
import Derived.WalkKit
import Derived.KernelRfl
import Derived.RowKit3
import Derived.Deep.LoopGhost
import Derived.Deep.QuietTactic
import Derived.BigQuiet
import Derived.WideLaws
import Derived.Deep.DeepCutAuto
import Derived.Deep.CutBlock
import Derived.Deep.RegionHeld3
import Derived.Laws.Rows
import Derived.Lib.AppendStr
import Derived.ArgAppend
import Derived.Laws.IdiomCopy
import Derived.OrdersHeld
import Derived.Laws.BitsLemmas
import Derived.RowKit
import Derived.Test.YtkelmekbhphokaaWWords
import Derived.Test.YtkelmekbhphokaaWLast
import Derived.Test.YtkelmekbhphokaaWTab
import Derived.Test.YtkelmekbhphokaaWFour
import Derived.Test.YtkelmekbhphokaaWQPut
import Derived.Test.YtkelmekbhphokaaWApart
import Derived.Test.YtkelmekbhphokaaWArr
import Derived.Test.YtkelmekbhphokaaWZeros
import Derived.Test.YtkelmekbhphokaaWFoot
import Derived.Test.YtkelmekbhphokaaWKept
import Derived.Test.YtkelmekbhphokaaWShare
import Derived.Test.YtkelmekbhphokaaWN
import Derived.Test.YtkelmekbhphokaaWFootNe
import Derived.Test.YtkelmekbhphokaaWAt
import Derived.Test.YtkelmekbhphokaaWEqStruct
import Derived.Test.YtkelmekbhphokaaWRepsOne
import Derived.Test.YtkelmekbhphokaaWInv
import Derived.Test.YtkelmekbhphokaaWInvWords
import Derived.Test.YtkelmekbhphokaaWGuard
import Derived.Test.YtkelmekbhphokaaWNEv
import Derived.Test.YtkelmekbhphokaaWMore
namespace Go.Proofs.Ytkelmekbhphokaa.PTG
open Go.RowKit Go.Proofs.YtkelmekbhphokaaW.PrintWords Go.Proofs.YtkelmekbhphokaaW.PrintLast Go.Proofs.YtkelmekbhphokaaW.PrintMore
attribute [local go_sem] max2_int min2_int max_two min_two max_three min_three max_four min_four   -- for this text's walks alone
set_option linter.unusedVariables false
set_option linter.unusedSimpArgs false



def errW : Option Int → Value
  | none => .nilIface
  | some c => .iface 0 (.int .i64 c)
theorem errW_none : errW none = .nilIface := rfl
theorem errW_some (c : Int) : errW (some c) = .iface 0 (.int .i64 c) := rfl

theorem info3 : (Try.prog.info? 3).map (fun i => (i.zero, i.size, i.bytes)) = some (some (.int .i64 0), 1, 8) := by kernel_rfl
-- the values' own types

end Go.Proofs.Ytkelmekbhphokaa.PTG
