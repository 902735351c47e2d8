-- Written by a program of this session (hprint.py: the kit's printer, with this session's contracts beside it). Lean checks it.
import Derived.Test.YtmipbbkieadecaaProg
import Derived.Below
import Derived.Deep.Draws
import Derived.Deep.AppendLies
import Derived.Maps.AppendAt
import Derived.OwnWalk
import Derived.Laws.BytesArg
import Derived.Laws.MakeOwn
import Derived.Laws.OwnMore
import Derived.Deep.OwnRows
import Derived.Tactics
import Derived.Lib.ConvBytes
import Derived.Laws.Slices
import Derived.WalkKit
import Derived.KernelRfl
import Derived.RowKit3
import Derived.Deep.LoopGhost
import Derived.Deep.QuietTactic
import Derived.BigQuiet
import Derived.WideLaws
import Derived.Deep.DeepCutAuto
import Derived.Deep.CutBlock
import Derived.Deep.RegionHeld3
import Derived.Laws.Rows
import Derived.Lib.AppendStr
import Derived.ArgAppend
import Derived.Laws.IdiomCopy
import Derived.OrdersHeld
import Derived.Laws.BitsLemmas
import Derived.RowKit
import Derived.Test.YtmipbbkieadecaaPDAx0
import Derived.Test.YtmipbbkieadecaaPDBx0
import Derived.Test.YtmipbbkieadecaaPDCx0
import Derived.Test.YtmipbbkieadecaaPDKx0
import Derived.Test.YtmipbbkieadecaaWWords
import Derived.Test.YtmipbbkieadecaaWLast
import Derived.Test.YtmipbbkieadecaaWTab
import Derived.Test.YtmipbbkieadecaaWQPut
import Derived.Test.YtmipbbkieadecaaWApart
import Derived.Test.YtmipbbkieadecaaWArr
import Derived.Test.YtmipbbkieadecaaWZeros
import Derived.Test.YtmipbbkieadecaaWFoot
import Derived.Test.YtmipbbkieadecaaWKept
import Derived.Test.YtmipbbkieadecaaWShare
import Derived.Test.YtmipbbkieadecaaWN
import Derived.Test.YtmipbbkieadecaaWEqStruct
import Derived.Test.YtmipbbkieadecaaWRepsOne
import Derived.Test.YtmipbbkieadecaaWGuard
import Derived.Test.YtmipbbkieadecaaWNEv
import Derived.Test.YtmipbbkieadecaaWMore
namespace Go.Proofs.Ytmipbbkieadecaa.PDR
open Go.Proofs.Ytmipbbkieadecaa.PDA Go.Proofs.Ytmipbbkieadecaa.PDB Go.Proofs.Ytmipbbkieadecaa.PDC Go.Proofs.Ytmipbbkieadecaa.PDK
open Go.RowKit Go.Proofs.YtmipbbkieadecaaW.PrintWords Go.Proofs.YtmipbbkieadecaaW.PrintLast Go.Proofs.YtmipbbkieadecaaW.PrintMore
attribute [local go_sem] max2_int min2_int max_two min_two max_three min_three max_four min_four   -- for this text's walks alone
set_option linter.unusedVariables false
set_option linter.unusedSimpArgs false



def errW : Option Int → Value
  | none => .nilIface
  | some c => .iface 0 (.int .i64 c)
theorem errW_none : errW none = .nilIface := rfl
theorem errW_some (c : Int) : errW (some c) = .iface 0 (.int .i64 c) := rfl

theorem info48 : (Try.prog.info? 48).map (fun i => (i.zero, i.size, i.bytes)) = some (some (.int .u32 0), 1, 4) := by kernel_rfl
-- the values' own types

end Go.Proofs.Ytmipbbkieadecaa.PDR
