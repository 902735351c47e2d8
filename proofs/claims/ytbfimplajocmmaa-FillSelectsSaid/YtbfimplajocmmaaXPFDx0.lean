import Derived.Test.YtbfimplajocmmaaProg
import Derived.Below
import Derived.Deep.Draws
import Derived.Deep.AppendLies
import Derived.Maps.AppendAt
import Derived.OwnWalk
import Derived.Laws.BytesArg
import Derived.Laws.MakeOwn
import Derived.Laws.OwnMore
import Derived.Deep.OwnRows
import Derived.Tactics
import Derived.Lib.ConvBytes
import Derived.Laws.Slices
import Derived.WalkKit
import Derived.KernelRfl
import Derived.RowKit3
import Derived.Deep.LoopGhost
import Derived.Deep.QuietTactic
import Derived.BigQuiet
import Derived.WideLaws
import Derived.Deep.DeepCutAuto
import Derived.Deep.CutBlock
import Derived.Deep.RegionHeld3
import Derived.Laws.Rows
import Derived.Lib.AppendStr
import Derived.ArgAppend
import Derived.Laws.IdiomCopy
import Derived.OrdersHeld
import Derived.Laws.BitsLemmas
import Derived.RowKit
import Derived.Test.YtbfimplajocmmaaXPFAx0
import Derived.Test.YtbfimplajocmmaaXPFKx0
import Derived.Test.YtbfimplajocmmaaXUP
import Derived.Test.YtbfimplajocmmaaXWWords
import Derived.Test.YtbfimplajocmmaaXWQPut
import Derived.Test.YtbfimplajocmmaaXUQ
import Derived.Test.YtbfimplajocmmaaXWApart
import Derived.Test.YtbfimplajocmmaaXWZeros
import Derived.Test.YtbfimplajocmmaaXWEqStruct
import Derived.Test.YtbfimplajocmmaaXWRepsOne
section
namespace Go.Proofs.Ytbfimplajocmmaa.PFC
open Go.Proofs.Ytbfimplajocmmaa.PFA Go.Proofs.Ytbfimplajocmmaa.PFK
open Go.RowKit Go.Proofs.YtbfimplajocmmaaW.PrintWords Go.Proofs.YtbfimplajocmmaaW.PrintLast Go.Proofs.YtbfimplajocmmaaW.PrintMore
attribute [local go_sem] max2_int min2_int max_two min_two max_three min_three max_four min_four
set_option linter.unusedVariables false
set_option linter.unusedSimpArgs false




end Go.Proofs.Ytbfimplajocmmaa.PFC
end
section
namespace Go.Proofs.Ytbfimplajocmmaa.PFD
open Go.Proofs.Ytbfimplajocmmaa.PFA Go.Proofs.Ytbfimplajocmmaa.PFC Go.Proofs.Ytbfimplajocmmaa.PFK
open Go.RowKit Go.Proofs.YtbfimplajocmmaaW.PrintWords Go.Proofs.YtbfimplajocmmaaW.PrintLast Go.Proofs.YtbfimplajocmmaaW.PrintMore
attribute [local go_sem] max2_int min2_int max_two min_two max_three min_three max_four min_four
set_option linter.unusedVariables false
set_option linter.unusedSimpArgs false




end Go.Proofs.Ytbfimplajocmmaa.PFD
end
