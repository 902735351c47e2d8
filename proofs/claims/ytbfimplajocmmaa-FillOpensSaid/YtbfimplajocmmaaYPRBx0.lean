import Derived.Test.YtbfimplajocmmaaProg
import Derived.Below
import Derived.Deep.Draws
import Derived.Deep.AppendLies
import Derived.Maps.AppendAt
import Derived.OwnWalk
import Derived.Laws.BytesArg
import Derived.Laws.MakeOwn
import Derived.Laws.OwnMore
import Derived.Deep.OwnRows
import Derived.Tactics
import Derived.Lib.ConvBytes
import Derived.Laws.Slices
import Derived.WalkKit
import Derived.KernelRfl
import Derived.RowKit3
import Derived.Deep.LoopGhost
import Derived.Deep.QuietTactic
import Derived.BigQuiet
import Derived.WideLaws
import Derived.Deep.DeepCutAuto
import Derived.Deep.CutBlock
import Derived.Deep.RegionHeld3
import Derived.Laws.Rows
import Derived.Lib.AppendStr
import Derived.ArgAppend
import Derived.Laws.IdiomCopy
import Derived.OrdersHeld
import Derived.Laws.BitsLemmas
import Derived.RowKit
import Derived.Test.YtbfimplajocmmaaYPRAx0
import Derived.Test.YtbfimplajocmmaaYUP
import Derived.Test.YtbfimplajocmmaaYWWords
import Derived.Test.YtbfimplajocmmaaYWQPut
import Derived.Test.YtbfimplajocmmaaYUQ
import Derived.Test.YtbfimplajocmmaaYWApart
import Derived.Test.YtbfimplajocmmaaYWZeros
import Derived.Test.YtbfimplajocmmaaYWEqStruct
import Derived.Test.YtbfimplajocmmaaYWRepsOne
namespace Go.Proofs.Ytbfimplajocmmaa.PRB
open Go.Proofs.Ytbfimplajocmmaa.PFA Go.Proofs.Ytbfimplajocmmaa.PFC Go.Proofs.Ytbfimplajocmmaa.PFK Go.Proofs.Ytbfimplajocmmaa.PRA
open Go.RowKit Go.Proofs.YtbfimplajocmmaaW.PrintWords Go.Proofs.YtbfimplajocmmaaW.PrintLast Go.Proofs.YtbfimplajocmmaaW.PrintMore
attribute [local go_sem] max2_int min2_int max_two min_two max_three min_three max_four min_four
set_option linter.unusedVariables false
set_option linter.unusedSimpArgs false




end Go.Proofs.Ytbfimplajocmmaa.PRB


