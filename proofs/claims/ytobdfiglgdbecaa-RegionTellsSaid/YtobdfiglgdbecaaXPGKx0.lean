import Derived.Test.YtobdfiglgdbecaaProg
import Derived.Below
import Derived.Deep.Draws
import Derived.Deep.AppendLies
import Derived.Maps.AppendAt
import Derived.OwnWalk
import Derived.Laws.BytesArg
import Derived.Laws.MakeOwn
import Derived.Laws.OwnMore
import Derived.Deep.OwnRows
import Derived.Tactics
import Derived.Lib.ConvBytes
import Derived.Laws.Slices
import Derived.WalkKit
import Derived.KernelRfl
import Derived.RowKit3
import Derived.Deep.LoopGhost
import Derived.Deep.QuietTactic
import Derived.BigQuiet
import Derived.WideLaws
import Derived.Deep.DeepCutAuto
import Derived.Deep.CutBlock
import Derived.Deep.RegionHeld3
import Derived.Laws.Rows
import Derived.Lib.AppendStr
import Derived.ArgAppend
import Derived.Laws.IdiomCopy
import Derived.OrdersHeld
import Derived.Laws.BitsLemmas
import Derived.RowKit
import Derived.Test.YtobdfiglgdbecaaXPGAx0
import Derived.Test.YtobdfiglgdbecaaXPGHx0
import Derived.Test.YtobdfiglgdbecaaXUP
import Derived.Test.YtobdfiglgdbecaaXWWords
import Derived.Test.YtobdfiglgdbecaaXWQPut
import Derived.Test.YtobdfiglgdbecaaXUQ
import Derived.Test.YtobdfiglgdbecaaXWApart
import Derived.Test.YtobdfiglgdbecaaXWZeros
import Derived.Test.YtobdfiglgdbecaaXWNEv
import Derived.Test.YtobdfiglgdbecaaXWEqStruct
import Derived.Test.YtobdfiglgdbecaaXWRepsOne
namespace Go.Proofs.Ytobdfiglgdbecaa.PGK
open Go.Proofs.Ytobdfiglgdbecaa.PGA Go.Proofs.Ytobdfiglgdbecaa.PGB Go.Proofs.Ytobdfiglgdbecaa.PGH
open Go.RowKit Go.Proofs.YtobdfiglgdbecaaW.PrintWords Go.Proofs.YtobdfiglgdbecaaW.PrintLast Go.Proofs.YtobdfiglgdbecaaW.PrintMore
attribute [local go_sem] max2_int min2_int max_two min_two max_three min_three max_four min_four
set_option linter.unusedVariables false
set_option linter.unusedSimpArgs false



end Go.Proofs.Ytobdfiglgdbecaa.PGK

