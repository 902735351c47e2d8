import Derived.Test.YteamphcehoaleaaProg
import Derived.Below
import Derived.Deep.Draws
import Derived.Deep.AppendLies
import Derived.Maps.AppendAt
import Derived.OwnWalk
import Derived.Laws.BytesArg
import Derived.Laws.MakeOwn
import Derived.Laws.OwnMore
import Derived.Deep.OwnRows
import Derived.Tactics
import Derived.Lib.ConvBytes
import Derived.Laws.Slices
import Derived.WalkKit
import Derived.KernelRfl
import Derived.RowKit3
import Derived.Deep.LoopGhost
import Derived.Deep.QuietTactic
import Derived.BigQuiet
import Derived.WideLaws
import Derived.Deep.DeepCutAuto
import Derived.Deep.CutBlock
import Derived.Deep.RegionHeld3
import Derived.Laws.Rows
import Derived.Lib.AppendStr
import Derived.ArgAppend
import Derived.Laws.IdiomCopy
import Derived.OrdersHeld
import Derived.Laws.BitsLemmas
import Derived.RowKit
import Derived.Test.YteamphcehoaleaaZPFAx0
import Derived.Test.YteamphcehoaleaaZUP
import Derived.Test.YteamphcehoaleaaZWWords
import Derived.Test.YteamphcehoaleaaZWQPut
import Derived.Test.YteamphcehoaleaaZWTab
import Derived.Test.YteamphcehoaleaaZWApart
import Derived.Test.YteamphcehoaleaaZWZeros
import Derived.Test.YteamphcehoaleaaZWEqStruct
import Derived.Test.YteamphcehoaleaaZWRepsOne
namespace Go.Proofs.Yteamphcehoaleaa.PFE
open Go.Proofs.Yteamphcehoaleaa.PFA
open Go.RowKit Go.Proofs.YteamphcehoaleaaW.PrintWords Go.Proofs.YteamphcehoaleaaW.PrintLast Go.Proofs.YteamphcehoaleaaW.PrintMore
attribute [local go_sem] max2_int min2_int max_two min_two max_three min_three max_four min_four
set_option linter.unusedVariables false
set_option linter.unusedSimpArgs false




end Go.Proofs.Yteamphcehoaleaa.PFE

