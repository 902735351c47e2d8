import Derived.Test.YteamphcehoaleaaZM2
import Derived.Test.YteamphcehoaleaaZPT
import Derived.Test.YteamphcehoaleaaZFL
set_option linter.unusedVariables false
set_option linter.unusedSimpArgs false
open Go Go.RowKit Go.Proofs.YteamphcehoaleaaW.PrintWords
namespace Go.Proofs.Yteamphcehoaleaa
open PFA FM
namespace FM
end FM
theorem i64_small (p : Nat) (h : p ≤ 65536) : wrap64 (p : Int) = (p : Int) := by unfold wrap64; omega
end Go.Proofs.Yteamphcehoaleaa

