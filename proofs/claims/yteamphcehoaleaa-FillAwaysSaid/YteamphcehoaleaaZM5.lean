import Derived.Test.YteamphcehoaleaaZM3
import Derived.Test.YteamphcehoaleaaZEG
set_option linter.unusedVariables false
set_option linter.unusedSimpArgs false
open Go Go.RowKit Go.Proofs.YteamphcehoaleaaW.PrintWords
namespace Go.Proofs.Yteamphcehoaleaa
open PFA FM
namespace FM
end FM
def inM (l : List Bool) (k : Nat) : Prop := k < l.length ∧ l.getD k false = true
end Go.Proofs.Yteamphcehoaleaa

