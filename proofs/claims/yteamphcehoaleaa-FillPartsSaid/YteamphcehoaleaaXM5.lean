import Derived.Test.YteamphcehoaleaaXM3
import Derived.Test.YteamphcehoaleaaXEG
set_option linter.unusedVariables false
set_option linter.unusedSimpArgs false
open Go Go.RowKit Go.Proofs.YteamphcehoaleaaW.PrintWords
namespace Go.Proofs.Yteamphcehoaleaa
open PFA FM
namespace FM
end FM
end Go.Proofs.Yteamphcehoaleaa

