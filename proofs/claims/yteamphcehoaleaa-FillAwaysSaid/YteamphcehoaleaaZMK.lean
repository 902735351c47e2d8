import Derived.Test.YteamphcehoaleaaZM3
import Derived.Test.YteamphcehoaleaaZPFKx2
set_option linter.unusedVariables false
set_option linter.unusedSimpArgs false
open Go Go.RowKit Go.Proofs.YteamphcehoaleaaW.PrintWords
namespace Go.Proofs.Yteamphcehoaleaa
open PFA PFK
set_option maxRecDepth 100000 in
theorem known_true : Ev (fun k => Aj.f k) true := Ev.of Aj.mono (k := 60) (by decide +kernel)
end Go.Proofs.Yteamphcehoaleaa

