import Derived.Test.YtbfimplajocmmaaYPFKx2
set_option linter.unusedVariables false
set_option linter.unusedSimpArgs false
open Go Go.RowKit Go.Proofs.YtbfimplajocmmaaW.PrintWords
namespace Go.Proofs.Ytbfimplajocmmaa
open PFA PFK
set_option maxRecDepth 100000 in
theorem known_true : Ev (fun k => Ao.f k) true := Ev.of Ao.mono (k := 60) (by decide +kernel)
end Go.Proofs.Ytbfimplajocmmaa


