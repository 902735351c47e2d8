/- known() of chapter 13's statements: its numbers, by evaluation. -/
import Derived.Test.YtmipbbkieadecaaPDKx1
open Go Go.RowKit Go.Proofs.YtmipbbkieadecaaW.PrintWords
namespace Go.Proofs.Ytmipbbkieadecaa
set_option maxRecDepth 100000 in
theorem known_true : PDK.halidelaw13_known.f 320 = some true := by decide +kernel
end Go.Proofs.Ytmipbbkieadecaa
