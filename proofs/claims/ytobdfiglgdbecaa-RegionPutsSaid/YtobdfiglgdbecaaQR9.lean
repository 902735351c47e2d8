import Derived.Test.YtobdfiglgdbecaaQV6
import Derived.Test.YtobdfiglgdbecaaQR8
section
set_option linter.unusedVariables false
set_option linter.unusedSimpArgs false
open Go Go.RowKit Go.Proofs.YtobdfiglgdbecaaW.PrintWords Go.Proofs.YtobdfiglgdbecaaW.PrintMore
namespace Go.Proofs.Ytobdfiglgdbecaa
open PGA PGB PGH PGK
namespace RG
end RG
namespace VR
open RG (cov rightP twoP flat sweepP movedP growP shiftP toldP)
end VR
end Go.Proofs.Ytobdfiglgdbecaa
end
section
set_option linter.unusedVariables false
set_option linter.unusedSectionVars false
set_option linter.unusedSimpArgs false
open Go Go.RowKit Go.Proofs.YtobdfiglgdbecaaW.PrintWords Go.Proofs.YtobdfiglgdbecaaW.PrintMore
namespace Go.Proofs.Ytobdfiglgdbecaa
open PGA PGB PGH PGK PGI PGR
namespace RG
end RG
namespace VR
open RG (flat sweepP buildP cov)
section
variable {a d : List S58} (h1 : Ord d a) (la : a.length ≤ 4096) (na : ∀ r ∈ a.map rc, RG.some1 r = true → RG.near4 r = true) (C : List Int) (hC : C.length ≤ 20000) (bC : ∀ z ∈ C, -8192 ≤ z ∧ z ≤ 8192)
include h1 la na hC bC
end
end VR
end Go.Proofs.Ytobdfiglgdbecaa
end
