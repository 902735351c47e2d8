import Derived.Test.YthpmkelcjlljmaaXRM0
open Go Go.RowKit
set_option linter.unusedVariables false
set_option linter.unusedSimpArgs false
namespace Go.Proofs.Ythpmkelcjlljmaa

def U32 (l : List Int) : Prop := ∀ s ∈ l, 0 ≤ s ∧ s < 4294967296
theorem isrt_length (l : List Int) : (isrt l).length = l.length := (isrt_perm l).length_eq
end Go.Proofs.Ythpmkelcjlljmaa

