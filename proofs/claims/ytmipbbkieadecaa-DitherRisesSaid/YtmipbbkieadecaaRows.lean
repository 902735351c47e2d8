/-
  No cell of these rows narrows 'for every input' (looked for: loops, veiled, ifaces, maps, wideKeys, modest, calm, conditions, laid).
  DERIVED. THE GIVEN ROWS OF THIS SEAT. 7 by the template 'for every input the law returns true; each argument reads behind the call as it read before'; 0 by the template 'total and deterministic' (their statements: YtmipbbkieadecaaTotals.lean).
  GIVEN WITH THE SEED: the statements are not yours to turn. If you find one false, say at which input.
  Laid BY PROGRAM, IN A SANDBOX (cutbox-rows.mjs): the forced cells as the released guide's own fill.sh prints them over the translation 03272e7587621806… (all of the seat's roots in one cut). By AI agents, Wed Nov 11 2026. No macro, syntax, notation, axiom, sorry.
-/
import Derived.Test.YtmipbbkieadecaaChecked
import GoSem.Claim
import GoSem.ClaimJoined
import GoSem.ClaimMapViews
import Derived.JoinedTies
import Derived.KernelRfl
namespace Go.Proofs.Ytmipbbkieadecaa
/- THE CELL 'sum', in the pinned program and in every row, IS THE sha256 OF THE DUMP (.gsa) THAT YtmipbbkieadecaaProg.lean LOADS. Nothing in Lean hashes anything: it is a label: what it is worth is what the hold of that sum in a sandbox is worth. -/
noncomputable def Try.pinned : Pinned := { name := "ytmipbbkieadecaa", sum := "03272e7587621806882e57d93989921194cacbb2966b01e7f94e77a9cd360aa7", checked := Try.checked }
namespace Rows
def none {H : Type} : Left H := { results := [], args := [] }

/-- 'halidelaw13.DitherTables': WHATEVER THE INPUT: true; the input reads as it did. -/
def ditherTablesSpec : ChangeSpec := { name := "ditherTables", fn := fun _ => fun
  | [d] => { results := [.lit (.bool true)], args := [d] }
  | _ => none }
def ditherTablesRow : OpenClaim := { program := "ytmipbbkieadecaa", sum := "03272e7587621806882e57d93989921194cacbb2966b01e7f94e77a9cd360aa7", func := "halide/halidelaw13.DitherTables", spec := "ditherTables", inPlace := ["math.Float32bits", "math.Float32frombits", "math.RoundToEven"], unfollowed := true, recurses := true, apart := false }
def DitherTablesSaid : Prop := ditherTablesRow.holds Try.pinned (OpenSpec.ofChange ditherTablesSpec)

/-- ITS FALSE NEIGHBOUR: 'it returns false'. Refute it at one input. -/
def ditherTablesWrong : ChangeSpec := { name := "ditherTables", fn := fun _ => fun
  | [d] => { results := [.lit (.bool false)], args := [d] }
  | _ => none }
def DitherTablesWrongFalsely : Prop := ditherTablesRow.holds Try.pinned (OpenSpec.ofChange ditherTablesWrong)

/-- 'halidelaw13.DitherOrdered': WHATEVER THE INPUT: true; the input reads as it did. -/
def ditherOrderedSpec : ChangeSpec := { name := "ditherOrdered", fn := fun _ => fun
  | [d1, d2, d3, d4, d5] => { results := [.lit (.bool true)], args := [d1, d2, d3, d4, d5] }
  | _ => none }
def ditherOrderedRow : OpenClaim := { program := "ytmipbbkieadecaa", sum := "03272e7587621806882e57d93989921194cacbb2966b01e7f94e77a9cd360aa7", func := "halide/halidelaw13.DitherOrdered", spec := "ditherOrdered", inPlace := ["math.Float32bits", "math.Float32frombits", "math.RoundToEven"], unfollowed := true, recurses := true, apart := false }
def DitherOrderedSaid : Prop := ditherOrderedRow.holds Try.pinned (OpenSpec.ofChange ditherOrderedSpec)

/-- ITS FALSE NEIGHBOUR: 'it returns false'. Refute it at one input. -/
def ditherOrderedWrong : ChangeSpec := { name := "ditherOrdered", fn := fun _ => fun
  | [d1, d2, d3, d4, d5] => { results := [.lit (.bool false)], args := [d1, d2, d3, d4, d5] }
  | _ => none }
def DitherOrderedWrongFalsely : Prop := ditherOrderedRow.holds Try.pinned (OpenSpec.ofChange ditherOrderedWrong)

/-- 'halidelaw13.DitherKeeps': WHATEVER THE INPUT: true; the input reads as it did. -/
def ditherKeepsSpec : ChangeSpec := { name := "ditherKeeps", fn := fun _ => fun
  | [d1, d2] => { results := [.lit (.bool true)], args := [d1, d2] }
  | _ => none }
def ditherKeepsRow : OpenClaim := { program := "ytmipbbkieadecaa", sum := "03272e7587621806882e57d93989921194cacbb2966b01e7f94e77a9cd360aa7", func := "halide/halidelaw13.DitherKeeps", spec := "ditherKeeps", inPlace := ["math.Float32bits", "math.Float32frombits", "math.RoundToEven"], unfollowed := true, recurses := true, apart := false }
def DitherKeepsSaid : Prop := ditherKeepsRow.holds Try.pinned (OpenSpec.ofChange ditherKeepsSpec)

/-- ITS FALSE NEIGHBOUR: 'it returns false'. Refute it at one input. -/
def ditherKeepsWrong : ChangeSpec := { name := "ditherKeeps", fn := fun _ => fun
  | [d1, d2] => { results := [.lit (.bool false)], args := [d1, d2] }
  | _ => none }
def DitherKeepsWrongFalsely : Prop := ditherKeepsRow.holds Try.pinned (OpenSpec.ofChange ditherKeepsWrong)

/-- 'halidelaw13.DitherPieces': WHATEVER THE INPUT: true; the input reads as it did. -/
def ditherPiecesSpec : ChangeSpec := { name := "ditherPieces", fn := fun _ => fun
  | [d1, d2, d3, d4, d5, d6] => { results := [.lit (.bool true)], args := [d1, d2, d3, d4, d5, d6] }
  | _ => none }
def ditherPiecesRow : OpenClaim := { program := "ytmipbbkieadecaa", sum := "03272e7587621806882e57d93989921194cacbb2966b01e7f94e77a9cd360aa7", func := "halide/halidelaw13.DitherPieces", spec := "ditherPieces", inPlace := ["math.Float32bits", "math.Float32frombits", "math.RoundToEven"], unfollowed := true, recurses := true, apart := false }
def DitherPiecesSaid : Prop := ditherPiecesRow.holds Try.pinned (OpenSpec.ofChange ditherPiecesSpec)

/-- ITS FALSE NEIGHBOUR: 'it returns false'. Refute it at one input. -/
def ditherPiecesWrong : ChangeSpec := { name := "ditherPieces", fn := fun _ => fun
  | [d1, d2, d3, d4, d5, d6] => { results := [.lit (.bool false)], args := [d1, d2, d3, d4, d5, d6] }
  | _ => none }
def DitherPiecesWrongFalsely : Prop := ditherPiecesRow.holds Try.pinned (OpenSpec.ofChange ditherPiecesWrong)

/-- 'halidelaw13.DitherRises': WHATEVER THE INPUT: true; the input reads as it did. -/
def ditherRisesSpec : ChangeSpec := { name := "ditherRises", fn := fun _ => fun
  | [d1, d2, d3, d4, d5, d6] => { results := [.lit (.bool true)], args := [d1, d2, d3, d4, d5, d6] }
  | _ => none }
def ditherRisesRow : OpenClaim := { program := "ytmipbbkieadecaa", sum := "03272e7587621806882e57d93989921194cacbb2966b01e7f94e77a9cd360aa7", func := "halide/halidelaw13.DitherRises", spec := "ditherRises", inPlace := ["math.Float32bits", "math.Float32frombits", "math.RoundToEven"], unfollowed := true, recurses := true, apart := false }
def DitherRisesSaid : Prop := ditherRisesRow.holds Try.pinned (OpenSpec.ofChange ditherRisesSpec)

/-- ITS FALSE NEIGHBOUR: 'it returns false'. Refute it at one input. -/
def ditherRisesWrong : ChangeSpec := { name := "ditherRises", fn := fun _ => fun
  | [d1, d2, d3, d4, d5, d6] => { results := [.lit (.bool false)], args := [d1, d2, d3, d4, d5, d6] }
  | _ => none }
def DitherRisesWrongFalsely : Prop := ditherRisesRow.holds Try.pinned (OpenSpec.ofChange ditherRisesWrong)

/-- 'halidelaw13.DitherDiffuses': WHATEVER THE INPUT: true; the input reads as it did. -/
def ditherDiffusesSpec : ChangeSpec := { name := "ditherDiffuses", fn := fun _ => fun
  | [d1, d2, d3] => { results := [.lit (.bool true)], args := [d1, d2, d3] }
  | _ => none }
def ditherDiffusesRow : OpenClaim := { program := "ytmipbbkieadecaa", sum := "03272e7587621806882e57d93989921194cacbb2966b01e7f94e77a9cd360aa7", func := "halide/halidelaw13.DitherDiffuses", spec := "ditherDiffuses", inPlace := ["math.Float32bits", "math.Float32frombits", "math.RoundToEven"], unfollowed := true, recurses := true, apart := false }
def DitherDiffusesSaid : Prop := ditherDiffusesRow.holds Try.pinned (OpenSpec.ofChange ditherDiffusesSpec)

/-- ITS FALSE NEIGHBOUR: 'it returns false'. Refute it at one input. -/
def ditherDiffusesWrong : ChangeSpec := { name := "ditherDiffuses", fn := fun _ => fun
  | [d1, d2, d3] => { results := [.lit (.bool false)], args := [d1, d2, d3] }
  | _ => none }
def DitherDiffusesWrongFalsely : Prop := ditherDiffusesRow.holds Try.pinned (OpenSpec.ofChange ditherDiffusesWrong)

/-- 'halidelaw13.DitherLevels': WHATEVER THE INPUT: true; the input reads as it did. -/
def ditherLevelsSpec : ChangeSpec := { name := "ditherLevels", fn := fun _ => fun
  | [d1, d2, d3, d4] => { results := [.lit (.bool true)], args := [d1, d2, d3, d4] }
  | _ => none }
def ditherLevelsRow : OpenClaim := { program := "ytmipbbkieadecaa", sum := "03272e7587621806882e57d93989921194cacbb2966b01e7f94e77a9cd360aa7", func := "halide/halidelaw13.DitherLevels", spec := "ditherLevels", inPlace := ["math.Float32bits", "math.Float32frombits", "math.RoundToEven"], unfollowed := true, recurses := true, apart := false }
def DitherLevelsSaid : Prop := ditherLevelsRow.holds Try.pinned (OpenSpec.ofChange ditherLevelsSpec)

/-- ITS FALSE NEIGHBOUR: 'it returns false'. Refute it at one input. -/
def ditherLevelsWrong : ChangeSpec := { name := "ditherLevels", fn := fun _ => fun
  | [d1, d2, d3, d4] => { results := [.lit (.bool false)], args := [d1, d2, d3, d4] }
  | _ => none }
def DitherLevelsWrongFalsely : Prop := ditherLevelsRow.holds Try.pinned (OpenSpec.ofChange ditherLevelsWrong)

/- THE SECOND FORM. 'bulk': how many values and letters a reading holds, each counted each time it is reached (what is shared counts as often as it is met; a slice's spare places count too). A statement '..UptoSaid' is the law's where the arguments, and the package variables that the reading takes, are together of bulk at most 1048576: NARROWER than '..Said'. Prove '..Said' where nothing that the law and all that it calls make is longer than what came in: it says more and counts as full. Else prove '..UptoSaid'. A law counts once. -/
mutual
def uptoBulk {H : Type} : DataW H → Nat
  | .lit (.string bytes) => bytes.length + 1
  | .lit _ => 1
  | .nil => 1
  | .ptr d => uptoBulk d + 1
  | .slice elems spare => uptoBulkAll elems + uptoBulkAll spare + 1
  | .agg parts => uptoBulkAll parts + 1
  | .iface _ d => uptoBulk d + 1
  | .map entries => uptoBulkEntries entries + 1
  | .held _ => 1
def uptoBulkAll {H : Type} : List (DataW H) → Nat
  | [] => 0
  | d :: r => uptoBulk d + uptoBulkAll r
def uptoBulkEntries {H : Type} : List (Lit × DataW H) → Nat
  | [] => 0
  | x :: r => uptoBulkEntry x + uptoBulkEntries r
def uptoBulkEntry {H : Type} : Lit × DataW H → Nat
  | (.string bytes, d) => bytes.length + uptoBulk d + 1
  | (_, d) => uptoBulk d + 1
 end
def uptoSmall : (H : Type) → List (DataW H) → Bool := fun _ ds => decide (uptoBulkAll ds ≤ 1048576)
def OpenSpec.upto (s : _root_.Go.ChangeSpec) : _root_.Go.OpenSpec := { _root_.Go.OpenSpec.ofChange s with cond := some uptoSmall }

/-- 'halidelaw13.DitherTables', WHERE WHAT IT READS IS OF BULK AT MOST 1048576: true; the input reads as it did. -/
def ditherTablesUptoRow : OpenClaim := { program := "ytmipbbkieadecaa", sum := "03272e7587621806882e57d93989921194cacbb2966b01e7f94e77a9cd360aa7", func := "halide/halidelaw13.DitherTables", spec := "ditherTables", inPlace := ["math.Float32bits", "math.Float32frombits", "math.RoundToEven"], unfollowed := true, recurses := true, apart := false, narrowed := true }
def DitherTablesUptoSaid : Prop := ditherTablesUptoRow.holds Try.pinned (OpenSpec.upto ditherTablesSpec)

/-- 'halidelaw13.DitherOrdered', WHERE WHAT IT READS IS OF BULK AT MOST 1048576: true; the input reads as it did. -/
def ditherOrderedUptoRow : OpenClaim := { program := "ytmipbbkieadecaa", sum := "03272e7587621806882e57d93989921194cacbb2966b01e7f94e77a9cd360aa7", func := "halide/halidelaw13.DitherOrdered", spec := "ditherOrdered", inPlace := ["math.Float32bits", "math.Float32frombits", "math.RoundToEven"], unfollowed := true, recurses := true, apart := false, narrowed := true }
def DitherOrderedUptoSaid : Prop := ditherOrderedUptoRow.holds Try.pinned (OpenSpec.upto ditherOrderedSpec)

/-- 'halidelaw13.DitherKeeps', WHERE WHAT IT READS IS OF BULK AT MOST 1048576: true; the input reads as it did. -/
def ditherKeepsUptoRow : OpenClaim := { program := "ytmipbbkieadecaa", sum := "03272e7587621806882e57d93989921194cacbb2966b01e7f94e77a9cd360aa7", func := "halide/halidelaw13.DitherKeeps", spec := "ditherKeeps", inPlace := ["math.Float32bits", "math.Float32frombits", "math.RoundToEven"], unfollowed := true, recurses := true, apart := false, narrowed := true }
def DitherKeepsUptoSaid : Prop := ditherKeepsUptoRow.holds Try.pinned (OpenSpec.upto ditherKeepsSpec)

/-- 'halidelaw13.DitherPieces', WHERE WHAT IT READS IS OF BULK AT MOST 1048576: true; the input reads as it did. -/
def ditherPiecesUptoRow : OpenClaim := { program := "ytmipbbkieadecaa", sum := "03272e7587621806882e57d93989921194cacbb2966b01e7f94e77a9cd360aa7", func := "halide/halidelaw13.DitherPieces", spec := "ditherPieces", inPlace := ["math.Float32bits", "math.Float32frombits", "math.RoundToEven"], unfollowed := true, recurses := true, apart := false, narrowed := true }
def DitherPiecesUptoSaid : Prop := ditherPiecesUptoRow.holds Try.pinned (OpenSpec.upto ditherPiecesSpec)

/-- 'halidelaw13.DitherRises', WHERE WHAT IT READS IS OF BULK AT MOST 1048576: true; the input reads as it did. -/
def ditherRisesUptoRow : OpenClaim := { program := "ytmipbbkieadecaa", sum := "03272e7587621806882e57d93989921194cacbb2966b01e7f94e77a9cd360aa7", func := "halide/halidelaw13.DitherRises", spec := "ditherRises", inPlace := ["math.Float32bits", "math.Float32frombits", "math.RoundToEven"], unfollowed := true, recurses := true, apart := false, narrowed := true }
def DitherRisesUptoSaid : Prop := ditherRisesUptoRow.holds Try.pinned (OpenSpec.upto ditherRisesSpec)

/-- 'halidelaw13.DitherDiffuses', WHERE WHAT IT READS IS OF BULK AT MOST 1048576: true; the input reads as it did. -/
def ditherDiffusesUptoRow : OpenClaim := { program := "ytmipbbkieadecaa", sum := "03272e7587621806882e57d93989921194cacbb2966b01e7f94e77a9cd360aa7", func := "halide/halidelaw13.DitherDiffuses", spec := "ditherDiffuses", inPlace := ["math.Float32bits", "math.Float32frombits", "math.RoundToEven"], unfollowed := true, recurses := true, apart := false, narrowed := true }
def DitherDiffusesUptoSaid : Prop := ditherDiffusesUptoRow.holds Try.pinned (OpenSpec.upto ditherDiffusesSpec)

/-- 'halidelaw13.DitherLevels', WHERE WHAT IT READS IS OF BULK AT MOST 1048576: true; the input reads as it did. -/
def ditherLevelsUptoRow : OpenClaim := { program := "ytmipbbkieadecaa", sum := "03272e7587621806882e57d93989921194cacbb2966b01e7f94e77a9cd360aa7", func := "halide/halidelaw13.DitherLevels", spec := "ditherLevels", inPlace := ["math.Float32bits", "math.Float32frombits", "math.RoundToEven"], unfollowed := true, recurses := true, apart := false, narrowed := true }
def DitherLevelsUptoSaid : Prop := ditherLevelsUptoRow.holds Try.pinned (OpenSpec.upto ditherLevelsSpec)

end Rows
end Go.Proofs.Ytmipbbkieadecaa
