/-
  No cell of these rows narrows 'for every input' (looked for: loops, veiled, ifaces, maps, wideKeys, modest, calm, conditions, laid).
  DERIVED. THE GIVEN ROWS OF THIS SEAT. 7 by the template 'for every input the law returns true; each argument reads behind the call as it read before'; 0 by the template 'total and deterministic' (their statements: YtobdfiglgdbecaaTotals.lean).
  GIVEN WITH THE SEED: the statements are not yours to turn. If you find one false, say at which input.
  Laid BY PROGRAM, IN A SANDBOX (cutbox-rows.mjs): the forced cells as the released guide's own fill.sh prints them over the translation 762efe0ef85355e6… (all of the seat's roots in one cut). By AI agents, Wed Nov 11 2026. No macro, syntax, notation, axiom, sorry.
-/
import Derived.Test.YtobdfiglgdbecaaChecked
import GoSem.Claim
import GoSem.ClaimJoined
import GoSem.ClaimMapViews
import Derived.JoinedTies
import Derived.KernelRfl
namespace Go.Proofs.Ytobdfiglgdbecaa
/- THE CELL 'sum', in the pinned program and in every row, IS THE sha256 OF THE DUMP (.gsa) THAT YtobdfiglgdbecaaProg.lean LOADS. Nothing in Lean hashes anything: it is a label: what it is worth is what the hold of that sum in a sandbox is worth. -/
noncomputable def Try.pinned : Pinned := { name := "ytobdfiglgdbecaa", sum := "762efe0ef85355e63b57633df8222dbbd7266872573c3b65b75298af593a069a", checked := Try.checked }
namespace Rows
def none {H : Type} : Left H := { results := [], args := [] }

/-- 'halidelaw6.RegionMoves': WHATEVER THE INPUT: true; the input reads as it did. -/
def regionMovesSpec : ChangeSpec := { name := "regionMoves", fn := fun _ => fun
  | [d1, d2, d3, d4, d5, d6, d7] => { results := [.lit (.bool true)], args := [d1, d2, d3, d4, d5, d6, d7] }
  | _ => none }
def regionMovesRow : OpenClaim := { program := "ytobdfiglgdbecaa", sum := "762efe0ef85355e63b57633df8222dbbd7266872573c3b65b75298af593a069a", func := "halide/halidelaw6.RegionMoves", spec := "regionMoves", unfollowed := true, recurses := true, apart := false }
def RegionMovesSaid : Prop := regionMovesRow.holds Try.pinned (OpenSpec.ofChange regionMovesSpec)

/-- ITS FALSE NEIGHBOUR: 'it returns false'. Refute it at one input. -/
def regionMovesWrong : ChangeSpec := { name := "regionMoves", fn := fun _ => fun
  | [d1, d2, d3, d4, d5, d6, d7] => { results := [.lit (.bool false)], args := [d1, d2, d3, d4, d5, d6, d7] }
  | _ => none }
def RegionMovesWrongFalsely : Prop := regionMovesRow.holds Try.pinned (OpenSpec.ofChange regionMovesWrong)

/-- 'halidelaw6.RegionPuts': WHATEVER THE INPUT: true; the input reads as it did. -/
def regionPutsSpec : ChangeSpec := { name := "regionPuts", fn := fun _ => fun
  | [d1, d2] => { results := [.lit (.bool true)], args := [d1, d2] }
  | _ => none }
def regionPutsRow : OpenClaim := { program := "ytobdfiglgdbecaa", sum := "762efe0ef85355e63b57633df8222dbbd7266872573c3b65b75298af593a069a", func := "halide/halidelaw6.RegionPuts", spec := "regionPuts", unfollowed := true, recurses := true, apart := false }
def RegionPutsSaid : Prop := regionPutsRow.holds Try.pinned (OpenSpec.ofChange regionPutsSpec)

/-- ITS FALSE NEIGHBOUR: 'it returns false'. Refute it at one input. -/
def regionPutsWrong : ChangeSpec := { name := "regionPuts", fn := fun _ => fun
  | [d1, d2] => { results := [.lit (.bool false)], args := [d1, d2] }
  | _ => none }
def RegionPutsWrongFalsely : Prop := regionPutsRow.holds Try.pinned (OpenSpec.ofChange regionPutsWrong)

/-- 'halidelaw6.RegionPlaces': WHATEVER THE INPUT: true; the input reads as it did. -/
def regionPlacesSpec : ChangeSpec := { name := "regionPlaces", fn := fun _ => fun
  | [d1, d2] => { results := [.lit (.bool true)], args := [d1, d2] }
  | _ => none }
def regionPlacesRow : OpenClaim := { program := "ytobdfiglgdbecaa", sum := "762efe0ef85355e63b57633df8222dbbd7266872573c3b65b75298af593a069a", func := "halide/halidelaw6.RegionPlaces", spec := "regionPlaces", unfollowed := true, recurses := true, apart := false }
def RegionPlacesSaid : Prop := regionPlacesRow.holds Try.pinned (OpenSpec.ofChange regionPlacesSpec)

/-- ITS FALSE NEIGHBOUR: 'it returns false'. Refute it at one input. -/
def regionPlacesWrong : ChangeSpec := { name := "regionPlaces", fn := fun _ => fun
  | [d1, d2] => { results := [.lit (.bool false)], args := [d1, d2] }
  | _ => none }
def RegionPlacesWrongFalsely : Prop := regionPlacesRow.holds Try.pinned (OpenSpec.ofChange regionPlacesWrong)

/-- 'halidelaw6.RegionForms': WHATEVER THE INPUT: true; the input reads as it did. -/
def regionFormsSpec : ChangeSpec := { name := "regionForms", fn := fun _ => fun
  | [d1, d2, d3] => { results := [.lit (.bool true)], args := [d1, d2, d3] }
  | _ => none }
def regionFormsRow : OpenClaim := { program := "ytobdfiglgdbecaa", sum := "762efe0ef85355e63b57633df8222dbbd7266872573c3b65b75298af593a069a", func := "halide/halidelaw6.RegionForms", spec := "regionForms", unfollowed := true, recurses := true, apart := false }
def RegionFormsSaid : Prop := regionFormsRow.holds Try.pinned (OpenSpec.ofChange regionFormsSpec)

/-- ITS FALSE NEIGHBOUR: 'it returns false'. Refute it at one input. -/
def regionFormsWrong : ChangeSpec := { name := "regionForms", fn := fun _ => fun
  | [d1, d2, d3] => { results := [.lit (.bool false)], args := [d1, d2, d3] }
  | _ => none }
def RegionFormsWrongFalsely : Prop := regionFormsRow.holds Try.pinned (OpenSpec.ofChange regionFormsWrong)

/-- 'halidelaw6.RegionSums': WHATEVER THE INPUT: true; the input reads as it did. -/
def regionSumsSpec : ChangeSpec := { name := "regionSums", fn := fun _ => fun
  | [d1, d2, d3] => { results := [.lit (.bool true)], args := [d1, d2, d3] }
  | _ => none }
def regionSumsRow : OpenClaim := { program := "ytobdfiglgdbecaa", sum := "762efe0ef85355e63b57633df8222dbbd7266872573c3b65b75298af593a069a", func := "halide/halidelaw6.RegionSums", spec := "regionSums", unfollowed := true, recurses := true, apart := false }
def RegionSumsSaid : Prop := regionSumsRow.holds Try.pinned (OpenSpec.ofChange regionSumsSpec)

/-- ITS FALSE NEIGHBOUR: 'it returns false'. Refute it at one input. -/
def regionSumsWrong : ChangeSpec := { name := "regionSums", fn := fun _ => fun
  | [d1, d2, d3] => { results := [.lit (.bool false)], args := [d1, d2, d3] }
  | _ => none }
def RegionSumsWrongFalsely : Prop := regionSumsRow.holds Try.pinned (OpenSpec.ofChange regionSumsWrong)

/-- 'halidelaw6.RegionGrows': WHATEVER THE INPUT: true; the input reads as it did. -/
def regionGrowsSpec : ChangeSpec := { name := "regionGrows", fn := fun _ => fun
  | [d1, d2, d3, d4, d5, d6, d7, d8] => { results := [.lit (.bool true)], args := [d1, d2, d3, d4, d5, d6, d7, d8] }
  | _ => none }
def regionGrowsRow : OpenClaim := { program := "ytobdfiglgdbecaa", sum := "762efe0ef85355e63b57633df8222dbbd7266872573c3b65b75298af593a069a", func := "halide/halidelaw6.RegionGrows", spec := "regionGrows", unfollowed := true, recurses := true, apart := false }
def RegionGrowsSaid : Prop := regionGrowsRow.holds Try.pinned (OpenSpec.ofChange regionGrowsSpec)

/-- ITS FALSE NEIGHBOUR: 'it returns false'. Refute it at one input. -/
def regionGrowsWrong : ChangeSpec := { name := "regionGrows", fn := fun _ => fun
  | [d1, d2, d3, d4, d5, d6, d7, d8] => { results := [.lit (.bool false)], args := [d1, d2, d3, d4, d5, d6, d7, d8] }
  | _ => none }
def RegionGrowsWrongFalsely : Prop := regionGrowsRow.holds Try.pinned (OpenSpec.ofChange regionGrowsWrong)

/-- 'halidelaw6.RegionTells': WHATEVER THE INPUT: true; the input reads as it did. -/
def regionTellsSpec : ChangeSpec := { name := "regionTells", fn := fun _ => fun
  | [d1, d2, d3, d4] => { results := [.lit (.bool true)], args := [d1, d2, d3, d4] }
  | _ => none }
def regionTellsRow : OpenClaim := { program := "ytobdfiglgdbecaa", sum := "762efe0ef85355e63b57633df8222dbbd7266872573c3b65b75298af593a069a", func := "halide/halidelaw6.RegionTells", spec := "regionTells", unfollowed := true, recurses := true, apart := false }
def RegionTellsSaid : Prop := regionTellsRow.holds Try.pinned (OpenSpec.ofChange regionTellsSpec)

/-- ITS FALSE NEIGHBOUR: 'it returns false'. Refute it at one input. -/
def regionTellsWrong : ChangeSpec := { name := "regionTells", fn := fun _ => fun
  | [d1, d2, d3, d4] => { results := [.lit (.bool false)], args := [d1, d2, d3, d4] }
  | _ => none }
def RegionTellsWrongFalsely : Prop := regionTellsRow.holds Try.pinned (OpenSpec.ofChange regionTellsWrong)

/- THE SECOND FORM. 'bulk': how many values and letters a reading holds, each counted each time it is reached (what is shared counts as often as it is met; a slice's spare places count too). A statement '..UptoSaid' is the law's where the arguments, and the package variables that the reading takes, are together of bulk at most 1048576: NARROWER than '..Said'. Prove '..Said' where nothing that the law and all that it calls make is longer than what came in: it says more and counts as full. Else prove '..UptoSaid'. A law counts once. -/
mutual
def uptoBulk {H : Type} : DataW H → Nat
  | .lit (.string bytes) => bytes.length + 1
  | .lit _ => 1
  | .nil => 1
  | .ptr d => uptoBulk d + 1
  | .slice elems spare => uptoBulkAll elems + uptoBulkAll spare + 1
  | .agg parts => uptoBulkAll parts + 1
  | .iface _ d => uptoBulk d + 1
  | .map entries => uptoBulkEntries entries + 1
  | .held _ => 1
def uptoBulkAll {H : Type} : List (DataW H) → Nat
  | [] => 0
  | d :: r => uptoBulk d + uptoBulkAll r
def uptoBulkEntries {H : Type} : List (Lit × DataW H) → Nat
  | [] => 0
  | x :: r => uptoBulkEntry x + uptoBulkEntries r
def uptoBulkEntry {H : Type} : Lit × DataW H → Nat
  | (.string bytes, d) => bytes.length + uptoBulk d + 1
  | (_, d) => uptoBulk d + 1
 end
def uptoSmall : (H : Type) → List (DataW H) → Bool := fun _ ds => decide (uptoBulkAll ds ≤ 1048576)
def OpenSpec.upto (s : _root_.Go.ChangeSpec) : _root_.Go.OpenSpec := { _root_.Go.OpenSpec.ofChange s with cond := some uptoSmall }

/-- 'halidelaw6.RegionMoves', WHERE WHAT IT READS IS OF BULK AT MOST 1048576: true; the input reads as it did. -/
def regionMovesUptoRow : OpenClaim := { program := "ytobdfiglgdbecaa", sum := "762efe0ef85355e63b57633df8222dbbd7266872573c3b65b75298af593a069a", func := "halide/halidelaw6.RegionMoves", spec := "regionMoves", unfollowed := true, recurses := true, apart := false, narrowed := true }
def RegionMovesUptoSaid : Prop := regionMovesUptoRow.holds Try.pinned (OpenSpec.upto regionMovesSpec)

/-- 'halidelaw6.RegionPuts', WHERE WHAT IT READS IS OF BULK AT MOST 1048576: true; the input reads as it did. -/
def regionPutsUptoRow : OpenClaim := { program := "ytobdfiglgdbecaa", sum := "762efe0ef85355e63b57633df8222dbbd7266872573c3b65b75298af593a069a", func := "halide/halidelaw6.RegionPuts", spec := "regionPuts", unfollowed := true, recurses := true, apart := false, narrowed := true }
def RegionPutsUptoSaid : Prop := regionPutsUptoRow.holds Try.pinned (OpenSpec.upto regionPutsSpec)

/-- 'halidelaw6.RegionPlaces', WHERE WHAT IT READS IS OF BULK AT MOST 1048576: true; the input reads as it did. -/
def regionPlacesUptoRow : OpenClaim := { program := "ytobdfiglgdbecaa", sum := "762efe0ef85355e63b57633df8222dbbd7266872573c3b65b75298af593a069a", func := "halide/halidelaw6.RegionPlaces", spec := "regionPlaces", unfollowed := true, recurses := true, apart := false, narrowed := true }
def RegionPlacesUptoSaid : Prop := regionPlacesUptoRow.holds Try.pinned (OpenSpec.upto regionPlacesSpec)

/-- 'halidelaw6.RegionForms', WHERE WHAT IT READS IS OF BULK AT MOST 1048576: true; the input reads as it did. -/
def regionFormsUptoRow : OpenClaim := { program := "ytobdfiglgdbecaa", sum := "762efe0ef85355e63b57633df8222dbbd7266872573c3b65b75298af593a069a", func := "halide/halidelaw6.RegionForms", spec := "regionForms", unfollowed := true, recurses := true, apart := false, narrowed := true }
def RegionFormsUptoSaid : Prop := regionFormsUptoRow.holds Try.pinned (OpenSpec.upto regionFormsSpec)

/-- 'halidelaw6.RegionSums', WHERE WHAT IT READS IS OF BULK AT MOST 1048576: true; the input reads as it did. -/
def regionSumsUptoRow : OpenClaim := { program := "ytobdfiglgdbecaa", sum := "762efe0ef85355e63b57633df8222dbbd7266872573c3b65b75298af593a069a", func := "halide/halidelaw6.RegionSums", spec := "regionSums", unfollowed := true, recurses := true, apart := false, narrowed := true }
def RegionSumsUptoSaid : Prop := regionSumsUptoRow.holds Try.pinned (OpenSpec.upto regionSumsSpec)

/-- 'halidelaw6.RegionGrows', WHERE WHAT IT READS IS OF BULK AT MOST 1048576: true; the input reads as it did. -/
def regionGrowsUptoRow : OpenClaim := { program := "ytobdfiglgdbecaa", sum := "762efe0ef85355e63b57633df8222dbbd7266872573c3b65b75298af593a069a", func := "halide/halidelaw6.RegionGrows", spec := "regionGrows", unfollowed := true, recurses := true, apart := false, narrowed := true }
def RegionGrowsUptoSaid : Prop := regionGrowsUptoRow.holds Try.pinned (OpenSpec.upto regionGrowsSpec)

/-- 'halidelaw6.RegionTells', WHERE WHAT IT READS IS OF BULK AT MOST 1048576: true; the input reads as it did. -/
def regionTellsUptoRow : OpenClaim := { program := "ytobdfiglgdbecaa", sum := "762efe0ef85355e63b57633df8222dbbd7266872573c3b65b75298af593a069a", func := "halide/halidelaw6.RegionTells", spec := "regionTells", unfollowed := true, recurses := true, apart := false, narrowed := true }
def RegionTellsUptoSaid : Prop := regionTellsUptoRow.holds Try.pinned (OpenSpec.upto regionTellsSpec)

end Rows
end Go.Proofs.Ytobdfiglgdbecaa
