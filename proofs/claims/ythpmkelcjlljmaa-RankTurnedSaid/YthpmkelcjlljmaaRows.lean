/-
  No cell of these rows narrows 'for every input' (looked for: loops, veiled, ifaces, maps, wideKeys, modest, calm, conditions, laid).
  DERIVED. THE GIVEN ROWS OF THIS SEAT. 7 by the template 'for every input the law returns true; each argument reads behind the call as it read before'; 0 by the template 'total and deterministic' (their statements: YthpmkelcjlljmaaTotals.lean).
  GIVEN WITH THE SEED: the statements are not yours to turn. If you find one false, say at which input.
  Laid BY PROGRAM, IN A SANDBOX (cutbox-rows.mjs): the forced cells as the released guide's own fill.sh prints them over the translation 99dedbad562b856a… (all of the seat's roots in one cut). By AI agents, Wed Nov 11 2026. No macro, syntax, notation, axiom, sorry.
-/
import Derived.Test.YthpmkelcjlljmaaChecked
import GoSem.Claim
import GoSem.ClaimJoined
import GoSem.ClaimMapViews
import Derived.JoinedTies
import Derived.KernelRfl
namespace Go.Proofs.Ythpmkelcjlljmaa
/- THE CELL 'sum', in the pinned program and in every row, IS THE sha256 OF THE DUMP (.gsa) THAT YthpmkelcjlljmaaProg.lean LOADS. Nothing in Lean hashes anything: it is a label: what it is worth is what the hold of that sum in a sandbox is worth. -/
noncomputable def Try.pinned : Pinned := { name := "ythpmkelcjlljmaa", sum := "99dedbad562b856a7e823ccf1b36671341441ef3f41ee3c453786d072840c062", checked := Try.checked }
namespace Rows
def none {H : Type} : Left H := { results := [], args := [] }

/-- 'halidelaw12.RankNames': WHATEVER THE INPUT: true; the input reads as it did. -/
def rankNamesSpec : ChangeSpec := { name := "rankNames", fn := fun _ => fun
  | [] => { results := [.lit (.bool true)], args := [] }
  | _ => none }
def rankNamesRow : OpenClaim := { program := "ythpmkelcjlljmaa", sum := "99dedbad562b856a7e823ccf1b36671341441ef3f41ee3c453786d072840c062", func := "halide/halidelaw12.RankNames", spec := "rankNames", unfollowed := true, recurses := true, apart := false }
def RankNamesSaid : Prop := rankNamesRow.holds Try.pinned (OpenSpec.ofChange rankNamesSpec)

/-- ITS FALSE NEIGHBOUR: 'it returns false'. Refute it at one input. -/
def rankNamesWrong : ChangeSpec := { name := "rankNames", fn := fun _ => fun
  | [] => { results := [.lit (.bool false)], args := [] }
  | _ => none }
def RankNamesWrongFalsely : Prop := rankNamesRow.holds Try.pinned (OpenSpec.ofChange rankNamesWrong)

/-- 'halidelaw12.RankPlane': WHATEVER THE INPUT: true; the input reads as it did. -/
def rankPlaneSpec : ChangeSpec := { name := "rankPlane", fn := fun _ => fun
  | [d1, d2, d3, d4, d5] => { results := [.lit (.bool true)], args := [d1, d2, d3, d4, d5] }
  | _ => none }
def rankPlaneRow : OpenClaim := { program := "ythpmkelcjlljmaa", sum := "99dedbad562b856a7e823ccf1b36671341441ef3f41ee3c453786d072840c062", func := "halide/halidelaw12.RankPlane", spec := "rankPlane", unfollowed := true, recurses := true, apart := false }
def RankPlaneSaid : Prop := rankPlaneRow.holds Try.pinned (OpenSpec.ofChange rankPlaneSpec)

/-- ITS FALSE NEIGHBOUR: 'it returns false'. Refute it at one input. -/
def rankPlaneWrong : ChangeSpec := { name := "rankPlane", fn := fun _ => fun
  | [d1, d2, d3, d4, d5] => { results := [.lit (.bool false)], args := [d1, d2, d3, d4, d5] }
  | _ => none }
def RankPlaneWrongFalsely : Prop := rankPlaneRow.holds Try.pinned (OpenSpec.ofChange rankPlaneWrong)

/-- 'halidelaw12.RankPart': WHATEVER THE INPUT: true; the input reads as it did. -/
def rankPartSpec : ChangeSpec := { name := "rankPart", fn := fun _ => fun
  | [d1, d2, d3, d4, d5, d6] => { results := [.lit (.bool true)], args := [d1, d2, d3, d4, d5, d6] }
  | _ => none }
def rankPartRow : OpenClaim := { program := "ythpmkelcjlljmaa", sum := "99dedbad562b856a7e823ccf1b36671341441ef3f41ee3c453786d072840c062", func := "halide/halidelaw12.RankPart", spec := "rankPart", unfollowed := true, recurses := true, apart := false }
def RankPartSaid : Prop := rankPartRow.holds Try.pinned (OpenSpec.ofChange rankPartSpec)

/-- ITS FALSE NEIGHBOUR: 'it returns false'. Refute it at one input. -/
def rankPartWrong : ChangeSpec := { name := "rankPart", fn := fun _ => fun
  | [d1, d2, d3, d4, d5, d6] => { results := [.lit (.bool false)], args := [d1, d2, d3, d4, d5, d6] }
  | _ => none }
def RankPartWrongFalsely : Prop := rankPartRow.holds Try.pinned (OpenSpec.ofChange rankPartWrong)

/-- 'halidelaw12.RankSorted': WHATEVER THE INPUT: true; the input reads as it did. -/
def rankSortedSpec : ChangeSpec := { name := "rankSorted", fn := fun _ => fun
  | [d] => { results := [.lit (.bool true)], args := [d] }
  | _ => none }
def rankSortedRow : OpenClaim := { program := "ythpmkelcjlljmaa", sum := "99dedbad562b856a7e823ccf1b36671341441ef3f41ee3c453786d072840c062", func := "halide/halidelaw12.RankSorted", spec := "rankSorted", unfollowed := true, recurses := true, apart := false }
def RankSortedSaid : Prop := rankSortedRow.holds Try.pinned (OpenSpec.ofChange rankSortedSpec)

/-- ITS FALSE NEIGHBOUR: 'it returns false'. Refute it at one input. -/
def rankSortedWrong : ChangeSpec := { name := "rankSorted", fn := fun _ => fun
  | [d] => { results := [.lit (.bool false)], args := [d] }
  | _ => none }
def RankSortedWrongFalsely : Prop := rankSortedRow.holds Try.pinned (OpenSpec.ofChange rankSortedWrong)

/-- 'halidelaw12.RankRises': WHATEVER THE INPUT: true; the input reads as it did. -/
def rankRisesSpec : ChangeSpec := { name := "rankRises", fn := fun _ => fun
  | [d1, d2, d3, d4, d5, d6, d7] => { results := [.lit (.bool true)], args := [d1, d2, d3, d4, d5, d6, d7] }
  | _ => none }
def rankRisesRow : OpenClaim := { program := "ythpmkelcjlljmaa", sum := "99dedbad562b856a7e823ccf1b36671341441ef3f41ee3c453786d072840c062", func := "halide/halidelaw12.RankRises", spec := "rankRises", unfollowed := true, recurses := true, apart := false }
def RankRisesSaid : Prop := rankRisesRow.holds Try.pinned (OpenSpec.ofChange rankRisesSpec)

/-- ITS FALSE NEIGHBOUR: 'it returns false'. Refute it at one input. -/
def rankRisesWrong : ChangeSpec := { name := "rankRises", fn := fun _ => fun
  | [d1, d2, d3, d4, d5, d6, d7] => { results := [.lit (.bool false)], args := [d1, d2, d3, d4, d5, d6, d7] }
  | _ => none }
def RankRisesWrongFalsely : Prop := rankRisesRow.holds Try.pinned (OpenSpec.ofChange rankRisesWrong)

/-- 'halidelaw12.RankTurned': WHATEVER THE INPUT: true; the input reads as it did. -/
def rankTurnedSpec : ChangeSpec := { name := "rankTurned", fn := fun _ => fun
  | [d1, d2, d3, d4, d5, d6, d7, d8] => { results := [.lit (.bool true)], args := [d1, d2, d3, d4, d5, d6, d7, d8] }
  | _ => none }
def rankTurnedRow : OpenClaim := { program := "ythpmkelcjlljmaa", sum := "99dedbad562b856a7e823ccf1b36671341441ef3f41ee3c453786d072840c062", func := "halide/halidelaw12.RankTurned", spec := "rankTurned", unfollowed := true, recurses := true, apart := false }
def RankTurnedSaid : Prop := rankTurnedRow.holds Try.pinned (OpenSpec.ofChange rankTurnedSpec)

/-- ITS FALSE NEIGHBOUR: 'it returns false'. Refute it at one input. -/
def rankTurnedWrong : ChangeSpec := { name := "rankTurned", fn := fun _ => fun
  | [d1, d2, d3, d4, d5, d6, d7, d8] => { results := [.lit (.bool false)], args := [d1, d2, d3, d4, d5, d6, d7, d8] }
  | _ => none }
def RankTurnedWrongFalsely : Prop := rankTurnedRow.holds Try.pinned (OpenSpec.ofChange rankTurnedWrong)

/-- 'halidelaw12.RankSides': WHATEVER THE INPUT: true; the input reads as it did. -/
def rankSidesSpec : ChangeSpec := { name := "rankSides", fn := fun _ => fun
  | [d1, d2, d3, d4] => { results := [.lit (.bool true)], args := [d1, d2, d3, d4] }
  | _ => none }
def rankSidesRow : OpenClaim := { program := "ythpmkelcjlljmaa", sum := "99dedbad562b856a7e823ccf1b36671341441ef3f41ee3c453786d072840c062", func := "halide/halidelaw12.RankSides", spec := "rankSides", unfollowed := true, recurses := true, apart := false }
def RankSidesSaid : Prop := rankSidesRow.holds Try.pinned (OpenSpec.ofChange rankSidesSpec)

/-- ITS FALSE NEIGHBOUR: 'it returns false'. Refute it at one input. -/
def rankSidesWrong : ChangeSpec := { name := "rankSides", fn := fun _ => fun
  | [d1, d2, d3, d4] => { results := [.lit (.bool false)], args := [d1, d2, d3, d4] }
  | _ => none }
def RankSidesWrongFalsely : Prop := rankSidesRow.holds Try.pinned (OpenSpec.ofChange rankSidesWrong)

/- THE SECOND FORM. 'bulk': how many values and letters a reading holds, each counted each time it is reached (what is shared counts as often as it is met; a slice's spare places count too). A statement '..UptoSaid' is the law's where the arguments, and the package variables that the reading takes, are together of bulk at most 1048576: NARROWER than '..Said'. Prove '..Said' where nothing that the law and all that it calls make is longer than what came in: it says more and counts as full. Else prove '..UptoSaid'. A law counts once. -/
mutual
def uptoBulk {H : Type} : DataW H → Nat
  | .lit (.string bytes) => bytes.length + 1
  | .lit _ => 1
  | .nil => 1
  | .ptr d => uptoBulk d + 1
  | .slice elems spare => uptoBulkAll elems + uptoBulkAll spare + 1
  | .agg parts => uptoBulkAll parts + 1
  | .iface _ d => uptoBulk d + 1
  | .map entries => uptoBulkEntries entries + 1
  | .held _ => 1
def uptoBulkAll {H : Type} : List (DataW H) → Nat
  | [] => 0
  | d :: r => uptoBulk d + uptoBulkAll r
def uptoBulkEntries {H : Type} : List (Lit × DataW H) → Nat
  | [] => 0
  | x :: r => uptoBulkEntry x + uptoBulkEntries r
def uptoBulkEntry {H : Type} : Lit × DataW H → Nat
  | (.string bytes, d) => bytes.length + uptoBulk d + 1
  | (_, d) => uptoBulk d + 1
 end
def uptoSmall : (H : Type) → List (DataW H) → Bool := fun _ ds => decide (uptoBulkAll ds ≤ 1048576)
def OpenSpec.upto (s : _root_.Go.ChangeSpec) : _root_.Go.OpenSpec := { _root_.Go.OpenSpec.ofChange s with cond := some uptoSmall }

/-- 'halidelaw12.RankNames', WHERE WHAT IT READS IS OF BULK AT MOST 1048576: true; the input reads as it did. -/
def rankNamesUptoRow : OpenClaim := { program := "ythpmkelcjlljmaa", sum := "99dedbad562b856a7e823ccf1b36671341441ef3f41ee3c453786d072840c062", func := "halide/halidelaw12.RankNames", spec := "rankNames", unfollowed := true, recurses := true, apart := false, narrowed := true }
def RankNamesUptoSaid : Prop := rankNamesUptoRow.holds Try.pinned (OpenSpec.upto rankNamesSpec)

/-- 'halidelaw12.RankPlane', WHERE WHAT IT READS IS OF BULK AT MOST 1048576: true; the input reads as it did. -/
def rankPlaneUptoRow : OpenClaim := { program := "ythpmkelcjlljmaa", sum := "99dedbad562b856a7e823ccf1b36671341441ef3f41ee3c453786d072840c062", func := "halide/halidelaw12.RankPlane", spec := "rankPlane", unfollowed := true, recurses := true, apart := false, narrowed := true }
def RankPlaneUptoSaid : Prop := rankPlaneUptoRow.holds Try.pinned (OpenSpec.upto rankPlaneSpec)

/-- 'halidelaw12.RankPart', WHERE WHAT IT READS IS OF BULK AT MOST 1048576: true; the input reads as it did. -/
def rankPartUptoRow : OpenClaim := { program := "ythpmkelcjlljmaa", sum := "99dedbad562b856a7e823ccf1b36671341441ef3f41ee3c453786d072840c062", func := "halide/halidelaw12.RankPart", spec := "rankPart", unfollowed := true, recurses := true, apart := false, narrowed := true }
def RankPartUptoSaid : Prop := rankPartUptoRow.holds Try.pinned (OpenSpec.upto rankPartSpec)

/-- 'halidelaw12.RankSorted', WHERE WHAT IT READS IS OF BULK AT MOST 1048576: true; the input reads as it did. -/
def rankSortedUptoRow : OpenClaim := { program := "ythpmkelcjlljmaa", sum := "99dedbad562b856a7e823ccf1b36671341441ef3f41ee3c453786d072840c062", func := "halide/halidelaw12.RankSorted", spec := "rankSorted", unfollowed := true, recurses := true, apart := false, narrowed := true }
def RankSortedUptoSaid : Prop := rankSortedUptoRow.holds Try.pinned (OpenSpec.upto rankSortedSpec)

/-- 'halidelaw12.RankRises', WHERE WHAT IT READS IS OF BULK AT MOST 1048576: true; the input reads as it did. -/
def rankRisesUptoRow : OpenClaim := { program := "ythpmkelcjlljmaa", sum := "99dedbad562b856a7e823ccf1b36671341441ef3f41ee3c453786d072840c062", func := "halide/halidelaw12.RankRises", spec := "rankRises", unfollowed := true, recurses := true, apart := false, narrowed := true }
def RankRisesUptoSaid : Prop := rankRisesUptoRow.holds Try.pinned (OpenSpec.upto rankRisesSpec)

/-- 'halidelaw12.RankTurned', WHERE WHAT IT READS IS OF BULK AT MOST 1048576: true; the input reads as it did. -/
def rankTurnedUptoRow : OpenClaim := { program := "ythpmkelcjlljmaa", sum := "99dedbad562b856a7e823ccf1b36671341441ef3f41ee3c453786d072840c062", func := "halide/halidelaw12.RankTurned", spec := "rankTurned", unfollowed := true, recurses := true, apart := false, narrowed := true }
def RankTurnedUptoSaid : Prop := rankTurnedUptoRow.holds Try.pinned (OpenSpec.upto rankTurnedSpec)

/-- 'halidelaw12.RankSides', WHERE WHAT IT READS IS OF BULK AT MOST 1048576: true; the input reads as it did. -/
def rankSidesUptoRow : OpenClaim := { program := "ythpmkelcjlljmaa", sum := "99dedbad562b856a7e823ccf1b36671341441ef3f41ee3c453786d072840c062", func := "halide/halidelaw12.RankSides", spec := "rankSides", unfollowed := true, recurses := true, apart := false, narrowed := true }
def RankSidesUptoSaid : Prop := rankSidesUptoRow.holds Try.pinned (OpenSpec.upto rankSidesSpec)

end Rows
end Go.Proofs.Ythpmkelcjlljmaa
