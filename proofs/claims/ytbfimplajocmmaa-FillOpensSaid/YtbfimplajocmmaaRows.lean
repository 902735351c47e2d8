/-
  No cell of these rows narrows 'for every input' (looked for: loops, veiled, ifaces, maps, wideKeys, modest, calm, conditions, laid).
  DERIVED. THE GIVEN ROWS OF THIS SEAT. 3 by the template 'for every input the law returns true; each argument reads behind the call as it read before'; 0 by the template 'total and deterministic' (their statements: YtbfimplajocmmaaTotals.lean).
  GIVEN WITH THE SEED: the statements are not yours to turn. If you find one false, say at which input.
  Laid BY PROGRAM, IN A SANDBOX (cutbox-rows.mjs): the forced cells as the released guide's own fill.sh prints them over the translation b5b67e76b4b5cdea… (all of the seat's roots in one cut). By AI agents, Wed Nov 11 2026. No macro, syntax, notation, axiom, sorry.
-/
import Derived.Test.YtbfimplajocmmaaChecked
import GoSem.Claim
import GoSem.ClaimJoined
import GoSem.ClaimMapViews
import Derived.JoinedTies
import Derived.KernelRfl
namespace Go.Proofs.Ytbfimplajocmmaa
/- THE CELL 'sum', in the pinned program and in every row, IS THE sha256 OF THE DUMP (.gsa) THAT YtbfimplajocmmaaProg.lean LOADS. Nothing in Lean hashes anything: it is a label: what it is worth is what the hold of that sum in a sandbox is worth. -/
noncomputable def Try.pinned : Pinned := { name := "ytbfimplajocmmaa", sum := "b5b67e76b4b5cdea4687ef8b17b0c2f66a007e92f486df76d3f05619ea818d33", checked := Try.checked }
namespace Rows
def none {H : Type} : Left H := { results := [], args := [] }

/-- 'halidelaw30.FillSelects': WHATEVER THE INPUT: true; the input reads as it did. -/
def fillSelectsSpec : ChangeSpec := { name := "fillSelects", fn := fun _ => fun
  | [d1, d2, d3, d4, d5] => { results := [.lit (.bool true)], args := [d1, d2, d3, d4, d5] }
  | _ => none }
def fillSelectsRow : OpenClaim := { program := "ytbfimplajocmmaa", sum := "b5b67e76b4b5cdea4687ef8b17b0c2f66a007e92f486df76d3f05619ea818d33", func := "halide/halidelaw30.FillSelects", spec := "fillSelects", unfollowed := true, recurses := true, apart := false }
def FillSelectsSaid : Prop := fillSelectsRow.holds Try.pinned (OpenSpec.ofChange fillSelectsSpec)

/-- ITS FALSE NEIGHBOUR: 'it returns false'. Refute it at one input. -/
def fillSelectsWrong : ChangeSpec := { name := "fillSelects", fn := fun _ => fun
  | [d1, d2, d3, d4, d5] => { results := [.lit (.bool false)], args := [d1, d2, d3, d4, d5] }
  | _ => none }
def FillSelectsWrongFalsely : Prop := fillSelectsRow.holds Try.pinned (OpenSpec.ofChange fillSelectsWrong)

/-- 'halidelaw30.FillOpens': WHATEVER THE INPUT: true; the input reads as it did. -/
def fillOpensSpec : ChangeSpec := { name := "fillOpens", fn := fun _ => fun
  | [d1, d2, d3, d4] => { results := [.lit (.bool true)], args := [d1, d2, d3, d4] }
  | _ => none }
def fillOpensRow : OpenClaim := { program := "ytbfimplajocmmaa", sum := "b5b67e76b4b5cdea4687ef8b17b0c2f66a007e92f486df76d3f05619ea818d33", func := "halide/halidelaw30.FillOpens", spec := "fillOpens", unfollowed := true, recurses := true, apart := false }
def FillOpensSaid : Prop := fillOpensRow.holds Try.pinned (OpenSpec.ofChange fillOpensSpec)

/-- ITS FALSE NEIGHBOUR: 'it returns false'. Refute it at one input. -/
def fillOpensWrong : ChangeSpec := { name := "fillOpens", fn := fun _ => fun
  | [d1, d2, d3, d4] => { results := [.lit (.bool false)], args := [d1, d2, d3, d4] }
  | _ => none }
def FillOpensWrongFalsely : Prop := fillOpensRow.holds Try.pinned (OpenSpec.ofChange fillOpensWrong)

/-- 'halidelaw30.FillOpened': WHATEVER THE INPUT: true; the input reads as it did. -/
def fillOpenedSpec : ChangeSpec := { name := "fillOpened", fn := fun _ => fun
  | [d1, d2, d3, d4, d5] => { results := [.lit (.bool true)], args := [d1, d2, d3, d4, d5] }
  | _ => none }
def fillOpenedRow : OpenClaim := { program := "ytbfimplajocmmaa", sum := "b5b67e76b4b5cdea4687ef8b17b0c2f66a007e92f486df76d3f05619ea818d33", func := "halide/halidelaw30.FillOpened", spec := "fillOpened", unfollowed := true, recurses := true, apart := false }
def FillOpenedSaid : Prop := fillOpenedRow.holds Try.pinned (OpenSpec.ofChange fillOpenedSpec)

/-- ITS FALSE NEIGHBOUR: 'it returns false'. Refute it at one input. -/
def fillOpenedWrong : ChangeSpec := { name := "fillOpened", fn := fun _ => fun
  | [d1, d2, d3, d4, d5] => { results := [.lit (.bool false)], args := [d1, d2, d3, d4, d5] }
  | _ => none }
def FillOpenedWrongFalsely : Prop := fillOpenedRow.holds Try.pinned (OpenSpec.ofChange fillOpenedWrong)

/- THE SECOND FORM. 'bulk': how many values and letters a reading holds, each counted each time it is reached (what is shared counts as often as it is met; a slice's spare places count too). A statement '..UptoSaid' is the law's where the arguments, and the package variables that the reading takes, are together of bulk at most 1048576: NARROWER than '..Said'. Prove '..Said' where nothing that the law and all that it calls make is longer than what came in: it says more and counts as full. Else prove '..UptoSaid'. A law counts once. -/
mutual
def uptoBulk {H : Type} : DataW H → Nat
  | .lit (.string bytes) => bytes.length + 1
  | .lit _ => 1
  | .nil => 1
  | .ptr d => uptoBulk d + 1
  | .slice elems spare => uptoBulkAll elems + uptoBulkAll spare + 1
  | .agg parts => uptoBulkAll parts + 1
  | .iface _ d => uptoBulk d + 1
  | .map entries => uptoBulkEntries entries + 1
  | .held _ => 1
def uptoBulkAll {H : Type} : List (DataW H) → Nat
  | [] => 0
  | d :: r => uptoBulk d + uptoBulkAll r
def uptoBulkEntries {H : Type} : List (Lit × DataW H) → Nat
  | [] => 0
  | x :: r => uptoBulkEntry x + uptoBulkEntries r
def uptoBulkEntry {H : Type} : Lit × DataW H → Nat
  | (.string bytes, d) => bytes.length + uptoBulk d + 1
  | (_, d) => uptoBulk d + 1
 end
def uptoSmall : (H : Type) → List (DataW H) → Bool := fun _ ds => decide (uptoBulkAll ds ≤ 1048576)
def OpenSpec.upto (s : _root_.Go.ChangeSpec) : _root_.Go.OpenSpec := { _root_.Go.OpenSpec.ofChange s with cond := some uptoSmall }

/-- 'halidelaw30.FillSelects', WHERE WHAT IT READS IS OF BULK AT MOST 1048576: true; the input reads as it did. -/
def fillSelectsUptoRow : OpenClaim := { program := "ytbfimplajocmmaa", sum := "b5b67e76b4b5cdea4687ef8b17b0c2f66a007e92f486df76d3f05619ea818d33", func := "halide/halidelaw30.FillSelects", spec := "fillSelects", unfollowed := true, recurses := true, apart := false, narrowed := true }
def FillSelectsUptoSaid : Prop := fillSelectsUptoRow.holds Try.pinned (OpenSpec.upto fillSelectsSpec)

/-- 'halidelaw30.FillOpens', WHERE WHAT IT READS IS OF BULK AT MOST 1048576: true; the input reads as it did. -/
def fillOpensUptoRow : OpenClaim := { program := "ytbfimplajocmmaa", sum := "b5b67e76b4b5cdea4687ef8b17b0c2f66a007e92f486df76d3f05619ea818d33", func := "halide/halidelaw30.FillOpens", spec := "fillOpens", unfollowed := true, recurses := true, apart := false, narrowed := true }
def FillOpensUptoSaid : Prop := fillOpensUptoRow.holds Try.pinned (OpenSpec.upto fillOpensSpec)

/-- 'halidelaw30.FillOpened', WHERE WHAT IT READS IS OF BULK AT MOST 1048576: true; the input reads as it did. -/
def fillOpenedUptoRow : OpenClaim := { program := "ytbfimplajocmmaa", sum := "b5b67e76b4b5cdea4687ef8b17b0c2f66a007e92f486df76d3f05619ea818d33", func := "halide/halidelaw30.FillOpened", spec := "fillOpened", unfollowed := true, recurses := true, apart := false, narrowed := true }
def FillOpenedUptoSaid : Prop := fillOpenedUptoRow.holds Try.pinned (OpenSpec.upto fillOpenedSpec)

end Rows
end Go.Proofs.Ytbfimplajocmmaa
