/-
  No cell of these rows narrows 'for every input' (looked for: loops, veiled, ifaces, maps, wideKeys, modest, calm, conditions, laid).
  DERIVED. THE GIVEN ROWS OF THIS SEAT. 7 by the template 'for every input the law returns true; each argument reads behind the call as it read before'; 0 by the template 'total and deterministic' (their statements: YtkelmekbhphokaaTotals.lean).
  GIVEN WITH THE SEED: the statements are not yours to turn. If you find one false, say at which input.
  Laid BY PROGRAM, IN A SANDBOX (cutbox-rows.mjs): the forced cells as the released guide's own fill.sh prints them over the translation 8fdf2fda3e7042c7… (all of the seat's roots in one cut). By AI agents, Wed Nov 11 2026. No macro, syntax, notation, axiom, sorry.
-/
import Derived.Test.YtkelmekbhphokaaChecked
import GoSem.Claim
import GoSem.ClaimJoined
import GoSem.ClaimMapViews
import Derived.JoinedTies
import Derived.KernelRfl
namespace Go.Proofs.Ytkelmekbhphokaa
/- THE CELL 'sum', in the pinned program and in every row, IS THE sha256 OF THE DUMP (.gsa) THAT YtkelmekbhphokaaProg.lean LOADS. Nothing in Lean hashes anything: it is a label: what it is worth is what the hold of that sum in a sandbox is worth. -/
noncomputable def Try.pinned : Pinned := { name := "ytkelmekbhphokaa", sum := "8fdf2fda3e7042c72c505962c7eb117ce561236b19e5e3cfb130883290813f12", checked := Try.checked }
namespace Rows
def none {H : Type} : Left H := { results := [], args := [] }

/-- 'halidelaw6.RegionNames': WHATEVER THE INPUT: true; the input reads as it did. -/
def regionNamesSpec : ChangeSpec := { name := "regionNames", fn := fun _ => fun
  | [] => { results := [.lit (.bool true)], args := [] }
  | _ => none }
def regionNamesRow : OpenClaim := { program := "ytkelmekbhphokaa", sum := "8fdf2fda3e7042c72c505962c7eb117ce561236b19e5e3cfb130883290813f12", func := "halide/halidelaw6.RegionNames", spec := "regionNames", apart := false }
def RegionNamesSaid : Prop := regionNamesRow.holds Try.pinned (OpenSpec.ofChange regionNamesSpec)

/-- ITS FALSE NEIGHBOUR: 'it returns false'. Refute it at one input. -/
def regionNamesWrong : ChangeSpec := { name := "regionNames", fn := fun _ => fun
  | [] => { results := [.lit (.bool false)], args := [] }
  | _ => none }
def RegionNamesWrongFalsely : Prop := regionNamesRow.holds Try.pinned (OpenSpec.ofChange regionNamesWrong)

/-- 'halidelaw30.FillNames': WHATEVER THE INPUT: true; the input reads as it did. -/
def fillNamesSpec : ChangeSpec := { name := "fillNames", fn := fun _ => fun
  | [] => { results := [.lit (.bool true)], args := [] }
  | _ => none }
def fillNamesRow : OpenClaim := { program := "ytkelmekbhphokaa", sum := "8fdf2fda3e7042c72c505962c7eb117ce561236b19e5e3cfb130883290813f12", func := "halide/halidelaw30.FillNames", spec := "fillNames", apart := false }
def FillNamesSaid : Prop := fillNamesRow.holds Try.pinned (OpenSpec.ofChange fillNamesSpec)

/-- ITS FALSE NEIGHBOUR: 'it returns false'. Refute it at one input. -/
def fillNamesWrong : ChangeSpec := { name := "fillNames", fn := fun _ => fun
  | [] => { results := [.lit (.bool false)], args := [] }
  | _ => none }
def FillNamesWrongFalsely : Prop := fillNamesRow.holds Try.pinned (OpenSpec.ofChange fillNamesWrong)

/-- 'halidelaw22.CacheNames': WHATEVER THE INPUT: true; the input reads as it did. -/
def cacheNamesSpec : ChangeSpec := { name := "cacheNames", fn := fun _ => fun
  | [] => { results := [.lit (.bool true)], args := [] }
  | _ => none }
def cacheNamesRow : OpenClaim := { program := "ytkelmekbhphokaa", sum := "8fdf2fda3e7042c72c505962c7eb117ce561236b19e5e3cfb130883290813f12", func := "halide/halidelaw22.CacheNames", spec := "cacheNames", apart := false }
def CacheNamesSaid : Prop := cacheNamesRow.holds Try.pinned (OpenSpec.ofChange cacheNamesSpec)

/-- ITS FALSE NEIGHBOUR: 'it returns false'. Refute it at one input. -/
def cacheNamesWrong : ChangeSpec := { name := "cacheNames", fn := fun _ => fun
  | [] => { results := [.lit (.bool false)], args := [] }
  | _ => none }
def CacheNamesWrongFalsely : Prop := cacheNamesRow.holds Try.pinned (OpenSpec.ofChange cacheNamesWrong)

/-- 'halidelaw19.TilesNames': WHATEVER THE INPUT: true; the input reads as it did. -/
def tilesNamesSpec : ChangeSpec := { name := "tilesNames", fn := fun _ => fun
  | [] => { results := [.lit (.bool true)], args := [] }
  | _ => none }
def tilesNamesRow : OpenClaim := { program := "ytkelmekbhphokaa", sum := "8fdf2fda3e7042c72c505962c7eb117ce561236b19e5e3cfb130883290813f12", func := "halide/halidelaw19.TilesNames", spec := "tilesNames", apart := false }
def TilesNamesSaid : Prop := tilesNamesRow.holds Try.pinned (OpenSpec.ofChange tilesNamesSpec)

/-- ITS FALSE NEIGHBOUR: 'it returns false'. Refute it at one input. -/
def tilesNamesWrong : ChangeSpec := { name := "tilesNames", fn := fun _ => fun
  | [] => { results := [.lit (.bool false)], args := [] }
  | _ => none }
def TilesNamesWrongFalsely : Prop := tilesNamesRow.holds Try.pinned (OpenSpec.ofChange tilesNamesWrong)

/-- 'halidelaw13.DitherNames': WHATEVER THE INPUT: true; the input reads as it did. -/
def ditherNamesSpec : ChangeSpec := { name := "ditherNames", fn := fun _ => fun
  | [] => { results := [.lit (.bool true)], args := [] }
  | _ => none }
def ditherNamesRow : OpenClaim := { program := "ytkelmekbhphokaa", sum := "8fdf2fda3e7042c72c505962c7eb117ce561236b19e5e3cfb130883290813f12", func := "halide/halidelaw13.DitherNames", spec := "ditherNames", apart := false }
def DitherNamesSaid : Prop := ditherNamesRow.holds Try.pinned (OpenSpec.ofChange ditherNamesSpec)

/-- ITS FALSE NEIGHBOUR: 'it returns false'. Refute it at one input. -/
def ditherNamesWrong : ChangeSpec := { name := "ditherNames", fn := fun _ => fun
  | [] => { results := [.lit (.bool false)], args := [] }
  | _ => none }
def DitherNamesWrongFalsely : Prop := ditherNamesRow.holds Try.pinned (OpenSpec.ofChange ditherNamesWrong)

/-- 'halidelaw24.WaveNames': WHATEVER THE INPUT: true; the input reads as it did. -/
def waveNamesSpec : ChangeSpec := { name := "waveNames", fn := fun _ => fun
  | [] => { results := [.lit (.bool true)], args := [] }
  | _ => none }
def waveNamesRow : OpenClaim := { program := "ytkelmekbhphokaa", sum := "8fdf2fda3e7042c72c505962c7eb117ce561236b19e5e3cfb130883290813f12", func := "halide/halidelaw24.WaveNames", spec := "waveNames", apart := false }
def WaveNamesSaid : Prop := waveNamesRow.holds Try.pinned (OpenSpec.ofChange waveNamesSpec)

/-- ITS FALSE NEIGHBOUR: 'it returns false'. Refute it at one input. -/
def waveNamesWrong : ChangeSpec := { name := "waveNames", fn := fun _ => fun
  | [] => { results := [.lit (.bool false)], args := [] }
  | _ => none }
def WaveNamesWrongFalsely : Prop := waveNamesRow.holds Try.pinned (OpenSpec.ofChange waveNamesWrong)

/-- 'halidelaw19.TilesGrids': WHATEVER THE INPUT: true; the input reads as it did. -/
def tilesGridsSpec : ChangeSpec := { name := "tilesGrids", fn := fun _ => fun
  | [d1, d2, d3, d4, d5] => { results := [.lit (.bool true)], args := [d1, d2, d3, d4, d5] }
  | _ => none }
def tilesGridsRow : OpenClaim := { program := "ytkelmekbhphokaa", sum := "8fdf2fda3e7042c72c505962c7eb117ce561236b19e5e3cfb130883290813f12", func := "halide/halidelaw19.TilesGrids", spec := "tilesGrids", unfollowed := true, recurses := true, apart := false }
def TilesGridsSaid : Prop := tilesGridsRow.holds Try.pinned (OpenSpec.ofChange tilesGridsSpec)

/-- ITS FALSE NEIGHBOUR: 'it returns false'. Refute it at one input. -/
def tilesGridsWrong : ChangeSpec := { name := "tilesGrids", fn := fun _ => fun
  | [d1, d2, d3, d4, d5] => { results := [.lit (.bool false)], args := [d1, d2, d3, d4, d5] }
  | _ => none }
def TilesGridsWrongFalsely : Prop := tilesGridsRow.holds Try.pinned (OpenSpec.ofChange tilesGridsWrong)

/- THE SECOND FORM. 'bulk': how many values and letters a reading holds, each counted each time it is reached (what is shared counts as often as it is met; a slice's spare places count too). A statement '..UptoSaid' is the law's where the arguments, and the package variables that the reading takes, are together of bulk at most 1048576: NARROWER than '..Said'. Prove '..Said' where nothing that the law and all that it calls make is longer than what came in: it says more and counts as full. Else prove '..UptoSaid'. A law counts once. -/
mutual
def uptoBulk {H : Type} : DataW H → Nat
  | .lit (.string bytes) => bytes.length + 1
  | .lit _ => 1
  | .nil => 1
  | .ptr d => uptoBulk d + 1
  | .slice elems spare => uptoBulkAll elems + uptoBulkAll spare + 1
  | .agg parts => uptoBulkAll parts + 1
  | .iface _ d => uptoBulk d + 1
  | .map entries => uptoBulkEntries entries + 1
  | .held _ => 1
def uptoBulkAll {H : Type} : List (DataW H) → Nat
  | [] => 0
  | d :: r => uptoBulk d + uptoBulkAll r
def uptoBulkEntries {H : Type} : List (Lit × DataW H) → Nat
  | [] => 0
  | x :: r => uptoBulkEntry x + uptoBulkEntries r
def uptoBulkEntry {H : Type} : Lit × DataW H → Nat
  | (.string bytes, d) => bytes.length + uptoBulk d + 1
  | (_, d) => uptoBulk d + 1
 end
def uptoSmall : (H : Type) → List (DataW H) → Bool := fun _ ds => decide (uptoBulkAll ds ≤ 1048576)
def OpenSpec.upto (s : _root_.Go.ChangeSpec) : _root_.Go.OpenSpec := { _root_.Go.OpenSpec.ofChange s with cond := some uptoSmall }

/-- 'halidelaw6.RegionNames', WHERE WHAT IT READS IS OF BULK AT MOST 1048576: true; the input reads as it did. -/
def regionNamesUptoRow : OpenClaim := { program := "ytkelmekbhphokaa", sum := "8fdf2fda3e7042c72c505962c7eb117ce561236b19e5e3cfb130883290813f12", func := "halide/halidelaw6.RegionNames", spec := "regionNames", apart := false, narrowed := true }
def RegionNamesUptoSaid : Prop := regionNamesUptoRow.holds Try.pinned (OpenSpec.upto regionNamesSpec)

/-- 'halidelaw30.FillNames', WHERE WHAT IT READS IS OF BULK AT MOST 1048576: true; the input reads as it did. -/
def fillNamesUptoRow : OpenClaim := { program := "ytkelmekbhphokaa", sum := "8fdf2fda3e7042c72c505962c7eb117ce561236b19e5e3cfb130883290813f12", func := "halide/halidelaw30.FillNames", spec := "fillNames", apart := false, narrowed := true }
def FillNamesUptoSaid : Prop := fillNamesUptoRow.holds Try.pinned (OpenSpec.upto fillNamesSpec)

/-- 'halidelaw22.CacheNames', WHERE WHAT IT READS IS OF BULK AT MOST 1048576: true; the input reads as it did. -/
def cacheNamesUptoRow : OpenClaim := { program := "ytkelmekbhphokaa", sum := "8fdf2fda3e7042c72c505962c7eb117ce561236b19e5e3cfb130883290813f12", func := "halide/halidelaw22.CacheNames", spec := "cacheNames", apart := false, narrowed := true }
def CacheNamesUptoSaid : Prop := cacheNamesUptoRow.holds Try.pinned (OpenSpec.upto cacheNamesSpec)

/-- 'halidelaw19.TilesNames', WHERE WHAT IT READS IS OF BULK AT MOST 1048576: true; the input reads as it did. -/
def tilesNamesUptoRow : OpenClaim := { program := "ytkelmekbhphokaa", sum := "8fdf2fda3e7042c72c505962c7eb117ce561236b19e5e3cfb130883290813f12", func := "halide/halidelaw19.TilesNames", spec := "tilesNames", apart := false, narrowed := true }
def TilesNamesUptoSaid : Prop := tilesNamesUptoRow.holds Try.pinned (OpenSpec.upto tilesNamesSpec)

/-- 'halidelaw13.DitherNames', WHERE WHAT IT READS IS OF BULK AT MOST 1048576: true; the input reads as it did. -/
def ditherNamesUptoRow : OpenClaim := { program := "ytkelmekbhphokaa", sum := "8fdf2fda3e7042c72c505962c7eb117ce561236b19e5e3cfb130883290813f12", func := "halide/halidelaw13.DitherNames", spec := "ditherNames", apart := false, narrowed := true }
def DitherNamesUptoSaid : Prop := ditherNamesUptoRow.holds Try.pinned (OpenSpec.upto ditherNamesSpec)

/-- 'halidelaw24.WaveNames', WHERE WHAT IT READS IS OF BULK AT MOST 1048576: true; the input reads as it did. -/
def waveNamesUptoRow : OpenClaim := { program := "ytkelmekbhphokaa", sum := "8fdf2fda3e7042c72c505962c7eb117ce561236b19e5e3cfb130883290813f12", func := "halide/halidelaw24.WaveNames", spec := "waveNames", apart := false, narrowed := true }
def WaveNamesUptoSaid : Prop := waveNamesUptoRow.holds Try.pinned (OpenSpec.upto waveNamesSpec)

/-- 'halidelaw19.TilesGrids', WHERE WHAT IT READS IS OF BULK AT MOST 1048576: true; the input reads as it did. -/
def tilesGridsUptoRow : OpenClaim := { program := "ytkelmekbhphokaa", sum := "8fdf2fda3e7042c72c505962c7eb117ce561236b19e5e3cfb130883290813f12", func := "halide/halidelaw19.TilesGrids", spec := "tilesGrids", unfollowed := true, recurses := true, apart := false, narrowed := true }
def TilesGridsUptoSaid : Prop := tilesGridsUptoRow.holds Try.pinned (OpenSpec.upto tilesGridsSpec)

end Rows
end Go.Proofs.Ytkelmekbhphokaa
