import Derived.Test.YteamphcehoaleaaZM5
import Derived.Test.YteamphcehoaleaaZPFKx1
import Derived.Test.YteamphcehoaleaaZPFAx6
set_option linter.unusedVariables false
set_option linter.unusedSimpArgs false
open Go Go.RowKit Go.Proofs.YteamphcehoaleaaW.PrintWords
namespace Go.Proofs.Yteamphcehoaleaa
open PFA PFK FM
namespace NR
theorem wr {x : Int} (h1 : -9223372036854775808 ≤ x) (h2 : x < 9223372036854775808) : wrap64 x = x := by
  unfold wrap64; omega
theorem wr1 (i : Nat) (h : i < 1000000) : wrap64 ((i : Int) + 1) = ((i + 1 : Nat) : Int) := by
  rw [wr (by omega) (by omega)]; rfl
theorem rd_nat (l : List Int) (i : Nat) : rd l (i : Int) = l.getD i 0 := by unfold rd; rw [Int.toNat_natCast]
theorem rdb_nat (l : List Bool) (i : Nat) : rdOf false l (i : Int) = l.getD i false := by unfold rdOf; rw [Int.toNat_natCast]
theorem list_ext_getD (a b : List Bool) (h : a.length = b.length) (hg : ∀ k, k < a.length → a.getD k false = b.getD k false) : a = b := by
  refine List.ext_getElem h fun k h1 h2 => ?_
  have := hg k h1
  rw [List.getD_eq_getElem?_getD, List.getD_eq_getElem?_getD, List.getElem?_eq_getElem h1, List.getElem?_eq_getElem h2] at this
  exact this
end NR
end Go.Proofs.Yteamphcehoaleaa

