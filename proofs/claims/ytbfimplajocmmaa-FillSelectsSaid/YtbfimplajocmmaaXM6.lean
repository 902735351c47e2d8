import Derived.Test.YtbfimplajocmmaaXM5
import Derived.Test.YtbfimplajocmmaaXPFKx1
import Derived.Test.YtbfimplajocmmaaXPFAx6
set_option linter.unusedVariables false
set_option linter.unusedSimpArgs false
open Go Go.RowKit Go.Proofs.YtbfimplajocmmaaW.PrintWords
namespace Go.Proofs.Ytbfimplajocmmaa
open PFA PFK FM
namespace NR
theorem wr {x : Int} (h1 : -9223372036854775808 ≤ x) (h2 : x < 9223372036854775808) : wrap64 x = x := by
  unfold wrap64; omega
theorem rd_nat (l : List Int) (i : Nat) : rd l (i : Int) = l.getD i 0 := by unfold rd; rw [Int.toNat_natCast]
theorem empty_val {w h : Nat} {l : List Bool} (H : OKm w h l) : Cz.f w h = some ((w : Int), (h : Int), List.replicate (w * h) false) := by
  have ha := H.a; unfold Cz.f; rw [area_w H, Int.toNat_natCast, if_pos (by omega), if_pos (by omega)]
end NR
end Go.Proofs.Ytbfimplajocmmaa

