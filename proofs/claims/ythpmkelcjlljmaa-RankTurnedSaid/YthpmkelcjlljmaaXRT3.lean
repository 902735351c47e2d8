import Derived.Test.YthpmkelcjlljmaaXRT2
import Derived.Test.YthpmkelcjlljmaaXRH5
open Go Go.RowKit Go.Proofs.YthpmkelcjlljmaaW.PrintWords Go.Proofs.YthpmkelcjlljmaaW.PrintLast Go.Proofs.YthpmkelcjlljmaaW.PrintMore
set_option linter.unusedVariables false
set_option linter.unusedSimpArgs false
namespace Go.Proofs.Ythpmkelcjlljmaa
open PRA PRB
theorem div_lt' {q W H : Nat} (h : 1 ≤ W) (hq : q < W * H) : q / W < H ∧ q % W < W ∧ q / W * W + q % W = q :=
  ⟨by rw [Nat.div_lt_iff_lt_mul (by omega), Nat.mul_comm]; exact hq, Nat.mod_lt _ (by omega), by rw [Nat.mul_comm]; exact Nat.div_add_mod q W⟩
theorem Good.one {a b : Int} {l : List Int} {bk w h : Int} {W H m n : Nat} (g : Good a b l bk w h W H m n) : allP bk W H l 1 1 0 0 0 W H 0 = l := by
  apply List.ext_getElem
  · rw [allP_len, g.len]
  · intro q h1 h2
    have hq : q < W * H := by rw [allP_len] at h1; exact h1
    obtain ⟨e1, e2, e3⟩ := div_lt' g.W1 hq
    have h := allP_at bk W H l 1 1 0 q hq
    rw [atV_one bk W H l (q % W) (q / W) g.W2 g.H2 e2 e1, e3, List.getD_eq_getElem?_getD, List.getElem?_eq_getElem h1, List.getD_eq_getElem?_getD, List.getElem?_eq_getElem h2] at h
    exact h
end Go.Proofs.Ythpmkelcjlljmaa

