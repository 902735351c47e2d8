import Derived.Test.YtbfimplajocmmaaProg
import Derived.Test.YtbfimplajocmmaaYWWords
import Derived.Lib.SmallJoins
import Derived.ChangeSlices
import Derived.Deep.Grids
import Derived.WideShapes
import Derived.RowKit
open Go Go.RowKit Go.WideShapes Go.ChangeShapes Go.Proofs.YtbfimplajocmmaaW.PrintWords
set_option linter.unusedVariables false
namespace Go.Proofs.Ytbfimplajocmmaa.OP
section
variable {H : Type} {enc : TypeId × Value → H} {P : Program} {w : World} {base : Nat} {spare : Nat → Bool} {held : Bool}
theorem open_plane {r : Reach} {b0 : Nat} {t : TypeId} {f0 f1 f2 : Field} {e : TypeId} {v : Value} {d : DataW H} {p : List MemPlace} {k : IntKind} (hs : P.underlying t = some (.struct #[f0, f1, f2]))
    (h0 : P.underlying f0.type = some (.int .i64)) (h1 : P.underlying f1.type = some (.int .i64)) (h2 : P.underlying f2.type = some (.slice e)) (he : P.underlying e = some (.int k))
    (hone : Deep.oneCellFields P #[f0, f1, f2] = true) (hC : P.cellsOf t = 3) (hCe : P.cellsOf e = 1) (hv : Value.okWide P w r b0 t v) (h : DataW.Trod enc P w base spare held t v d p) :
    ∃ (a0 a1 : Int) (A : Option Addr) (cap : Nat) (z : List Int), v = .agg #[.int .i64 a0, .int .i64 a1, .slice A z.length cap] ∧ (Lit.int .i64 a0).wf = true ∧ (Lit.int .i64 a1).wf = true ∧ Kd.C (Kd.int k) w A z.length z ∧ z.length ≤ cap ∧ (∀ x ∈ z, (Lit.int k x).wf = true) := by
  obtain ⟨v0, v1, v2, y0, y1, y2, n, rfl, _, _, g0, g1, g2⟩ := Joins.open_agg3 hs hone hC hv h
  obtain ⟨a0, q0, _, w0⟩ := DataW.trod_int h0 g0
  obtain ⟨a1, q1, _, w1⟩ := DataW.trod_int h1 g1
  obtain rfl : v0 = .int .i64 a0 := by simpa using q0
  obtain rfl : v1 = .int .i64 a1 := by simpa using q1
  rcases open_ints h2 he hCe g2 with ⟨hcs, _⟩ | ⟨x, l, c, zs, hcs, _, hl, hm, hz, _, hcell, hwz⟩
  · obtain rfl : v2 = .slice none 0 0 := by simpa using hcs
    exact ⟨a0, a1, none, 0, [], rfl, w0, w1, ⟨rfl, by simp, fun hn => by simp at hn⟩, Nat.le_refl _, fun x hx => by simp at hx⟩
  · obtain rfl : v2 = .slice (some x) l c := by simpa using hcs
    have hlz : l ≤ zs.length := by rw [hz]; split <;> omega
    have hlen : (zs.take l).length = l := by simp; omega
    have hmm : c ≤ 9223372036854775807 := hm
    refine ⟨a0, a1, some x, c, zs.take l, by rw [hlen], w0, w1, ?_, by omega, fun y hy => hwz y (List.mem_of_mem_take hy)⟩
    refine Kd.C_of_reads (d := 0) ⟨rfl, by omega, fun _ => ⟨x, rfl, fun j hj => ?_⟩⟩
    rw [hcell j (by omega)]
    simp [List.getD_eq_getElem?_getD, show j < l by omega]
end
end Go.Proofs.Ytbfimplajocmmaa.OP


