import Derived.Test.YtobdfiglgdbecaaProg
import Derived.Test.YtobdfiglgdbecaaXWWords
import Derived.Lib.SmallJoins
import Derived.ChangeSlices
import Derived.Deep.Grids
import Derived.WideShapes
import Derived.RowKit
import Derived.Test.YtobdfiglgdbecaaXPGAx0
import Derived.Deep.SlicePairs
section
open Go Go.RowKit Go.WideShapes Go.ChangeShapes Go.Proofs.YtobdfiglgdbecaaW.PrintWords
set_option linter.unusedVariables false
namespace Go.Proofs.Ytobdfiglgdbecaa.OP
section
variable {H : Type} {enc : TypeId × Value → H} {P : Program} {w : World} {base : Nat} {spare : Nat → Bool} {held : Bool}
theorem open_slice {r : Reach} {b0 : Nat} {t e : TypeId} {v : Value} {d : DataW H} {p : List MemPlace} {k : IntKind} (hs : P.underlying t = some (.slice e)) (he : P.underlying e = some (.int k)) (hCe : P.cellsOf e = 1)
    (hv : Value.okWide P w r b0 t v) (h : DataW.Trod enc P w base spare held t v d p) :
    ∃ (A : Option Addr) (cap : Nat) (z : List Int), v = .slice A z.length cap ∧ Kd.C (Kd.int k) w A z.length z ∧ z.length ≤ cap ∧ (∀ x ∈ z, (Lit.int k x).wf = true) := by
  obtain ⟨a, len, cap, rfl⟩ := okWide_slice hs hv
  obtain ⟨fuel, hf⟩ := h
  rcases open_ints hs he hCe hf with ⟨hcs, _⟩ | ⟨x, l, c, zs, hcs, _, hl, hm, hz, _, hcell, hwz⟩
  · simp [Value.cells] at hcs
    obtain ⟨rfl, rfl, rfl⟩ := hcs
    exact ⟨none, 0, [], rfl, ⟨rfl, by simp, fun hn => by simp at hn⟩, Nat.le_refl _, fun x hx => by simp at hx⟩
  · simp [Value.cells] at hcs
    obtain ⟨rfl, rfl, rfl⟩ := hcs
    have hlz : len ≤ zs.length := by rw [hz]; split <;> omega
    have hlen : (zs.take len).length = len := by simp; omega
    have hmm : cap ≤ 9223372036854775807 := hm
    refine ⟨some x, cap, zs.take len, by rw [hlen], ?_, by omega, fun y hy => hwz y (List.mem_of_mem_take hy)⟩
    refine Kd.C_of_reads (d := 0) ⟨rfl, by omega, fun _ => ⟨x, rfl, fun j hj => ?_⟩⟩
    rw [hcell j (by omega)]
    simp [List.getD_eq_getElem?_getD, show j < len by omega]
end
end Go.Proofs.Ytobdfiglgdbecaa.OP
end
section
open Go Go.RowKit Go.WideShapes Go.ChangeShapes Go.Deep Go.Proofs.YtobdfiglgdbecaaW.PrintWords
set_option linter.unusedVariables false
namespace Go.Proofs.Ytobdfiglgdbecaa.OP
open PGA PGB
section
variable {H : Type} {enc : TypeId × Value → H} {P : Program} {w : World} {base : Nat} {spare : Nat → Bool} {held : Bool}
theorem open_rects {r : Reach} {b0 : Nat} {t e : TypeId} {f0 f1 f2 f3 : Field} {v : Value} {d : DataW H} {p : List MemPlace} (hs : P.underlying t = some (.slice e)) (he : P.underlying e = some (.struct #[f0, f1, f2, f3]))
    (ce : P.cellsOf e = 4) (o0 : f0.offset = 0) (o1 : f1.offset = 1) (o2 : f2.offset = 2) (o3 : f3.offset = 3) (c0 : P.cellsOf f0.type = 1) (c1 : P.cellsOf f1.type = 1) (c2 : P.cellsOf f2.type = 1) (c3 : P.cellsOf f3.type = 1)
    (u0 : P.underlying f0.type = some (.int .i64)) (u1 : P.underlying f1.type = some (.int .i64)) (u2 : P.underlying f2.type = some (.int .i64)) (u3 : P.underlying f3.type = some (.int .i64))
    (hv : Value.okWide P w r b0 t v) (h : DataW.Trod enc P w base spare held t v d p) :
    ∃ (A : Option Addr) (cap : Nat) (z : List S58), v = .slice A z.length cap ∧ Kd.C k58 w A z.length z ∧ z.length ≤ cap ∧ ∀ x ∈ z, (Lit.int .i64 x.f0).wf = true ∧ (Lit.int .i64 x.f1).wf = true ∧ (Lit.int .i64 x.f2).wf = true ∧ (Lit.int .i64 x.f3).wf = true := by
  obtain ⟨a, len, cap, rfl⟩ := okWide_slice hs hv
  obtain ⟨fuel, hf⟩ := h
  rcases Go.Deep.open_slice hs hf with ⟨hcs, _⟩ | ⟨x, l, c, m, n, D, Pl, hcs, _, hl, hm, hmm, _, hx⟩
  · simp [Value.cells] at hcs
    obtain ⟨rfl, rfl, rfl⟩ := hcs
    exact ⟨none, 0, [], rfl, ⟨rfl, by simp, fun hn => by simp at hn⟩, Nat.le_refl _, fun x hx => by simp at hx⟩
  · simp [Value.cells] at hcs
    obtain ⟨rfl, rfl, rfl⟩ := hcs
    have hlm : len ≤ m := by rw [hmm]; split <;> omega
    have each : ∀ i, i < len → ∃ q : S58, (w.cell? (x.add (i * 4)) = some (.int .i64 q.f0) ∧ w.cell? (x.add (i * 4 + 1)) = some (.int .i64 q.f1) ∧ w.cell? (x.add (i * 4 + 2)) = some (.int .i64 q.f2) ∧ w.cell? (x.add (i * 4 + 3)) = some (.int .i64 q.f3)) ∧
        (Lit.int .i64 q.f0).wf = true ∧ (Lit.int .i64 q.f1).wf = true ∧ (Lit.int .i64 q.f2).wf = true ∧ (Lit.int .i64 q.f3).wf = true := by
      intro i hi
      obtain ⟨cs', h1, h2⟩ := hx i (by omega)
      rw [ce] at h1
      obtain ⟨_, hlen, hcell⟩ := World.cells?_some h1
      obtain ⟨xs, k, hk, hxy, _, hxl, hfl⟩ := DataW.trod_struct he h2
      match xs, hxl, cs', hlen with
      | [y0, y1, y2, y3], _, [v0, v1, v2, v3], _ =>
        have g0 := hfl 0 f0 rfl
        have g1 := hfl 1 f1 rfl
        have g2 := hfl 2 f2 rfl
        have g3 := hfl 3 f3 rfl
        simp [o0, o1, o2, o3, c0, c1, c2, c3] at g0 g1 g2 g3
        have e0 := hcell 0 (by omega)
        have e1 := hcell 1 (by omega)
        have e2 := hcell 2 (by omega)
        have e3 := hcell 3 (by omega)
        rw [Go.Deep.add_add] at e0 e1 e2 e3
        obtain ⟨a0, q0, _, w0⟩ := DataW.trod_int u0 g0
        obtain ⟨a1, q1, _, w1⟩ := DataW.trod_int u1 g1
        obtain ⟨a2, q2, _, w2⟩ := DataW.trod_int u2 g2
        obtain ⟨a3, q3, _, w3⟩ := DataW.trod_int u3 g3
        obtain rfl : v0 = .int .i64 a0 := by simpa using q0
        obtain rfl : v1 = .int .i64 a1 := by simpa using q1
        obtain rfl : v2 = .int .i64 a2 := by simpa using q2
        obtain rfl : v3 = .int .i64 a3 := by simpa using q3
        exact ⟨⟨a0, a1, a2, a3⟩, ⟨by simpa using e0, by simpa using e1, by simpa using e2, by simpa using e3⟩, w0, w1, w2, w3⟩
    haveI : Inhabited S58 := ⟨z58⟩
    obtain ⟨q, hq⟩ := Go.Deep.choose_lt (α := S58) each
    have hlen : ((List.range len).map q).length = len := by simp
    have hm9 : cap ≤ 9223372036854775807 := hm
    refine ⟨some x, cap, (List.range len).map q, by rw [hlen], ⟨rfl, by omega, fun _ => ⟨x, rfl, fun j p hp => ?_⟩⟩, by omega, fun y hy => ?_⟩
    · have hj : j < len := by
        rw [← hlen]
        exact (List.getElem?_eq_some_iff.mp hp).1
      have e : p = q j := by
        rw [List.getElem?_map, List.getElem?_range hj] at hp
        exact (Option.some.inj hp).symm
      subst e
      refine ⟨_, rfl, k58_mk w (q j), fun i u hu => ?_⟩
      have h4 := (hq j hj).1
      match i, hu with
      | 0, hu => cases hu; exact h4.1
      | 1, hu => cases hu; exact h4.2.1
      | 2, hu => cases hu; exact h4.2.2.1
      | 3, hu => cases hu; exact h4.2.2.2
    · obtain ⟨j, hj, rfl⟩ := List.mem_map.mp hy
      exact (hq j (List.mem_range.mp hj)).2
end
end Go.Proofs.Ytobdfiglgdbecaa.OP
end
