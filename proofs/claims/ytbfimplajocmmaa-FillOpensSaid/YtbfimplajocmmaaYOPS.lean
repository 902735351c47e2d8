import Derived.SizedLaws
import Derived.ChangeSlices
import Derived.Test.YtbfimplajocmmaaYOP
section
namespace Go.Proofs.YtbfimplajocmmaaW.PrintWords
open Go.ChangeShapes Go.WideShapes
end Go.Proofs.YtbfimplajocmmaaW.PrintWords
end
section
open Go Go.RowKit Go.ChangeShapes Go.WideShapes
namespace Go.Proofs.Ytbfimplajocmmaa.OP
theorem plane_sized {H : Type} {enc : TypeId × Value → H} {P : Program} {W : World} {base : Nat} {spare : Nat → Bool} {held : Bool} {r : Reach} {b0 : Nat} {t : TypeId} {f0 f1 f2 : Field} {e : TypeId} {k : IntKind} {a0 a1 : Int} {A : Option Addr} {len cap : Nat} {d : DataW H} {ps : List MemPlace} {ts : List TypeId} {ds : List (DataW H)} {j : Nat}
    (hsz : (DataW.weightsEach P ts ds).all (· ≤ reachBytes) = true) (ht : ts[j]? = some t) (hd : ds[j]? = some d) (hs : P.underlying t = some (.struct #[f0, f1, f2])) (h2 : P.underlying f2.type = some (.slice e)) (he : P.underlying e = some (.int k))
    (hone : Deep.oneCellFields P #[f0, f1, f2] = true) (hC : P.cellsOf t = 3) (hCe : P.cellsOf e = 1) {B : Nat} (hB : P.bytesOf e = B) (hv : Value.okWide P W r b0 t (.agg #[.int .i64 a0, .int .i64 a1, .slice A len cap]))
    (h : DataW.Trod enc P W base spare held t (.agg #[.int .i64 a0, .int .i64 a1, .slice A len cap]) d ps) : len * B ≤ 140737488351232 := by
  obtain ⟨v0, v1, v2, y0, y1, y2, n, hve, hd1, hd2, g0, g1, g2⟩ := Joins.open_agg3 hs hone hC hv h
  have e1 : v2 = .slice A len cap := by
    have := congrArg (fun v => match v with | .agg a => a.getD 2 undef | _ => undef) hve
    simpa using this.symm
  subst e1
  rcases open_ints h2 he hCe g2 with ⟨hcs, _⟩ | ⟨x, l, c, zs, hcs, _, hl, _, hz, hx, _, _⟩
  · simp at hcs
    obtain ⟨rfl, rfl, rfl⟩ := hcs
    simp
  · simp at hcs
    obtain ⟨rfl, rfl, rfl⟩ := hcs
    have hy : y2.1 = .slice (lits k (zs.take len)) (lits k (zs.drop len)) := by
      obtain ⟨q1, q2⟩ := y2
      obtain ⟨hx1, _⟩ := Prod.mk.inj hx
      exact hx1
    have hm : ((lits (H := H) k (zs.take len)).length + (lits (H := H) k (zs.drop len)).length) * P.bytesOf e ∈ d.weights P t := by
      rw [hd1]
      simp only [DataW.weights, hs, List.map_cons, List.map_nil, DataW.weightsEach, List.mem_append]
      refine .inr (.inr (.inl ?_))
      rw [hy]
      simp only [DataW.weights, h2]
      exact List.mem_cons_self
    have z := List.all_eq_true.1 hsz _ (DataW.weights_mem_each ht hd _ hm)
    have z : ((lits (H := H) k (zs.take len)).length + (lits (H := H) k (zs.drop len)).length) * P.bytesOf e ≤ reachBytes := by simpa using z
    rw [hB] at z
    have hl2 : len ≤ zs.length := by
      rw [hz]
      split
      · exact hl
      · exact Nat.le_refl _
    have h1 : (lits (H := H) k (zs.take len)).length + (lits (H := H) k (zs.drop len)).length = zs.length := by
      simp [lits]
      omega
    rw [h1] at z
    exact Nat.le_trans (Nat.mul_le_mul_right _ hl2) z
end Go.Proofs.Ytbfimplajocmmaa.OP
end
