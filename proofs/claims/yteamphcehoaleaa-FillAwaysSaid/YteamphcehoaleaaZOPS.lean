import Derived.SizedLaws
import Derived.ChangeSlices
import Derived.Test.YteamphcehoaleaaZOP
section
namespace Go.Proofs.YteamphcehoaleaaW.PrintWords
open Go.ChangeShapes Go.WideShapes
end Go.Proofs.YteamphcehoaleaaW.PrintWords
end
section
open Go Go.RowKit Go.ChangeShapes Go.WideShapes
namespace Go.Proofs.Yteamphcehoaleaa.OP
theorem mask_sized {H : Type} {enc : TypeId × Value → H} {P : Program} {W : World} {base : Nat} {held : Bool} {r : Reach} {b0 : Nat} {t : TypeId} {f0 f1 f2 : Field} {e : TypeId} {a0 a1 : Int} {A : Option Addr} {len cap : Nat} {d : DataW H} {ps : List MemPlace} {ts : List TypeId} {ds : List (DataW H)} {j : Nat}
    (hsz : (DataW.weightsEach P ts ds).all (· ≤ reachBytes) = true) (ht : ts[j]? = some t) (hd : ds[j]? = some d) (hs : P.underlying t = some (.struct #[f0, f1, f2])) (h2 : P.underlying f2.type = some (.slice e)) (he : P.underlying e = some .bool)
    (hone : Deep.oneCellFields P #[f0, f1, f2] = true) (hC : P.cellsOf t = 3) (hCe : P.cellsOf e = 1) (hB : P.bytesOf e = 1) (hv : Value.okWide P W r b0 t (.agg #[.int .i64 a0, .int .i64 a1, .slice A len cap]))
    (h : DataW.Trod enc P W base (fun _ => true) held t (.agg #[.int .i64 a0, .int .i64 a1, .slice A len cap]) d ps) : len ≤ 140737488351232 := by
  obtain ⟨v0, v1, v2, y0, y1, y2, n, hve, hd1, hd2, g0, g1, g2⟩ := Joins.open_agg3 hs hone hC hv h
  have e1 : v2 = .slice A len cap := by
    have := congrArg (fun v => match v with | .agg a => a.getD 2 undef | _ => undef) hve
    simpa using this.symm
  subst e1
  rcases Go.Deep.open_bools h2 he hCe g2 with ⟨hcs, _⟩ | ⟨x, l, c, B, hcs, _, hl, hm, hx, hcell⟩
  · simp at hcs
    obtain ⟨rfl, rfl, rfl⟩ := hcs
    simp
  · simp at hcs
    obtain ⟨rfl, rfl, rfl⟩ := hcs
    have hy : y2.1 = Go.Deep.boolRow (some x) len cap B := by rw [hx]
    obtain ⟨es, sp, hes, hln⟩ : ∃ es sp, y2.1 = .slice es sp ∧ len ≤ es.length + sp.length := by
      rw [hy]
      exact ⟨_, _, rfl, by simp⟩
    have hm2 : (es.length + sp.length) * P.bytesOf e ∈ d.weights P t := by
      rw [hd1]
      simp only [DataW.weights, hs, List.map_cons, List.map_nil, DataW.weightsEach, List.mem_append]
      refine .inr (.inr (.inl ?_))
      rw [hes]
      simp only [DataW.weights, h2]
      exact List.mem_cons_self
    have z := List.all_eq_true.1 hsz _ (DataW.weights_mem_each ht hd _ hm2)
    have z : (es.length + sp.length) * P.bytesOf e ≤ reachBytes := by simpa using z
    rw [hB, Nat.mul_one] at z
    exact Nat.le_trans hln z
end Go.Proofs.Yteamphcehoaleaa.OP
end
