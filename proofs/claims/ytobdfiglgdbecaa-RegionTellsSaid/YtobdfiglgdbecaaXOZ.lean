import Derived.SizedLaws
import Derived.ChangeSlices
import Derived.Test.YtobdfiglgdbecaaXOR
import Derived.Deep.SlicePairs
section
namespace Go.Proofs.YtobdfiglgdbecaaW.PrintWords
open Go.ChangeShapes Go.WideShapes
end Go.Proofs.YtobdfiglgdbecaaW.PrintWords
end
section
open Go Go.RowKit Go.WideShapes Go.ChangeShapes Go.Deep
set_option linter.unusedVariables false
namespace Go.Proofs.Ytobdfiglgdbecaa.OP
theorem rects_sized {H : Type} {enc : TypeId × Value → H} {P : Program} {W : World} {base : Nat} {spare : Nat → Bool} {held : Bool} {t e : TypeId} {A : Option Addr} {len cap : Nat} {d : DataW H} {ps : List MemPlace} {ts : List TypeId} {ds : List (DataW H)} {j : Nat}
    (hsz : (DataW.weightsEach P ts ds).all (· ≤ reachBytes) = true) (ht : ts[j]? = some t) (hd : ds[j]? = some d) (hs : P.underlying t = some (.slice e)) (hB : P.bytesOf e = 32) (h : DataW.Trod enc P W base spare held t (.slice A len cap) d ps) : len * 32 ≤ 140737488351232 := by
  obtain ⟨fuel, hf⟩ := h
  rcases Go.Deep.open_slice hs hf with ⟨hcs, _⟩ | ⟨x, l, c, m, n, D, Pl, hcs, _, hl, hm, hmm, hx, _⟩
  · simp [Value.cells] at hcs
    obtain ⟨rfl, rfl, rfl⟩ := hcs
    simp
  · simp [Value.cells] at hcs
    obtain ⟨rfl, rfl, rfl⟩ := hcs
    obtain ⟨rfl, _⟩ := Prod.mk.inj hx
    have hm2 : (((List.range len).map D).length + ((List.range (m - len)).map fun j => D (len + j)).length) * P.bytesOf e ∈ (DataW.slice ((List.range len).map D) ((List.range (m - len)).map fun j => D (len + j))).weights P t := by
      simp only [DataW.weights, hs]
      exact List.mem_cons_self
    have z := List.all_eq_true.1 hsz _ (DataW.weights_mem_each ht hd _ hm2)
    have z : (((List.range len).map D).length + ((List.range (m - len)).map fun j => D (len + j)).length) * P.bytesOf e ≤ reachBytes := by simpa using z
    rw [hB, List.length_map, List.length_range] at z
    exact Nat.le_trans (Nat.mul_le_mul_right _ (Nat.le_add_right _ _)) z
end Go.Proofs.Ytobdfiglgdbecaa.OP
end
