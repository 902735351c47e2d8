import Derived.Test.YtobdfiglgdbecaaYWMore
open Go Go.RowKit Go.Proofs.YtobdfiglgdbecaaW.PrintWords Go.Proofs.YtobdfiglgdbecaaW.PrintLast Go.Proofs.YtobdfiglgdbecaaW.PrintMore
namespace Go.Proofs.Ytobdfiglgdbecaa
class Up (W W' : World) : Prop where
  up : Below W.heap.size W W'
instance upRefl (W : World) : Up W W := ⟨Below.refl _ _⟩
instance upAlloc (W V : World) (o : Obj) [h : Up W V] : Up W (V.alloc o) := ⟨Ad h.up o⟩
instance upDrew (W V : World) [h : Up W V] : Up W V.drew := ⟨below_drew h.up⟩
instance upDrewN (W V : World) (n : Nat) [h : Up W V] : Up W (V.drewN n) := ⟨Ab h.up n⟩
theorem bU {W W' : World} {g : Nat} {o : Obj} (h : W.heap[g]? = some o) [i : Up W W'] : W'.heap[g]? = some o := Bz h i.up
theorem rU {α : Type} {d : Kd α} {e : TypeId} {W W' : World} {base : Nat} {ok : Nat → Prop} {v : Value} {xs : List α} (h : d.R e W base ok v xs) [i : Up W W'] : d.R e W' base ok v xs := Kd.Bm h i.up
theorem lU {w W W' : World} (h : Below w.heap.size w W) [i : Up W W'] : Below w.heap.size w W' := h.trans (i.up.mono h.size)
def bA (n k : Nat) : Array Bool := ((List.range n).map fun i => k.testBit i).toArray
theorem sA {α : Type} (l : List α) (i : Nat) (a : α) : l.toArray.setIfInBounds i a = (l.set i a).toArray := List.setIfInBounds_toArray ..
theorem sB {α : Type} (a b : α) (l : List α) : (a :: l).set 0 b = b :: l := rfl
theorem sC {α : Type} (a b : α) (l : List α) (n : Nat) : (a :: l).set (n + 1) b = a :: l.set n b := rfl
end Go.Proofs.Ytobdfiglgdbecaa

