/- trail of the program, handed Diffuse's inner function: walked by hand. -/
import Derived.Test.YtmipbbkieadecaaH7
open Go Go.RowKit Go.Proofs.YtmipbbkieadecaaW.PrintWords Go.Proofs.YtmipbbkieadecaaW.PrintLast Go.Proofs.YtmipbbkieadecaaW.PrintMore
set_option linter.unusedVariables false
set_option linter.unusedSimpArgs false
namespace Go.Proofs.Ytmipbbkieadecaa
open PDA PDB

def arrN (m : Nat) (F : Nat → Int) : Array Value := ((List.range m).map (fun i => Value.int .i64 (F i))).toArray
def upd (F : Nat → Int) (j : Nat) (v : Int) : Nat → Int := fun i => if i = j then v else F i
theorem arrN_size (m : Nat) (F : Nat → Int) : (arrN m F).size = m := by simp [arrN]
theorem arrN_get (m : Nat) (F : Nat → Int) (i : Nat) (h : i < m) : (arrN m F)[i]? = some (.int .i64 (F i)) := by simp [arrN, h]
theorem arrN_set (m : Nat) (F : Nat → Int) (j : Nat) (v : Int) : (arrN m F).setIfInBounds j (.int .i64 v) = arrN m (upd F j v) := by
  apply Array.ext_getElem?
  intro i
  rw [Array.getElem?_setIfInBounds]
  by_cases h : i < m
  · rw [arrN_get m _ i h, arrN_size]
    by_cases hj : j = i
    · subst hj; rw [arrN_get m _ j h]; simp [h, upd]
    · have : ¬ i = j := fun e => hj e.symm
      rw [arrN_get m _ i h]; simp [hj, this, upd]
  · have h1 : (arrN m F)[i]? = none := by rw [Array.getElem?_eq_none_iff, arrN_size]; omega
    have h2 : (arrN m (upd F j v))[i]? = none := by rw [Array.getElem?_eq_none_iff, arrN_size]; omega
    rw [h1, h2, arrN_size]
    by_cases hj : j = i
    · subst hj; simp [h]
    · simp [hj]
theorem made_arrN (m : Nat) : madeCells (Value.cells (.int .i64 0)) m = arrN m (fun _ => 0) := by
  apply Array.ext_getElem?
  intro i
  by_cases h : i < m
  · rw [arrN_get m _ i h]
    simp [madeCells, Value.cells, h, Nat.mod_one]
  · have h1 : (madeCells (Value.cells (.int .i64 0)) m)[i]? = none := by rw [Array.getElem?_eq_none_iff, size_madeCells]; omega
    have h2 : (arrN m (fun _ => 0))[i]? = none := by rw [Array.getElem?_eq_none_iff, arrN_size]; omega
    rw [h1, h2]

/-- One place: the rows behind it, and its sample. -/
def px (n : Int) (F G : Nat → Int) (x : Nat) (s : Int) : Option ((Nat → Int) × (Nat → Int) × Int) :=
  (dither_Units.f s).bind fun u => (dither_nearest.f 1024 n (wrap64 (u + F (x + 1)))).bind fun k => (dither_unit.f n k).bind fun un => (dither_Level.f n k).bind fun p =>
    let e := wrap64 (wrap64 (u + F (x + 1)) - un)
    let right := wrap64 (7 * e) / 16
    let left := wrap64 (3 * e) / 16
    let mid := wrap64 (5 * e) / 16
    let G1 := upd G x (wrap64 (G x + left))
    let G2 := upd G1 (x + 1) (wrap64 (G1 (x + 1) + mid))
    some (upd F (x + 2) (wrap64 (F (x + 2) + right)), upd G2 (x + 2) (wrap64 (G2 (x + 2) + wrap64 (wrap64 (wrap64 (e - right) - left) - mid))), p.1)
/-- m places of a row, from x on. -/
def rowT (n : Int) (l : List Int) (base : Nat) : Nat → Nat → (Nat → Int) → (Nat → Int) → List Int → Option ((Nat → Int) × (Nat → Int) × List Int)
  | 0, _, F, G, out => some (F, G, out)
  | m + 1, x, F, G, out => (px n F G x (l.getD (base + x) 0)).bind fun q => rowT n l base m (x + 1) q.1 q.2.1 (out ++ [q.2.2])
/-- m rows, from y on. -/
def allT (n : Int) (l : List Int) (W : Nat) : Nat → Nat → (Nat → Int) → Int → List Int → Option ((Nat → Int) × Int × List Int)
  | 0, _, F, fall, out => some (F, fall, out)
  | m + 1, y, F, fall, out => (rowT n l (y * W) W 0 F (fun _ => 0) out).bind fun q =>
      allT n l W m (y + 1) (upd (upd q.2.1 0 0) (W + 1) 0) (wrap64 (wrap64 (fall + wrap64 (q.1 (W + 1) + q.2.1 0)) + upd q.2.1 0 0 (W + 1))) q.2.2
/-- What falls out of the last row: m places, from x on. -/
def lastT (F : Nat → Int) : Nat → Nat → Int → Int
  | 0, _, fall => fall
  | m + 1, x, fall => lastT F m (x + 1) (wrap64 (fall + F (x + 1)))

/-- The blocks under way. -/
structure TR (w0 : World) (bn br gq B gh gb : Nat) (n : Int) (W H : Int) (V : Value) (cs : Array Value) (m : Nat) (F G : Nat → Int) (out : List Int) (wx : World) : Prop where
  ex : ∃ u, wx.heap[gq]? = some (.cells #[.int .i64 W, .int .i64 H, u] 35 (0, 0)) ∧ Kd.R (Kd.int .u32) 48 wx w0.heap.size (fun _ => True) u out
  hB : wx.heap[B]? = some (.cells #[.int .i64 W, .int .i64 H, V] 35 (0, 0))
  hn : wx.heap[bn]? = some (.cells #[.int .i64 n] 3 (0, 0))
  hr : wx.heap[br]? = some (.cells cs 35 (0, 0))
  hh : wx.heap[gh]? = some (.cells (arrN m F) 3 (0, 0))
  hb : wx.heap[gb]? = some (.cells (arrN m G) 3 (0, 0))
  bl : Below w0.heap.size w0 wx

theorem rowT_len (n : Int) (l : List Int) (base : Nat) : ∀ m x F G out q, rowT n l base m x F G out = some q → q.2.2.length = out.length + m
  | 0, x, F, G, out, q, h => by obtain rfl := Option.some.inj h; rfl
  | m + 1, x, F, G, out, q, h => by
    unfold rowT at h
    obtain ⟨p, _, h⟩ := Option.bind_eq_some_iff.mp h
    have := rowT_len n l base m _ _ _ _ q h
    simp at this; omega

theorem px_parts {n : Int} {F G : Nat → Int} {x : Nat} {s : Int} {q : (Nat → Int) × (Nat → Int) × Int} (h : px n F G x s = some q) :
    ∃ u v k un e e2, dither_Units.f s = some u ∧ v = wrap64 (u + F (x + 1)) ∧ dither_nearest.f 1024 n v = some k ∧ dither_unit.f n k = some un ∧ dither_Level.f n k = some (q.2.2, e2) ∧ e = wrap64 (v - un) ∧
      q.1 = upd F (x + 2) (wrap64 (F (x + 2) + wrap64 (7 * e) / 16)) ∧
      q.2.1 = upd (upd (upd G x (wrap64 (G x + wrap64 (3 * e) / 16))) (x + 1) (wrap64 ((upd G x (wrap64 (G x + wrap64 (3 * e) / 16))) (x + 1) + wrap64 (5 * e) / 16))) (x + 2)
        (wrap64 ((upd (upd G x (wrap64 (G x + wrap64 (3 * e) / 16))) (x + 1) (wrap64 ((upd G x (wrap64 (G x + wrap64 (3 * e) / 16))) (x + 1) + wrap64 (5 * e) / 16))) (x + 2) + wrap64 (wrap64 (wrap64 (e - wrap64 (7 * e) / 16) - wrap64 (3 * e) / 16) - wrap64 (5 * e) / 16))) := by
  unfold px at h
  obtain ⟨u, hu, h⟩ := Option.bind_eq_some_iff.mp h
  obtain ⟨k, hk, h⟩ := Option.bind_eq_some_iff.mp h
  obtain ⟨un, hun, h⟩ := Option.bind_eq_some_iff.mp h
  obtain ⟨p, hp, h⟩ := Option.bind_eq_some_iff.mp h
  obtain rfl := Option.some.inj h
  exact ⟨u, _, k, un, _, p.2, hu, rfl, hk, hun, hp, rfl, rfl, rfl⟩

end Go.Proofs.Ytmipbbkieadecaa
