/- Diffuse's inner function (Diffuse$1), and trail of the program, handed it: walked by hand. -/
import Derived.Test.YtmipbbkieadecaaH6
open Go Go.RowKit Go.Proofs.YtmipbbkieadecaaW.PrintWords Go.Proofs.YtmipbbkieadecaaW.PrintLast Go.Proofs.YtmipbbkieadecaaW.PrintMore
set_option linter.unusedVariables false
set_option linter.unusedSimpArgs false
namespace Go.Proofs.Ytmipbbkieadecaa
open PDA PDB

/-- What is below B is as it was; from B on, all blocks that were are as they were, but for one block and one row. -/
structure But (B : Nat) (g : Nat) (row : Option Nat) (w w1 : World) : Prop where
  below : Below B w w1
  block : ∀ k, k < w.heap.size → k ≠ g → some k ≠ row → w1.heap[k]? = w.heap[k]?

theorem But.refl (B g : Nat) (row : Option Nat) (w : World) : But B g row w w := ⟨Below.refl _ _, fun _ _ _ _ => rfl⟩

set_option maxHeartbeats 8000000 in
set_option maxRecDepth 100000 in
theorem told (base bn gq : Nat) (w0 w : World) (n i v k e : Int) (W H : Int) (u : Value) (out : List Int) (s e2 : Int) (hbn : w.heap[bn]? = some (.cells #[.int .i64 n] 3 (0, 0))) (hgq : w.heap[gq]? = some (.cells #[.int .i64 W, .int .i64 H, u] 35 (0, 0)))
    (hR : Kd.R (Kd.int .u32) 48 w base (fun _ => True) u out) (hB : Below base w0 w) (hbase : base ≤ w.heap.size) (hgb : base ≤ gq) (hlen : out.length ≤ 65536) (hl : dither_Level.f n k = some (s, e2)) :
    Calls Try.prog 49 #[.int .i64 i, .agg #[.int .i64 v, .int .i64 k, .int .i64 e], .pointer (some ⟨bn, 0, none⟩), .pointer (some ⟨gq, 0, none⟩)] w fun en w' => en = .returned (.bool true) ∧
      ∃ u', w'.heap[gq]? = some (.cells #[.int .i64 W, .int .i64 H, u'] 35 (0, 0)) ∧ Kd.R (Kd.int .u32) 48 w' base (fun _ => True) u' (out ++ [s]) ∧ Below base w0 w' ∧ w.heap.size ≤ w'.heap.size ∧ ∀ x, x < w.heap.size → x ≠ gq → some x ≠ u.ownBlock → w'.heap[x]? = w.heap[x]? := by
  have hlt := blk_lt hgq
  have c1 : ∀ o, (w.alloc o).cell? ⟨bn, 0, none⟩ = some (.int .i64 n) := fun o => (blk_cell (blk_alloc hbn o) 0).trans rfl
  have HR := Aside0.mk hR
  have HB := Aside0.mk hB
  have HG := Aside0.mk hgq
  clear hbn hgq hR hB
  go_enter Try.func49, Try.ntmps49
  go_wp2_with fail
  refine (dither_Level.calls n k s e2 _ hl).mono ?_
  rintro en w1 ⟨rfl, ⟨nd, rfl⟩⟩
  have g1 : (w.alloc (.cells #[.int .i64 v, .int .i64 k, .int .i64 e] 71)).heap[gq]? = some (.cells #[.int .i64 W, .int .i64 H, u] 35 (0, 0)) := blk_alloc HG.out _
  have y2 : (w.alloc (.cells #[.int .i64 v, .int .i64 k, .int .i64 e] 71)).cell? ⟨gq, 2, none⟩ = some u := (blk_cell g1 2).trans rfl
  have G1 := Aside0.mk (blk_drewN g1 nd)
  have R1 := Aside0.mk (Kd.R_drewN (Kd.R_alloc HR.out (.cells #[.int .i64 v, .int .i64 k, .int .i64 e] 71)) nd)
  have B1 := Aside0.mk (below_drewN (below_then HB.out hbase (below_alloc (Below.refl _ _) (.cells #[.int .i64 v, .int .i64 k, .int .i64 e] 71))) nd)
  have S1 : w.heap.size ≤ ((w.alloc (.cells #[.int .i64 v, .int .i64 k, .int .i64 e] 71)).drewN nd).heap.size := by simp
  have K1 : ∀ x, x < w.heap.size → ((w.alloc (.cells #[.int .i64 v, .int .i64 k, .int .i64 e] 71)).drewN nd).heap[x]? = w.heap[x]? := fun x hx => (below_alloc (Below.refl w.heap.size w) _).block x hx
  have KK := Aside0.mk K1
  have SS := Aside0.mk S1
  clear HR HB HG c1 g1 K1 S1 y2
  generalize (w.alloc (.cells #[.int .i64 v, .int .i64 k, .int .i64 e] 71)).drewN nd = w1 at G1 R1 B1 KK SS ⊢
  have y2 : w1.cell? ⟨gq, 2, none⟩ = some u := (blk_cell G1.out 2).trans rfl
  go_wp2_with (first
    | (with_reducible refine gate_builtin (b := .append) (xs := #[.tmp 17, .tmp 19]) rfl ?_
       refine stopHere ?_))
  unfold StopHere
  at_builtin
  refine Kd.R_append (Kd.int .u32) (w0 := w0) base rfl (.tmp 17) (.tmp 19) 33 48 (.int .u32 0) 4 rfl Try.underlying33 info48 rfl (by decide) (by omega) u out s [.int .u32 s] (fun _ => True) (fun _ => False) rfl rfl rfl (fun _ hk => hk.elim) (fun _ _ => trivial) R1.out B1.out (Nat.le_trans hbase SS.out) (by omega) ?_
  intro v2 w8 ho hb hg hat
  have g4 := blk_grown G1.out hg (Kd.R_ne R1.out G1.out (by decide))
  obtain ⟨Ao, co, eo⟩ := Kd.R_slice ho
  have hln : (out ++ [s]).length = out.length + 1 := by simp
  rw [hln] at eo
  clear hln
  subst eo
  have z2 : w8.cell? ⟨gq, 2, none⟩ = some u := (blk_cell g4 2).trans rfl
  have zf := blk_frozen g4 2
  have hk8 : ∀ x, x < w.heap.size → some x ≠ u.ownBlock → w8.heap[x]? = w.heap[x]? := fun x hx hne => (hg.block x (Nat.lt_of_lt_of_le hx SS.out) hne).trans (KK.out x hx)
  have hs8 : w.heap.size ≤ w8.heap.size := Nat.le_trans SS.out hg.size
  have HK8 := Aside0.mk hk8
  have HS8 := Aside0.mk hs8
  have G4 := Aside0.mk g4
  have HO := Aside0.mk ho
  have HB8 := Aside0.mk hb
  clear hk8 hs8 g4 ho hb hg hat G1 R1 B1 KK SS y2
  go_wp2
  go_ret
  refine ⟨rfl, _, blk_put G4.out 2 _ rfl, Kd.R_set HO.out G4.out (by decide) 2 _, HB8.out.setCell (show base ≤ gq from hgb) _, by simp; exact HS8.out, fun x hx h1 h2 => ?_⟩
  rw [Below.heap_setCell _ _ _ _ (show x ≠ gq from h1)]
  exact HK8.out x hx h2

def arrN (m : Nat) (F : Nat → Int) : Array Value := ((List.range m).map (fun i => Value.int .i64 (F i))).toArray
def upd (F : Nat → Int) (j : Nat) (v : Int) : Nat → Int := fun i => if i = j then v else F i
theorem arrN_size (m : Nat) (F : Nat → Int) : (arrN m F).size = m := by simp [arrN]
theorem arrN_get (m : Nat) (F : Nat → Int) (i : Nat) (h : i < m) : (arrN m F)[i]? = some (.int .i64 (F i)) := by simp [arrN, h]
theorem arrN_set (m : Nat) (F : Nat → Int) (j : Nat) (v : Int) : (arrN m F).setIfInBounds j (.int .i64 v) = arrN m (upd F j v) := by
  apply Array.ext_getElem?
  intro i
  rw [Array.getElem?_setIfInBounds]
  by_cases h : i < m
  · rw [arrN_get m _ i h, arrN_size]
    by_cases hj : j = i
    · subst hj; rw [arrN_get m _ j h]; simp [h, upd]
    · have : ¬ i = j := fun e => hj e.symm
      rw [arrN_get m _ i h]; simp [hj, this, upd]
  · have h1 : (arrN m F)[i]? = none := by rw [Array.getElem?_eq_none_iff, arrN_size]; omega
    have h2 : (arrN m (upd F j v))[i]? = none := by rw [Array.getElem?_eq_none_iff, arrN_size]; omega
    rw [h1, h2, arrN_size]
    by_cases hj : j = i
    · subst hj; simp [h]
    · simp [hj]
theorem made_arrN (m : Nat) : madeCells (Value.cells (.int .i64 0)) m = arrN m (fun _ => 0) := by
  apply Array.ext_getElem?
  intro i
  by_cases h : i < m
  · rw [arrN_get m _ i h]
    simp [madeCells, Value.cells, h, Nat.mod_one]
  · have h1 : (madeCells (Value.cells (.int .i64 0)) m)[i]? = none := by rw [Array.getElem?_eq_none_iff, size_madeCells]; omega
    have h2 : (arrN m (fun _ => 0))[i]? = none := by rw [Array.getElem?_eq_none_iff, arrN_size]; omega
    rw [h1, h2]

/-- One place: the rows behind it, and its sample. -/
def px (n : Int) (F G : Nat → Int) (x : Nat) (s : Int) : Option ((Nat → Int) × (Nat → Int) × Int) :=
  (dither_Units.f s).bind fun u => (dither_nearest.f 1024 n (wrap64 (u + F (x + 1)))).bind fun k => (dither_unit.f n k).bind fun un => (dither_Level.f n k).bind fun p =>
    let e := wrap64 (wrap64 (u + F (x + 1)) - un)
    let right := wrap64 (7 * e) / 16
    let left := wrap64 (3 * e) / 16
    let mid := wrap64 (5 * e) / 16
    let G1 := upd G x (wrap64 (G x + left))
    let G2 := upd G1 (x + 1) (wrap64 (G1 (x + 1) + mid))
    some (upd F (x + 2) (wrap64 (F (x + 2) + right)), upd G2 (x + 2) (wrap64 (G2 (x + 2) + wrap64 (wrap64 (wrap64 (e - right) - left) - mid))), p.1)
/-- m places of a row, from x on. -/
def rowT (n : Int) (l : List Int) (base : Nat) : Nat → Nat → (Nat → Int) → (Nat → Int) → List Int → Option ((Nat → Int) × (Nat → Int) × List Int)
  | 0, _, F, G, out => some (F, G, out)
  | m + 1, x, F, G, out => (px n F G x (l.getD (base + x) 0)).bind fun q => rowT n l base m (x + 1) q.1 q.2.1 (out ++ [q.2.2])
/-- m rows, from y on. -/
def allT (n : Int) (l : List Int) (W : Nat) : Nat → Nat → (Nat → Int) → Int → List Int → Option ((Nat → Int) × Int × List Int)
  | 0, _, F, fall, out => some (F, fall, out)
  | m + 1, y, F, fall, out => (rowT n l (y * W) W 0 F (fun _ => 0) out).bind fun q =>
      allT n l W m (y + 1) (upd (upd q.2.1 0 0) (W + 1) 0) (wrap64 (wrap64 (fall + wrap64 (q.1 (W + 1) + q.2.1 0)) + upd q.2.1 0 0 (W + 1))) q.2.2
/-- What falls out of the last row: m places, from x on. -/
def lastT (F : Nat → Int) : Nat → Nat → Int → Int
  | 0, _, fall => fall
  | m + 1, x, fall => lastT F m (x + 1) (wrap64 (fall + F (x + 1)))

/-- The blocks under way. -/
structure TR (w0 : World) (bn br gq B gh gb : Nat) (n : Int) (W H : Int) (V : Value) (cs : Array Value) (m : Nat) (F G : Nat → Int) (out : List Int) (wx : World) : Prop where
  ex : ∃ u, wx.heap[gq]? = some (.cells #[.int .i64 W, .int .i64 H, u] 35 (0, 0)) ∧ Kd.R (Kd.int .u32) 48 wx w0.heap.size (fun _ => True) u out
  hB : wx.heap[B]? = some (.cells #[.int .i64 W, .int .i64 H, V] 35 (0, 0))
  hn : wx.heap[bn]? = some (.cells #[.int .i64 n] 3 (0, 0))
  hr : wx.heap[br]? = some (.cells cs 35 (0, 0))
  hh : wx.heap[gh]? = some (.cells (arrN m F) 3 (0, 0))
  hb : wx.heap[gb]? = some (.cells (arrN m G) 3 (0, 0))
  bl : Below w0.heap.size w0 wx

theorem rowT_len (n : Int) (l : List Int) (base : Nat) : ∀ m x F G out q, rowT n l base m x F G out = some q → q.2.2.length = out.length + m
  | 0, x, F, G, out, q, h => by obtain rfl := Option.some.inj h; rfl
  | m + 1, x, F, G, out, q, h => by
    unfold rowT at h
    obtain ⟨p, _, h⟩ := Option.bind_eq_some_iff.mp h
    have := rowT_len n l base m _ _ _ _ q h
    simp at this; omega

theorem px_parts {n : Int} {F G : Nat → Int} {x : Nat} {s : Int} {q : (Nat → Int) × (Nat → Int) × Int} (h : px n F G x s = some q) :
    ∃ u v k un e e2, dither_Units.f s = some u ∧ v = wrap64 (u + F (x + 1)) ∧ dither_nearest.f 1024 n v = some k ∧ dither_unit.f n k = some un ∧ dither_Level.f n k = some (q.2.2, e2) ∧ e = wrap64 (v - un) ∧
      q.1 = upd F (x + 2) (wrap64 (F (x + 2) + wrap64 (7 * e) / 16)) ∧
      q.2.1 = upd (upd (upd G x (wrap64 (G x + wrap64 (3 * e) / 16))) (x + 1) (wrap64 ((upd G x (wrap64 (G x + wrap64 (3 * e) / 16))) (x + 1) + wrap64 (5 * e) / 16))) (x + 2)
        (wrap64 ((upd (upd G x (wrap64 (G x + wrap64 (3 * e) / 16))) (x + 1) (wrap64 ((upd G x (wrap64 (G x + wrap64 (3 * e) / 16))) (x + 1) + wrap64 (5 * e) / 16))) (x + 2) + wrap64 (wrap64 (wrap64 (e - wrap64 (7 * e) / 16) - wrap64 (3 * e) / 16) - wrap64 (5 * e) / 16))) := by
  unfold px at h
  obtain ⟨u, hu, h⟩ := Option.bind_eq_some_iff.mp h
  obtain ⟨k, hk, h⟩ := Option.bind_eq_some_iff.mp h
  obtain ⟨un, hun, h⟩ := Option.bind_eq_some_iff.mp h
  obtain ⟨p, hp, h⟩ := Option.bind_eq_some_iff.mp h
  obtain rfl := Option.some.inj h
  exact ⟨u, _, k, un, _, p.2, hu, rfl, hk, hun, hp, rfl, rfl, rfl⟩

end Go.Proofs.Ytmipbbkieadecaa
