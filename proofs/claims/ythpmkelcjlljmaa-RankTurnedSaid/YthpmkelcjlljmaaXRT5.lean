import Derived.Test.YthpmkelcjlljmaaXPRBx2
import Derived.Test.YthpmkelcjlljmaaXPRAx3
open Go Go.RowKit Go.Proofs.YthpmkelcjlljmaaW.PrintWords Go.Proofs.YthpmkelcjlljmaaW.PrintLast Go.Proofs.YthpmkelcjlljmaaW.PrintMore
set_option linter.unusedVariables false
set_option linter.unusedSimpArgs false
namespace Go.Proofs.Ythpmkelcjlljmaa
open PRA PRB
namespace RT
theorem row_new {W : World} {base : Nat} {v : Value} {l : List Int} (h : (Kd.int .u32).R 41 W base (fun _ => True) v l) (hn : 0 < l.length) : ∃ b c, v = .slice (some ⟨b, 0, none⟩) l.length c ∧ base ≤ b ∧ b < W.heap.size ∧ (Kd.int .u32).R 41 W base (fun k => k = b) (.slice (some ⟨b, 0, none⟩) l.length c) l := by
  obtain ⟨b, c, rfl, h1, h2, _⟩ := Kd.R_form h hn
  refine ⟨b, c, rfl, h1, h2, ?_⟩
  obtain ⟨h0, inner, ho, hr⟩ := h
  exact Kd.R_of_own (enc := Value.int .u32) (Kd.own_of_R (enc := Value.int .u32) ⟨h0, inner, ho, hr⟩) (fun k hk => (by simpa [Value.ownBlock] using hk : b = k).symm)
theorem row_len {W : World} {base n : Nat} {ok : Nat → Prop} {A : Option Addr} {c : Nat} {l : List Int} (h : (Kd.int .u32).R 41 W base ok (.slice A n c) l) : n = l.length := (Kd.Bs h).1
theorem row_set {W : World} {base g n c : Nat} {ok : Nat → Prop} {xs : List Int} (h : (Kd.int .u32).R 41 W base ok (.slice (some ⟨g, 0, none⟩) n c) xs) (i : Nat) (x : Int) : (Kd.int .u32).R 41 (W.setCell ⟨g, i, none⟩ (.int .u32 x)) base ok (.slice (some ⟨g, 0, none⟩) n c) (xs.set i x) := by
  have h1 := row_len h
  subst h1
  have h2 := (Kd.R_put (enc := Value.int .u32) h (i : Int) x).1
  rw [Int.toNat_natCast] at h2
  exact h2
theorem row_at {W : World} {base g n c : Nat} {ok : Nat → Prop} {xs : List Int} (h : (Kd.int .u32).R 41 W base ok (.slice (some ⟨g, 0, none⟩) n c) xs) (i : Nat) (hi : i < n) : W.cell? ⟨g, i, none⟩ = some (.int .u32 (xs.getD i 0)) ∧ W.frozen? ⟨g, i, none⟩ = false := by
  have h1 := row_len h
  subst h1
  have h2 := Kd.R_cell (enc := Value.int .u32) 0 h (i : Int) (by omega) (by omega)
  rw [Int.toNat_natCast] at h2
  unfold rdOf at h2
  rw [Int.toNat_natCast] at h2
  exact h2
theorem row_move {W W' : World} {base g n c : Nat} {xs : List Int} (h : (Kd.int .u32).R 41 W base (fun k => k = g) (.slice (some ⟨g, 0, none⟩) n c) xs) (hm : W'.heap[g]? = W.heap[g]?) : (Kd.int .u32).R 41 W' base (fun k => k = g) (.slice (some ⟨g, 0, none⟩) n c) xs :=
  Kd.R_step h (fun k hk _ => by subst hk; exact hm)
theorem set_far (w : World) (p : Addr) (u : Value) (b : Nat) (h : b ≠ p.block) : (w.setCell p u).heap[b]? = w.heap[b]? := Below.heap_setCell w p u b h
theorem set_size (w : World) (p : Addr) (u : Value) : (w.setCell p u).heap.size = w.heap.size := by
  show (w.heap.modify _ _).size = _
  rw [Array.size_modify]
theorem put3 {w : World} {g : Nat} {x0 x1 x2 : Value} (y0 y1 y2 : Value) (h : w.heap[g]? = some (.cells #[x0, x1, x2] 25 (0, 0))) :
    (((w.setCell ⟨g, 0, none⟩ y0).setCell ⟨g, 1, none⟩ y1).setCell ⟨g, 2, none⟩ y2).heap[g]? = some (.cells #[y0, y1, y2] 25 (0, 0)) ∧ (∀ b, b ≠ g → (((w.setCell ⟨g, 0, none⟩ y0).setCell ⟨g, 1, none⟩ y1).setCell ⟨g, 2, none⟩ y2).heap[b]? = w.heap[b]?) ∧
      (((w.setCell ⟨g, 0, none⟩ y0).setCell ⟨g, 1, none⟩ y1).setCell ⟨g, 2, none⟩ y2).heap.size = w.heap.size ∧ Below g w (((w.setCell ⟨g, 0, none⟩ y0).setCell ⟨g, 1, none⟩ y1).setCell ⟨g, 2, none⟩ y2) :=
  ⟨Aq (Aq (Aq h 0 _ rfl) 1 _ rfl) 2 _ rfl, fun b hb => by rw [set_far _ _ _ _ hb, set_far _ _ _ _ hb, set_far _ _ _ _ hb], by rw [set_size, set_size, set_size],
    (((Below.refl g w).setCell (p := ⟨g, 0, none⟩) (Nat.le_refl g) y0).setCell (p := ⟨g, 1, none⟩) (Nat.le_refl g) y1).setCell (p := ⟨g, 2, none⟩) (Nat.le_refl g) y2⟩
theorem set_step (f : Int → Int) (l : List Int) (i : Nat) (hi : i < l.length) : ((l.take i).map f ++ l.drop i).set i (f (l.getD i 0)) = (l.take (i + 1)).map f ++ l.drop (i + 1) := by
  have h1 : ((l.take i).map f).length = i := by rw [List.length_map, List.length_take]; omega
  rw [List.set_append_right _ _ (by omega), h1, Nat.sub_self, List.drop_eq_getElem_cons hi, List.set_cons_zero, List.take_succ_eq_append_getElem hi, List.map_append, List.append_assoc, List.getD_eq_getElem?_getD, List.getElem?_eq_getElem hi]
  rfl
theorem plane_calls2 (n : Nat) (K : Nat) (a b : Int) (A : Option Addr) (c : Nat) (l : List Int) (bk w hh k r1 r2 : Int) (r3 : List Int) (r4 : Int) (W : World) (hn : l.length = n) (hr : Kd.C (Kd.int .u32) W A n l) (hc : n ≤ c) (h : Bi.f K a b l bk w hh k = some (r1, r2, r3, r4)) :
    Calls Try.prog 14 #[.agg #[.int .i64 a, .int .i64 b, .slice A n c], .int .i64 bk, .int .i64 w, .int .i64 hh, .int .i64 k] W fun e w' => ∃ v : Value, e = .returned (.tuple #[.agg #[.int .i64 r1, .int .i64 r2, v], .int .i64 r4]) ∧ Kd.R (Kd.int .u32) 41 w' W.heap.size (fun _ => True) v r3 ∧ Below W.heap.size W w' := by
  subst hn
  exact Bi.calls K a b A c l bk w hh k r1 r2 r3 r4 W hr hc h
theorem sized_calls2 (n m : Nat) (a b : Int) (A : Option Addr) (c : Nat) (l : List Int) (a1 b1 : Int) (A1 : Option Addr) (c1 : Nat) (l1 : List Int) (r : Bool) (W : World) (hn : l.length = n) (hm : l1.length = m) (hr : Kd.C (Kd.int .u32) W A n l) (hc : n ≤ c) (hr1 : Kd.C (Kd.int .u32) W A1 m l1) (hc1 : m ≤ c1) (h : Cb.f a b l a1 b1 l1 = some r) :
    Calls Try.prog 28 #[.agg #[.int .i64 a, .int .i64 b, .slice A n c], .agg #[.int .i64 a1, .int .i64 b1, .slice A1 m c1]] W fun e w' => e = .returned (.bool r) ∧ Below W.heap.size W w' := by
  subst hn hm
  exact Cb.calls a b A c l a1 b1 A1 c1 l1 r W hr hc hr1 hc1 h
end RT
end Go.Proofs.Ythpmkelcjlljmaa

