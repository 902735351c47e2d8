import Derived.Test.YtbfimplajocmmaaXKR
import Derived.Test.YtbfimplajocmmaaXKP
section
open Go Go.RowKit Go.Proofs.YtbfimplajocmmaaW.PrintWords Go.Proofs.YtbfimplajocmmaaW.PrintLast Go.Proofs.YtbfimplajocmmaaW.PrintMore
attribute [local go_sem ↓] Go.wp_at_zero Go.wp_at_succ
set_option linter.unusedVariables false
set_option linter.unusedSimpArgs false
namespace Go.Proofs.Ytbfimplajocmmaa.BK
set_option maxRecDepth 100000 in
set_option maxHeartbeats 4000000 in
theorem Plane_frame (w0 w : World) (rb : Nat) (sv swv : Value) (L : List (List Int)) (hR : RM w rb sv swv L) (hb0 : Below rb w0 w) (a0 a1 : Int) (A : Option Addr) (c : Nat) (l : List Int) (hC : (Kd.int .u32).C w A l.length l) (hl : l.length ≤ 35184372087808) (hL : L.length ≤ 1000) :
    Calls Try.prog 7 #[.pointer (some ⟨rb, 0, none⟩), .agg #[.int .i64 a0, .int .i64 a1, .slice A l.length c]] w fun e w' => ∃ A' c', e = .returned (.agg #[.int .i64 a0, .int .i64 a1, .slice A' l.length c']) ∧ (Kd.int .u32).R 28 w' rb (fun k => k ≠ rb) (.slice A' l.length c') l ∧ (∃ sv' swv', RM w' rb sv' swv' (L ++ [lentOf l 5])) ∧ Below rb w0 w' ∧ ∀ k, k < w.heap.size → k ≠ rb → some k ≠ sv.ownBlock → some k ≠ swv.ownBlock → w'.heap[k]? = w.heap[k]? := by
  have hrl := Ba hR.b; have hsvb : ∀ j, sv.ownBlock = some j → j < w.heap.size := fun j hj => ((Kd.Cu hR.r).1 j hj).2.2.1
  have hswb : ∀ j, swv.ownBlock = some j → j < w.heap.size := fun j hj => ((Kd.Cu hR.q).1 j hj).2.2.1
  have HC := Ae.mk hC; have HR := Ae.mk hR; have HB0 := Ae.mk hb0; clear hC hR hb0; go_enter Try.func7, Try.ntmps7
  go_upto_region 1 with fail
  obtain ⟨w1, hw1⟩ : ∃ y, y = (w.alloc (.cells #[.int .i64 a0, .int .i64 a1, .slice A l.length c] 24)).alloc (.cells #[.int .i64 0, .int .i64 0, .slice none 0 0] 24) := ⟨_, rfl⟩; rw [← hw1]; have hp : w1.heap[w.heap.size]? = some (.cells #[.int .i64 a0, .int .i64 a1, .slice A l.length c] 24 (0, 0)) := by rw [hw1]; exact An (Cr _ _) _
  have hq : w1.heap[w.heap.size + 1]? = some (.cells #[.int .i64 0, .int .i64 0, .slice none 0 0] 24 (0, 0)) := by rw [hw1]; exact Go.Proofs.Ytbfimplajocmmaa.H.bnew _ (by simp)
  have hbw : Below w.heap.size w w1 := by rw [hw1]; exact Ah (Ah (Below.refl _ _) _) _
  have hsz : w1.heap.size = w.heap.size + 2 := by rw [hw1]; simp
  have hc2 : w1.cell? ⟨w.heap.size, 2, none⟩ = some (.slice A l.length c) := (Af hp 2).trans rfl; have hKB := hbw.block; have HKB := Ae.mk hKB; clear hKB; have hR1 : RM w1 rb sv swv L := HR.out.move (fun k _ hk => hbw.block k hk); have hC1 := Kd.Bw HC.out hbw; have hB1 : Below rb w0 w1 := HB0.out.trans (hbw.mono (by omega)); have HR1 := Ae.mk hR1; have HC1 := Ae.mk hC1; have HB1 := Ae.mk hB1; have HP := Ae.mk hp; have HQ := Ae.mk hq; clear hw1 hp hq hbw hR1 hC1 hB1 HC HR HB0
  go_wp2_with (go_at_call 43; refine (Samples_calls w0 w1 rb sv swv L HR1.out HB1.out A c l HC1.out hl hL).mono ?_; rintro e w2 ⟨A', c', rfl, h1, h2, h3, h4⟩; have hp2 := (h4 w.heap.size (by omega) (by omega) (fun e => by have := hsvb _ e.symm; omega) (fun e => by have := hswb _ e.symm; omega)).trans HP.out; have hq2 := (h4 (w.heap.size + 1) (by omega) (by omega) (fun e => by have := hsvb _ e.symm; omega) (fun e => by have := hswb _ e.symm; omega)).trans HQ.out; have cp0 := (Af hp2 0).trans rfl; have cp1 := (Af hp2 1).trans rfl; have cp2 := (Af hp2 2).trans rfl; have fp2 := Ag hp2 2; have cq0 := (Af hq2 0).trans rfl; have cq1 := (Af hq2 1).trans rfl; have cq2 := (Af hq2 2).trans rfl; have fq0 := Ag hq2 0; have fq1 := Ag hq2 1; have fq2 := Ag hq2 2; have X1 := Ae.mk h1; have X2 := Ae.mk h2; have X3 := Ae.mk h3; have X4 := Ae.mk h4; have XP := Ae.mk hp2; have XQ := Ae.mk hq2; clear h1 h2 h3 h4 hp2 hq2)
  have p1 := Az XP.out 2 (.slice A' l.length c') rfl; have q1 := Be XQ.out (p := ⟨w.heap.size, 2, none⟩) (show w.heap.size + 1 ≠ w.heap.size by omega) (.slice A' l.length c'); have q2 := Az q1 0 (.int .i64 a0) rfl; have q3 := Az q2 1 (.int .i64 a1) rfl; have q4 := Az q3 2 (.slice A' l.length c') rfl; have ht : ∀ q, q ∈ 28 :: (Kd.int IntKind.u32).E → q ≠ 24 := by intro q hq; simp [Kd.int, Kd.scalar] at hq; omega
  refine bodyPost_ret (results_cell_row rfl _ _ (w.heap.size + 1) 24 #[.int .i64 a0, .int .i64 a1, .slice A' l.length c'] (0, 0) _ rfl q4 Try.underlying24 rfl (by kernel_rfl)) rfl ?_; obtain ⟨sv', swv', hrm⟩ := X2.out; refine ⟨A', c', rfl, R_off (R_off (R_off (R_off X1.out XP.out ht _) q1 ht _) q2 ht _) q3 ht _, ⟨sv', swv', (((hrm.off XP.out _).off q1 _).off q2 _).off q3 _⟩, ?_⟩; refine ⟨(((X3.out.setCell (p := ⟨w.heap.size, 2, none⟩) (show rb ≤ w.heap.size by omega) _).setCell (p := ⟨w.heap.size + 1, 0, none⟩) (show rb ≤ w.heap.size + 1 by omega) _).setCell (p := ⟨w.heap.size + 1, 1, none⟩) (show rb ≤ w.heap.size + 1 by omega) _).setCell (p := ⟨w.heap.size + 1, 2, none⟩) (show rb ≤ w.heap.size + 1 by omega) _, fun k hk h1 h2 h3 => ?_⟩; rw [Below.heap_setCell _ _ _ _ (show k ≠ w.heap.size + 1 by omega), Below.heap_setCell _ _ _ _ (show k ≠ w.heap.size + 1 by omega), Below.heap_setCell _ _ _ _ (show k ≠ w.heap.size + 1 by omega), Below.heap_setCell _ _ _ _ (show k ≠ w.heap.size by omega)]; exact (X4.out k (by omega) h1 h2 h3).trans (HKB.out k hk)
end Go.Proofs.Ytbfimplajocmmaa.BK
end
section
open Go Go.RowKit Go.Proofs.YtbfimplajocmmaaW.PrintWords Go.Proofs.YtbfimplajocmmaaW.PrintLast Go.Proofs.YtbfimplajocmmaaW.PrintMore
set_option linter.unusedVariables false
set_option linter.unusedSimpArgs false
namespace Go.Proofs.Ytbfimplajocmmaa
structure Kq (w w5 W : World) (kb n : Nat) : Prop where
  le : w.heap.size ≤ kb
  lt : kb < w5.heap.size
  bk : ∃ v vm L ms, BS.BS W w.heap.size kb (fun k => w5.heap.size ≤ k) v vm L ms ∧ L.length = n
  bel : Below w.heap.size w W
  fr : ∀ k, k < w5.heap.size → k ≠ kb → W.heap[k]? = w5.heap[k]?
  sz : w5.heap.size ≤ W.heap.size
theorem Kq.start {w w5 : World} {kb : Nat} (le : w.heap.size ≤ kb) (hk : w5.heap[kb]? = some (.cells #[.slice none 0 0, .slice none 0 0, .slice none 0 0, .slice none 0 0, .slice none 0 0, .slice none 0 0, .slice none 0 0, .slice none 0 0] 38 (0, 0))) (bel : Below w.heap.size w w5) : Kq w w5 w5 kb 0 :=
  ⟨le, Ba hk, ⟨_, _, [], [], ⟨hk, le, fun h => by have := Ba hk; omega, Kd.C5 _ _ _ _ _, Kd.C5 _ _ _ _ _, rfl, fun j hj => by simp at hj⟩, rfl⟩, bel, fun _ _ _ => rfl, Nat.le_refl _⟩
theorem Kq.plane {w w5 W W' : World} {kb n : Nat} (h : Kq w w5 W kb n) (hb : Below W.heap.size W W') (a0 a1 : Int) (l : Value) (xs : List Int) (hl : (Kd.int .u32).R 28 W' W.heap.size (fun _ => True) l xs) (m : Int) (hn : n ≤ 1000) :
    Calls Try.prog 18 #[.pointer (some ⟨kb, 0, none⟩), .agg #[.int .i64 a0, .int .i64 a1, l], .int .i64 m] W' fun e w' => e = .returned (.tuple #[]) ∧ Kq w w5 w' kb (n + 1) := by
  obtain ⟨v, vm, L, ms, hB, hL⟩ := h.bk; have hle := h.le; have hlt := h.lt; have hsz := h.sz; have hz : w.heap.size ≤ W.heap.size := h.bel.size; refine (BS.Plane_calls w W W' w.heap.size kb _ v vm L ms hB hb (h.bel.trans (hb.mono hz)) (fun k hk => by omega) a0 a1 l xs hl m (by omega)).mono ?_; rintro e w' ⟨rfl, ⟨v', vm', n', h1⟩, h2, h3, h4⟩; exact ⟨rfl, hle, hlt, ⟨_, _, _, _, h1, by rw [List.length_append, hL]; rfl⟩, h2, fun k hk hk2 => (h3 k (by omega) (fun h => by omega) hk2).trans (h.fr k hk hk2), by omega⟩
theorem Kq.hold {w w5 W : World} {kb n : Nat} (h : Kq w w5 W kb n) (hn : n ≤ 1000) :
    Calls Try.prog 19 #[.pointer (some ⟨kb, 0, none⟩)] W fun e w' => e = .returned (.bool true) ∧ ∃ n, w' = W.drewN n := by
  obtain ⟨v, vm, L, ms, hB, hL⟩ := h.bk; exact BS.Hold_calls W w.heap.size kb _ v vm L ms hB (by omega)
theorem Kq.room {w w5 W : World} {kb n rb : Nat} (h : Kq w w5 W kb n) {sv swv : Value} {L : List (List Int)} (hr : kb < rb) (hR : BK.RM w5 rb sv swv L) : BK.RM W rb sv swv L := hR.move (fun k h1 h2 => h.fr k h2 (by omega))
theorem Kq.row {α : Type} {d : Kd α} {e base : Nat} {ok : Nat → Prop} {v : Value} {xs : List α} {w w5 W : World} {kb n : Nat} (h : Kq w w5 W kb n) (hb : kb < base) (hp : d.R e w5 base ok v xs) : d.R e W base ok v xs :=
  Kd.Bt (Kd.Du (Kd.Cu hp) (fun k hk hl => h.fr k hl (by have := hk.2.1; omega))) (fun k hk => hk.1)
theorem R_offg {α : Type} {d : Kd α} {e base g t : Nat} {ok : Nat → Prop} {w w' : World} {v : Value} {xs : List α} {cs : Array Value} (h : d.R e w base ok v xs) (hp : w.heap[g]? = some (.cells cs t (0, 0))) (ht : ∀ q, q ∈ e :: d.E → q ≠ t) (ho : ∀ k, k ≠ g → w'.heap[k]? = w.heap[k]?) : d.R e w' base ok v xs := by
  refine Kd.Bt (Kd.Du (Kd.Cu h) (fun k hk _ => ho k (fun e2 => ?_))) (fun _ hk => hk.1); obtain ⟨_, _, _, q, hq, cells, hc⟩ := hk; subst e2; rw [hp] at hc; injection hc with hc
  injection hc with _ h2
  exact ht q hq h2.symm
theorem RM_offg {w w' : World} {rb g t : Nat} {sv swv : Value} {L : List (List Int)} {cs : Array Value} (h : BK.RM w rb sv swv L) (hg : g ≠ rb) (hp : w.heap[g]? = some (.cells cs t (0, 0))) (ht : 28 ≠ t ∧ 22 ≠ t) (ho : ∀ k, k ≠ g → w'.heap[k]? = w.heap[k]?) : BK.RM w' rb sv swv L :=
  ⟨(ho rb (Ne.symm hg)).trans h.b, R_offg h.r hp (by intro q hq; simp [Kd.slice, Kd.int, Kd.scalar] at hq; omega) ho, R_offg h.q hp (by intro q hq; simp [Kd.slice, Kd.int, Kd.scalar] at hq; omega) ho⟩
theorem R_not {w : World} {base g t : Nat} {ok : Nat → Prop} {A : Option Addr} {n c : Nat} {xs : List Bool} {cs : Array Value} (h : Kd.bool.R 4 w base ok (.slice A n c) xs) (hp : w.heap[g]? = some (.cells cs t (0, 0))) (ht : t ≠ 4) : A ≠ some ⟨g, 0, none⟩ := by
  intro e; subst e; obtain ⟨cells, hc⟩ := Kd.R_typed h g rfl; rw [hp] at hc; injection hc with hc
  injection hc with _ h2
  exact ht h2
theorem R_frame {α : Type} {d : Kd α} {e base b2 : Nat} {ok ok2 : Nat → Prop} {w w' : World} {v : Value} {xs : List α} {A : Option Addr} {n c : Nat} {ys : List Bool} (h : d.R e w base ok v xs) (hR : Kd.bool.R 4 w b2 ok2 (.slice A n c) ys) (fr : ∀ k, k < w.heap.size → A ≠ some ⟨k, 0, none⟩ → w'.heap[k]? = w.heap[k]?) (ht : ∀ q, q ∈ e :: d.E → q ≠ 4) : d.R e w' base ok v xs := by
  refine Kd.Bt (Kd.Du (Kd.Cu h) (fun k hk hl => fr k hl ?_)) (fun _ hk => hk.1); obtain ⟨_, _, _, q, hq, cells, hc⟩ := hk; exact R_not hR hc (ht q hq)
end Go.Proofs.Ytbfimplajocmmaa
end
