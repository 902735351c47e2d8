import Derived.Test.YtbfimplajocmmaaXKL
import Derived.Test.YtbfimplajocmmaaXPFAx6
import Derived.Test.YtbfimplajocmmaaXPFAx2
import Derived.Test.YtbfimplajocmmaaXE0
section
open Go Go.RowKit Go.Proofs.YtbfimplajocmmaaW.PrintWords Go.Proofs.YtbfimplajocmmaaW.PrintLast Go.Proofs.YtbfimplajocmmaaW.PrintMore
attribute [local go_sem ↓] Go.wp_at_zero Go.wp_at_succ
set_option linter.unusedVariables false
set_option linter.unusedSimpArgs false
namespace Go.Proofs.Ytbfimplajocmmaa.BK
open PFA
theorem num_any (a : Int) (w : World) : Calls Try.prog 14 #[.int .i64 a] w fun e w' => e = .returned (.int .i64 a) ∧ ∃ n, w' = w.drewN n :=
  (halidelaw30_num.calls a a w rfl).mono fun _ _ ⟨h1, h2⟩ => ⟨h1, h2.out⟩
theorem room_get (l : List Bool) (k : Nat) (hk : k < 3) : (roomOf l).getD (l.length + k) false = [true, false, true].getD k false := by
  unfold roomOf; rw [List.getD_eq_getElem?_getD, List.getElem?_append_right (by omega), Nat.add_sub_cancel_left, List.getD_eq_getElem?_getD]
set_option maxRecDepth 100000 in
set_option maxHeartbeats 4000000 in
theorem stays_calls (k : Nat) (w : World) (base : Nat) (ok1 ok2 : Nat → Prop) (a0 a1 : Int) (l : List Bool) (g c1 : Nat) (Aw : Option Addr) (cw : Nat) (hR : Kd.bool.R 4 w base ok1 (.slice (some ⟨g, 0, none⟩) (l.length + 3) c1) (roomOf l)) (hW : Kd.bool.R 4 w base ok2 (.slice Aw l.length cw) l) (hl : l.length ≤ 140737488351232) (hs : Ay.f k a0 a1 l a0 a1 l = some true) :
    Calls Try.prog 21 #[.agg #[.int .i64 a0, .int .i64 a1, .slice (some ⟨g, 0, none⟩) l.length c1, .int .i64 a0, .int .i64 a1, .slice Aw l.length cw, .slice (some ⟨g, 0, none⟩) (l.length + 3) c1]] w fun e w' => e = .returned (.bool true) ∧ Below w.heap.size w w' := by
  have hrl : (roomOf l).length = l.length + 3 := by simp [roomOf]
  have hcell : ∀ j, j < 3 → w.cell? ⟨g, l.length + j, none⟩ = some (.bool ([true, false, true].getD j false)) := fun j hj => by
    have h := (Kd.Dp (enc := Value.bool) false hR ((l.length + j : Nat) : Int) (by omega) (by omega)).1; rw [Int.toNat_natCast] at h; rw [h, ← room_get l j hj]; unfold rdOf; rw [Int.toNat_natCast]
  have hT : Kd.bool.C w (some ⟨g, 0, none⟩) l.length l := by
    have h := (Kd.Bf (Kd.R_take (m := l.length) hR (by omega))).2.2; rw [show (roomOf l).take l.length = l by simp [roomOf]] at h; exact h
  have hn1 : l.length ≤ c1 := by have := (Kd.Bf hR).2.1; omega
  have hn2 := (Kd.Bf hW).2.1; have HT := Ae.mk hT; have HWW := Ae.mk (Kd.Bf hW).2.2; have HS := Ae.mk hs; have HC0 := Ae.mk (hcell 0 (by omega)); have HC1 := Ae.mk (hcell 1 (by omega)); have HC2 := Ae.mk (hcell 2 (by omega)); clear hcell hT hs hR hW; go_enter Try.func21, Try.ntmps21
  go_upto_region 2 with fail
  obtain ⟨w1, hw1⟩ : ∃ y, y = w.alloc (.cells #[.int .i64 a0, .int .i64 a1, .slice (some ⟨g, 0, none⟩) l.length c1, .int .i64 a0, .int .i64 a1, .slice Aw l.length cw, .slice (some ⟨g, 0, none⟩) (l.length + 3) c1] 44) := ⟨_, rfl⟩; rw [← hw1]; have hb1 : w1.heap[w.heap.size]? = some (.cells #[.int .i64 a0, .int .i64 a1, .slice (some ⟨g, 0, none⟩) l.length c1, .int .i64 a0, .int .i64 a1, .slice Aw l.length cw, .slice (some ⟨g, 0, none⟩) (l.length + 3) c1] 44 (0, 0)) := by rw [hw1]; exact Cr _ _
  have hB1 : Below w.heap.size w w1 := by rw [hw1]; exact Ah (Below.refl _ _) _
  have y0 : w1.cell? ⟨w.heap.size, 0, none⟩ = some (.int .i64 a0) := (Af hb1 0).trans rfl; have y1 : w1.cell? ⟨w.heap.size, 1, none⟩ = some (.int .i64 a1) := (Af hb1 1).trans rfl; have y2 : w1.cell? ⟨w.heap.size, 2, none⟩ = some (.slice (some ⟨g, 0, none⟩) l.length c1) := (Af hb1 2).trans rfl; have y3 : w1.cell? ⟨w.heap.size, 3, none⟩ = some (.int .i64 a0) := (Af hb1 3).trans rfl; have y4 : w1.cell? ⟨w.heap.size, 4, none⟩ = some (.int .i64 a1) := (Af hb1 4).trans rfl; have y5 : w1.cell? ⟨w.heap.size, 5, none⟩ = some (.slice Aw l.length cw) := (Af hb1 5).trans rfl; have HB1 := Ae.mk hb1; have HBe := Ae.mk hB1; clear hw1 hb1 hB1
  go_wp2_with (go_at_call 41; refine (Ay.calls k a0 a1 (some ⟨g, 0, none⟩) c1 l a0 a1 Aw cw l true w1 (Kd.Bw HT.out HBe.out) hn1 (Kd.Bw HWW.out HBe.out) hn2 HS.out).mono ?_; rintro e w2 ⟨rfl, hb2⟩; have HB2 := Ae.mk hb2; have y6 : w2.cell? ⟨w.heap.size, 6, none⟩ = some (.slice (some ⟨g, 0, none⟩) (l.length + 3) c1) := (Af (Ao HB1.out hb2) 6).trans rfl; have z0 : w2.cell? ⟨g, l.length, none⟩ = some (.bool true) := Cy (HBe.out.trans (hb2.mono HBe.out.size)) HC0.out; have z1 : w2.cell? ⟨g, l.length + 1, none⟩ = some (.bool false) := Cy (HBe.out.trans (hb2.mono HBe.out.size)) HC1.out; have z2 : w2.cell? ⟨g, l.length + 2, none⟩ = some (.bool true) := Cy (HBe.out.trans (hb2.mono HBe.out.size)) HC2.out; clear hb2)
  go_ret
  exact ⟨rfl, HBe.out.trans (HB2.out.mono HBe.out.size)⟩
end Go.Proofs.Ytbfimplajocmmaa.BK
end
section
open Go Go.RowKit Go.Proofs.YtbfimplajocmmaaW.PrintWords Go.Proofs.YtbfimplajocmmaaW.PrintLast Go.Proofs.YtbfimplajocmmaaW.PrintMore
attribute [local go_sem ↓] Go.wp_at_zero Go.wp_at_succ
set_option linter.unusedVariables false
set_option linter.unusedSimpArgs false
namespace Go.Proofs.Ytbfimplajocmmaa.BK
open PFA
theorem bools_put (s : List Bool) (i : Nat) (b : Bool) : (bools s).toArray.setIfInBounds i (.bool b) = (bools (s.set i b)).toArray := by
  simp [bools, List.map_set]
theorem same_any (k : Nat) (a0_0 : Int) (a0_1 : Int) (A0_2 : Option Addr) (c0_2 : Nat) (l0_2 : List Bool) (a1_0 : Int) (a1_1 : Int) (A1_2 : Option Addr) (c1_2 : Nat) (l1_2 : List Bool) (w : World) (hr0_2 : Kd.C Kd.bool w A0_2 l0_2.length l0_2) (hc0_2 : l0_2.length ≤ c0_2) (hr1_2 : Kd.C Kd.bool w A1_2 l1_2.length l1_2) (hc1_2 : l1_2.length ≤ c1_2) (h : Ay.f k a0_0 a0_1 l0_2 a1_0 a1_1 l1_2 = some true) :
    Calls Try.prog 41 #[.agg #[.int .i64 a0_0, .int .i64 a0_1, .slice A0_2 l0_2.length c0_2], .agg #[.int .i64 a1_0, .int .i64 a1_1, .slice A1_2 l1_2.length c1_2]] w fun e w' => e = .returned (.bool true) ∧ Below w.heap.size w w' :=
  Ay.calls k a0_0 a0_1 A0_2 c0_2 l0_2 a1_0 a1_1 A1_2 c1_2 l1_2 true w hr0_2 hc0_2 hr1_2 hc1_2 h
end Go.Proofs.Ytbfimplajocmmaa.BK
end
section
open Go Go.RowKit Go.Proofs.YtbfimplajocmmaaW.PrintWords Go.Proofs.YtbfimplajocmmaaW.PrintLast Go.Proofs.YtbfimplajocmmaaW.PrintMore
attribute [local go_sem ↓] Go.wp_at_zero Go.wp_at_succ
set_option linter.unusedVariables false
set_option linter.unusedSimpArgs false
namespace Go.Proofs.Ytbfimplajocmmaa.BK
open PFA
structure SPF (B n : Nat) (A : Option Addr) (w : World) (box : Array Value) (W : World) : Prop where
  bx : W.heap[w.heap.size]? = some (.cells box 27 (0, 0))
  below : Below B w W
  row : (A = none ∧ n = 0) ∨ ∃ (g : Nat) (s : List Bool), A = some ⟨g, 0, none⟩ ∧ B ≤ g ∧ g < w.heap.size ∧ W.heap[g]? = some (.cells (bools s).toArray 4 (0, 0)) ∧ s.length = n
  oth : ∀ k, k < w.heap.size → A ≠ some ⟨k, 0, none⟩ → W.heap[k]? = w.heap[k]?
set_option maxRecDepth 100000 in
set_option maxHeartbeats 4000000 in
theorem spoil_frame (w : World) (base : Nat) (ok : Nat → Prop) (a0 a1 : Int) (v : Value) (l : List Bool) (hR : Kd.bool.R 4 w base ok v l) (hF : Full v) (hb : base ≤ w.heap.size) :
    Calls Try.prog 52 #[.agg #[.int .i64 a0, .int .i64 a1, v]] w fun e w' => e = .returned (.tuple #[]) ∧ Below base w w' ∧ ∀ k, k < w.heap.size → (∀ n c, v ≠ .slice (some ⟨k, 0, none⟩) n c) → w'.heap[k]? = w.heap[k]? := by
  obtain ⟨i0, hi, _⟩ := info_parts info4
  obtain ⟨A, hv, hl, hst⟩ : ∃ A, v = .slice A l.length l.length ∧ l.length ≤ 9223372036854775807 ∧ ((A = none ∧ l.length = 0) ∨ ∃ (g : Nat) (s : List Bool), A = some ⟨g, 0, none⟩ ∧ base ≤ g ∧ g < w.heap.size ∧ w.heap[g]? = some (.cells (bools s).toArray 4 (0, 0)) ∧ s.length = l.length) := by
    obtain ⟨ho1, ho2⟩ := Kd.own_of_R (enc := Value.bool) hR
    rcases ho2 with ⟨h1, h2⟩ | ⟨g, cap, cur, h1, h2, h3, h4, h5, h6, h7⟩
    · exact ⟨none, by rw [h1, h2], by omega, .inl ⟨rfl, h2⟩⟩
    · have hc := hF _ _ _ h1
      subst hc; refine ⟨some ⟨g, 0, none⟩, h1, by unfold maxLen at h5; omega, .inr ⟨g, l, rfl, h2, Ba h3, ?_, rfl⟩⟩; rw [h3]
      have e : cur.toList = bools l := by
        rw [Nat.mul_one, List.take_of_length_le (by simp [h6])] at h7; rw [h7]; rfl
      rw [← e]
  subst hv; obtain ⟨n, hn⟩ : ∃ n, n = l.length := ⟨_, rfl⟩; rw [← hn] at hl hst ⊢; have hcut := cut_cap (P := Try.prog) 25 4 .i64 Try.underlying25 hi A n n
  have HST : Ae (SPF base n A w #[.int .i64 a0, .int .i64 a1, .slice A n n] (w.alloc (.cells #[.int .i64 a0, .int .i64 a1, .slice A n n] 27))) :=
    ⟨⟨Cr _ _, (Ah (Below.refl _ w) _).mono hb, hst.imp (fun h => h) (fun ⟨g, s, h1, h2, h3, h4, h5⟩ => ⟨g, s, h1, h2, h3, An h4 _, h5⟩), fun k hk _ => Below.heap_alloc w _ k hk⟩⟩
  clear hR hF hn hst; go_enter Try.func52, Try.ntmps52
  go_upto_region 2 with fail
  go_loopw [2] (fun i wr => ∃ k : Nat, k ≤ n ∧ i = .int .i64 k ∧ Ae (SPF base n A w #[.int .i64 a0, .int .i64 a1, .slice A n n] wr)) (fun i _ => n - (intOf i).toNat)
  case atStart => exact ⟨0, Nat.zero_le _, rfl, HST⟩
  case round =>
    obtain ⟨k, hk, rfl, hs⟩ := hrel; clear HST; have c2 : wr.cell? ⟨w.heap.size, 2, none⟩ = some (.slice A n n) := (Af hs.out.bx 2).trans rfl
    by_cases hlt : k < n
    · obtain ⟨g, s, rfl, hg, hlg, hh, hln⟩ : ∃ (g : Nat) (s : List Bool), A = some ⟨g, 0, none⟩ ∧ base ≤ g ∧ g < w.heap.size ∧ wr.heap[g]? = some (.cells (bools s).toArray 4 (0, 0)) ∧ s.length = n := by
        rcases hs.out.row with ⟨_, h2⟩ | h
        · omega
        · exact h
      have c1 : wr.cell? ⟨g, k, none⟩ = some (.bool (s.getD k false)) := by
        rw [Af hh k]
        simp [bools, List.getD_eq_getElem?_getD, List.getElem?_eq_getElem (show k < s.length by omega)]
      obtain ⟨b, hbb⟩ : ∃ b, b = s.getD k false := ⟨_, rfl⟩; rw [← hbb] at c1
      have hnew : ∀ b' : Bool, Ae (SPF base n (some ⟨g, 0, none⟩) w #[.int .i64 a0, .int .i64 a1, .slice (some ⟨g, 0, none⟩) n n] (wr.drew.setCell ⟨g, k, none⟩ (.bool b'))) := fun b' =>
        ⟨⟨Be (show wr.drew.heap[w.heap.size]? = _ from hs.out.bx) (show w.heap.size ≠ g by omega) _, (Ak hs.out.below).setCell hg _, .inr ⟨g, s.set k b', rfl, hg, hlg, Az (show wr.drew.heap[g]? = _ from hh) k _ (bools_put s k b'), by rw [List.length_set]; exact hln⟩, fun k hk hne => (Below.heap_setCell _ _ _ _ (show k ≠ g from fun e => hne (by rw [e]))).trans (hs.out.oth k hk hne)⟩⟩
      have HNEW := Ae.mk (hnew (!b)); have f1 : wr.drew.frozen? ⟨g, k, none⟩ = false := Ag (show wr.drew.heap[g]? = _ from hh) k; clear hh hln hs hg hlg hbb hnew
      go_upto_region 4 with fail
      refine start_ (n := 19) (S := fun w' => w'.cell? ⟨w.heap.size, 2, none⟩ = some (.slice (some ⟨g, 0, none⟩) n n) ∧ w'.cell? ⟨g, k, none⟩ = some (.bool b)) (ds := [18]) #[false, false, false, false, false, false, false, false, false, false, false, false, false, false, false, false, false, false, false] (by kernel_rfl) rfl rfl ⟨c2, c1⟩ (fun hHeld => ?_); clear c1 c2; have c1 : wr.drew.cell? ⟨g, k, none⟩ = some (.bool b) := hHeld.2; generalize wr.drew = w4 at c1 f1 HNEW hHeld ⊢; refine pure_ (i := 0) (N := (some 10)) (v := ?_) (a' := ?_) #[true, false, false, false, false, false, false, false, false, false, false, false, false, false, false, false, false, false, false] rfl rfl (by kernel_rfl) (fun _ _ _ h => h) (Or.inl ⟨by rfl, ?_⟩) ?_ ?_; rotate_left
      · intro w'
        go_simp
        with_reducible rfl
      rotate_left
      · simp only [Act.put, List.setIfInBounds_toArray, List.set_cons_zero, List.set_cons_succ, i64_w, i32_w]
        rfl
      refine pure_ (i := 2) (N := (some 12)) (v := ?_) (a' := ?_) #[true, false, true, false, false, false, false, false, false, false, false, false, false, false, false, false, false, false, false] rfl rfl (by kernel_rfl) (fun _ _ _ h => h) (Or.inl ⟨by rfl, ?_⟩) ?_ ?_; rotate_left
      · intro w'
        go_simp
        with_reducible rfl
      rotate_left
      · simp only [Act.put, List.setIfInBounds_toArray, List.set_cons_zero, List.set_cons_succ, i64_w, i32_w]
        rfl
      refine pure_ (i := 6) (N := (some 16)) (v := ?_) (a' := ?_) #[true, false, true, false, false, false, true, false, false, false, false, false, false, false, false, false, false, false, false] rfl rfl (by kernel_rfl) (fun _ _ _ h => h) (Or.inl ⟨by rfl, ?_⟩) ?_ ?_; rotate_left
      · intro w'
        go_simp
        with_reducible rfl
      rotate_left
      · simp only [Act.put, List.setIfInBounds_toArray, List.set_cons_zero, List.set_cons_succ, i64_w, i32_w]
        rfl
      refine pure_ (i := 7) (N := (some 17)) (v := ?_) (a' := ?_) #[true, false, true, false, false, false, true, true, false, false, false, false, false, false, false, false, false, false, false] rfl rfl (by kernel_rfl) (fun _ _ _ h => h) (Or.inl ⟨by rfl, ?_⟩) ?_ ?_; rotate_left
      · intro w'
        go_simp
        with_reducible rfl
      rotate_left
      · simp only [Act.put, List.setIfInBounds_toArray, List.set_cons_zero, List.set_cons_succ, i64_w, i32_w]
        rfl
      refine pure_ (i := 9) (N := (some 19)) (v := ?_) (a' := ?_) #[true, false, true, false, false, false, true, true, false, true, false, false, false, false, false, false, false, false, false] rfl rfl (by kernel_rfl) (fun _ _ _ h => h) (Or.inl ⟨by rfl, ?_⟩) ?_ ?_; rotate_left
      · intro w'
        go_simp
        with_reducible rfl
      rotate_left
      · simp only [Act.put, List.setIfInBounds_toArray, List.set_cons_zero, List.set_cons_succ, i64_w, i32_w]
        rfl
      refine pure_ (i := 13) (N := (some 23)) (v := ?_) (a' := ?_) #[true, false, true, false, false, false, true, true, false, true, false, false, false, true, false, false, false, false, false] rfl rfl (by kernel_rfl) (fun _ _ _ h => h) (Or.inl ⟨by rfl, ?_⟩) ?_ ?_; rotate_left
      · intro w'
        go_simp
        with_reducible rfl
      rotate_left
      · simp only [Act.put, List.setIfInBounds_toArray, List.set_cons_zero, List.set_cons_succ, i64_w, i32_w]
        rfl
      refine take_ (i := 1) (N := (some 11)) (v := ?_) (a' := ?_) #[true, true, true, false, false, false, true, true, false, true, false, false, false, true, false, false, false, false, false] rfl rfl (by kernel_rfl) (fun _ _ _ h => h) (Or.inl ⟨by rfl, ?_⟩) hHeld ?_ ?_; rotate_left
      · rintro w' ⟨s0, s1⟩
        go_simp
        with_reducible rfl
      rotate_left
      · simp only [Act.put, List.setIfInBounds_toArray, List.set_cons_zero, List.set_cons_succ, i64_w, i32_w]
        rfl
      refine take_ (i := 3) (N := (some 13)) (v := ?_) (a' := ?_) #[true, true, true, true, false, false, true, true, false, true, false, false, false, true, false, false, false, false, false] rfl rfl (by kernel_rfl) (fun _ _ _ h => h) (Or.inl ⟨by rfl, ?_⟩) hHeld ?_ ?_; rotate_left
      · rintro w' ⟨s0, s1⟩
        go_simp
        with_reducible rfl
      rotate_left
      · simp only [Act.put, List.setIfInBounds_toArray, List.set_cons_zero, List.set_cons_succ, i64_w, i32_w]
        rfl
      refine pure_ (i := 4) (N := (some 14)) (v := ?_) (a' := ?_) #[true, true, true, true, true, false, true, true, false, true, false, false, false, true, false, false, false, false, false] rfl rfl (by kernel_rfl) (fun _ _ _ h => h) (Or.inl ⟨by rfl, ?_⟩) ?_ ?_; rotate_left
      · intro w'
        go_simp
        with_reducible rfl
      rotate_left
      · simp only [Act.put, List.setIfInBounds_toArray, List.set_cons_zero, List.set_cons_succ, i64_w, i32_w]
        rfl
      refine pure_ (i := 5) (N := (some 15)) (v := ?_) (a' := ?_) #[true, true, true, true, true, true, true, true, false, true, false, false, false, true, false, false, false, false, false] rfl rfl (by kernel_rfl) (fun _ _ _ h => h) (Or.inl ⟨by rfl, ?_⟩) ?_ ?_; rotate_left
      · intro w'
        go_simp
        with_reducible rfl
      rotate_left
      · simp only [Act.put, List.setIfInBounds_toArray, List.set_cons_zero, List.set_cons_succ, i64_w, i32_w]
        rfl
      refine take_ (i := 8) (N := (some 18)) (v := ?_) (a' := ?_) #[true, true, true, true, true, true, true, true, true, true, false, false, false, true, false, false, false, false, false] rfl rfl (by kernel_rfl) (fun _ _ _ h => h) (Or.inl ⟨by rfl, ?_⟩) hHeld ?_ ?_; rotate_left
      · rintro w' ⟨s0, s1⟩
        go_simp
        with_reducible rfl
      rotate_left
      · simp only [Act.put, List.setIfInBounds_toArray, List.set_cons_zero, List.set_cons_succ, i64_w, i32_w]
        rfl
      refine take_ (i := 10) (N := (some 20)) (v := ?_) (a' := ?_) #[true, true, true, true, true, true, true, true, true, true, true, false, false, true, false, false, false, false, false] rfl rfl (by kernel_rfl) (fun _ _ _ h => h) (Or.inl ⟨by rfl, ?_⟩) hHeld ?_ ?_; rotate_left
      · rintro w' ⟨s0, s1⟩
        go_simp
        with_reducible rfl
      rotate_left
      · simp only [Act.put, List.setIfInBounds_toArray, List.set_cons_zero, List.set_cons_succ, i64_w, i32_w]
        rfl
      refine pure_ (i := 11) (N := (some 21)) (v := ?_) (a' := ?_) #[true, true, true, true, true, true, true, true, true, true, true, true, false, true, false, false, false, false, false] rfl rfl (by kernel_rfl) (fun _ _ _ h => h) (Or.inl ⟨by rfl, ?_⟩) ?_ ?_; rotate_left
      · intro w'
        go_simp
        with_reducible rfl
      rotate_left
      · simp only [Act.put, List.setIfInBounds_toArray, List.set_cons_zero, List.set_cons_succ, i64_w, i32_w]
        rfl
      refine pure_ (i := 12) (N := (some 22)) (v := ?_) (a' := ?_) #[true, true, true, true, true, true, true, true, true, true, true, true, true, true, false, false, false, false, false] rfl rfl (by kernel_rfl) (fun _ _ _ h => h) (Or.inl ⟨by rfl, ?_⟩) ?_ ?_; rotate_left
      · intro w'
        go_simp
        with_reducible rfl
      rotate_left
      · simp only [Act.put, List.setIfInBounds_toArray, List.set_cons_zero, List.set_cons_succ, i64_w, i32_w]
        rfl
      refine pure_ (i := 14) (N := (some 24)) (v := ?_) (a' := ?_) #[true, true, true, true, true, true, true, true, true, true, true, true, true, true, true, false, false, false, false] rfl rfl (by kernel_rfl) (fun _ _ _ h => h) (Or.inl ⟨by rfl, ?_⟩) ?_ ?_; rotate_left
      · intro w'
        go_simp
        with_reducible rfl
      rotate_left
      · simp only [Act.put, List.setIfInBounds_toArray, List.set_cons_zero, List.set_cons_succ, i64_w, i32_w]
        rfl
      refine take_ (i := 15) (N := (some 25)) (v := ?_) (a' := ?_) #[true, true, true, true, true, true, true, true, true, true, true, true, true, true, true, true, false, false, false] rfl rfl (by kernel_rfl) (fun _ _ _ h => h) (Or.inl ⟨by rfl, ?_⟩) hHeld ?_ ?_; rotate_left
      · rintro w' ⟨s0, s1⟩
        go_simp
        with_reducible rfl
      rotate_left
      · simp only [Act.put, List.setIfInBounds_toArray, List.set_cons_zero, List.set_cons_succ, i64_w, i32_w]
        rfl
      refine pure_ (i := 16) (N := (some 26)) (v := ?_) (a' := ?_) #[true, true, true, true, true, true, true, true, true, true, true, true, true, true, true, true, true, false, false] rfl rfl (by kernel_rfl) (fun _ _ _ h => h) (Or.inl ⟨by rfl, ?_⟩) ?_ ?_; rotate_left
      · intro w'
        go_simp
        with_reducible rfl
      rotate_left
      · simp only [Act.put, List.setIfInBounds_toArray, List.set_cons_zero, List.set_cons_succ, i64_w, i32_w]
        rfl
      refine pure_ (i := 17) (N := (some 27)) (v := ?_) (a' := ?_) #[true, true, true, true, true, true, true, true, true, true, true, true, true, true, true, true, true, true, false] rfl rfl (by kernel_rfl) (fun _ _ _ h => h) (Or.inl ⟨by rfl, ?_⟩) ?_ ?_; rotate_left
      · intro w'
        go_simp
        with_reducible rfl
      rotate_left
      · simp only [Act.put, List.setIfInBounds_toArray, List.set_cons_zero, List.set_cons_succ, i64_w, i32_w]
        rfl
      refine last_ (i := 18) (N := none) #[true, true, true, true, true, true, true, true, true, true, true, true, true, true, true, true, true, true, true] rfl rfl (by kernel_rfl) (by decide) (fun K hK => ?_); refine skip_ (w1 := (w4.setCell ⟨g, k, none⟩ (.bool (!b)))) (by rfl) rfl ?_ ?_
      · first | (go_simp; done) | (go_simp; rfl)
      refine hK.out _ _ ?_; clear hK K; refine done_ (by kernel_rfl) ?_
      go_wp2
      go_roundw
      case rel => exact ⟨k + 1, by omega, by go_num, HNEW.out⟩
      case measure => simp [intOf]; omega
    · obtain rfl : k = n := by omega
      go_wp2
      go_end0
      exact ⟨rfl, hs.out.below, fun k hk hne => hs.out.oth k hk (fun e => hne _ _ (by rw [e]))⟩
set_option maxRecDepth 100000 in
set_option maxHeartbeats 4000000 in
theorem told_frame (k : Nat) (w : World) (base : Nat) (ok : Nat → Prop) (a0 a1 : Int) (A1 : Option Addr) (c1 : Nat) (l1 : List Bool) (e : Int) (b0 b1 : Int) (A2 : Option Addr) (c2 : Nat) (l2 : List Bool) (hR : Kd.bool.R 4 w base ok (.slice A1 l1.length c1) l1) (hF : Full (.slice A1 l1.length c1)) (hb : base ≤ w.heap.size) (hC : Kd.bool.C w A2 l2.length l2) (hc : l2.length ≤ c2) (hs : Ay.f k a0 a1 l1 b0 b1 l2 = some true) :
    Calls Try.prog 13 #[.agg #[.int .i64 a0, .int .i64 a1, .slice A1 l1.length c1], .int .i64 e, .agg #[.int .i64 b0, .int .i64 b1, .slice A2 l2.length c2], .int .i64 e] w fun en w' => en = .returned (.bool true) ∧ Below base w w' ∧ ∀ k, k < w.heap.size → A1 ≠ some ⟨k, 0, none⟩ → w'.heap[k]? = w.heap[k]? := by
  have HR := Ae.mk hR; have HF := Ae.mk hF; have HC := Ae.mk hC; have HS := Ae.mk hs; have hc1 := (Kd.Bf hR).2.1; clear hR hF hC hs; go_enter Try.func13, Try.ntmps13
  go_upto_region 1 with fail
  obtain ⟨w1, hw1⟩ : ∃ y, y = (w.alloc (.cells #[.int .i64 a0, .int .i64 a1, .slice A1 l1.length c1] 27)).alloc (.cells #[.int .i64 b0, .int .i64 b1, .slice A2 l2.length c2] 27) := ⟨_, rfl⟩; rw [← hw1]; have hp : w1.heap[w.heap.size]? = some (.cells #[.int .i64 a0, .int .i64 a1, .slice A1 l1.length c1] 27 (0, 0)) := by rw [hw1]; exact An (Cr _ _) _
  have hq : w1.heap[w.heap.size + 1]? = some (.cells #[.int .i64 b0, .int .i64 b1, .slice A2 l2.length c2] 27 (0, 0)) := by rw [hw1]; exact Go.Proofs.Ytbfimplajocmmaa.H.bnew _ (by simp)
  have hB1 : Below w.heap.size w w1 := by rw [hw1]; exact Ah (Ah (Below.refl _ _) _) _
  have HP := Ae.mk hp; have HQ := Ae.mk hq; have HB1 := Ae.mk hB1; have HR1 := Ae.mk (Kd.Ax HR.out hB1); have HC1 := Ae.mk (Kd.Bw HC.out hB1); clear hp hq hB1 hw1
  go_wp2_with (first | (go_at_call 14; refine (num_any _ _).mono ?_; rintro en w' ⟨rfl, ⟨n1, rfl⟩⟩; have y0 : (w1.drewN n1).cell? ⟨w.heap.size, 0, none⟩ = some (.int .i64 a0) := (Af HP.out 0).trans rfl; have y1 : (w1.drewN n1).cell? ⟨w.heap.size, 1, none⟩ = some (.int .i64 a1) := (Af HP.out 1).trans rfl; have y2 : (w1.drewN n1).cell? ⟨w.heap.size, 2, none⟩ = some (.slice A1 l1.length c1) := (Af HP.out 2).trans rfl; have z0 : (w1.drewN n1).cell? ⟨w.heap.size + 1, 0, none⟩ = some (.int .i64 b0) := (Af HQ.out 0).trans rfl; have z1 : (w1.drewN n1).cell? ⟨w.heap.size + 1, 1, none⟩ = some (.int .i64 b1) := (Af HQ.out 1).trans rfl; have z2 : (w1.drewN n1).cell? ⟨w.heap.size + 1, 2, none⟩ = some (.slice A2 l2.length c2) := (Af HQ.out 2).trans rfl) | (go_at_call 41; refine (same_any k a0 a1 A1 c1 l1 b0 b1 A2 c2 l2 (w1.drewN n1) (Kd.Cb (Kd.Bf HR1.out).2.2 _) hc1 (Kd.Cb HC1.out _) hc HS.out).mono ?_; rintro en w3 ⟨rfl, hb3⟩; have HB3 := Ae.mk hb3; have x0 : w3.cell? ⟨w.heap.size, 0, none⟩ = some (.int .i64 a0) := Cy hb3 y0; have x1 : w3.cell? ⟨w.heap.size, 1, none⟩ = some (.int .i64 a1) := Cy hb3 y1; have x2 : w3.cell? ⟨w.heap.size, 2, none⟩ = some (.slice A1 l1.length c1) := Cy hb3 y2; have HR3 := Ae.mk (Kd.Ax (Kd.Dy HR1.out n1) hb3); have hsz3 : w.heap.size ≤ w3.heap.size := Nat.le_trans HB1.out.size hb3.size; clear hb3 y0 y1 y2 z0 z1 z2) | (go_at_call 52; refine (spoil_frame w3 base ok a0 a1 (.slice A1 l1.length c1) l1 HR3.out HF.out (by omega)).mono ?_; rintro en w4 ⟨rfl, hb4, ho4⟩; have HB4 := Ae.mk hb4; have HO4 := Ae.mk ho4; clear hb4 ho4))
  go_ret
  exact ⟨rfl, (((HB1.out.mono hb).trans ((Aj (Below.refl base w1) n1))).trans (HB3.out.mono (by exact Nat.le_trans hb HB1.out.size))).trans HB4.out, fun k hk hne => ((HO4.out k (by have := HB1.out.size; have := HB3.out.size; simp at this; omega) (fun n c e => hne (by injection e))).trans (HB3.out.block k (by have := HB1.out.size; simp; omega))).trans (HB1.out.block k hk)⟩
end Go.Proofs.Ytbfimplajocmmaa.BK
end
