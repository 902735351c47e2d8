import Derived.Test.YteamphcehoaleaaXKL
import Derived.Test.YteamphcehoaleaaXPFAx6
import Derived.Test.YteamphcehoaleaaXPFAx2
open Go Go.RowKit Go.Proofs.YteamphcehoaleaaW.PrintWords Go.Proofs.YteamphcehoaleaaW.PrintLast Go.Proofs.YteamphcehoaleaaW.PrintMore
attribute [local go_sem ↓] Go.wp_at_zero Go.wp_at_succ
set_option linter.unusedVariables false
set_option linter.unusedSimpArgs false
namespace Go.Proofs.Yteamphcehoaleaa.BK
open PFA
theorem num_any (a : Int) (w : World) : Calls Try.prog 17 #[.int .i64 a] w fun e w' => e = .returned (.int .i64 a) ∧ ∃ n, w' = w.drewN n :=
  (Dg.calls a a w rfl).mono fun _ _ ⟨h1, h2⟩ => ⟨h1, h2.out⟩
theorem ints_any (k : Nat) (A0 : Option Addr) (c0 : Nat) (l0 : List Int) (A1 : Option Addr) (c1 : Nat) (l1 : List Int) (w : World) (hr0 : Kd.C (Kd.int .i64) w A0 l0.length l0) (hc0 : l0.length ≤ c0) (hr1 : Kd.C (Kd.int .i64) w A1 l1.length l1) (hc1 : l1.length ≤ c1) (h : Ar.f k l0 l1 = some true) :
    Calls Try.prog 18 #[.slice A0 l0.length c0, .slice A1 l1.length c1] w fun e w' => e = .returned (.bool true) ∧ ∃ n, w' = w.drewN n :=
  (Ar.calls k A0 c0 l0 A1 c1 l1 true w hr0 hc0 hr1 hc1 h).mono fun _ _ ⟨h1, h2⟩ => ⟨h1, h2.out⟩
theorem room_get (l : List Bool) (k : Nat) (hk : k < 3) : (roomOf l).getD (l.length + k) false = [true, false, true].getD k false := by
  unfold roomOf
  rw [List.getD_eq_getElem?_getD, List.getElem?_append_right (by omega), Nat.add_sub_cancel_left, List.getD_eq_getElem?_getD]
set_option maxRecDepth 100000 in
set_option maxHeartbeats 4000000 in
theorem stays_calls (k : Nat) (w : World) (base : Nat) (ok1 ok2 : Nat → Prop) (a0 a1 : Int) (l : List Bool) (g c1 : Nat) (Aw : Option Addr) (cw : Nat) (hR : Kd.bool.R 4 w base ok1 (.slice (some ⟨g, 0, none⟩) (l.length + 3) c1) (roomOf l)) (hW : Kd.bool.R 4 w base ok2 (.slice Aw l.length cw) l) (hl : l.length ≤ 140737488351232) (hs : Az.f k a0 a1 l a0 a1 l = some true) :
    Calls Try.prog 28 #[.agg #[.int .i64 a0, .int .i64 a1, .slice (some ⟨g, 0, none⟩) l.length c1, .int .i64 a0, .int .i64 a1, .slice Aw l.length cw, .slice (some ⟨g, 0, none⟩) (l.length + 3) c1]] w fun e w' => e = .returned (.bool true) ∧ Below w.heap.size w w' := by
  have hrl : (roomOf l).length = l.length + 3 := by simp [roomOf]
  have hcell : ∀ j, j < 3 → w.cell? ⟨g, l.length + j, none⟩ = some (.bool ([true, false, true].getD j false)) := fun j hj => by
    have h := (Kd.C8 (enc := Value.bool) false hR ((l.length + j : Nat) : Int) (by omega) (by omega)).1
    rw [Int.toNat_natCast] at h
    rw [h, ← room_get l j hj]
    unfold rdOf
    rw [Int.toNat_natCast]
  have hT : Kd.bool.C w (some ⟨g, 0, none⟩) l.length l := by
    have h := (Kd.Bb (Kd.R_take (m := l.length) hR (by omega))).2.2
    rw [show (roomOf l).take l.length = l by simp [roomOf]] at h
    exact h
  have hn1 : l.length ≤ c1 := by have := (Kd.Bb hR).2.1; omega
  have hn2 := (Kd.Bb hW).2.1
  have HT := Aa.mk hT
  have HWW := Aa.mk (Kd.Bb hW).2.2
  have HS := Aa.mk hs
  have HC0 := Aa.mk (hcell 0 (by omega))
  have HC1 := Aa.mk (hcell 1 (by omega))
  have HC2 := Aa.mk (hcell 2 (by omega))
  clear hcell hT hs hR hW
  go_enter Try.func28, Try.ntmps28
  go_upto_region 2 with fail
  obtain ⟨w1, hw1⟩ : ∃ y, y = w.alloc (.cells #[.int .i64 a0, .int .i64 a1, .slice (some ⟨g, 0, none⟩) l.length c1, .int .i64 a0, .int .i64 a1, .slice Aw l.length cw, .slice (some ⟨g, 0, none⟩) (l.length + 3) c1] 52) := ⟨_, rfl⟩
  rw [← hw1]
  have hb1 : w1.heap[w.heap.size]? = some (.cells #[.int .i64 a0, .int .i64 a1, .slice (some ⟨g, 0, none⟩) l.length c1, .int .i64 a0, .int .i64 a1, .slice Aw l.length cw, .slice (some ⟨g, 0, none⟩) (l.length + 3) c1] 52 (0, 0)) := by rw [hw1]; exact Dk _ _
  have hB1 : Below w.heap.size w w1 := by rw [hw1]; exact Af (Below.refl _ _) _
  have y0 : w1.cell? ⟨w.heap.size, 0, none⟩ = some (.int .i64 a0) := (Ad hb1 0).trans rfl
  have y1 : w1.cell? ⟨w.heap.size, 1, none⟩ = some (.int .i64 a1) := (Ad hb1 1).trans rfl
  have y2 : w1.cell? ⟨w.heap.size, 2, none⟩ = some (.slice (some ⟨g, 0, none⟩) l.length c1) := (Ad hb1 2).trans rfl
  have y3 : w1.cell? ⟨w.heap.size, 3, none⟩ = some (.int .i64 a0) := (Ad hb1 3).trans rfl
  have y4 : w1.cell? ⟨w.heap.size, 4, none⟩ = some (.int .i64 a1) := (Ad hb1 4).trans rfl
  have y5 : w1.cell? ⟨w.heap.size, 5, none⟩ = some (.slice Aw l.length cw) := (Ad hb1 5).trans rfl
  have HB1 := Aa.mk hb1
  have HBe := Aa.mk hB1
  clear hw1 hb1 hB1
  go_wp2_with (go_at_call 40; refine (Az.calls k a0 a1 (some ⟨g, 0, none⟩) c1 l a0 a1 Aw cw l true w1 (Kd.B8 HT.out HBe.out) hn1 (Kd.B8 HWW.out HBe.out) hn2 HS.out).mono ?_; rintro e w2 ⟨rfl, hb2⟩; have HB2 := Aa.mk hb2; have y6 : w2.cell? ⟨w.heap.size, 6, none⟩ = some (.slice (some ⟨g, 0, none⟩) (l.length + 3) c1) := (Ad (Ap HB1.out hb2) 6).trans rfl; have z0 : w2.cell? ⟨g, l.length, none⟩ = some (.bool true) := Cr (HBe.out.trans (hb2.mono HBe.out.size)) HC0.out; have z1 : w2.cell? ⟨g, l.length + 1, none⟩ = some (.bool false) := Cr (HBe.out.trans (hb2.mono HBe.out.size)) HC1.out; have z2 : w2.cell? ⟨g, l.length + 2, none⟩ = some (.bool true) := Cr (HBe.out.trans (hb2.mono HBe.out.size)) HC2.out; clear hb2)
  go_ret
  exact ⟨rfl, HBe.out.trans (HB2.out.mono HBe.out.size)⟩
end Go.Proofs.Yteamphcehoaleaa.BK

