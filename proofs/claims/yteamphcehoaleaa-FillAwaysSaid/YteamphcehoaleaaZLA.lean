import Derived.Test.YteamphcehoaleaaZKL
import Derived.Test.YteamphcehoaleaaZPFAx6
import Derived.Test.YteamphcehoaleaaZPFAx2
import Derived.Test.YteamphcehoaleaaZKO
import Derived.Test.YteamphcehoaleaaZPFYx2
import Derived.Test.YteamphcehoaleaaZPFKx2
section
open Go Go.RowKit Go.Proofs.YteamphcehoaleaaW.PrintWords Go.Proofs.YteamphcehoaleaaW.PrintLast Go.Proofs.YteamphcehoaleaaW.PrintMore
attribute [local go_sem ↓] Go.wp_at_zero Go.wp_at_succ
set_option linter.unusedVariables false
set_option linter.unusedSimpArgs false
namespace Go.Proofs.Yteamphcehoaleaa.BK
open PFA
theorem num_any (a : Int) (w : World) : Calls Try.prog 17 #[.int .i64 a] w fun e w' => e = .returned (.int .i64 a) ∧ ∃ n, w' = w.drewN n :=
  (Di.calls a a w rfl).mono fun _ _ ⟨h1, h2⟩ => ⟨h1, h2.out⟩
theorem ints_any (k : Nat) (A0 : Option Addr) (c0 : Nat) (l0 : List Int) (A1 : Option Addr) (c1 : Nat) (l1 : List Int) (w : World) (hr0 : Kd.C (Kd.int .i64) w A0 l0.length l0) (hc0 : l0.length ≤ c0) (hr1 : Kd.C (Kd.int .i64) w A1 l1.length l1) (hc1 : l1.length ≤ c1) (h : Ar.f k l0 l1 = some true) :
    Calls Try.prog 18 #[.slice A0 l0.length c0, .slice A1 l1.length c1] w fun e w' => e = .returned (.bool true) ∧ ∃ n, w' = w.drewN n :=
  (Ar.calls k A0 c0 l0 A1 c1 l1 true w hr0 hc0 hr1 hc1 h).mono fun _ _ ⟨h1, h2⟩ => ⟨h1, h2.out⟩
theorem room_get (l : List Bool) (k : Nat) (hk : k < 3) : (roomOf l).getD (l.length + k) false = [true, false, true].getD k false := by
  unfold roomOf
  rw [List.getD_eq_getElem?_getD, List.getElem?_append_right (by omega), Nat.add_sub_cancel_left, List.getD_eq_getElem?_getD]
set_option maxRecDepth 100000 in
set_option maxHeartbeats 4000000 in
theorem stays_calls (k : Nat) (w : World) (base : Nat) (ok1 ok2 : Nat → Prop) (a0 a1 : Int) (l : List Bool) (g c1 : Nat) (Aw : Option Addr) (cw : Nat) (hR : Kd.bool.R 4 w base ok1 (.slice (some ⟨g, 0, none⟩) (l.length + 3) c1) (roomOf l)) (hW : Kd.bool.R 4 w base ok2 (.slice Aw l.length cw) l) (hl : l.length ≤ 140737488351232) (hs : Az.f k a0 a1 l a0 a1 l = some true) :
    Calls Try.prog 28 #[.agg #[.int .i64 a0, .int .i64 a1, .slice (some ⟨g, 0, none⟩) l.length c1, .int .i64 a0, .int .i64 a1, .slice Aw l.length cw, .slice (some ⟨g, 0, none⟩) (l.length + 3) c1]] w fun e w' => e = .returned (.bool true) ∧ Below w.heap.size w w' := by
  have hrl : (roomOf l).length = l.length + 3 := by simp [roomOf]
  have hcell : ∀ j, j < 3 → w.cell? ⟨g, l.length + j, none⟩ = some (.bool ([true, false, true].getD j false)) := fun j hj => by
    have h := (Kd.Cx (enc := Value.bool) false hR ((l.length + j : Nat) : Int) (by omega) (by omega)).1
    rw [Int.toNat_natCast] at h
    rw [h, ← room_get l j hj]
    unfold rdOf
    rw [Int.toNat_natCast]
  have hT : Kd.bool.C w (some ⟨g, 0, none⟩) l.length l := by
    have h := (Kd.Ba (Kd.R_take (m := l.length) hR (by omega))).2.2
    rw [show (roomOf l).take l.length = l by simp [roomOf]] at h
    exact h
  have hn1 : l.length ≤ c1 := by have := (Kd.Ba hR).2.1; omega
  have hn2 := (Kd.Ba hW).2.1
  have HT := Aa.mk hT
  have HWW := Aa.mk (Kd.Ba hW).2.2
  have HS := Aa.mk hs
  have HC0 := Aa.mk (hcell 0 (by omega))
  have HC1 := Aa.mk (hcell 1 (by omega))
  have HC2 := Aa.mk (hcell 2 (by omega))
  clear hcell hT hs hR hW
  go_enter Try.func28, Try.ntmps28
  go_upto_region 2 with fail
  obtain ⟨w1, hw1⟩ : ∃ y, y = w.alloc (.cells #[.int .i64 a0, .int .i64 a1, .slice (some ⟨g, 0, none⟩) l.length c1, .int .i64 a0, .int .i64 a1, .slice Aw l.length cw, .slice (some ⟨g, 0, none⟩) (l.length + 3) c1] 52) := ⟨_, rfl⟩
  rw [← hw1]
  have hb1 : w1.heap[w.heap.size]? = some (.cells #[.int .i64 a0, .int .i64 a1, .slice (some ⟨g, 0, none⟩) l.length c1, .int .i64 a0, .int .i64 a1, .slice Aw l.length cw, .slice (some ⟨g, 0, none⟩) (l.length + 3) c1] 52 (0, 0)) := by rw [hw1]; exact blk_new _ _
  have hB1 : Below w.heap.size w w1 := by rw [hw1]; exact Ae (Below.refl _ _) _
  have y0 : w1.cell? ⟨w.heap.size, 0, none⟩ = some (.int .i64 a0) := (Ad hb1 0).trans rfl
  have y1 : w1.cell? ⟨w.heap.size, 1, none⟩ = some (.int .i64 a1) := (Ad hb1 1).trans rfl
  have y2 : w1.cell? ⟨w.heap.size, 2, none⟩ = some (.slice (some ⟨g, 0, none⟩) l.length c1) := (Ad hb1 2).trans rfl
  have y3 : w1.cell? ⟨w.heap.size, 3, none⟩ = some (.int .i64 a0) := (Ad hb1 3).trans rfl
  have y4 : w1.cell? ⟨w.heap.size, 4, none⟩ = some (.int .i64 a1) := (Ad hb1 4).trans rfl
  have y5 : w1.cell? ⟨w.heap.size, 5, none⟩ = some (.slice Aw l.length cw) := (Ad hb1 5).trans rfl
  have HB1 := Aa.mk hb1
  have HBe := Aa.mk hB1
  clear hw1 hb1 hB1
  go_wp2_with (go_at_call 40; refine (Az.calls k a0 a1 (some ⟨g, 0, none⟩) c1 l a0 a1 Aw cw l true w1 (Kd.Ce HT.out HBe.out) hn1 (Kd.Ce HWW.out HBe.out) hn2 HS.out).mono ?_; rintro e w2 ⟨rfl, hb2⟩; have HB2 := Aa.mk hb2; have y6 : w2.cell? ⟨w.heap.size, 6, none⟩ = some (.slice (some ⟨g, 0, none⟩) (l.length + 3) c1) := (Ad (Ao HB1.out hb2) 6).trans rfl; have z0 : w2.cell? ⟨g, l.length, none⟩ = some (.bool true) := Dc (HBe.out.trans (hb2.mono HBe.out.size)) HC0.out; have z1 : w2.cell? ⟨g, l.length + 1, none⟩ = some (.bool false) := Dc (HBe.out.trans (hb2.mono HBe.out.size)) HC1.out; have z2 : w2.cell? ⟨g, l.length + 2, none⟩ = some (.bool true) := Dc (HBe.out.trans (hb2.mono HBe.out.size)) HC2.out; clear hb2)
  go_ret
  exact ⟨rfl, HBe.out.trans (HB2.out.mono HBe.out.size)⟩
end Go.Proofs.Yteamphcehoaleaa.BK
end
section
open Go Go.RowKit Go.Proofs.YteamphcehoaleaaW.PrintWords Go.Proofs.YteamphcehoaleaaW.PrintLast Go.Proofs.YteamphcehoaleaaW.PrintMore
attribute [local go_sem ↓] Go.wp_at_zero Go.wp_at_succ
set_option linter.unusedVariables false
set_option linter.unusedSimpArgs false
namespace Go.Proofs.Yteamphcehoaleaa
open PFA PFK PFE PFY BK
structure AwaysOk (k : Nat) (a0 a1 : Int) (l : List Bool) (ways : Int) (b1 s1 : List Int) (e1 e2 : Int) : Prop where
  len : l.length ≤ 140737488351232
  known : Aj.f k = some true
  ra : Cd.f k a0 a1 l ways = some (b1, e1)
  rs : Ai.f k a0 a1 l = some (s1, e2)
  fa : Ct.f a0 a1 l ways = some (b1, e1)
  fs : Bf.f k a0 a1 l = some (s1, e2)
  ia : Ar.f k b1 b1 = some true
  is : Ar.f k s1 s1 = some true
  same : Az.f k a0 a1 l a0 a1 l = some true
set_option maxRecDepth 100000 in
set_option maxHeartbeats 4000000 in
theorem FillAways_walk (k : Nat) (a0 a1 : Int) (A : Option Addr) (c : Nat) (l : List Bool) (ways : Int) (b1 s1 : List Int) (e1 e2 : Int) (w : World) (hC : Kd.C Kd.bool w A l.length l) (hc : l.length ≤ c) (H : AwaysOk k a0 a1 l ways b1 s1 e1 e2) :
    Calls Try.prog 5 #[.agg #[.int .i64 a0, .int .i64 a1, .slice A l.length c], .int .i64 ways] w fun e w' => e = .returned (.bool true) ∧ Below w.heap.size w w' := by
  have HC := Aa.mk hC
  have HCC := Aa.mk hc
  have HH := Aa.mk H
  have hlen := H.len
  clear hC hc H
  go_enter Try.func5, Try.ntmps5
  go_upto_region 3 with (go_at_call 13; refine (Aj.calls k true _ HH.out.known).mono ?_; rintro e w1 ⟨rfl, hb1⟩; have HB1 := Aa.mk hb1; clear hb1)
  go_upto_region 4 with fail
  have hW1 : Below w.heap.size w w1 := ((Ae (Below.refl _ w) _).trans (HB1.out.mono (by simp)))
  have hp1 := Ao (Go.Proofs.Yteamphcehoaleaa.H.bnew (w := w) (.cells #[.int .i64 a0, .int .i64 a1, .slice A l.length c] 50) rfl) HB1.out
  have hz1 : w.heap.size < w1.heap.size := Bz hp1
  obtain ⟨w2, hw2⟩ : ∃ y, y = w1.alloc (.cells #[.slice none 0 0, .slice none 0 0, .slice none 0 0, .slice none 0 0, .slice none 0 0, .slice none 0 0, .slice none 0 0, .slice none 0 0] 34) := ⟨_, rfl⟩
  rw [← hw2]
  have hp2 : w2.heap[w.heap.size]? = some (.cells #[.int .i64 a0, .int .i64 a1, .slice A l.length c] 50 (0, 0)) := by rw [hw2]; exact Ak hp1 _
  have hk2 : w2.heap[w1.heap.size]? = some (.cells #[.slice none 0 0, .slice none 0 0, .slice none 0 0, .slice none 0 0, .slice none 0 0, .slice none 0 0, .slice none 0 0, .slice none 0 0] 34 (0, 0)) := by rw [hw2]; exact blk_new _ _
  have hW2 : Below w.heap.size w w2 := by rw [hw2]; exact Ae hW1 _
  have hz2 : w2.heap.size = w1.heap.size + 1 := by rw [hw2]; simp
  have cp0 : w2.cell? ⟨w.heap.size, 0, none⟩ = some (.int .i64 a0) := (Ad hp2 0).trans rfl
  have cp1 : w2.cell? ⟨w.heap.size, 1, none⟩ = some (.int .i64 a1) := (Ad hp2 1).trans rfl
  have cp2 : w2.cell? ⟨w.heap.size, 2, none⟩ = some (.slice A l.length c) := (Ad hp2 2).trans rfl
  have HP2 := Aa.mk hp2
  have HK2 := Aa.mk hk2
  have HW2 := Aa.mk hW2
  have HC2 := Aa.mk (Kd.Ce HC.out hW2)
  clear hp2 hk2 hW2 hw2 hp1 hW1
  go_upto_region 5 with (go_at_call 22; refine (lend_calls w2 a0 a1 A c l HC2.out HCC.out hlen).mono ?_; rintro e w3 ⟨g, c1, Aw, cw, rfl, h1, h2, h3⟩; have HX1 := Aa.mk h1; have HX2 := Aa.mk h2; have HX3 := Aa.mk h3; clear h1 h2 h3)
  have hz3 := HX3.out.size
  obtain ⟨w4, hw4⟩ : ∃ y, y = w3.alloc (.cells #[.int .i64 a0, .int .i64 a1, .slice (some ⟨g, 0, none⟩) l.length c1, .int .i64 a0, .int .i64 a1, .slice Aw l.length cw, .slice (some ⟨g, 0, none⟩) (l.length + 3) c1] 52) := ⟨_, rfl⟩
  rw [← hw4]
  have hb34 : Below w3.heap.size w3 w4 := by rw [hw4]; exact Ae (Below.refl _ _) _
  have hp3 := Ao HP2.out HX3.out
  have hk3 := Ao HK2.out HX3.out
  have hp4 := Ao hp3 hb34
  have hk4 := Ao hk3 hb34
  have hq4 : w4.heap[w3.heap.size]? = some (.cells #[.int .i64 a0, .int .i64 a1, .slice (some ⟨g, 0, none⟩) l.length c1, .int .i64 a0, .int .i64 a1, .slice Aw l.length cw, .slice (some ⟨g, 0, none⟩) (l.length + 3) c1] 52 (0, 0)) := by rw [hw4]; exact blk_new _ _
  have hW4 : Below w.heap.size w w4 := (HW2.out.trans (HX3.out.mono (by omega))).trans (hb34.mono (by omega))
  have hR4 := Kd.Bc HX1.out hb34
  have hS4 := Kd.Bc HX2.out hb34
  have hz4 : w4.heap.size = w3.heap.size + 1 := by rw [hw4]; simp
  have cp0 : w4.cell? ⟨w.heap.size, 0, none⟩ = some (.int .i64 a0) := (Ad hp4 0).trans rfl
  have cp1 : w4.cell? ⟨w.heap.size, 1, none⟩ = some (.int .i64 a1) := (Ad hp4 1).trans rfl
  have cp2 : w4.cell? ⟨w.heap.size, 2, none⟩ = some (.slice A l.length c) := (Ad hp4 2).trans rfl
  have HW4 := Aa.mk hW4
  have HP4 := Aa.mk hp4
  have HK4 := Aa.mk hk4
  have HQ4 := Aa.mk hq4
  have HR4 := Aa.mk hR4
  have HS4 := Aa.mk hS4
  have HC4 := Aa.mk (Kd.Ce HC.out hW4)
  clear hw4 hb34 hp3 hk3 hp4 hk4 hq4 hW4 hR4 hS4 HX1 HX2 HX3 HC2 HK2 HW2 HP2
  go_upto_region 6 with (go_at_call 29; refine (Cd.calls k a0 a1 A c l ways b1 e1 w4 HC4.out HCC.out HH.out.ra).mono ?_; rintro e w5 ⟨v0, rfl, h1, h3⟩; have HY1 := Aa.mk h1; have HY3 := Aa.mk h3; clear h1 h3)
  obtain ⟨Ab, cb, ev0⟩ := Kd.B0 HY1.out
  subst ev0
  have hz5 := HY3.out.size
  have hp5 := Ao HP4.out HY3.out
  have cp0 : w5.cell? ⟨w.heap.size, 0, none⟩ = some (.int .i64 a0) := (Ad hp5 0).trans rfl
  have cp1 : w5.cell? ⟨w.heap.size, 1, none⟩ = some (.int .i64 a1) := (Ad hp5 1).trans rfl
  have cp2 : w5.cell? ⟨w.heap.size, 2, none⟩ = some (.slice A l.length c) := (Ad hp5 2).trans rfl
  have HC5 := Aa.mk (Kd.Ce HC4.out HY3.out)
  clear hp5
  go_upto_region 7 with (go_at_call 30; refine (Ai.calls k a0 a1 A c l s1 e2 w5 HC5.out HCC.out HH.out.rs).mono ?_; rintro e w6 ⟨v0, rfl, h1, h3⟩; have HV1 := Aa.mk h1; have HV3 := Aa.mk h3; clear h1 h3)
  obtain ⟨As, cs, ev0⟩ := Kd.B0 HV1.out
  subst ev0
  have hz6 := HV3.out.size
  have hb46 : Below w4.heap.size w4 w6 := HY3.out.trans (HV3.out.mono hz5)
  have hk6 := Ao HK4.out hb46
  have hq6 := Ao HQ4.out hb46
  have HQ6 := Aa.mk hq6
  have HR6 := Aa.mk (Kd.Bc HR4.out hb46)
  have HS6 := Aa.mk (Kd.Bc HS4.out hb46)
  have HY6 := Aa.mk (Kd.Bc HY1.out HV3.out)
  have HW6 := Aa.mk (HW4.out.trans (hb46.mono (by omega)))
  have hB6 : BK w6 w.heap.size w1.heap.size (fun k => ¬ (w1.heap.size ≤ k ∧ k < w6.heap.size)) (.slice none 0 0) (.slice none 0 0) [] [] :=
    ⟨hk6, by omega, fun h => h ⟨Nat.le_refl _, Bz hk6⟩, Kd.C8 _ _ _ _ _, Kd.C8 _ _ _ _ _, rfl, fun j hj => by simp at hj⟩
  have HB6 : Aa (∃ v vm L ms, BK w6 w.heap.size w1.heap.size (fun k => ¬ (w1.heap.size ≤ k ∧ k < w6.heap.size)) v vm L ms ∧ L.length = 0) := ⟨⟨_, _, _, _, hB6, rfl⟩⟩
  clear hk6 hq6 hb46 hB6 HY1 HY3 HV3 HW4 HK4 HQ4 HR4 HS4 HC4 HC5 HP4 cp0 cp1 cp2
  go_wp2
  go_loopw [11, 12, 13, 14, 15] (fun s17 _ _ _ _ wr => ∃ i : Nat, i ≤ 2 ∧ s17 = .int .i64 i ∧ Aa (∃ v vm L ms, BK wr w.heap.size w1.heap.size (fun k => ¬ (w1.heap.size ≤ k ∧ k < w6.heap.size)) v vm L ms ∧ L.length = 2 * i) ∧ Aa (Below w.heap.size w wr) ∧ Aa (∀ k, k < w6.heap.size → w1.heap.size + 1 ≤ k → wr.heap[k]? = w6.heap[k]?) ∧ Aa (w6.heap.size ≤ wr.heap.size)) (fun s17 _ _ _ _ _ => 2 - (intOf s17).toNat)
  case atStart => exact ⟨0, by omega, rfl, HB6, HW6, ⟨fun _ _ _ => rfl⟩, ⟨Nat.le_refl _⟩⟩
  case round =>
    obtain ⟨i, hi, rfl, HBK, HWW, HF6, HZ6⟩ := hrel
    have hfr := HF6.out
    have hzr := HZ6.out
    have hqr := (hfr w3.heap.size (by omega) (by omega)).trans HQ6.out
    have hmv : ∀ k, w1.heap.size + 1 ≤ k → k < w6.heap.size → wr.heap[k]? = w6.heap[k]? := fun k h1 h2 => hfr k h2 h1
    have HRr := Aa.mk (Kd.Bj (Kd.Dm (Kd.Cv HR6.out) (fun k hk h => hmv k (by have := hk.2.1; omega) h)) (fun k hk => hk.1))
    have HSr := Aa.mk (Kd.Bj (Kd.Dm (Kd.Cv HS6.out) (fun k hk h => hmv k (by have := hk.2.1; omega) h)) (fun k hk => hk.1))
    have HQr := Aa.mk hqr
    by_cases hlt : i < 2
    · have cq0 : wr.cell? ⟨w3.heap.size, 0, none⟩ = some (.int .i64 a0) := (Ad hqr 0).trans rfl
      have cq1 : wr.cell? ⟨w3.heap.size, 1, none⟩ = some (.int .i64 a1) := (Ad hqr 1).trans rfl
      have cq2 : wr.cell? ⟨w3.heap.size, 2, none⟩ = some (.slice (some ⟨g, 0, none⟩) l.length c1) := (Ad hqr 2).trans rfl
      have hrl : (roomOf l).length = l.length + 3 := by simp [roomOf]
      have hT : Kd.bool.C wr (some ⟨g, 0, none⟩) l.length l := by
        have h := (Kd.Ba (Kd.R_take (m := l.length) HRr.out (by omega))).2.2
        rw [show (roomOf l).take l.length = l by simp [roomOf]] at h
        exact h
      have hcc : l.length ≤ c1 := by have := (Kd.Ba HRr.out).2.1; omega
      have HT := Aa.mk hT
      have HBb := Aa.mk (Kd.Bj (Kd.Dm (Kd.Cv HY6.out) (fun k hk h => hmv k (by have := hk.2.1; omega) h)) (fun k hk => hk.1))
      have HSs := Aa.mk (Kd.Bj (Kd.Dm (Kd.Cv HV1.out) (fun k hk h => hmv k (by have := hk.2.1; omega) h)) (fun k hk => hk.1))
      obtain ⟨v, vm, L, ms, hbk, hLl⟩ := HBK.out
      have HBKo := Aa.mk hbk
      have hL1 : L.length ≤ 900 := by omega
      have HLl := Aa.mk hLl
      have HN1 : Aa (Di.f e1 = some e1) := ⟨rfl⟩
      have HN2 : Aa (Di.f e2 = some e2) := ⟨rfl⟩
      clear hfr hmv hqr hT hbk hLl HBK HB6 HW6 hrl
      go_upto_region 11 with (go_at_call 31; refine (Ct.calls a0 a1 (some ⟨g, 0, none⟩) c1 l ways b1 e1 wr HT.out hcc HH.out.fa).mono ?_; rintro e w7 ⟨vl, rfl, h1, h2⟩; have HZ1 := Aa.mk h1; have HZ2 := Aa.mk h2; clear h1 h2)
      obtain ⟨Al, cl, evl⟩ := Kd.B0 HZ1.out
      subst evl
      have hqr7 := Ao HQr.out HZ2.out
      have cq0 : w7.cell? ⟨w3.heap.size, 0, none⟩ = some (.int .i64 a0) := (Ad hqr7 0).trans rfl
      have cq1 : w7.cell? ⟨w3.heap.size, 1, none⟩ = some (.int .i64 a1) := (Ad hqr7 1).trans rfl
      have cq2 : w7.cell? ⟨w3.heap.size, 2, none⟩ = some (.slice (some ⟨g, 0, none⟩) l.length c1) := (Ad hqr7 2).trans rfl
      have hz7 := HZ2.out.size
      have HT7 := Aa.mk (Kd.Ce HT.out HZ2.out)
      clear hqr7
      go_upto_region 12 with (go_at_call 32; refine (Bf.calls k a0 a1 (some ⟨g, 0, none⟩) c1 l s1 e2 w7 HT7.out hcc HH.out.fs).mono ?_; rintro e w8 ⟨vl, rfl, h1, h2⟩; have HU1 := Aa.mk h1; have HU2 := Aa.mk h2; clear h1 h2)
      obtain ⟨Aq, cq, evl⟩ := Kd.B0 HU1.out
      subst evl
      have hz8 := HU2.out.size
      have hb8 : Below wr.heap.size wr w8 := HZ2.out.trans (HU2.out.mono hz7)
      have HB8 := Aa.mk hb8
      have HL8 := Aa.mk (Kd.Cv (Kd.Bc (Kd.Bj (Kd.Cv HZ1.out) (fun k hk => (⟨hk.2.1, hk.2.2.1⟩ : wr.heap.size ≤ k ∧ k < w7.heap.size))) HU2.out))
      have HBb8 := Aa.mk (Kd.Bc HBb.out hb8)
      have HSs8 := Aa.mk (Kd.Bc HSs.out hb8)
      have hown : ∀ j, (Value.slice Aq s1.length cq).ownBlock = some j → w7.heap.size ≤ j ∧ j < w8.heap.size := fun j hj => by have h := (Kd.Cv HU1.out).1 j hj; exact ⟨h.2.1, h.2.2.1⟩
      have HOWN := Aa.mk hown
      clear hb8 hown
      go_upto_region 14 with (first | (go_at_call 17; refine (num_any _ _).mono ?_; rintro e w' ⟨rfl, ⟨n1, rfl⟩⟩) | (go_at_call 18; (with_reducible refine (ints_any k Al cl b1 Ab cb b1 _ ?c1 ?c2 ?c3 ?c4 HH.out.ia).mono ?_); (case c1 => exact Kd.B6 (Kd.Ba HL8.out).2.2 _); (case c2 => exact (Kd.Ba HL8.out).2.1); (case c3 => exact Kd.B6 (Kd.Ba HBb8.out).2.2 _); (case c4 => exact (Kd.Ba HBb8.out).2.1); rintro e w' ⟨rfl, ⟨n1, rfl⟩⟩) | (go_at_call 18; (with_reducible refine (ints_any k Aq cq s1 As cs s1 _ ?c5 ?c6 ?c7 ?c8 HH.out.is).mono ?_); (case c5 => exact Kd.B6 (Kd.Ba HU1.out).2.2 _); (case c6 => exact (Kd.Ba HU1.out).2.1); (case c7 => exact Kd.B6 (Kd.Ba HSs8.out).2.2 _); (case c8 => exact (Kd.Ba HSs8.out).2.1); rintro e w' ⟨rfl, ⟨n1, rfl⟩⟩))
      have hB8' : BK w8 w.heap.size w1.heap.size (fun k => (fun k => ¬ (w1.heap.size ≤ k ∧ k < w6.heap.size)) k ∧ k < wr.heap.size) v vm L ms := BK.later HBKo.out (fun k hk => HB8.out.block k hk)
      have HBK8 := Aa.mk hB8'
      have hpb : ∀ k, ((fun k => ¬ (w1.heap.size ≤ k ∧ k < w6.heap.size)) k ∧ k < wr.heap.size) → (¬ (w1.heap.size ≤ k ∧ k < w6.heap.size) ∧ some k ≠ (Value.slice Aq s1.length cq).ownBlock) := fun k h => ⟨h.1, fun e => by have h2 := (HOWN.out k e.symm).1; have h3 := h.2; omega⟩
      have hpf : ∀ k, w8.heap.size ≤ k → (¬ (w1.heap.size ≤ k ∧ k < w6.heap.size) ∧ some k ≠ (Value.slice Aq s1.length cq).ownBlock) := fun k h => ⟨fun h2 => by omega, fun e => by have h2 := (HOWN.out k e.symm).2; omega⟩
      have hdd : ∀ k, (fun k => wr.heap.size ≤ k ∧ k < w7.heap.size) k → (¬ (w1.heap.size ≤ k ∧ k < w6.heap.size) ∧ some k ≠ (Value.slice Aq s1.length cq).ownBlock) ∧ ¬ ((fun k => ¬ (w1.heap.size ≤ k ∧ k < w6.heap.size)) k ∧ k < wr.heap.size) := fun k h => ⟨⟨fun h2 => by have h3 := h.1; omega, fun e => by have h2 := (HOWN.out k e.symm).1; have h3 := h.2; omega⟩, fun h2 => by have h3 := h.1; have h4 := h2.2; omega⟩
      have hlr : (Kd.int .i64).R 3 w8 w.heap.size (fun k => wr.heap.size ≤ k ∧ k < w7.heap.size) (.slice Al b1.length cl) b1 := Kd.Cc (Kd.Bj HL8.out (fun k hk => hk.1)) (by have := HWW.out.size; omega)
      have hb8 : Below w.heap.size w w8 := HWW.out.trans (HB8.out.mono HWW.out.size)
      have HPB := Aa.mk hpb
      have HPF := Aa.mk hpf
      have HDD := Aa.mk hdd
      have HLR := Aa.mk hlr
      have HBE8 := Aa.mk hb8
      have hnk : ¬ (¬ (w1.heap.size ≤ w1.heap.size ∧ w1.heap.size < w6.heap.size) ∧ some w1.heap.size ≠ (Value.slice Aq s1.length cq).ownBlock) := fun h => h.1 ⟨Nat.le_refl _, by omega⟩
      have HNK := Aa.mk hnk
      clear hB8' hpb hpf hdd hlr hb8 hnk
      go_upto_region 15 with (go_at_call 19; refine (Ints_drew w w8 _ (by exact ⟨_, rfl⟩) w.heap.size w1.heap.size (fun k => ¬ (w1.heap.size ≤ k ∧ k < w6.heap.size) ∧ some k ≠ (Value.slice Aq s1.length cq).ownBlock) (fun k => (fun k => ¬ (w1.heap.size ≤ k ∧ k < w6.heap.size)) k ∧ k < wr.heap.size) (fun k => wr.heap.size ≤ k ∧ k < w7.heap.size) v vm L ms HBK8.out HBE8.out HPB.out HNK.out HPF.out (.slice Al b1.length cl) b1 HLR.out HDD.out _ (by omega)).mono ?_; rintro e w9 ⟨rfl, ⟨v', vm', n', h1⟩, h2, h3, h4⟩; have HN1 := Aa.mk h1; have HN2 := Aa.mk h2; have HN3 := Aa.mk h3; have HN4 := Aa.mk h4; clear h1 h2 h3 h4)
      have hn4 : w8.heap.size ≤ w9.heap.size := HN4.out
      have hn3 : ∀ k, k < w8.heap.size → ¬ (¬ (w1.heap.size ≤ k ∧ k < w6.heap.size) ∧ some k ≠ (Value.slice Aq s1.length cq).ownBlock) → k ≠ w1.heap.size → w9.heap[k]? = w8.heap[k]? := HN3.out
      have hq9 : (Kd.int .i64).R 3 w9 w.heap.size (fun k => (Value.slice Aq s1.length cq).ownBlock = some k) (.slice Aq s1.length cq) s1 := by
        have h := Kd.Dp (enc := Value.int .i64) (h1 := fun _ => rfl) (Kd.own_of_R HU1.out) (fun k hk => hk)
        exact Kd.Cc (Kd.Dm h (fun k hk hlt => hn3 k hlt (fun e => e.2 hk.symm) (by have := (HOWN.out k hk).1; omega))) (by have := HWW.out.size; omega)
      have HQ9 := Aa.mk hq9
      have HN3' := Aa.mk hn3
      clear hq9 hn3 HN3 HN4
      go_wp2_with (go_at_call 19; refine (Ints_gen w w9 w.heap.size w1.heap.size (fun k => ¬ (w1.heap.size ≤ k ∧ k < w6.heap.size)) (fun k => ¬ (w1.heap.size ≤ k ∧ k < w6.heap.size) ∧ some k ≠ (Value.slice Aq s1.length cq).ownBlock) (fun k => (Value.slice Aq s1.length cq).ownBlock = some k) v' vm' _ _ HN1.out HN2.out (fun k h => h.1) (fun h => h ⟨Nat.le_refl _, by omega⟩) (fun k hk h => by omega) (.slice Aq s1.length cq) s1 HQ9.out (fun k hk => ⟨fun h => by have := (HOWN.out k hk).1; omega, fun h => h.2 hk.symm⟩) _ (by rw [List.length_append, List.length_singleton]; omega)).mono ?_; rintro e w10 ⟨rfl, ⟨v2, vm2, n2, h1⟩, h2, h3, h4⟩; have HM1 := Aa.mk h1; have HM2 := Aa.mk h2; have HM3 := Aa.mk h3; have HM4 := Aa.mk h4; clear h1 h2 h3 h4)
      go_roundw
      case rel =>
        refine ⟨i + 1, by omega, by go_num, ⟨⟨v2, vm2, _, _, HM1.out, by rw [List.length_append, List.length_append, HLl.out]; simp; omega⟩⟩, HM2, ⟨fun k h1 h2 => ?_⟩, ⟨by have := HM4.out; omega⟩⟩
        rw [HM3.out k (by omega) (fun h => h ⟨by omega, h1⟩) (by omega), HN3'.out k (by omega) (fun h => h.1 ⟨by omega, h1⟩) (by omega), HB8.out.block k (by omega), HF6.out k h1 h2]
      case measure => simp [intOf]; omega
    · obtain rfl : i = 2 := by omega
      obtain ⟨v, vm, L, ms, hbk, hLl⟩ := HBK.out
      have HBKo := Aa.mk hbk
      have hL1 : L.length ≤ 1000 := by omega
      have c0 : wr.cell? ⟨w3.heap.size, 0, none⟩ = some (.int .i64 a0) := (Ad hqr 0).trans rfl
      have c1' : wr.cell? ⟨w3.heap.size, 1, none⟩ = some (.int .i64 a1) := (Ad hqr 1).trans rfl
      have c2 : wr.cell? ⟨w3.heap.size, 2, none⟩ = some (.slice (some ⟨g, 0, none⟩) l.length c1) := (Ad hqr 2).trans rfl
      have c3 : wr.cell? ⟨w3.heap.size, 3, none⟩ = some (.int .i64 a0) := (Ad hqr 3).trans rfl
      have c4 : wr.cell? ⟨w3.heap.size, 4, none⟩ = some (.int .i64 a1) := (Ad hqr 4).trans rfl
      have c5 : wr.cell? ⟨w3.heap.size, 5, none⟩ = some (.slice Aw l.length cw) := (Ad hqr 5).trans rfl
      have c6 : wr.cell? ⟨w3.heap.size, 6, none⟩ = some (.slice (some ⟨g, 0, none⟩) (l.length + 3) c1) := (Ad hqr 6).trans rfl
      clear hbk hmv hfr hqr HBK hLl
      go_wp2_with (first | (go_at_call 20; refine (Hold_calls _ w.heap.size w1.heap.size _ v vm L ms HBKo.out hL1).mono ?_; rintro e w7 ⟨rfl, ⟨n1, rfl⟩⟩) | (go_at_call 28; refine (stays_calls k (wr.drewN n1) w2.heap.size (fun _ => True) (fun _ => True) a0 a1 l g c1 Aw cw (by exact HRr.out) (by exact HSr.out) hlen HH.out.same).mono ?_; rintro e w7 ⟨rfl, hbs⟩; have HBS := Aa.mk hbs; clear hbs))
      go_ret
      exact ⟨rfl, (Ac HWW.out n1).trans (HBS.out.mono (by exact HWW.out.size))⟩
end Go.Proofs.Yteamphcehoaleaa
end
