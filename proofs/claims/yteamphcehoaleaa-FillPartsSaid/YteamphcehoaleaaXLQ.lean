import Derived.Test.YteamphcehoaleaaXKR
import Derived.Test.YteamphcehoaleaaXKT
import Derived.Test.YteamphcehoaleaaXEG
import Derived.Test.YteamphcehoaleaaXPA
import Derived.Test.YteamphcehoaleaaXPFKx2
import Derived.Test.YteamphcehoaleaaXPFPx2
import Derived.Test.YteamphcehoaleaaXPFPx3
import Derived.Test.YteamphcehoaleaaXRP
import Derived.Test.YteamphcehoaleaaXMK
section
open Go Go.RowKit Go.Proofs.YteamphcehoaleaaW.PrintWords Go.Proofs.YteamphcehoaleaaW.PrintLast Go.Proofs.YteamphcehoaleaaW.PrintMore
attribute [local go_sem ↓] Go.wp_at_zero Go.wp_at_succ
set_option linter.unusedVariables false
set_option linter.unusedSimpArgs false
namespace Go.Proofs.Yteamphcehoaleaa.BK
end Go.Proofs.Yteamphcehoaleaa.BK
end
section
open Go Go.RowKit Go.Proofs.YteamphcehoaleaaW.PrintWords Go.Proofs.YteamphcehoaleaaW.PrintLast Go.Proofs.YteamphcehoaleaaW.PrintMore
attribute [local go_sem ↓] Go.wp_at_zero Go.wp_at_succ
set_option linter.unusedVariables false
set_option linter.unusedSimpArgs false
namespace Go.Proofs.Yteamphcehoaleaa
open PFA PFK PFP BK
structure PartsOk (k : Nat) (a0 a1 : Int) (l : List Bool) (ways : Int) (p1 : List Int) (n e1 : Int) (b0 b1 : Int) (b2 : List Bool) (e2 : Int) : Prop where
  len : l.length ≤ 140737488351232
  known : Aj.f k = some true
  rp : Ao.f k a0 a1 l ways = some (p1, n, e1)
  re : Ay.f k a0 a1 l ways = some (b0, b1, b2, e2)
  fp : Co.f a0 a1 l ways = some (p1, n, e1)
  fe : Ct.f a0 a1 l ways = some (b0, b1, b2, e2)
  ip : Ar.f k p1 p1 = some true
  sb : Az.f k b0 b1 b2 b0 b1 b2 = some true
  same : Az.f k a0 a1 l a0 a1 l = some true
set_option maxRecDepth 100000 in
set_option maxHeartbeats 4000000 in
theorem FillParts_walk (k : Nat) (a0 a1 : Int) (A : Option Addr) (c : Nat) (l : List Bool) (ways : Int) (p1 : List Int) (n e1 b0 b1 : Int) (b2 : List Bool) (e2 : Int) (w : World) (hC : Kd.C Kd.bool w A l.length l) (hc : l.length ≤ c) (H : PartsOk k a0 a1 l ways p1 n e1 b0 b1 b2 e2) :
    Calls Try.prog 4 #[.agg #[.int .i64 a0, .int .i64 a1, .slice A l.length c], .int .i64 ways] w fun e w' => e = .returned (.bool true) ∧ Below w.heap.size w w' := by
  have HC := Aa.mk hC
  have HCC := Aa.mk hc
  have HH := Aa.mk H
  have hlen := H.len
  clear hC hc H
  go_enter Try.func4, Try.ntmps4
  go_upto_region 3 with (go_at_call 13; refine (Aj.calls k true _ HH.out.known).mono ?_; rintro e w1 ⟨rfl, hb1⟩; have HB1 := Aa.mk hb1; clear hb1)
  go_upto_region 4 with fail
  have hW1 : Below w.heap.size w w1 := ((Af (Below.refl _ w) _).trans (HB1.out.mono (by simp)))
  have hp1 := Ap (Go.Proofs.Yteamphcehoaleaa.H.bnew (w := w) (.cells #[.int .i64 a0, .int .i64 a1, .slice A l.length c] 50) rfl) HB1.out
  have hz1 : w.heap.size < w1.heap.size := Bv hp1
  obtain ⟨w2, hw2⟩ : ∃ y, y = w1.alloc (.cells #[.slice none 0 0, .slice none 0 0, .slice none 0 0, .slice none 0 0, .slice none 0 0, .slice none 0 0, .slice none 0 0, .slice none 0 0] 34) := ⟨_, rfl⟩
  rw [← hw2]
  have hp2 : w2.heap[w.heap.size]? = some (.cells #[.int .i64 a0, .int .i64 a1, .slice A l.length c] 50 (0, 0)) := by rw [hw2]; exact Ak hp1 _
  have hk2 : w2.heap[w1.heap.size]? = some (.cells #[.slice none 0 0, .slice none 0 0, .slice none 0 0, .slice none 0 0, .slice none 0 0, .slice none 0 0, .slice none 0 0, .slice none 0 0] 34 (0, 0)) := by rw [hw2]; exact Dk _ _
  have hW2 : Below w.heap.size w w2 := by rw [hw2]; exact Af hW1 _
  have hz2 : w2.heap.size = w1.heap.size + 1 := by rw [hw2]; simp
  have cp0 : w2.cell? ⟨w.heap.size, 0, none⟩ = some (.int .i64 a0) := (Ad hp2 0).trans rfl
  have cp1 : w2.cell? ⟨w.heap.size, 1, none⟩ = some (.int .i64 a1) := (Ad hp2 1).trans rfl
  have cp2 : w2.cell? ⟨w.heap.size, 2, none⟩ = some (.slice A l.length c) := (Ad hp2 2).trans rfl
  have HP2 := Aa.mk hp2
  have HK2 := Aa.mk hk2
  have HW2 := Aa.mk hW2
  have HC2 := Aa.mk (Kd.B8 HC.out hW2)
  clear hp2 hk2 hW2 hw2 hp1 hW1
  go_upto_region 5 with (go_at_call 22; refine (lend_calls w2 a0 a1 A c l HC2.out HCC.out hlen).mono ?_; rintro e w3 ⟨g, c1, Aw, cw, rfl, h1, h2, h3⟩; have HX1 := Aa.mk h1; have HX2 := Aa.mk h2; have HX3 := Aa.mk h3; clear h1 h2 h3)
  have hz3 := HX3.out.size
  obtain ⟨w4, hw4⟩ : ∃ y, y = w3.alloc (.cells #[.int .i64 a0, .int .i64 a1, .slice (some ⟨g, 0, none⟩) l.length c1, .int .i64 a0, .int .i64 a1, .slice Aw l.length cw, .slice (some ⟨g, 0, none⟩) (l.length + 3) c1] 52) := ⟨_, rfl⟩
  rw [← hw4]
  have hb34 : Below w3.heap.size w3 w4 := by rw [hw4]; exact Af (Below.refl _ _) _
  have hp3 := Ap HP2.out HX3.out
  have hk3 := Ap HK2.out HX3.out
  have hp4 := Ap hp3 hb34
  have hk4 := Ap hk3 hb34
  have hq4 : w4.heap[w3.heap.size]? = some (.cells #[.int .i64 a0, .int .i64 a1, .slice (some ⟨g, 0, none⟩) l.length c1, .int .i64 a0, .int .i64 a1, .slice Aw l.length cw, .slice (some ⟨g, 0, none⟩) (l.length + 3) c1] 52 (0, 0)) := by rw [hw4]; exact Dk _ _
  have hW4 : Below w.heap.size w w4 := (HW2.out.trans (HX3.out.mono (by omega))).trans (hb34.mono (by omega))
  have hR4 := Kd.Ba HX1.out hb34
  have hS4 := Kd.Ba HX2.out hb34
  have hz4 : w4.heap.size = w3.heap.size + 1 := by rw [hw4]; simp
  have cp0 : w4.cell? ⟨w.heap.size, 0, none⟩ = some (.int .i64 a0) := (Ad hp4 0).trans rfl
  have cp1 : w4.cell? ⟨w.heap.size, 1, none⟩ = some (.int .i64 a1) := (Ad hp4 1).trans rfl
  have cp2 : w4.cell? ⟨w.heap.size, 2, none⟩ = some (.slice A l.length c) := (Ad hp4 2).trans rfl
  have HW4 := Aa.mk hW4
  have HP4 := Aa.mk hp4
  have HK4 := Aa.mk hk4
  have HQ4 := Aa.mk hq4
  have HR4 := Aa.mk hR4
  have HS4 := Aa.mk hS4
  have HC4 := Aa.mk (Kd.B8 HC.out hW4)
  clear hw4 hb34 hp3 hk3 hp4 hk4 hq4 hW4 hR4 hS4 HX1 HX2 HX3 HC2 HK2 HW2 HP2
  go_upto_region 6 with (go_at_call 23; refine (Ao.calls k a0 a1 A c l ways p1 n e1 w4 HC4.out HCC.out HH.out.rp).mono ?_; rintro e w5 ⟨v0, rfl, h1, h3⟩; have HY1 := Aa.mk h1; have HY3 := Aa.mk h3; clear h1 h3)
  obtain ⟨Ab, cb, ev0⟩ := Kd.B2 HY1.out
  subst ev0
  have hz5 := HY3.out.size
  have hp5 := Ap HP4.out HY3.out
  have cp0 : w5.cell? ⟨w.heap.size, 0, none⟩ = some (.int .i64 a0) := (Ad hp5 0).trans rfl
  have cp1 : w5.cell? ⟨w.heap.size, 1, none⟩ = some (.int .i64 a1) := (Ad hp5 1).trans rfl
  have cp2 : w5.cell? ⟨w.heap.size, 2, none⟩ = some (.slice A l.length c) := (Ad hp5 2).trans rfl
  have HC5 := Aa.mk (Kd.B8 HC4.out HY3.out)
  clear hp5
  go_upto_region 7 with (go_at_call 24; refine (Ay.calls k a0 a1 A c l ways b0 b1 b2 e2 w5 HC5.out HCC.out HH.out.re).mono ?_; rintro e w6 ⟨v0, rfl, h1, h3⟩; obtain ⟨Ae, ce, ev0⟩ := Kd.B2 h1; subst ev0; have HV1 := Aa.mk h1; have HV3 := Aa.mk h3; clear h1 h3)
  have hz6 := HV3.out.size
  obtain ⟨w7, hw7⟩ : ∃ y, y = w6.alloc (.cells #[.int .i64 b0, .int .i64 b1, .slice Ae b2.length ce] 50) := ⟨_, rfl⟩
  rw [← hw7]
  have hb67 : Below w6.heap.size w6 w7 := by rw [hw7]; exact Af (Below.refl _ _) _
  have hx7 : w7.heap[w6.heap.size]? = some (.cells #[.int .i64 b0, .int .i64 b1, .slice Ae b2.length ce] 50 (0, 0)) := by rw [hw7]; exact Dk _ _
  have hz7 : w7.heap.size = w6.heap.size + 1 := by rw [hw7]; simp
  have hb47 : Below w4.heap.size w4 w7 := (HY3.out.trans (HV3.out.mono hz5)).trans (hb67.mono (by omega))
  have hk7 := Ap HK4.out hb47
  have hq7 := Ap HQ4.out hb47
  have HX7 := Aa.mk hx7
  have HQ7 := Aa.mk hq7
  have HR7 := Aa.mk (Kd.Ba HR4.out hb47)
  have HS7 := Aa.mk (Kd.Ba HS4.out hb47)
  have HY7 := Aa.mk (Kd.Ba HY1.out (HV3.out.trans (hb67.mono (by omega))))
  have HV7 := Aa.mk (Kd.Ba HV1.out hb67)
  have HW7 := Aa.mk (HW4.out.trans (hb47.mono (by omega)))
  have hB7 : BK w7 w.heap.size w1.heap.size (fun k => ¬ (w1.heap.size ≤ k ∧ k < w7.heap.size)) (.slice none 0 0) (.slice none 0 0) [] [] :=
    ⟨hk7, by omega, fun h => h ⟨Nat.le_refl _, Bv hk7⟩, Kd.C5 _ _ _ _ _, Kd.C5 _ _ _ _ _, rfl, fun j hj => by simp at hj⟩
  have HB7 : Aa (∃ v vm L ms, BK w7 w.heap.size w1.heap.size (fun k => ¬ (w1.heap.size ≤ k ∧ k < w7.heap.size)) v vm L ms ∧ L.length = 0) := ⟨⟨_, _, _, _, hB7, rfl⟩⟩
  clear hk7 hq7 hx7 hb47 hb67 hw7 hB7 HY1 HY3 HV1 HV3 HW4 HK4 HQ4 HR4 HS4 HC4 HC5 HP4 cp0 cp1 cp2
  go_wp2
  go_loopw [12, 13, 14, 15, 16, 17] (fun s17 _ _ _ _ _ wr => ∃ i : Nat, i ≤ 2 ∧ s17 = .int .i64 i ∧ Aa (∃ v vm L ms, BK wr w.heap.size w1.heap.size (fun k => ¬ (w1.heap.size ≤ k ∧ k < w7.heap.size)) v vm L ms ∧ L.length = i) ∧ Aa (Below w.heap.size w wr) ∧ Aa (∀ k, k < w7.heap.size → w1.heap.size + 1 ≤ k → wr.heap[k]? = w7.heap[k]?) ∧ Aa (w7.heap.size ≤ wr.heap.size)) (fun s17 _ _ _ _ _ _ => 2 - (intOf s17).toNat)
  case atStart => exact ⟨0, by omega, rfl, HB7, HW7, ⟨fun _ _ _ => rfl⟩, ⟨Nat.le_refl _⟩⟩
  case round =>
    obtain ⟨i, hi, rfl, HBK, HWW, HF7, HZ7⟩ := hrel
    have hfr := HF7.out
    have hzr := HZ7.out
    have hqr := (hfr w3.heap.size (by omega) (by omega)).trans HQ7.out
    have hxr := (hfr w6.heap.size (by omega) (by omega)).trans HX7.out
    have hmv : ∀ k, w1.heap.size + 1 ≤ k → k < w7.heap.size → wr.heap[k]? = w7.heap[k]? := fun k h1 h2 => hfr k h2 h1
    have HRr := Aa.mk (Kd.Bs (Kd.R_step (Kd.C1 HR7.out) (fun k hk h => hmv k (by have := hk.2.1; omega) h)) (fun k hk => hk.1))
    have HSr := Aa.mk (Kd.Bs (Kd.R_step (Kd.C1 HS7.out) (fun k hk h => hmv k (by have := hk.2.1; omega) h)) (fun k hk => hk.1))
    have HQr := Aa.mk hqr
    have HXr := Aa.mk hxr
    by_cases hlt : i < 2
    · have cq0 : wr.cell? ⟨w3.heap.size, 0, none⟩ = some (.int .i64 a0) := (Ad hqr 0).trans rfl
      have cq1 : wr.cell? ⟨w3.heap.size, 1, none⟩ = some (.int .i64 a1) := (Ad hqr 1).trans rfl
      have cq2 : wr.cell? ⟨w3.heap.size, 2, none⟩ = some (.slice (some ⟨g, 0, none⟩) l.length c1) := (Ad hqr 2).trans rfl
      have hrl : (roomOf l).length = l.length + 3 := by simp [roomOf]
      have hT : Kd.bool.C wr (some ⟨g, 0, none⟩) l.length l := by
        have h := (Kd.Bb (Kd.R_take (m := l.length) HRr.out (by omega))).2.2
        rw [show (roomOf l).take l.length = l by simp [roomOf]] at h
        exact h
      have hcc : l.length ≤ c1 := by have := (Kd.Bb HRr.out).2.1; omega
      have HT := Aa.mk hT
      have HBb := Aa.mk (Kd.Bs (Kd.R_step (Kd.C1 HY7.out) (fun k hk h => hmv k (by have := hk.2.1; omega) h)) (fun k hk => hk.1))
      have HEe := Aa.mk (Kd.Bs (Kd.R_step (Kd.C1 HV7.out) (fun k hk h => hmv k (by have := hk.2.1; omega) h)) (fun k hk => hk.1))
      obtain ⟨v, vm, L, ms, hbk, hLl⟩ := HBK.out
      have HBKo := Aa.mk hbk
      have hL1 : L.length ≤ 900 := by omega
      have HLl := Aa.mk hLl
      have HN1 : Aa (Dg.f e1 = some e1) := ⟨rfl⟩
      clear hfr hmv hqr hxr hT hbk hLl HBK HB7 HW7 hrl
      go_upto_region 11 with (go_at_call 25; refine (Co.calls a0 a1 (some ⟨g, 0, none⟩) c1 l ways p1 n e1 wr HT.out hcc HH.out.fp).mono ?_; rintro e w8 ⟨vl, rfl, h1, h2⟩; have HZ1 := Aa.mk h1; have HZ2 := Aa.mk h2; clear h1 h2)
      obtain ⟨Al, cl, evl⟩ := Kd.B2 HZ1.out
      subst evl
      have hqr8 := Ap HQr.out HZ2.out
      have cq0 : w8.cell? ⟨w3.heap.size, 0, none⟩ = some (.int .i64 a0) := (Ad hqr8 0).trans rfl
      have cq1 : w8.cell? ⟨w3.heap.size, 1, none⟩ = some (.int .i64 a1) := (Ad hqr8 1).trans rfl
      have cq2 : w8.cell? ⟨w3.heap.size, 2, none⟩ = some (.slice (some ⟨g, 0, none⟩) l.length c1) := (Ad hqr8 2).trans rfl
      have hz8 := HZ2.out.size
      have HT8 := Aa.mk (Kd.B8 HT.out HZ2.out)
      clear hqr8
      go_upto_region 12 with (go_at_call 26; refine (fill_Edge_full a0 a1 (some ⟨g, 0, none⟩) c1 l ways b0 b1 b2 e2 w8 HT8.out hcc HH.out.fe).mono ?_; rintro e w9 ⟨vl, rfl, h1, h2, h3⟩; obtain ⟨Aq, cq, evl⟩ := Kd.B2 h1; subst evl; have HU1 := Aa.mk h1; have HU2 := Aa.mk h2; have HU3 := Aa.mk h3; clear h1 h2 h3)
      have hz9 := HU2.out.size
      obtain ⟨w10, hw10⟩ : ∃ y, y = w9.alloc (.cells #[.int .i64 b0, .int .i64 b1, .slice Aq b2.length cq] 50) := ⟨_, rfl⟩
      rw [← hw10]
      have hb910 : Below w9.heap.size w9 w10 := by rw [hw10]; exact Af (Below.refl _ _) _
      have hz10 : w10.heap.size = w9.heap.size + 1 := by rw [hw10]; simp
      have hy10 : w10.heap[w9.heap.size]? = some (.cells #[.int .i64 b0, .int .i64 b1, .slice Aq b2.length cq] 50 (0, 0)) := by rw [hw10]; exact Dk _ _
      have hb810 : Below w8.heap.size w8 w10 := HU2.out.trans (hb910.mono hz9)
      have hbr10 : Below wr.heap.size wr w10 := HZ2.out.trans (hb810.mono hz8)
      have hx10 := Ap HXr.out hbr10
      have HL10 := Aa.mk (Kd.Ba HZ1.out hb810)
      have HU10 := Aa.mk (Kd.Ba HU1.out hb910)
      have HBb10 := Aa.mk (Kd.Ba HBb.out hbr10)
      have HEe10 := Aa.mk (Kd.Ba HEe.out hbr10)
      have HB810 := Aa.mk hb810
      have HBr10 := Aa.mk hbr10
      have y0 : w10.cell? ⟨w9.heap.size, 0, none⟩ = some (.int .i64 b0) := (Ad hy10 0).trans rfl
      have y1 : w10.cell? ⟨w9.heap.size, 1, none⟩ = some (.int .i64 b1) := (Ad hy10 1).trans rfl
      have y2 : w10.cell? ⟨w9.heap.size, 2, none⟩ = some (.slice Aq b2.length cq) := (Ad hy10 2).trans rfl
      have x0 : w10.cell? ⟨w6.heap.size, 0, none⟩ = some (.int .i64 b0) := (Ad hx10 0).trans rfl
      have x1 : w10.cell? ⟨w6.heap.size, 1, none⟩ = some (.int .i64 b1) := (Ad hx10 1).trans rfl
      have x2 : w10.cell? ⟨w6.heap.size, 2, none⟩ = some (.slice Ae b2.length ce) := (Ad hx10 2).trans rfl
      clear hw10 hb910 hy10 hb810 hbr10 hx10 cq0 cq1 cq2
      go_upto_region 14 with (first
        | (go_at_call 17; refine (num_any _ _).mono ?_; rintro e w' ⟨rfl, ⟨n1, rfl⟩⟩; have y0 : (w10.drewN n1).cell? ⟨w9.heap.size, 0, none⟩ = some (.int .i64 b0) := y0; have y1 : (w10.drewN n1).cell? ⟨w9.heap.size, 1, none⟩ = some (.int .i64 b1) := y1; have y2 : (w10.drewN n1).cell? ⟨w9.heap.size, 2, none⟩ = some (.slice Aq b2.length cq) := y2; have x0 : (w10.drewN n1).cell? ⟨w6.heap.size, 0, none⟩ = some (.int .i64 b0) := x0; have x1 : (w10.drewN n1).cell? ⟨w6.heap.size, 1, none⟩ = some (.int .i64 b1) := x1; have x2 : (w10.drewN n1).cell? ⟨w6.heap.size, 2, none⟩ = some (.slice Ae b2.length ce) := x2)
        | (go_at_call 18; (with_reducible refine (ints_any k Al cl p1 Ab cb p1 _ ?c1 ?c2 ?c3 ?c4 HH.out.ip).mono ?_); (case c1 => exact Kd.B4 (Kd.Bb HL10.out).2.2 _); (case c2 => exact (Kd.Bb HL10.out).2.1); (case c3 => exact Kd.B4 (Kd.Bb HBb10.out).2.2 _); (case c4 => exact (Kd.Bb HBb10.out).2.1); rintro e w' ⟨rfl, ⟨n2, rfl⟩⟩; have y0 : (w10.drewN (n1 + n2)).cell? ⟨w9.heap.size, 0, none⟩ = some (.int .i64 b0) := y0; have y1 : (w10.drewN (n1 + n2)).cell? ⟨w9.heap.size, 1, none⟩ = some (.int .i64 b1) := y1; have y2 : (w10.drewN (n1 + n2)).cell? ⟨w9.heap.size, 2, none⟩ = some (.slice Aq b2.length cq) := y2; have x0 : (w10.drewN (n1 + n2)).cell? ⟨w6.heap.size, 0, none⟩ = some (.int .i64 b0) := x0; have x1 : (w10.drewN (n1 + n2)).cell? ⟨w6.heap.size, 1, none⟩ = some (.int .i64 b1) := x1; have x2 : (w10.drewN (n1 + n2)).cell? ⟨w6.heap.size, 2, none⟩ = some (.slice Ae b2.length ce) := x2)
        | (go_at_call 27; refine (told_calls k (w10.drewN (n1 + n2)) w8.heap.size (fun _ => True) b0 b1 Aq cq b2 e2 b0 b1 Ae ce b2 (Kd.R_drewN HU10.out _) HU3.out (by exact HB810.out.size) (Kd.B4 (Kd.Bb HEe10.out).2.2 _) (Kd.Bb HEe10.out).2.1 HH.out.sb).mono ?_; rintro e w11 ⟨rfl, hb11⟩; have HB11 := Aa.mk hb11; clear hb11 y0 y1 y2 x0 x1 x2))
      have hb811 : Below w8.heap.size w8 w11 := (Ac HB810.out (n1 + n2)).trans HB11.out
      have HL11 := Aa.mk (Kd.Ba HZ1.out hb811)
      have HBr11 := Aa.mk (HZ2.out.trans (hb811.mono hz8))
      have HW11 := Aa.mk (HWW.out.trans (HBr11.out.mono HWW.out.size))
      clear hb811
      go_wp2_with (go_at_call 19; refine (Ints_calls w wr w11 w.heap.size w1.heap.size (fun k => ¬ (w1.heap.size ≤ k ∧ k < w7.heap.size)) v vm L ms HBKo.out HBr11.out HW11.out (fun k hk h => by omega) (.slice Al p1.length cl) p1 HL11.out _ (by omega)).mono ?_; rintro e w12 ⟨rfl, ⟨v2, vm2, n2, h1⟩, h2, h3, h4⟩; have HM1 := Aa.mk h1; have HM2 := Aa.mk h2; have HM3 := Aa.mk h3; have HM4 := Aa.mk h4; clear h1 h2 h3 h4)
      go_roundw
      case rel =>
        refine ⟨i + 1, by omega, by go_num, ⟨⟨v2, vm2, _, _, HM1.out, by rw [List.length_append, HLl.out]; simp⟩⟩, HM2, ⟨fun k h1 h2 => ?_⟩, ⟨by have := HM4.out; omega⟩⟩
        rw [HM3.out k (by omega) (fun h => h ⟨by omega, h1⟩) (by omega), HF7.out k h1 h2]
      case measure => simp [intOf]; omega
    · obtain rfl : i = 2 := by omega
      obtain ⟨v, vm, L, ms, hbk, hLl⟩ := HBK.out
      have HBKo := Aa.mk hbk
      have hL1 : L.length ≤ 1000 := by omega
      have c0 : wr.cell? ⟨w3.heap.size, 0, none⟩ = some (.int .i64 a0) := (Ad hqr 0).trans rfl
      have c1' : wr.cell? ⟨w3.heap.size, 1, none⟩ = some (.int .i64 a1) := (Ad hqr 1).trans rfl
      have c2 : wr.cell? ⟨w3.heap.size, 2, none⟩ = some (.slice (some ⟨g, 0, none⟩) l.length c1) := (Ad hqr 2).trans rfl
      have c3 : wr.cell? ⟨w3.heap.size, 3, none⟩ = some (.int .i64 a0) := (Ad hqr 3).trans rfl
      have c4 : wr.cell? ⟨w3.heap.size, 4, none⟩ = some (.int .i64 a1) := (Ad hqr 4).trans rfl
      have c5 : wr.cell? ⟨w3.heap.size, 5, none⟩ = some (.slice Aw l.length cw) := (Ad hqr 5).trans rfl
      have c6 : wr.cell? ⟨w3.heap.size, 6, none⟩ = some (.slice (some ⟨g, 0, none⟩) (l.length + 3) c1) := (Ad hqr 6).trans rfl
      clear hbk hmv hfr hqr hxr HBK hLl
      go_wp2_with (first | (go_at_call 20; refine (Hold_calls _ w.heap.size w1.heap.size _ v vm L ms HBKo.out hL1).mono ?_; rintro e w8 ⟨rfl, ⟨n1, rfl⟩⟩) | (go_at_call 28; refine (stays_calls k (wr.drewN n1) w2.heap.size (fun _ => True) (fun _ => True) a0 a1 l g c1 Aw cw (by exact HRr.out) (by exact HSr.out) hlen HH.out.same).mono ?_; rintro e w8 ⟨rfl, hbs⟩; have HBS := Aa.mk hbs; clear hbs))
      go_ret
      exact ⟨rfl, (Ac HWW.out n1).trans (HBS.out.mono (by exact HWW.out.size))⟩
end Go.Proofs.Yteamphcehoaleaa
end
section
set_option linter.unusedVariables false
set_option linter.unusedSimpArgs false
open Go Go.RowKit Go.Proofs.YteamphcehoaleaaW.PrintWords
namespace Go.Proofs.Yteamphcehoaleaa
open PFA PFK PFP FM NR
namespace LQ
open RP
theorem Chain_len {N : Nat} {nb : Nat → List Nat} {ms : Nat → Bool} {i : Nat} {out : List Int} {n : Int} {po : List Int} {pn : Int} (A : Chain N nb ms i out n po pn) : out.length = N → po.length = N := by
  induction A with
  | done out n => exact fun h => h
  | skip _ _ _ ih => exact ih
  | root _ _ _ F _ ih => exact fun h => ih (by rw [F.len]; exact h)
theorem parts_same (a b : Int) (l : List Bool) (ways : Int) : ∃ p1 n e1, Co.f a b l ways = some (p1, n, e1) ∧ Ev (fun k => Ao.f k a b l ways) (p1, n, e1) ∧ p1.length ≤ 65536 := by
  rcases MCFP.grid_cases a b l ways with ⟨e, he, ⟨t, h1⟩, h2⟩ | ⟨h2, hw, w, h, rfl, rfl, H⟩
  · refine ⟨[], 0, e, ?_, Ev.congr (f := fun _ => some ([], 0, e)) (fun k => ?_) (Ev.now _), by simp⟩
    · unfold Co.f
      rw [h1, Option.bind_some, if_neg he]
    · unfold Ao.f
      rw [h2, Option.bind_some, if_neg he]
  · have w1 := H.w1; have w2 := H.w2; have g1 := H.h1; have g2 := H.h2; have hl := H.len; have ha := H.a
    have hnb : ∀ i, i < w * h → ∀ k ∈ nbs w h ways i, k < w * h := fun i hi k hk => nbs_lt w1 hi k hk
    obtain ⟨po, pn, e1, e2, C⟩ := parts_val H ways hw
    have hr := l0_val (ways := ways) w1 w2 g2 ha hl C (by simp) (by omega) (by omega) (fun k hk => by
      rw [List.getD_eq_getElem?_getD, List.getElem?_replicate]; split <;> simp)
    have hpl : po.length = w * h := Chain_len C (by simp)
    refine ⟨po, pn, 0, e1, ?_, by omega⟩
    have hF : ∀ k, Ao.f k w h l ways = Ao.l0 k ways (List.replicate (w * h) 0) 0 0 w h l := fun k => by
      unfold Ao.f
      rw [h2, Option.bind_some, if_pos rfl, if_pos (by omega), Int.toNat_natCast, if_pos (by omega), hl]
    exact Ev.congr hF hr
theorem edge_same (a b : Int) (l : List Bool) (ways : Int) : ∃ b0 b1 b2 e2, Ct.f a b l ways = some (b0, b1, b2, e2) ∧ Ev (fun k => Ay.f k a b l ways) (b0, b1, b2, e2) ∧ b2.length ≤ 65536 := by
  rcases MCFP.grid_cases a b l ways with ⟨e, he, ⟨t, h1⟩, h2⟩ | ⟨h2, hw, w, h, rfl, rfl, H⟩
  · refine ⟨0, 0, [], e, ?_, Ev.congr (f := fun _ => some (0, 0, [], e)) (fun k => ?_) (Ev.now _), by simp⟩
    · unfold Ct.f
      rw [h1, Option.bind_some, if_neg he]
    · unfold Ay.f
      rw [h2, Option.bind_some, if_neg he]
  · have w1 := H.w1; have w2 := H.w2; have g1 := H.h1; have g2 := H.h2; have hl := H.len; have ha := H.a
    have hr := e0_val (ways := ways) w1 w2 g2 ha hl hw (w : Int) (h : Int) (w * h) 0 (by omega)
    rw [outOf_zero] at hr
    have e0 : B0.f w h = some ((w : Int), (h : Int), List.replicate (w * h) false) := by
      unfold B0.f
      rw [area_w H, Int.toNat_natCast, if_pos (by omega), if_pos (by omega)]
    have ee : C6.f w h = some ((w : Int), (h : Int), List.replicate (w * h) false) := by
      unfold C6.f
      rw [area_w H, Int.toNat_natCast, if_pos (by omega), if_pos (by omega)]
    refine ⟨(w : Int), (h : Int), outOf (w * h) (edgeAt w h ways ways l) (w * h), 0, ?_, ?_, by rw [outOf_len]; exact ha⟩
    · unfold Ct.f
      rw [gridOf_ok H ways hw, Option.bind_some]
      dsimp only
      rw [if_pos rfl, if_pos ⟨by omega, by omega, by omega, by omega, by simp only [Int.toNat_natCast]; exact hl⟩, ee, Option.bind_some, hl]
      dsimp only
      rw [if_pos rfl]
      simp only [Int.toNat_natCast]
    · have hF : ∀ k, Ay.f k w h l ways = Ay.l0 k ways 0 w h l w h (List.replicate (w * h) false) := fun k => by
        unfold Ay.f
        rw [h2, Option.bind_some, if_pos rfl, e0, Option.bind_some]
      exact Ev.congr hF hr
theorem law (a b : Int) (l : List Bool) (ways : Int) (hz : l.length ≤ 140737488351232) : ∃ k p1 n e1 b0 b1 b2 e2, PartsOk k a b l ways p1 n e1 b0 b1 b2 e2 := by
  obtain ⟨p1, n, e1, f1, ⟨k1, r1⟩, n1⟩ := parts_same a b l ways
  obtain ⟨b0, b1, b2, e2, f2, ⟨k3, r2⟩, n2⟩ := edge_same a b l ways
  obtain ⟨k4, i1⟩ := ints_self p1 n1
  obtain ⟨k5, i2⟩ := same_self b0 b1 b2 (by omega)
  obtain ⟨k6, i3⟩ := same_self a b l hz
  obtain ⟨k7, i4⟩ := known_true
  exact ⟨k1 + k3 + k4 + k5 + k6 + k7, p1, n, e1, b0, b1, b2, e2, hz, i4 _ (by omega), r1 _ (by omega), r2 _ (by omega), f1, f2, i1 _ (by omega), i2 _ (by omega), i3 _ (by omega)⟩
theorem row (a b : Int) (l : List Bool) (ways : Int) (_ : (Lit.int .i64 a).wf = true) (_ : (Lit.int .i64 b).wf = true) (hz : l.length ≤ 140737488351232) (_ : (Lit.int .i64 ways).wf = true) : ∃ k, true = true ∧ ∃ p1 n e1 b0 b1 b2 e2, PartsOk k a b l ways p1 n e1 b0 b1 b2 e2 := by
  obtain ⟨k, h⟩ := law a b l ways hz
  exact ⟨k, rfl, h⟩
end LQ
theorem FillParts_calls (k : Nat) (a0 a1 : Int) (A : Option Addr) (c : Nat) (l : List Bool) (ways : Int) (r : Bool) (w : World) (hC : Kd.C Kd.bool w A l.length l) (hc : l.length ≤ c) (h : r = true ∧ ∃ p1 n e1 b0 b1 b2 e2, PartsOk k a0 a1 l ways p1 n e1 b0 b1 b2 e2) :
    Calls Try.prog 4 #[.agg #[.int .i64 a0, .int .i64 a1, .slice A l.length c], .int .i64 ways] w fun e w' => e = .returned (.bool r) ∧ Below w.heap.size w w' := by
  obtain ⟨rfl, p1, n, e1, b0, b1, b2, e2, H⟩ := h
  exact FillParts_walk k a0 a1 A c l ways p1 n e1 b0 b1 b2 e2 w hC hc H
end Go.Proofs.Yteamphcehoaleaa
end
