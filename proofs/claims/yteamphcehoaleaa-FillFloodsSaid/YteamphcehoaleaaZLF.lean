import Derived.Test.YteamphcehoaleaaZKO
import Derived.Test.YteamphcehoaleaaZPFOx1
import Derived.Test.YteamphcehoaleaaZPFKx2
open Go Go.RowKit Go.Proofs.YteamphcehoaleaaW.PrintWords Go.Proofs.YteamphcehoaleaaW.PrintLast Go.Proofs.YteamphcehoaleaaW.PrintMore
attribute [local go_sem ↓] Go.wp_at_zero Go.wp_at_succ
set_option linter.unusedVariables false
set_option linter.unusedSimpArgs false
namespace Go.Proofs.Yteamphcehoaleaa
open PFA PFK PFE PFO BK
def Cn.f (k : Nat) (a0_0 a0_1 : Int) (l : List Int) (a1 a2 a3 a4 : Int) : Option Bool :=
  if l.length * 4 ≤ 140737488351232 then (Ai.f k).bind fun t => if t = true then (Ay.f k a0_0 a0_1 l a1 a2 a3 a4).bind fun b => (Cj.f a0_0 a0_1 l a1 a2 a3 a4).bind fun s =>
    if s.2 = b.2.2 then (Ap.f k s.1 b.1).bind fun q => if q = true then some true else none else none else none else none
set_option maxRecDepth 100000 in
set_option maxHeartbeats 4000000 in
theorem Cn.calls (k : Nat) (a0_0 a0_1 : Int) (A0_2 : Option Addr) (c0_2 : Nat) (l : List Int) (a1 a2 a3 a4 : Int) (r : Bool) (w : World) (hr0_2 : Kd.C (Kd.int .u32) w A0_2 l.length l) (hc0_2 : l.length ≤ c0_2) (h : Cn.f k a0_0 a0_1 l a1 a2 a3 a4 = some r) :
    Calls Try.prog 3 #[.agg #[.int .i64 a0_0, .int .i64 a0_1, .slice A0_2 l.length c0_2], .int .i64 a1, .int .i64 a2, .int .i64 a3, .int .i64 a4] w fun e w' => e = .returned (.bool r) ∧ Below w.heap.size w w' := by
  unfold Cn.f at h
  by_cases hl : l.length * 4 ≤ 140737488351232
  · rw [if_pos hl] at h
    obtain ⟨t, hk, g1⟩ := Option.bind_eq_some_iff.mp h
    clear h
    by_cases ht : t = true
    · rw [if_pos ht] at g1
      subst ht
      obtain ⟨⟨b1, b2, b3⟩, hb, g2⟩ := Option.bind_eq_some_iff.mp g1
      obtain ⟨⟨t1, t2⟩, hf, g3⟩ := Option.bind_eq_some_iff.mp g2
      clear g1 g2
      dsimp only at g3
      by_cases h2 : t2 = b3
      · rw [if_pos h2] at g3
        subst h2
        obtain ⟨q, hq, g4⟩ := Option.bind_eq_some_iff.mp g3
        clear g3
        by_cases hqt : q = true
        · rw [if_pos hqt] at g4
          subst hqt
          obtain rfl := Option.some.inj g4
          clear g4
          have HK := Aa.mk hk
          have HBB := Aa.mk hb
          have HF := Aa.mk hf
          have HQ := Aa.mk hq
          have HC := Aa.mk hr0_2
          have HCC := Aa.mk hc0_2
          clear hk hb hf hq hr0_2 hc0_2
          go_enter Try.func3, Try.ntmps3
          go_upto_region 3 with (go_at_call 13; refine (Ai.calls k true _ HK.out).mono ?_; rintro e w1 ⟨rfl, hb1⟩; have HB1 := Aa.mk hb1; clear hb1)
          go_upto_region 5 with fail
          have hW1 : Below w.heap.size w w1 := ((Ad (Below.refl _ w) _).trans (HB1.out.mono (by simp)))
          have hp1 := An (Go.Proofs.Yteamphcehoaleaa.H.bnew (w := w) (.cells #[.int .i64 a0_0, .int .i64 a0_1, .slice A0_2 l.length c0_2] 24) rfl) HB1.out
          have hz1 : w.heap.size < w1.heap.size := Br hp1
          obtain ⟨w2, hw2⟩ : ∃ y, y = (w1.alloc (.cells #[.slice none 0 0, .slice none 0 0, .slice none 0 0, .slice none 0 0, .slice none 0 0, .slice none 0 0, .slice none 0 0, .slice none 0 0] 34)).alloc (.cells #[.slice none 0 0, .slice none 0 0, .slice none 0 0, .slice none 0 0, .slice none 0 0, .slice none 0 0, .slice none 0 0, .slice none 0 0] 37) := ⟨_, rfl⟩
          rw [← hw2]
          have hp2 : w2.heap[w.heap.size]? = some (.cells #[.int .i64 a0_0, .int .i64 a0_1, .slice A0_2 l.length c0_2] 24 (0, 0)) := by rw [hw2]; exact Aj (Aj hp1 _) _
          have hk2 : w2.heap[w1.heap.size]? = some (.cells #[.slice none 0 0, .slice none 0 0, .slice none 0 0, .slice none 0 0, .slice none 0 0, .slice none 0 0, .slice none 0 0, .slice none 0 0] 34 (0, 0)) := by rw [hw2]; exact Aj (blk_new _ _) _
          have hr2 : w2.heap[w1.heap.size + 1]? = some (.cells #[.slice none 0 0, .slice none 0 0, .slice none 0 0, .slice none 0 0, .slice none 0 0, .slice none 0 0, .slice none 0 0, .slice none 0 0] 37 (0, 0)) := by rw [hw2]; exact Go.Proofs.Yteamphcehoaleaa.H.bnew _ (by simp)
          have hW2 : Below w.heap.size w w2 := by rw [hw2]; exact Ad (Ad hW1 _) _
          have hz2 : w2.heap.size = w1.heap.size + 2 := by rw [hw2]; simp
          have hRM : RM w2 (w1.heap.size + 1) (.slice none 0 0) (.slice none 0 0) [] := ⟨hr2, Kd.Cu _ _ _ _ _, Kd.Cu _ _ _ _ _⟩
          have cp0 : w2.cell? ⟨w.heap.size, 0, none⟩ = some (.int .i64 a0_0) := (Ae hp2 0).trans rfl
          have cp1 : w2.cell? ⟨w.heap.size, 1, none⟩ = some (.int .i64 a0_1) := (Ae hp2 1).trans rfl
          have cp2 : w2.cell? ⟨w.heap.size, 2, none⟩ = some (.slice A0_2 l.length c0_2) := (Ae hp2 2).trans rfl
          have HRM := Aa.mk hRM
          have HP2 := Aa.mk hp2
          have HK2 := Aa.mk hk2
          have HW2 := Aa.mk hW2
          have HC2 := Aa.mk (Kd.Ce HC.out hW2)
          clear hRM hp2 hk2 hr2 hW2 hw2 hp1 hW1
          go_upto_region 6 with (go_at_call 14; refine (Plane_calls w2 w2 (w1.heap.size + 1) (.slice none 0 0) (.slice none 0 0) [] HRM.out (Below.refl _ _) a0_0 a0_1 A0_2 c0_2 l HC2.out (by omega) (by decide)).mono ?_; rintro e w3 ⟨A', c', rfl, h1, ⟨sv, swv, h2⟩, h3⟩; have HX1 := Aa.mk h1; have HX2 := Aa.mk h2; have HX3 := Aa.mk h3; clear h1 h2 h3)
          have hz3 := HX3.out.size
          obtain ⟨w4, hw4⟩ : ∃ y, y = w3.alloc (.cells #[.int .i64 a0_0, .int .i64 a0_1, .slice A' l.length c'] 24) := ⟨_, rfl⟩
          rw [← hw4]
          have hb34 : Below w3.heap.size w3 w4 := by rw [hw4]; exact Ad (Below.refl _ _) _
          have hp3 : w3.heap[w.heap.size]? = some (.cells #[.int .i64 a0_0, .int .i64 a0_1, .slice A0_2 l.length c0_2] 24 (0, 0)) := (HX3.out.block _ (by omega)).trans HP2.out
          have hk3 : w3.heap[w1.heap.size]? = some (.cells #[.slice none 0 0, .slice none 0 0, .slice none 0 0, .slice none 0 0, .slice none 0 0, .slice none 0 0, .slice none 0 0, .slice none 0 0] 34 (0, 0)) := (HX3.out.block _ (by omega)).trans HK2.out
          have hp4 := An hp3 hb34
          have hk4 := An hk3 hb34
          have hq4 : w4.heap[w3.heap.size]? = some (.cells #[.int .i64 a0_0, .int .i64 a0_1, .slice A' l.length c'] 24 (0, 0)) := by rw [hw4]; exact blk_new _ _
          have hW4 : Below w.heap.size w w4 := (HW2.out.trans (HX3.out.mono (by omega))).trans (hb34.mono (by omega))
          have hR4 := Kd.Au HX1.out hb34
          have hM4 : RM w4 (w1.heap.size + 1) sv swv ([] ++ [lentOf l 5]) := HX2.out.move (fun k _ hk => hb34.block k hk)
          have hz4 : w4.heap.size = w3.heap.size + 1 := by rw [hw4]; simp
          have cp0 : w4.cell? ⟨w.heap.size, 0, none⟩ = some (.int .i64 a0_0) := (Ae hp4 0).trans rfl
          have cp1 : w4.cell? ⟨w.heap.size, 1, none⟩ = some (.int .i64 a0_1) := (Ae hp4 1).trans rfl
          have cp2 : w4.cell? ⟨w.heap.size, 2, none⟩ = some (.slice A0_2 l.length c0_2) := (Ae hp4 2).trans rfl
          have HW4 := Aa.mk hW4
          have HK4 := Aa.mk hk4
          have HQ4 := Aa.mk hq4
          have HR4 := Aa.mk hR4
          have HM4 := Aa.mk hM4
          have HC4 := Aa.mk (Kd.Ce HC.out hW4)
          clear hw4 hb34 hp3 hk3 hp4 hk4 hq4 hW4 hR4 hM4 HX1 HX2 HX3 HC2 HK2 HW2 HP2 HRM HC
          go_upto_region 7 with (go_at_call 15; refine (Ay.calls k a0_0 a0_1 A0_2 c0_2 l a1 a2 a3 a4 b1 b2 t2 w4 HC4.out HCC.out HBB.out).mono ?_; rintro e w5 ⟨v0, v1, rfl, h1, h2, h3⟩; have HY1 := Aa.mk h1; have HY3 := Aa.mk h3; clear h1 h2 h3)
          have hz5 := HY3.out.size
          obtain ⟨Ab, cb, ev0⟩ := Kd.Bz HY1.out
          subst ev0
          have hk5 := An HK4.out HY3.out
          have hq5 := An HQ4.out HY3.out
          have hR5 := Kd.Au HR4.out HY3.out
          have hM5 : RM w5 (w1.heap.size + 1) sv swv ([] ++ [lentOf l 5]) := HM4.out.move (fun k _ hk => HY3.out.block k hk)
          have hW5 : Below w.heap.size w w5 := HW4.out.trans (HY3.out.mono (by omega))
          have hB5 : BK w5 w.heap.size w1.heap.size (fun k => ¬ (w1.heap.size ≤ k ∧ k < w5.heap.size)) (.slice none 0 0) (.slice none 0 0) [] [] :=
            ⟨hk5, by omega, fun h => h ⟨Nat.le_refl _, Br hk5⟩, Kd.Cu _ _ _ _ _, Kd.Cu _ _ _ _ _, rfl, fun j hj => by simp at hj⟩
          have HB5 : Aa (∃ v vm L ms, BK w5 w.heap.size w1.heap.size (fun k => ¬ (w1.heap.size ≤ k ∧ k < w5.heap.size)) v vm L ms ∧ L.length = 0) := ⟨⟨_, _, _, _, hB5, rfl⟩⟩
          have HW5 := Aa.mk hW5
          have HQ5 := Aa.mk hq5
          have HR5 := Aa.mk hR5
          have HM5 := Aa.mk hM5
          clear hk5 hq5 hR5 hM5 hW5 hB5 HY3 HW4 HK4 HQ4 HR4 HM4 HC4 cp0 cp1 cp2
          go_wp2
          go_loopw [17, 18, 19] (fun s17 _ _ wr => ∃ i : Nat, i ≤ 2 ∧ s17 = .int .i64 i ∧ Aa (∃ v vm L ms, BK wr w.heap.size w1.heap.size (fun k => ¬ (w1.heap.size ≤ k ∧ k < w5.heap.size)) v vm L ms ∧ L.length = i) ∧ Aa (Below w.heap.size w wr) ∧ Aa (∀ k, k < w5.heap.size → w1.heap.size + 1 ≤ k → wr.heap[k]? = w5.heap[k]?) ∧ Aa (w5.heap.size ≤ wr.heap.size)) (fun s17 _ _ _ => 2 - (intOf s17).toNat)
          case atStart => exact ⟨0, by omega, rfl, HB5, HW5, ⟨fun _ _ _ => rfl⟩, ⟨Nat.le_refl _⟩⟩
          case round =>
            obtain ⟨i, hi, rfl, HBK, HWW, HF5, HZ5⟩ := hrel
            have hfr := HF5.out
            have hzr := HZ5.out
            have hqr := (hfr w3.heap.size (by omega) (by omega)).trans HQ5.out
            have hmv : ∀ k, w1.heap.size + 1 ≤ k → k < w5.heap.size → wr.heap[k]? = w5.heap[k]? := fun k h1 h2 => hfr k h2 h1
            by_cases hlt : i < 2
            · have cq0 : wr.cell? ⟨w3.heap.size, 0, none⟩ = some (.int .i64 a0_0) := (Ae hqr 0).trans rfl
              have cq1 : wr.cell? ⟨w3.heap.size, 1, none⟩ = some (.int .i64 a0_1) := (Ae hqr 1).trans rfl
              have cq2 : wr.cell? ⟨w3.heap.size, 2, none⟩ = some (.slice A' l.length c') := (Ae hqr 2).trans rfl
              have HRr := Aa.mk (Kd.Bj (Kd.Dm (Kd.Ck HR5.out) (fun k hk h => hmv k hk.2.1 h)) (fun k hk => hk.1))
              have HCq := Aa.mk (Kd.Aw HRr.out).2.2
              have hcc := (Kd.Aw HRr.out).2.1
              have hmv2 : ∀ k, ((fun k_ => some k_ ≠ v1.ownBlock) k ∧ w4.heap.size ≤ k ∧ k < w5.heap.size ∧ ∃ q, q ∈ 3 :: (Kd.int IntKind.i64).E ∧ ∃ cells, w5.heap[k]? = some (.cells cells q (0, 0))) → k < w5.heap.size → wr.heap[k]? = w5.heap[k]? := fun k hk h => hmv k (by have := hk.2.1; omega) h
              have HM2 := Aa.mk hmv2
              clear hfr hmv hmv2 hqr HB5 HW5
              have hnum : Dh.f t2 = some t2 := rfl
              have HNUM := Aa.mk hnum
              clear hnum
              go_upto_region 11 with (go_at_call 16; refine (Cj.calls a0_0 a0_1 A' c' l a1 a2 a3 a4 t1 t2 wr HCq.out hcc HF.out).mono ?_; rintro e w6 ⟨vl, rfl, h1, h2⟩; have HZ1 := Aa.mk h1; have HZ2 := Aa.mk h2; clear h1 h2)
              obtain ⟨Al, cl, evl⟩ := Kd.Bz HZ1.out
              subst evl
              have HB1r := Aa.mk (Kd.Au (Kd.Bj (Kd.Dm (Kd.Ck HY1.out) (fun k hk h => HM2.out k hk h)) (fun k hk => hk.1)) HZ2.out)
              obtain ⟨v, vm, L, ms, hbk, hLl⟩ := HBK.out
              have HBKo := Aa.mk hbk
              have hL1 : L.length ≤ 1000 := by omega
              have hPP : ∀ k, wr.heap.size ≤ k → (fun k => ¬ (w1.heap.size ≤ k ∧ k < w5.heap.size)) k := fun k hk h => by omega
              have HPP := Aa.mk hPP
              have HLl := Aa.mk hLl
              clear hbk hPP HBK hLl
              go_wp2_with (first | (go_at_call 17; refine (Dh.calls t2 t2 _ HNUM.out).mono ?_; rintro e w7 ⟨rfl, hd⟩; obtain ⟨n1, rfl⟩ := hd.out; clear hd) | (go_at_call 18; refine (Ap.calls k Al cl t1 Ab cb b1 true _ (by exact Kd.B3 (Kd.Aw HZ1.out).2.2 _) (Kd.Aw HZ1.out).2.1 (by exact Kd.B3 (Kd.Aw HB1r.out).2.2 _) (Kd.Aw HB1r.out).2.1 HQ.out).mono ?_; rintro e w7 ⟨rfl, hd⟩; obtain ⟨n2, rfl⟩ := hd.out; clear hd) | (go_at_call 19; refine (Ints_calls w wr _ w.heap.size w1.heap.size (fun k => ¬ (w1.heap.size ≤ k ∧ k < w5.heap.size)) v vm L ms HBKo.out (by exact Ac HZ2.out _) (by exact Ac (HWW.out.trans (HZ2.out.mono (by omega))) _) HPP.out (.slice Al t1.length cl) t1 (by exact HZ1.out) (i : Int) hL1).mono ?_; rintro e w9 ⟨rfl, ⟨v', vm', n', h1⟩, h2, h3, h4⟩; have HN1 := Aa.mk h1; have HN2 := Aa.mk h2; have HN3 := Aa.mk h3; have HN4 := Aa.mk h4; clear h1 h2 h3 h4))
              go_roundw
              case rel => exact ⟨i + 1, by omega, by go_num, ⟨⟨v', vm', _, _, HN1.out, by rw [List.length_append, HLl.out]; rfl⟩⟩, HN2, ⟨fun k h1 h2 => (HN3.out k (by omega) (fun h => h ⟨by omega, h1⟩) (by omega)).trans (HF5.out k h1 h2)⟩, ⟨by have := HN4.out; omega⟩⟩
              case measure => simp [intOf]; omega
            · obtain rfl : i = 2 := by omega
              obtain ⟨v, vm, L, ms, hbk, hLl⟩ := HBK.out
              have HBKo := Aa.mk hbk
              have hL1 : L.length ≤ 1000 := by omega
              have HMr := Aa.mk (HM5.out.move (fun k h1 h2 => hmv k h1 h2))
              clear hbk hmv hfr hqr HBK hLl
              go_wp2_with (first | (go_at_call 20; refine (Hold_calls _ w.heap.size w1.heap.size _ v vm L ms HBKo.out hL1).mono ?_; rintro e w7 ⟨rfl, ⟨n1, rfl⟩⟩) | (go_at_call 21; refine (Room_Hold (wr.drewN n1) (w1.heap.size + 1) sv swv ([] ++ [lentOf l 5]) (RM.move (w := wr) HMr.out (fun k _ _ => rfl)) (by simp)).mono ?_; rintro e w7 ⟨rfl, ⟨n2, rfl⟩⟩))
              go_ret
              exact ⟨rfl, by exact Ac HWW.out _⟩
        · rw [if_neg hqt] at g4
          cases g4
      · rw [if_neg h2] at g3
        cases g3
    · rw [if_neg ht] at g1
      cases g1
  · rw [if_neg hl] at h
    cases h
end Go.Proofs.Yteamphcehoaleaa

