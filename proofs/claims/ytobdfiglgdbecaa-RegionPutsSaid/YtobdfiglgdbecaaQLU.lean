import Derived.Test.YtobdfiglgdbecaaQPGAx0
import Derived.Deep.DrawnRows
import Derived.Test.YtobdfiglgdbecaaQR9
import Derived.Test.YtobdfiglgdbecaaQKB
import Derived.Test.YtobdfiglgdbecaaQPGKx1
import Derived.Test.YtobdfiglgdbecaaQCT
import Derived.Test.YtobdfiglgdbecaaQR4
section
open Go Go.RowKit Go.Proofs.YtobdfiglgdbecaaW.PrintWords Go.Proofs.YtobdfiglgdbecaaW.PrintLast Go.Proofs.YtobdfiglgdbecaaW.PrintMore
attribute [local go_sem ↓] Go.wp_at_zero Go.wp_at_succ
set_option linter.unusedVariables false
set_option linter.unusedSimpArgs false
namespace Go.Proofs.Ytobdfiglgdbecaa
open PGA PGB
namespace HS
end HS
end Go.Proofs.Ytobdfiglgdbecaa
end
section
set_option linter.unusedVariables false
set_option linter.unusedSimpArgs false
open Go Go.RowKit Go.Proofs.YtobdfiglgdbecaaW.PrintWords Go.Proofs.YtobdfiglgdbecaaW.PrintMore
namespace Go.Proofs.Ytobdfiglgdbecaa
open PGA PGB PGH PGK PGI PGR
namespace VR
end VR
end Go.Proofs.Ytobdfiglgdbecaa
end
section
open Go Go.RowKit Go.Proofs.YtobdfiglgdbecaaW.PrintWords Go.Proofs.YtobdfiglgdbecaaW.PrintLast Go.Proofs.YtobdfiglgdbecaaW.PrintMore
attribute [local go_sem ↓] Go.wp_at_zero Go.wp_at_succ
set_option linter.unusedVariables false
set_option linter.unusedSimpArgs false
namespace Go.Proofs.Ytobdfiglgdbecaa
open PGA PGB PGH PGK PGI PGR
namespace BR
theorem keep_rects {w w' : World} {rb : Nat} {sv swv : Value} {L : List (List S58)} (hR : RM w rb sv swv L) {v : Value} {l : List S58} (hp : k58.R 58 w rb (fun k => k ≠ rb) v l)
    (hf : ∀ k, k < w.heap.size → k ≠ rb → some k ≠ sv.ownBlock → some k ≠ swv.ownBlock → w'.heap[k]? = w.heap[k]?) : k58.R 58 w' rb (fun k => k ≠ rb) v l := by
  refine Kd.Bi (Kd.Dm (Kd.Cz hp) (fun k hk hl => ?_)) (fun k hk => hk.1)
  obtain ⟨h1, _, _, q, hq, cells, hc⟩ := hk
  have hne : q ≠ 22 := by
    rintro rfl
    revert hq
    decide
  refine hf k hl h1 (fun e => ?_) (fun e => ?_)
  · obtain ⟨c2, h2⟩ := Kd.Bb hR.r k e.symm
    rw [hc] at h2
    injection h2 with h2
    injection h2 with _ h2
    exact hne h2
  · obtain ⟨c2, h2⟩ := Kd.Bb hR.q k e.symm
    rw [hc] at h2
    injection h2 with h2
    injection h2 with _ h2
    exact hne h2
end BR
namespace VR
theorem num_any (a : Int) (w : World) : Calls Try.prog 14 #[.int .i64 a] w fun e w' => e = .returned (.int .i64 a) ∧ w = w' := by
  go_enter Try.func14, Try.ntmps14
  go_wp2
  go_ret
  exact ⟨rfl, rfl⟩
end VR
end Go.Proofs.Ytobdfiglgdbecaa
end
section
open Go Go.RowKit Go.Proofs.YtobdfiglgdbecaaW.PrintWords Go.Proofs.YtobdfiglgdbecaaW.PrintLast Go.Proofs.YtobdfiglgdbecaaW.PrintMore
attribute [local go_sem ↓] Go.wp_at_zero Go.wp_at_succ
set_option linter.unusedVariables false
set_option linter.unusedSimpArgs false
namespace Go.Proofs.Ytobdfiglgdbecaa
open PGA PGB PGH PGK PGI PGR
namespace VR
def puts.f (k : Nat) (a b : List S58) : Option Bool := if a.length ≤ 4398046510976 ∧ b.length ≤ 4398046510976 then some true else none
theorem puts_ok (a b : List S58) (hz : a.length ≤ 4398046510976 ∧ b.length ≤ 4398046510976) : ∃ k, puts.f k a b = some true := ⟨0, if_pos hz⟩
set_option maxRecDepth 100000 in
set_option maxHeartbeats 8000000 in
theorem puts.calls (k : Nat) (A0 : Option Addr) (c0 : Nat) (a : List S58) (A1 : Option Addr) (c1 : Nat) (b : List S58) (r : Bool) (w : World) (ha : k58.C w A0 a.length a) (hca : a.length ≤ c0) (hb : k58.C w A1 b.length b) (hcb : b.length ≤ c1) (h : puts.f k a b = some r) :
    Calls Try.prog 4 #[.slice A0 a.length c0, .slice A1 b.length c1] w fun e w' => e = .returned (.bool r) ∧ Below w.heap.size w w' := by
  unfold puts.f at h
  by_cases hl : a.length ≤ 4398046510976 ∧ b.length ≤ 4398046510976
  case neg => rw [if_neg hl] at h; cases h
  rw [if_pos hl] at h
  obtain rfl := Option.some.inj h
  obtain ⟨k0, v0⟩ := known_true
  have V0 := Aa.mk (v0 k0 (Nat.le_refl _))
  obtain ⟨⟨m0, e0⟩, h0⟩ : ∃ p, outP (RG.twoP (a.map rc) [] RG.firstB) = p := ⟨_, rfl⟩
  have q0 : m0.length ≤ 4096 := by have := congrArg (fun p => p.1.length) h0; simp only [outP, List.length_map] at this; rw [← this]; exact RG.two_len _ _ _
  obtain ⟨ka0, va0⟩ := of_val a
  obtain ⟨kb0, vb0⟩ := of6_val a
  obtain ⟨kc0, vc0⟩ := eqR_true m0 m0 (by omega) rfl
  have VA0 := Aa.mk ((va0 ka0 (Nat.le_refl _)).trans (congrArg some h0))
  have VB0 := Aa.mk ((vb0 kb0 (Nat.le_refl _)).trans (congrArg some h0))
  have VC0 := Aa.mk (vc0 kc0 (Nat.le_refl _))
  obtain ⟨⟨m1, e1⟩, h1⟩ : ∃ p, outP (RG.twoP (a.map rc) (b.map rc) RG.eitherB) = p := ⟨_, rfl⟩
  have q1 : m1.length ≤ 4096 := by have := congrArg (fun p => p.1.length) h1; simp only [outP, List.length_map] at this; rw [← this]; exact RG.two_len _ _ _
  obtain ⟨ka1, va1⟩ := union_val a b
  obtain ⟨kb1, vb1⟩ := union6_val a b
  obtain ⟨kc1, vc1⟩ := eqR_true m1 m1 (by omega) rfl
  have VA1 := Aa.mk ((va1 ka1 (Nat.le_refl _)).trans (congrArg some h1))
  have VB1 := Aa.mk ((vb1 kb1 (Nat.le_refl _)).trans (congrArg some h1))
  have VC1 := Aa.mk (vc1 kc1 (Nat.le_refl _))
  obtain ⟨⟨m2, e2⟩, h2⟩ : ∃ p, outP (RG.twoP (a.map rc) (b.map rc) RG.alsoB) = p := ⟨_, rfl⟩
  have q2 : m2.length ≤ 4096 := by have := congrArg (fun p => p.1.length) h2; simp only [outP, List.length_map] at this; rw [← this]; exact RG.two_len _ _ _
  obtain ⟨ka2, va2⟩ := meet_val a b
  obtain ⟨kb2, vb2⟩ := meet6_val a b
  obtain ⟨kc2, vc2⟩ := eqR_true m2 m2 (by omega) rfl
  have VA2 := Aa.mk ((va2 ka2 (Nat.le_refl _)).trans (congrArg some h2))
  have VB2 := Aa.mk ((vb2 kb2 (Nat.le_refl _)).trans (congrArg some h2))
  have VC2 := Aa.mk (vc2 kc2 (Nat.le_refl _))
  obtain ⟨⟨m3, e3⟩, h3⟩ : ∃ p, outP (RG.twoP (a.map rc) (b.map rc) RG.withoutB) = p := ⟨_, rfl⟩
  have q3 : m3.length ≤ 4096 := by have := congrArg (fun p => p.1.length) h3; simp only [outP, List.length_map] at this; rw [← this]; exact RG.two_len _ _ _
  obtain ⟨ka3, va3⟩ := less_val a b
  obtain ⟨kb3, vb3⟩ := less6_val a b
  obtain ⟨kc3, vc3⟩ := eqR_true m3 m3 (by omega) rfl
  have VA3 := Aa.mk ((va3 ka3 (Nat.le_refl _)).trans (congrArg some h3))
  have VB3 := Aa.mk ((vb3 kb3 (Nat.le_refl _)).trans (congrArg some h3))
  have VC3 := Aa.mk (vc3 kc3 (Nat.le_refl _))
  have HL := Aa.mk hl
  have HA := Aa.mk ha
  have HCA := Aa.mk hca
  have HB := Aa.mk hb
  have HCB := Aa.mk hcb
  clear v0 h h0 q0 va0 vb0 vc0 h1 q1 va1 vb1 vc1 h2 q2 va2 vb2 vc2 h3 q3 va3 vb3 vc3 hl ha hca hb hcb
  go_enter Try.func4, Try.ntmps4
  go_upto_region 3 with (go_at_call 10; refine (Dh.calls k0 true w V0.out).mono ?_; rintro e w1 ⟨rfl, hb1⟩; have HW1 := Aa.mk hb1; clear hb1)
  go_upto_region 5 with fail
  obtain ⟨w2, hw2⟩ : ∃ y, y = (w1.alloc (.cells #[.slice none 0 0, .slice none 0 0, .slice none 0 0, .slice none 0 0, .slice none 0 0, .slice none 0 0, .slice none 0 0, .slice none 0 0] 32)).alloc (.cells #[.slice none 0 0, .slice none 0 0, .slice none 0 0, .slice none 0 0, .slice none 0 0, .slice none 0 0, .slice none 0 0, .slice none 0 0] 35) := ⟨_, rfl⟩
  rw [← hw2]
  have hk2 : w2.heap[w1.heap.size]? = some (.cells #[.slice none 0 0, .slice none 0 0, .slice none 0 0, .slice none 0 0, .slice none 0 0, .slice none 0 0, .slice none 0 0, .slice none 0 0] 32 (0, 0)) := by rw [hw2]; exact Ba (blk_new _ _) _
  have hr2 : w2.heap[w1.heap.size + 1]? = some (.cells #[.slice none 0 0, .slice none 0 0, .slice none 0 0, .slice none 0 0, .slice none 0 0, .slice none 0 0, .slice none 0 0, .slice none 0 0] 35 (0, 0)) := by
    have h := blk_new (w1.alloc (.cells #[.slice none 0 0, .slice none 0 0, .slice none 0 0, .slice none 0 0, .slice none 0 0, .slice none 0 0, .slice none 0 0, .slice none 0 0] 32)) (.cells #[.slice none 0 0, .slice none 0 0, .slice none 0 0, .slice none 0 0, .slice none 0 0, .slice none 0 0, .slice none 0 0, .slice none 0 0] 35)
    rw [show (w1.alloc (.cells #[.slice none 0 0, .slice none 0 0, .slice none 0 0, .slice none 0 0, .slice none 0 0, .slice none 0 0, .slice none 0 0, .slice none 0 0] 32)).heap.size = w1.heap.size + 1 by simp] at h
    rw [hw2]; exact h
  have hW2 : Below w.heap.size w w2 := by rw [hw2]; exact Ad (Ad HW1.out _) _
  have hz2 : w2.heap.size = w1.heap.size + 2 := by rw [hw2]; simp
  have hz1 : w.heap.size ≤ w1.heap.size := HW1.out.size
  have HR2 : Aa (BR.RM w2 (w1.heap.size + 1) (.slice none 0 0) (.slice none 0 0) []) := ⟨⟨hr2, Kd.C2 _ _ _ _ _, Kd.C2 _ _ _ _ _⟩⟩
  have HK2 := Aa.mk hk2
  have HW2 := Aa.mk hW2
  have HZ2 := Aa.mk hz2
  have HZ1 := Aa.mk hz1
  have HA2 := Aa.mk (Kd.Cv HA.out hW2)
  clear hw2 hk2 hr2 hW2 hz2 hz1 HW1
  go_upto_region 6 with (first | (go_at_call 11; refine (BR.Rects_calls w2 w3 (w1.heap.size + 1) _ _ _ HR3.out HB3.out A1 c1 b (Kd.Cv HB.out (HW2.out.trans (HB3.out.mono (by have := HZ1.out; omega)))) HL.out.2 (by simp)).mono ?_; rintro e w4 ⟨Aq, cq, rfl, hq, ⟨sv2, swv2, hR4⟩, hb4, hf4⟩; have HP := Aa.mk (BR.keep_rects HR3.out HP3.out hf4); have HQ := Aa.mk hq; have HR4 := Aa.mk hR4; have HB4 := Aa.mk hb4; clear hq hR4 hb4 hf4 HP3 HR3 HB3) | (go_at_call 11; refine (BR.Rects_calls w2 w2 (w1.heap.size + 1) _ _ [] HR2.out (Below.refl _ _) A0 c0 a HA2.out HL.out.1 (by simp)).mono ?_; rintro e w3 ⟨Ap, cp, rfl, hp, ⟨sv, swv, hR3⟩, hb3, hf3⟩; have HP3 := Aa.mk hp; have HR3 := Aa.mk hR3; have HB3 := Aa.mk hb3; clear hp hR3 hb3 hf3))
  have HKP : Aa (Kp w w4 w4 w1.heap.size 0) := ⟨Kp.start HZ1.out (by have h1 := HB4.out.size; have h2 := HZ2.out; omega) ((HB4.out.block _ (Nat.lt_succ_self _)).trans HK2.out) (HW2.out.trans (HB4.out.mono (by have := HZ1.out; omega)))⟩
  clear HR2 HK2 HW2 HZ2 HZ1 HA2 HB4
  go_wp2
  go_loopw [9, 10, 11, 12, 13] (fun s0 _ _ _ _ wr => ∃ i : Nat, i ≤ 2 ∧ s0 = .int .i64 i ∧ Aa (Kp w w4 wr w1.heap.size (4 * i))) (fun s0 _ _ _ _ _ => 2 - (intOf s0).toNat)
  case atStart => exact ⟨0, by omega, rfl, HKP⟩
  case round =>
    obtain ⟨i, hi, rfl, HI0⟩ := hrel
    clear HKP
    by_cases hlt : i < 2
    · have HPR := Aa.mk (Kd.Ao (HI0.out.lent HP.out))
      have HQR := Aa.mk (Kd.Ao (HI0.out.lent HQ.out))
      have HAC := Aa.mk (Kd.Cv HA.out HI0.out.bel)
      have HBC := Aa.mk (Kd.Cv HB.out HI0.out.bel)
      go_upto_region 10 with (go_at_call 21; refine (C0.calls ka0 Ap cp a m0 e0 wr HPR.out.2.2 HPR.out.2.1 VA0.out).mono ?_; rintro e wx0 ⟨vl0, rfl, h1, h2⟩; have HY0 := Aa.mk h1; have HX0 := Aa.mk h2; clear h1 h2)
      obtain ⟨Al0, cl0, ev⟩ := Kd.Bg HY0.out
      subst ev
      go_upto_region 11 with (go_at_call 22; refine (halideref6_Of.calls kb0 A0 c0 a m0 e0 wx0 (Kd.Cv HAC.out HX0.out) HCA.out VB0.out).mono ?_; rintro e wy0 ⟨vw0, rfl, h1, h2⟩; have HU0 := Aa.mk h1; have HT0 := Aa.mk h2; clear h1 h2)
      obtain ⟨Aw0, cw0, ev⟩ := Kd.Bg HU0.out
      subst ev
      have HLR := Aa.mk (Kd.Ao (Kd.Bm HY0.out HT0.out))
      have HWR := Aa.mk (Kd.Ao HU0.out)
      have HBB := Aa.mk (HX0.out.trans (HT0.out.mono HX0.out.size))
      have HLL := Aa.mk (Kd.Bi (Kd.Bm HY0.out HT0.out) (fun _ _ => trivial))
      go_upto_region 14 with (first | (go_at_call 14; refine (num_any _ _).mono ?_; rintro e w7 ⟨rfl, rfl⟩) | (go_at_call 15; refine (Ai.calls kc0 Al0 cl0 m0 Aw0 cw0 m0 true wy0 HLR.out.2.2 HLR.out.2.1 HWR.out.2.2 HWR.out.2.1 VC0.out).mono ?_; rintro e w8 ⟨rfl, hd⟩; obtain ⟨n0, rfl⟩ := hd.out; clear hd) | (go_at_call 16; refine (HI0.out.rects (W' := wy0.drewN n0) (by exact Ab HBB.out _) (.slice Al0 m0.length cl0) m0 (by exact HLL.out) _ (by omega)).mono ?_; rintro e wz0 ⟨rfl, h1⟩; have HI1 := Aa.mk h1; clear h1))
      clear HPR HAC HLR HWR HBB HLL HY0 HX0 HU0 HT0 HI0 HQR HBC
      have HPR := Aa.mk (Kd.Ao (HI1.out.lent HP.out))
      have HQR := Aa.mk (Kd.Ao (HI1.out.lent HQ.out))
      have HAC := Aa.mk (Kd.Cv HA.out HI1.out.bel)
      have HBC := Aa.mk (Kd.Cv HB.out HI1.out.bel)
      go_upto_region 15 with (go_at_call 23; refine (region_Union.calls ka1 Ap cp a Aq cq b m1 e1 wz0 HPR.out.2.2 HPR.out.2.1 HQR.out.2.2 HQR.out.2.1 VA1.out).mono ?_; rintro e wx1 ⟨vl1, rfl, h1, h2⟩; have HY1 := Aa.mk h1; have HX1 := Aa.mk h2; clear h1 h2)
      obtain ⟨Al1, cl1, ev⟩ := Kd.Bg HY1.out
      subst ev
      go_upto_region 16 with (go_at_call 24; refine (Dk.calls kb1 A0 c0 a A1 c1 b m1 e1 wx1 (Kd.Cv HAC.out HX1.out) HCA.out (Kd.Cv HBC.out HX1.out) HCB.out VB1.out).mono ?_; rintro e wy1 ⟨vw1, rfl, h1, h2⟩; have HU1 := Aa.mk h1; have HT1 := Aa.mk h2; clear h1 h2)
      obtain ⟨Aw1, cw1, ev⟩ := Kd.Bg HU1.out
      subst ev
      have HLR := Aa.mk (Kd.Ao (Kd.Bm HY1.out HT1.out))
      have HWR := Aa.mk (Kd.Ao HU1.out)
      have HBB := Aa.mk (HX1.out.trans (HT1.out.mono HX1.out.size))
      have HLL := Aa.mk (Kd.Bi (Kd.Bm HY1.out HT1.out) (fun _ _ => trivial))
      go_upto_region 19 with (first | (go_at_call 14; refine (num_any _ _).mono ?_; rintro e w7 ⟨rfl, rfl⟩) | (go_at_call 15; refine (Ai.calls kc1 Al1 cl1 m1 Aw1 cw1 m1 true wy1 HLR.out.2.2 HLR.out.2.1 HWR.out.2.2 HWR.out.2.1 VC1.out).mono ?_; rintro e w8 ⟨rfl, hd⟩; obtain ⟨n1, rfl⟩ := hd.out; clear hd) | (go_at_call 16; refine (HI1.out.rects (W' := wy1.drewN n1) (by exact Ab HBB.out _) (.slice Al1 m1.length cl1) m1 (by exact HLL.out) _ (by omega)).mono ?_; rintro e wz1 ⟨rfl, h1⟩; have HI2 := Aa.mk h1; clear h1))
      clear HPR HAC HLR HWR HBB HLL HY1 HX1 HU1 HT1 HI1 HQR HBC
      have HPR := Aa.mk (Kd.Ao (HI2.out.lent HP.out))
      have HQR := Aa.mk (Kd.Ao (HI2.out.lent HQ.out))
      have HAC := Aa.mk (Kd.Cv HA.out HI2.out.bel)
      have HBC := Aa.mk (Kd.Cv HB.out HI2.out.bel)
      go_upto_region 20 with (go_at_call 25; refine (region_Meet.calls ka2 Ap cp a Aq cq b m2 e2 wz1 HPR.out.2.2 HPR.out.2.1 HQR.out.2.2 HQR.out.2.1 VA2.out).mono ?_; rintro e wx2 ⟨vl2, rfl, h1, h2⟩; have HY2 := Aa.mk h1; have HX2 := Aa.mk h2; clear h1 h2)
      obtain ⟨Al2, cl2, ev⟩ := Kd.Bg HY2.out
      subst ev
      go_upto_region 21 with (go_at_call 26; refine (Do.calls kb2 A0 c0 a A1 c1 b m2 e2 wx2 (Kd.Cv HAC.out HX2.out) HCA.out (Kd.Cv HBC.out HX2.out) HCB.out VB2.out).mono ?_; rintro e wy2 ⟨vw2, rfl, h1, h2⟩; have HU2 := Aa.mk h1; have HT2 := Aa.mk h2; clear h1 h2)
      obtain ⟨Aw2, cw2, ev⟩ := Kd.Bg HU2.out
      subst ev
      have HLR := Aa.mk (Kd.Ao (Kd.Bm HY2.out HT2.out))
      have HWR := Aa.mk (Kd.Ao HU2.out)
      have HBB := Aa.mk (HX2.out.trans (HT2.out.mono HX2.out.size))
      have HLL := Aa.mk (Kd.Bi (Kd.Bm HY2.out HT2.out) (fun _ _ => trivial))
      go_upto_region 24 with (first | (go_at_call 14; refine (num_any _ _).mono ?_; rintro e w7 ⟨rfl, rfl⟩) | (go_at_call 15; refine (Ai.calls kc2 Al2 cl2 m2 Aw2 cw2 m2 true wy2 HLR.out.2.2 HLR.out.2.1 HWR.out.2.2 HWR.out.2.1 VC2.out).mono ?_; rintro e w8 ⟨rfl, hd⟩; obtain ⟨n2, rfl⟩ := hd.out; clear hd) | (go_at_call 16; refine (HI2.out.rects (W' := wy2.drewN n2) (by exact Ab HBB.out _) (.slice Al2 m2.length cl2) m2 (by exact HLL.out) _ (by omega)).mono ?_; rintro e wz2 ⟨rfl, h1⟩; have HI3 := Aa.mk h1; clear h1))
      clear HPR HAC HLR HWR HBB HLL HY2 HX2 HU2 HT2 HI2 HQR HBC
      have HPR := Aa.mk (Kd.Ao (HI3.out.lent HP.out))
      have HQR := Aa.mk (Kd.Ao (HI3.out.lent HQ.out))
      have HAC := Aa.mk (Kd.Cv HA.out HI3.out.bel)
      have HBC := Aa.mk (Kd.Cv HB.out HI3.out.bel)
      go_upto_region 25 with (go_at_call 27; refine (C4.calls ka3 Ap cp a Aq cq b m3 e3 wz2 HPR.out.2.2 HPR.out.2.1 HQR.out.2.2 HQR.out.2.1 VA3.out).mono ?_; rintro e wx3 ⟨vl3, rfl, h1, h2⟩; have HY3 := Aa.mk h1; have HX3 := Aa.mk h2; clear h1 h2)
      obtain ⟨Al3, cl3, ev⟩ := Kd.Bg HY3.out
      subst ev
      go_upto_region 26 with (go_at_call 28; refine (Dp.calls kb3 A0 c0 a A1 c1 b m3 e3 wx3 (Kd.Cv HAC.out HX3.out) HCA.out (Kd.Cv HBC.out HX3.out) HCB.out VB3.out).mono ?_; rintro e wy3 ⟨vw3, rfl, h1, h2⟩; have HU3 := Aa.mk h1; have HT3 := Aa.mk h2; clear h1 h2)
      obtain ⟨Aw3, cw3, ev⟩ := Kd.Bg HU3.out
      subst ev
      have HLR := Aa.mk (Kd.Ao (Kd.Bm HY3.out HT3.out))
      have HWR := Aa.mk (Kd.Ao HU3.out)
      have HBB := Aa.mk (HX3.out.trans (HT3.out.mono HX3.out.size))
      have HLL := Aa.mk (Kd.Bi (Kd.Bm HY3.out HT3.out) (fun _ _ => trivial))
      go_wp2_with (first | (go_at_call 14; refine (num_any _ _).mono ?_; rintro e w7 ⟨rfl, rfl⟩) | (go_at_call 15; refine (Ai.calls kc3 Al3 cl3 m3 Aw3 cw3 m3 true wy3 HLR.out.2.2 HLR.out.2.1 HWR.out.2.2 HWR.out.2.1 VC3.out).mono ?_; rintro e w8 ⟨rfl, hd⟩; obtain ⟨n3, rfl⟩ := hd.out; clear hd) | (go_at_call 16; refine (HI3.out.rects (W' := wy3.drewN n3) (by exact Ab HBB.out _) (.slice Al3 m3.length cl3) m3 (by exact HLL.out) _ (by omega)).mono ?_; rintro e wz3 ⟨rfl, h1⟩; have HI4 := Aa.mk h1; clear h1))
      clear HPR HAC HLR HWR HBB HLL HY3 HX3 HU3 HT3 HI3 HQR HBC
      go_roundw
      case rel => exact ⟨i + 1, by omega, by go_num, ⟨by have h := HI4.out; rw [show 4 * (i + 1) = 4 * i + 1 + 1 + 1 + 1 by omega]; exact h⟩⟩
      case measure => simp [intOf]; omega
    · obtain rfl : i = 2 := by omega
      go_wp2_with (first | (go_at_call 19; refine (HI0.out.hold (by omega)).mono ?_; rintro e w7 ⟨rfl, ⟨n1, rfl⟩⟩) | (go_at_call 20; refine (BR.Room_Hold (wr.drewN n1) (w1.heap.size + 1) _ _ _ (BR.RM.move (w := wr) (HI0.out.room HR4.out) (fun k _ _ => rfl)) (by simp)).mono ?_; rintro e w7 ⟨rfl, ⟨n2, rfl⟩⟩))
      go_ret
      exact ⟨rfl, by exact Ab HI0.out.bel _⟩
end VR
end Go.Proofs.Ytobdfiglgdbecaa
end
