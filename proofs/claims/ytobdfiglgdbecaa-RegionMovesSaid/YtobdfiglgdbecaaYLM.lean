import Derived.Test.YtobdfiglgdbecaaYPGAx0
import Derived.Deep.DrawnRows
import Derived.Test.YtobdfiglgdbecaaYR9
import Derived.Test.YtobdfiglgdbecaaYKB
import Derived.Test.YtobdfiglgdbecaaYPGKx1
import Derived.Test.YtobdfiglgdbecaaYCT
import Derived.Test.YtobdfiglgdbecaaYPGRx9
section
open Go Go.RowKit Go.Proofs.YtobdfiglgdbecaaW.PrintWords Go.Proofs.YtobdfiglgdbecaaW.PrintLast Go.Proofs.YtobdfiglgdbecaaW.PrintMore
attribute [local go_sem ↓] Go.wp_at_zero Go.wp_at_succ
set_option linter.unusedVariables false
set_option linter.unusedSimpArgs false
namespace Go.Proofs.Ytobdfiglgdbecaa
open PGA PGB
namespace HS
end HS
end Go.Proofs.Ytobdfiglgdbecaa
end
section
set_option linter.unusedVariables false
set_option linter.unusedSimpArgs false
open Go Go.RowKit Go.Proofs.YtobdfiglgdbecaaW.PrintWords Go.Proofs.YtobdfiglgdbecaaW.PrintMore
namespace Go.Proofs.Ytobdfiglgdbecaa
open PGA PGB PGH PGK PGI PGR
namespace VR
end VR
end Go.Proofs.Ytobdfiglgdbecaa
end
section
open Go Go.RowKit Go.Proofs.YtobdfiglgdbecaaW.PrintWords Go.Proofs.YtobdfiglgdbecaaW.PrintLast Go.Proofs.YtobdfiglgdbecaaW.PrintMore
attribute [local go_sem ↓] Go.wp_at_zero Go.wp_at_succ
set_option linter.unusedVariables false
set_option linter.unusedSimpArgs false
namespace Go.Proofs.Ytobdfiglgdbecaa
open PGA PGB PGH PGK PGI PGR
namespace BR
end BR
namespace VR
theorem num_any (a : Int) (w : World) : Calls Try.prog 14 #[.int .i64 a] w fun e w' => e = .returned (.int .i64 a) ∧ w = w' := by
  go_enter Try.func14, Try.ntmps14
  go_wp2
  go_ret
  exact ⟨rfl, rfl⟩
end VR
end Go.Proofs.Ytobdfiglgdbecaa
end
section
open Go Go.RowKit Go.Proofs.YtobdfiglgdbecaaW.PrintWords Go.Proofs.YtobdfiglgdbecaaW.PrintLast Go.Proofs.YtobdfiglgdbecaaW.PrintMore
attribute [local go_sem ↓] Go.wp_at_zero Go.wp_at_succ
set_option linter.unusedVariables false
set_option linter.unusedSimpArgs false
namespace Go.Proofs.Ytobdfiglgdbecaa
open PGA PGB PGH PGK PGI PGR
namespace VR
theorem told_short (l : List RG.Bd) : (RG.toldP l).1.length ≤ 4096 := by
  unfold RG.toldP
  split
  · split
    · simp
    · simp only []; omega
  · simp
theorem shift_len (A : List RG.Rc) (dx dy : Int) : (RG.shiftP A dx dy).1.length ≤ 4096 := by
  unfold RG.shiftP
  repeat' split
  all_goals first | exact told_short _ | simp
theorem grow_len (A : List RG.Rc) (l t r d : Int) : (RG.growP A l t r d).1.length ≤ 4096 := by
  unfold RG.growP
  repeat' split
  all_goals first | exact told_short _ | simp
def moves.f (k : Nat) (a : List S58) (dx dy l t r_ d : Int) : Option Bool := if a.length ≤ 4398046510976 then some true else none
theorem moves_ok (a : List S58) (dx dy l t r_ d : Int) (hz : a.length ≤ 4398046510976) : ∃ k, moves.f k a dx dy l t r_ d = some true := ⟨0, if_pos hz⟩
set_option maxRecDepth 100000 in
set_option maxHeartbeats 8000000 in
theorem moves.calls (k : Nat) (A0 : Option Addr) (c0 : Nat) (a : List S58) (dx dy l t r_ d : Int) (r : Bool) (w : World) (ha : k58.C w A0 a.length a) (hca : a.length ≤ c0) (h : moves.f k a dx dy l t r_ d = some r) :
    Calls Try.prog 3 #[.slice A0 a.length c0, .int .i64 dx, .int .i64 dy, .int .i64 l, .int .i64 t, .int .i64 r_, .int .i64 d] w fun e w' => e = .returned (.bool r) ∧ Below w.heap.size w w' := by
  unfold moves.f at h
  by_cases hl : a.length ≤ 4398046510976
  case neg => rw [if_neg hl] at h; cases h
  rw [if_pos hl] at h
  obtain rfl := Option.some.inj h
  obtain ⟨k0, v0⟩ := known_true
  have V0 := Aa.mk (v0 k0 (Nat.le_refl _))
  obtain ⟨⟨m0, e0⟩, h0⟩ : ∃ p, outP (RG.shiftP (a.map rc) dx dy) = p := ⟨_, rfl⟩
  have q0 : m0.length ≤ 4096 := by have := congrArg (fun p => p.1.length) h0; simp only [outP, List.length_map] at this; rw [← this]; exact shift_len _ _ _
  obtain ⟨ka0, va0⟩ := shift_val a dx dy
  obtain ⟨kb0, vb0⟩ := shift6_val a dx dy
  obtain ⟨kc0, vc0⟩ := eqR_true m0 m0 (by omega) rfl
  have VA0 := Aa.mk ((va0 ka0 (Nat.le_refl _)).trans (congrArg some h0))
  have VB0 := Aa.mk ((vb0 kb0 (Nat.le_refl _)).trans (congrArg some h0))
  have VC0 := Aa.mk (vc0 kc0 (Nat.le_refl _))
  obtain ⟨⟨m1, e1⟩, h1⟩ : ∃ p, outP (RG.growP (a.map rc) l t r_ d) = p := ⟨_, rfl⟩
  have q1 : m1.length ≤ 4096 := by have := congrArg (fun p => p.1.length) h1; simp only [outP, List.length_map] at this; rw [← this]; exact grow_len _ _ _ _ _
  obtain ⟨ka1, va1⟩ := grow_val a l t r_ d
  obtain ⟨kb1, vb1⟩ := grow6_val a l t r_ d
  obtain ⟨kc1, vc1⟩ := eqR_true m1 m1 (by omega) rfl
  have VA1 := Aa.mk ((va1 ka1 (Nat.le_refl _)).trans (congrArg some h1))
  have VB1 := Aa.mk ((vb1 kb1 (Nat.le_refl _)).trans (congrArg some h1))
  have VC1 := Aa.mk (vc1 kc1 (Nat.le_refl _))
  have HL := Aa.mk hl
  have HA := Aa.mk ha
  have HCA := Aa.mk hca
  clear v0 h h0 q0 va0 vb0 vc0 h1 q1 va1 vb1 vc1 hl ha hca
  go_enter Try.func3, Try.ntmps3
  go_upto_region 3 with (go_at_call 10; refine (Di.calls k0 true w V0.out).mono ?_; rintro e w1 ⟨rfl, hb1⟩; have HW1 := Aa.mk hb1; clear hb1)
  go_upto_region 5 with fail
  obtain ⟨w2, hw2⟩ : ∃ y, y = (w1.alloc (.cells #[.slice none 0 0, .slice none 0 0, .slice none 0 0, .slice none 0 0, .slice none 0 0, .slice none 0 0, .slice none 0 0, .slice none 0 0] 32)).alloc (.cells #[.slice none 0 0, .slice none 0 0, .slice none 0 0, .slice none 0 0, .slice none 0 0, .slice none 0 0, .slice none 0 0, .slice none 0 0] 35) := ⟨_, rfl⟩
  rw [← hw2]
  have hk2 : w2.heap[w1.heap.size]? = some (.cells #[.slice none 0 0, .slice none 0 0, .slice none 0 0, .slice none 0 0, .slice none 0 0, .slice none 0 0, .slice none 0 0, .slice none 0 0] 32 (0, 0)) := by rw [hw2]; exact Az (blk_new _ _) _
  have hr2 : w2.heap[w1.heap.size + 1]? = some (.cells #[.slice none 0 0, .slice none 0 0, .slice none 0 0, .slice none 0 0, .slice none 0 0, .slice none 0 0, .slice none 0 0, .slice none 0 0] 35 (0, 0)) := by
    have h := blk_new (w1.alloc (.cells #[.slice none 0 0, .slice none 0 0, .slice none 0 0, .slice none 0 0, .slice none 0 0, .slice none 0 0, .slice none 0 0, .slice none 0 0] 32)) (.cells #[.slice none 0 0, .slice none 0 0, .slice none 0 0, .slice none 0 0, .slice none 0 0, .slice none 0 0, .slice none 0 0, .slice none 0 0] 35)
    rw [show (w1.alloc (.cells #[.slice none 0 0, .slice none 0 0, .slice none 0 0, .slice none 0 0, .slice none 0 0, .slice none 0 0, .slice none 0 0, .slice none 0 0] 32)).heap.size = w1.heap.size + 1 by simp] at h
    rw [hw2]; exact h
  have hW2 : Below w.heap.size w w2 := by rw [hw2]; exact Ad (Ad HW1.out _) _
  have hz2 : w2.heap.size = w1.heap.size + 2 := by rw [hw2]; simp
  have hz1 : w.heap.size ≤ w1.heap.size := HW1.out.size
  have HR2 : Aa (BR.RM w2 (w1.heap.size + 1) (.slice none 0 0) (.slice none 0 0) []) := ⟨⟨hr2, Kd.Cy _ _ _ _ _, Kd.Cy _ _ _ _ _⟩⟩
  have HK2 := Aa.mk hk2
  have HW2 := Aa.mk hW2
  have HZ2 := Aa.mk hz2
  have HZ1 := Aa.mk hz1
  have HA2 := Aa.mk (Kd.C4 HA.out hW2)
  clear hw2 hk2 hr2 hW2 hz2 hz1 HW1
  go_upto_region 6 with (go_at_call 11; refine (BR.Rects_calls w2 w2 (w1.heap.size + 1) _ _ [] HR2.out (Below.refl _ _) A0 c0 a HA2.out HL.out (by simp)).mono ?_; rintro e w4 ⟨Ap, cp, rfl, hp, ⟨sv, swv, hR4⟩, hb4, hf4⟩; have HP := Aa.mk hp; have HR4 := Aa.mk hR4; have HB4 := Aa.mk hb4; clear hp hR4 hb4 hf4)
  have HKP : Aa (Kp w w4 w4 w1.heap.size 0) := ⟨Kp.start HZ1.out (by have h1 := HB4.out.size; have h2 := HZ2.out; omega) ((HB4.out.block _ (Nat.lt_succ_self _)).trans HK2.out) (HW2.out.trans (HB4.out.mono (by have := HZ1.out; omega)))⟩
  clear HR2 HK2 HW2 HZ2 HZ1 HA2 HB4
  go_wp2
  go_loopw [18, 19, 20, 21, 22] (fun s0 _ _ _ _ wr => ∃ i : Nat, i ≤ 2 ∧ s0 = .int .i64 i ∧ Aa (Kp w w4 wr w1.heap.size (2 * i))) (fun s0 _ _ _ _ _ => 2 - (intOf s0).toNat)
  case atStart => exact ⟨0, by omega, rfl, HKP⟩
  case round =>
    obtain ⟨i, hi, rfl, HI0⟩ := hrel
    clear HKP
    by_cases hlt : i < 2
    · have HPR := Aa.mk (Kd.Ao (HI0.out.lent HP.out))
      have HAC := Aa.mk (Kd.C4 HA.out HI0.out.bel)
      go_upto_region 10 with (go_at_call 12; refine (B4.calls ka0 (fun k_ => k_ < wr.heap.size) Ap cp a dx dy m0 e0 wr (Kd.V_mk HPR.out.2.1 (Kd.C_F k58_heap HPR.out.2.2)) VA0.out).mono ?_; rintro e wx0 ⟨vl0, rfl, h1, h2⟩; have HY0 := Aa.mk h1; have HX0 := Aa.mk h2; clear h1 h2)
      obtain ⟨Al0, cl0, ev⟩ := Kd.Bf HY0.out
      subst ev
      go_upto_region 11 with (go_at_call 13; refine (Dk.calls kb0 A0 c0 a dx dy m0 e0 wx0 (Kd.C4 HAC.out HX0.out) HCA.out VB0.out).mono ?_; rintro e wy0 ⟨vw0, rfl, h1, h2⟩; have HU0 := Aa.mk h1; have HT0 := Aa.mk h2; clear h1 h2)
      obtain ⟨Aw0, cw0, ev⟩ := Kd.Bf HU0.out
      subst ev
      have HLR := Aa.mk (Kd.Ao (Kd.Bi HY0.out HT0.out))
      have HWR := Aa.mk (Kd.Ao HU0.out)
      have HBB := Aa.mk (HX0.out.trans (HT0.out.mono HX0.out.size))
      have HLL := Aa.mk (Kd.Bh (Kd.Bi HY0.out HT0.out) (fun _ _ => trivial))
      go_upto_region 14 with (first | (go_at_call 14; refine (num_any _ _).mono ?_; rintro e w7 ⟨rfl, rfl⟩) | (go_at_call 15; refine (Ai.calls kc0 Al0 cl0 m0 Aw0 cw0 m0 true wy0 HLR.out.2.2 HLR.out.2.1 HWR.out.2.2 HWR.out.2.1 VC0.out).mono ?_; rintro e w8 ⟨rfl, hd⟩; obtain ⟨n0, rfl⟩ := hd.out; clear hd) | (go_at_call 16; refine (HI0.out.rects (W' := wy0.drewN n0) (by exact Ab HBB.out _) (.slice Al0 m0.length cl0) m0 (by exact HLL.out) _ (by omega)).mono ?_; rintro e wz0 ⟨rfl, h1⟩; have HI1 := Aa.mk h1; clear h1))
      clear HPR HAC HLR HWR HBB HLL HY0 HX0 HU0 HT0 HI0
      have HPR := Aa.mk (Kd.Ao (HI1.out.lent HP.out))
      have HAC := Aa.mk (Kd.C4 HA.out HI1.out.bel)
      go_upto_region 15 with (go_at_call 17; refine (Cg.calls ka1 Ap cp a l t r_ d m1 e1 wz0 HPR.out.2.2 HPR.out.2.1 VA1.out).mono ?_; rintro e wx1 ⟨vl1, rfl, h1, h2⟩; have HY1 := Aa.mk h1; have HX1 := Aa.mk h2; clear h1 h2)
      obtain ⟨Al1, cl1, ev⟩ := Kd.Bf HY1.out
      subst ev
      go_upto_region 16 with (go_at_call 18; refine (Ch.calls kb1 A0 c0 a l t r_ d m1 e1 wx1 (Kd.C4 HAC.out HX1.out) HCA.out VB1.out).mono ?_; rintro e wy1 ⟨vw1, rfl, h1, h2⟩; have HU1 := Aa.mk h1; have HT1 := Aa.mk h2; clear h1 h2)
      obtain ⟨Aw1, cw1, ev⟩ := Kd.Bf HU1.out
      subst ev
      have HLR := Aa.mk (Kd.Ao (Kd.Bi HY1.out HT1.out))
      have HWR := Aa.mk (Kd.Ao HU1.out)
      have HBB := Aa.mk (HX1.out.trans (HT1.out.mono HX1.out.size))
      have HLL := Aa.mk (Kd.Bh (Kd.Bi HY1.out HT1.out) (fun _ _ => trivial))
      go_wp2_with (first | (go_at_call 14; refine (num_any _ _).mono ?_; rintro e w7 ⟨rfl, rfl⟩) | (go_at_call 15; refine (Ai.calls kc1 Al1 cl1 m1 Aw1 cw1 m1 true wy1 HLR.out.2.2 HLR.out.2.1 HWR.out.2.2 HWR.out.2.1 VC1.out).mono ?_; rintro e w8 ⟨rfl, hd⟩; obtain ⟨n1, rfl⟩ := hd.out; clear hd) | (go_at_call 16; refine (HI1.out.rects (W' := wy1.drewN n1) (by exact Ab HBB.out _) (.slice Al1 m1.length cl1) m1 (by exact HLL.out) _ (by omega)).mono ?_; rintro e wz1 ⟨rfl, h1⟩; have HI2 := Aa.mk h1; clear h1))
      clear HPR HAC HLR HWR HBB HLL HY1 HX1 HU1 HT1 HI1
      go_roundw
      case rel => exact ⟨i + 1, by omega, by go_num, ⟨by have h := HI2.out; rw [show 2 * (i + 1) = 2 * i + 1 + 1 by omega]; exact h⟩⟩
      case measure => simp [intOf]; omega
    · obtain rfl : i = 2 := by omega
      go_wp2_with (first | (go_at_call 19; refine (HI0.out.hold (by omega)).mono ?_; rintro e w7 ⟨rfl, ⟨n1, rfl⟩⟩) | (go_at_call 20; refine (BR.Room_Hold (wr.drewN n1) (w1.heap.size + 1) _ _ _ (BR.RM.move (w := wr) (HI0.out.room HR4.out) (fun k _ _ => rfl)) (by simp)).mono ?_; rintro e w7 ⟨rfl, ⟨n2, rfl⟩⟩))
      go_ret
      exact ⟨rfl, by exact Ab HI0.out.bel _⟩
end VR
end Go.Proofs.Ytobdfiglgdbecaa
end
