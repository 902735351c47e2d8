import Derived.Test.YtobdfiglgdbecaaXPGHx0
import Derived.Test.YtobdfiglgdbecaaXV3
import Derived.Test.YtobdfiglgdbecaaXCT
import Derived.Test.YtobdfiglgdbecaaXM5
import Derived.Test.YtobdfiglgdbecaaXPGHx2
section
namespace Go.Proofs.Ytobdfiglgdbecaa.PGH
open Go.Proofs.Ytobdfiglgdbecaa.PGA Go.Proofs.Ytobdfiglgdbecaa.PGB
open Go.RowKit Go.Proofs.YtobdfiglgdbecaaW.PrintWords Go.Proofs.YtobdfiglgdbecaaW.PrintLast Go.Proofs.YtobdfiglgdbecaaW.PrintMore
attribute [local go_sem] max2_int min2_int max_two min_two max_three min_three max_four min_four
set_option linter.unusedVariables false
set_option linter.unusedSimpArgs false

theorem eqA58 (d : Nat) (w : World) (x0 y0 : Int) (x1 y1 : Int) (x2 y2 : Int) (x3 y3 : Int) :
  (Op.equalIn (d + 2) 58 (.agg #[.int .i64 x0, .int .i64 x1, .int .i64 x2, .int .i64 x3]) (.agg #[.int .i64 y0, .int .i64 y1, .int .i64 y2, .int .i64 y3])).run Try.prog w = .ok (x0 == y0 && (x1 == y1 && (x2 == y2 && (x3 == y3)))) w := by
 refine eqA_of Try.underlying58 (by kernel_rfl) ?_; refine eqf_cons (by rfl) (by go_simp; rfl) (by go_simp; rfl) (by go_simp) ?_; refine eqf_cons (by rfl) (by go_simp; rfl) (by go_simp; rfl) (by go_simp) ?_; refine eqf_cons (by rfl) (by go_simp; rfl) (by go_simp; rfl) (by go_simp) ?_; exact eqf_last (by rfl) (by go_simp; rfl) (by go_simp; rfl) (by go_simp)
end Go.Proofs.Ytobdfiglgdbecaa.PGH
end
section
namespace Go.Proofs.Ytobdfiglgdbecaa.PGH
open Go.Proofs.Ytobdfiglgdbecaa.PGA Go.Proofs.Ytobdfiglgdbecaa.PGB
open Go.RowKit Go.Proofs.YtobdfiglgdbecaaW.PrintWords Go.Proofs.YtobdfiglgdbecaaW.PrintLast Go.Proofs.YtobdfiglgdbecaaW.PrintMore
attribute [local go_sem] max2_int min2_int max_two min_two max_three min_three max_four min_four
set_option linter.unusedVariables false
set_option linter.unusedSimpArgs false

attribute [local go_sem high] eqA58
def Cc.f (a0 : Int) : Option (Int) := some a0
set_option maxHeartbeats 8000000 in
set_option maxRecDepth 100000 in
theorem Cc.calls (a0 : Int) (r : Int) (w : World) (h : Cc.f a0 = some r) :
  Calls Try.prog 14 #[.int .i64 a0] w fun e w' => e = .returned (.int .i64 r) ∧ Drawn0 w w' := by
 have H : (some a0) = some r := h; clear h; obtain rfl := Option.some.inj H; go_enter Try.func14, Try.ntmps14
 go_wp2
 go_ret
 exact ⟨by first | rfl | (simp; done) | (simp [*]; done), by repeat (first | exact Drawn0.refl _ | apply Drawn0.step)⟩

def Ar.l0 : Nat → List (S58) → List (S58) → Int → Option (Bool)
 | 0, _, _, _ => none
 | k + 1, x0, x1, x5 => if x5 < (x0.length : Int) then (if 0 ≤ x5 then (if x5 < (x1.length : Int) then (if (!(((rd_T58 x0 x5).f0) == ((rd_T58 x1 x5).f0)) || (!(((rd_T58 x0 x5).f1) == ((rd_T58 x1 x5).f1)) || (!(((rd_T58 x0 x5).f2) == ((rd_T58 x1 x5).f2)) || (!(((rd_T58 x0 x5).f3) == ((rd_T58 x1 x5).f3)))))) = true then (some false) else (Ar.l0 k x0 x1 (wrap64 (x5 + 1)))) else (none)) else (none)) else (some true)
def Ar.f (k : Nat) (l0 : List (S58)) (l1 : List (S58)) : Option (Bool) := if (l0.length : Int) = (l1.length : Int) then (Ar.l0 k l0 l1 0) else (some false)
set_option maxHeartbeats 8000000 in
set_option maxRecDepth 100000 in
theorem Ar.calls (k : Nat) (A0 : Option Addr) (c0 : Nat) (l0 : List (S58)) (A1 : Option Addr) (c1 : Nat) (l1 : List (S58)) (r : Bool) (w : World) (hr0 : Kd.C k58 w A0 l0.length l0) (hc0 : l0.length ≤ c0) (hr1 : Kd.C k58 w A1 l1.length l1) (hc1 : l1.length ≤ c1) (h : Ar.f k l0 l1 = some r) :
  Calls Try.prog 15 #[.slice A0 l0.length c0, .slice A1 l1.length c1] w fun e w' => e = .returned (.bool r) ∧ Drawn0 w w' := by
 have hu58 := Try.underlying58; have HR0 := Aa.mk hr0; have HC0 := Aa.mk hc0; clear hr0 hc0; have HR1 := Aa.mk hr1; have HC1 := Aa.mk hc1; clear hr1 hc1; have H : (if (l0.length : Int) = (l1.length : Int) then (Ar.l0 k l0 l1 0) else (some false)) = some r := h; clear h
 by_cases c3 : (l0.length : Int) = (l1.length : Int)
 ·rw [if_pos c3] at H
  have aG : ((l0.length : Int) == (l1.length : Int)) = true := beq_iff_eq.mpr c3; have aH : ((l0.length : Int) != (l1.length : Int)) = false := bne_eq_false_iff_eq.mpr c3; have aI : (l0.length == l1.length) = true := by first | simpa using c3 | (simp at c3 ⊢; omega)
  clear c3; have H' := Aa.mk H; clear H; go_enter Try.func15, Try.ntmps15
  go_wp2
  repeat (go_quiet (fail); try go_wp2)
  go_loopg [5] k (fun kq v5 w' => ∃ (ah : Int), v5 = .int .i64 ah ∧ Aa (Ar.l0 kq l0 l1 ah = some r) ∧ Aa (kq ≤ k) ∧ Drawn0 w w')
  case atStart => exact ⟨(0), (by first | rfl | (simp; done) | (simp [*]; done)), H', ⟨Nat.le_refl _⟩, by repeat (first | exact Drawn0.refl _ | apply Drawn0.step)⟩
  case round =>
   clear H'; (try clear c1); (try clear p2); (try clear c3); (try clear aG); (try clear aH); (try clear aI); obtain ⟨ah, rfl, HA, HK1, ⟨m1, rfl⟩⟩ := hrel; cases gk with
   | zero => exact absurd HA.out (by simp [Ar.l0])
   | succ k1 =>
    have H := HA.out; clear HA
    simp only [Ar.l0] at H
    by_cases c4 : ah < (l0.length : Int)
    ·rw [if_pos c4] at H
     have aD : decide (ah < (l0.length : Int)) = true := decide_eq_true c4; clear c4
     by_cases c5 : 0 ≤ ah
     ·rw [if_pos c5] at H
      have bK : decide (0 ≤ ah) = true := decide_eq_true c5; clear c5
      by_cases c6 : ah < (l1.length : Int)
      ·rw [if_pos c6] at H
       have aJ : decide (ah < (l1.length : Int)) = true := decide_eq_true c6; clear c6
       by_cases c7 : (!(((rd_T58 l0 ah).f0) == ((rd_T58 l1 ah).f0)) || (!(((rd_T58 l0 ah).f1) == ((rd_T58 l1 ah).f1)) || (!(((rd_T58 l0 ah).f2) == ((rd_T58 l1 ah).f2)) || (!(((rd_T58 l0 ah).f3) == ((rd_T58 l1 ah).f3)))))) = true
       ·rw [if_pos c7] at H
        have aE : (!(((rd_T58 l0 ah).f0) == ((rd_T58 l1 ah).f0)) || (!(((rd_T58 l0 ah).f1) == ((rd_T58 l1 ah).f1)) || (!(((rd_T58 l0 ah).f2) == ((rd_T58 l1 ah).f2)) || (!(((rd_T58 l0 ah).f3) == ((rd_T58 l1 ah).f3)))))) = true := c7; clear c7; obtain rfl := Option.some.inj H; have am : 0 ≤ (ah : Int) := of_decide_eq_true (by with_reducible assumption); have an : ah < (l0.length : Int) := of_decide_eq_true (by with_reducible assumption); obtain ⟨aK, e154, au, av, aw, ax⟩ := at_T58 HR0.out ah am an; cases e154; replace am := eq_true am; replace an := eq_true an; have ao : 0 ≤ (ah : Int) := of_decide_eq_true (by with_reducible assumption); have ap : ah < (l1.length : Int) := of_decide_eq_true (by with_reducible assumption); obtain ⟨aM, e155, ay, az, aA, aC⟩ := at_T58 HR1.out ah ao ap; cases e155; replace ao := eq_true ao; replace ap := eq_true ap
        go_wp2
        repeat (go_quiet (fail); try go_wp2)
        go_ret
        exact ⟨by first | rfl | (simp; done) | (simp [*]; done), by repeat (first | exact Drawn0.refl _ | apply Drawn0.step)⟩
       ·rw [if_neg c7] at H
        have aE : (!(((rd_T58 l0 ah).f0) == ((rd_T58 l1 ah).f0)) || (!(((rd_T58 l0 ah).f1) == ((rd_T58 l1 ah).f1)) || (!(((rd_T58 l0 ah).f2) == ((rd_T58 l1 ah).f2)) || (!(((rd_T58 l0 ah).f3) == ((rd_T58 l1 ah).f3)))))) = false := by simpa using c7
        clear c7; have H' := Aa.mk H; clear H; have am : 0 ≤ (ah : Int) := of_decide_eq_true (by with_reducible assumption); have an : ah < (l0.length : Int) := of_decide_eq_true (by with_reducible assumption); obtain ⟨aK, e154, au, av, aw, ax⟩ := at_T58 HR0.out ah am an; cases e154; replace am := eq_true am; replace an := eq_true an; have ao : 0 ≤ (ah : Int) := of_decide_eq_true (by with_reducible assumption); have ap : ah < (l1.length : Int) := of_decide_eq_true (by with_reducible assumption); obtain ⟨aM, e155, ay, az, aA, aC⟩ := at_T58 HR1.out ah ao ap; cases e155; replace ao := eq_true ao; replace ap := eq_true ap
        go_wp2
        repeat (go_quiet (fail); try go_wp2)
        go_roundg k1
        case measure => have := HK1.out; omega
        case rel => exact ⟨(wrap64 (ah + 1)), (by first | rfl | (simp; done) | (simp [*]; done)), H', ⟨by have := HK1.out; omega⟩, by repeat (first | exact Drawn0.refl _ | apply Drawn0.step)⟩
      ·rw [if_neg c6] at H
       exact absurd H (by simp)
     ·rw [if_neg c5] at H
      exact absurd H (by simp)
    ·rw [if_neg c4] at H
     have aD : decide (ah < (l0.length : Int)) = false := decide_eq_false c4; clear c4; obtain rfl := Option.some.inj H
     go_wp2
     repeat (go_quiet (fail); try go_wp2)
     go_ret
     exact ⟨by first | rfl | (simp; done) | (simp [*]; done), by repeat (first | exact Drawn0.refl _ | apply Drawn0.step)⟩
 ·rw [if_neg c3] at H
  have aG : ((l0.length : Int) == (l1.length : Int)) = false := beq_eq_false_iff_ne.mpr c3; have aH : ((l0.length : Int) != (l1.length : Int)) = true := bne_iff_ne.mpr c3; have aI : (l0.length == l1.length) = false := by first | simpa using c3 | (simp at c3 ⊢; omega)
  obtain rfl := Option.some.inj H; go_enter Try.func15, Try.ntmps15
  go_wp2
  repeat (go_quiet (fail); try go_wp2)
  go_ret
  exact ⟨by first | rfl | (simp; done) | (simp [*]; done), by repeat (first | exact Drawn0.refl _ | apply Drawn0.step)⟩

def Co.l0 : Nat → List (S58) → Int → Int → Int → Option (Bool)
 | 0, _, _, _, _ => none
 | k + 1, x0, x1, x2, x7 => if x7 < (x0.length : Int) then (if 0 ≤ x7 then (if x1 ≥ ((rd_T58 x0 x7).f0) then (if x1 < ((rd_T58 x0 x7).f2) then (if x2 ≥ ((rd_T58 x0 x7).f1) then (if x2 < ((rd_T58 x0 x7).f3) then (some true) else (Co.l0 k x0 x1 x2 (wrap64 (x7 + 1)))) else (Co.l0 k x0 x1 x2 (wrap64 (x7 + 1)))) else (Co.l0 k x0 x1 x2 (wrap64 (x7 + 1)))) else (Co.l0 k x0 x1 x2 (wrap64 (x7 + 1)))) else (none)) else (some false)
def Co.f (k : Nat) (l0 : List (S58)) (a1 : Int) (a2 : Int) : Option (Bool) := Co.l0 k l0 a1 a2 0
set_option maxHeartbeats 8000000 in
set_option maxRecDepth 100000 in
theorem Co.calls (k : Nat) (A0 : Option Addr) (c0 : Nat) (l0 : List (S58)) (a1 : Int) (a2 : Int) (r : Bool) (w : World) (hr0 : Kd.C k58 w A0 l0.length l0) (hc0 : l0.length ≤ c0) (h : Co.f k l0 a1 a2 = some r) :
  Calls Try.prog 32 #[.slice A0 l0.length c0, .int .i64 a1, .int .i64 a2] w fun e w' => e = .returned (.bool r) ∧ Below w.heap.size w w' := by
 have hu58 := Try.underlying58; have HR0 := Aa.mk hr0; have HC0 := Aa.mk hc0; clear hr0 hc0; have HB := Aa.mk (Below.refl w.heap.size w); have H : (Co.l0 k l0 a1 a2 0) = some r := h; clear h; have H' := Aa.mk H; clear H; go_enter Try.func32, Try.ntmps32
 go_wp2
 go_loopg [7] k (fun kq v7 w' => ∃ (ai : Int), v7 = .int .i64 ai ∧ Aa (Co.l0 kq l0 a1 a2 ai = some r) ∧ Aa (kq ≤ k) ∧ Aa (Below w.heap.size w w'))
 case atStart => exact ⟨(0), (by first | rfl | (simp; done) | (simp [*]; done)), H', ⟨Nat.le_refl _⟩, ⟨by repeat (first | (with_reducible first | exact HB.out | apply Ad | apply Ab | apply Ac) | exact HB.out)⟩⟩
 case round =>
  clear H'; (try clear p2); (try clear c3); obtain ⟨ai, rfl, HA, HK1, HB⟩ := hrel; cases gk with
  | zero => exact absurd HA.out (by simp [Co.l0])
  | succ k1 =>
   have H := HA.out; clear HA
   simp only [Co.l0] at H
   by_cases c4 : ai < (l0.length : Int)
   ·rw [if_pos c4] at H
    have aD : decide (ai < (l0.length : Int)) = true := decide_eq_true c4; clear c4
    by_cases c5 : 0 ≤ ai
    ·rw [if_pos c5] at H
     have bK : decide (0 ≤ ai) = true := decide_eq_true c5; clear c5
     by_cases c6 : a1 ≥ ((rd_T58 l0 ai).f0)
     ·rw [if_pos c6] at H
      have aJ : decide (((rd_T58 l0 ai).f0) ≤ a1) = true := decide_eq_true c6; clear c6
      by_cases c7 : a1 < ((rd_T58 l0 ai).f2)
      ·rw [if_pos c7] at H
       have aE : decide (a1 < ((rd_T58 l0 ai).f2)) = true := decide_eq_true c7; clear c7
       by_cases c8 : a2 ≥ ((rd_T58 l0 ai).f1)
       ·rw [if_pos c8] at H
        have bL : decide (((rd_T58 l0 ai).f1) ≤ a2) = true := decide_eq_true c8; clear c8
        by_cases c9 : a2 < ((rd_T58 l0 ai).f3)
        ·rw [if_pos c9] at H
         have bM : decide (a2 < ((rd_T58 l0 ai).f3)) = true := decide_eq_true c9; clear c9; obtain rfl := Option.some.inj H; have aj : 0 ≤ (ai : Int) := of_decide_eq_true (by with_reducible assumption); have ak : ai < (l0.length : Int) := of_decide_eq_true (by with_reducible assumption); obtain ⟨aq, e156, ac, ae, af, ag⟩ := at_T58 HR0.out ai aj ak; cases e156; replace ac := (HB.out.cell (World.block_lt_of_cell? w _ ac)).trans ac; replace ae := (HB.out.cell (World.block_lt_of_cell? w _ ae)).trans ae; replace af := (HB.out.cell (World.block_lt_of_cell? w _ af)).trans af; replace ag := (HB.out.cell (World.block_lt_of_cell? w _ ag)).trans ag; replace aj := eq_true aj; replace ak := eq_true ak
         go_wp2_with (first | ((with_reducible refine Bu (N := 8) rfl ?_); refine Ce ?hg (N := 8) ?hd (cs := #[.int .i64 0, .int .i64 0, .int .i64 0, .int .i64 0]) (t := 58) ?hr ?_; (case hd => rfl); (case hg => rfl); (case hr => first | (go_simp; done) | (go_simp; rfl)); intro ab hg w10 hbox hb; have aa := Aa.mk (hbox); have ar := Aa.mk ((by rw [hg]; exact (Af (lU HB.out)) : w.heap.size ≤ ab)); have al := Aa.mk ((by rw [hg]; exact (Af (lU HB.out)) : w.heap.size ≤ ab)); replace HB := Aa.mk (Aj (lU HB.out) hb); clear hb hbox hg; have aN : w10.cell? ⟨ab, 0, none⟩ = some (.int .i64 0) := (Ag aa.out 0).trans rfl; have aQ : w10.cell? ⟨ab, 1, none⟩ = some (.int .i64 0) := (Ag aa.out 1).trans rfl; have aT : w10.cell? ⟨ab, 2, none⟩ = some (.int .i64 0) := (Ag aa.out 2).trans rfl; have aU : w10.cell? ⟨ab, 3, none⟩ = some (.int .i64 0) := (Ag aa.out 3).trans rfl; have aV := Ae aa.out 0; have aW := Ae aa.out 1; have aX := Ae aa.out 2; have aY := Ae aa.out 3))
         go_ret
         exact ⟨by first | rfl | (simp [Ba, Az] <;> rfl) | (simp [*, Ba, Az] <;> rfl), by repeat (first | (with_reducible first | exact HB.out | apply Ad | apply Ab | apply Ac | refine Ak ?_ al.out) | exact HB.out)⟩
        ·rw [if_neg c9] at H
         have bM : decide (a2 < ((rd_T58 l0 ai).f3)) = false := decide_eq_false c9; clear c9; have H' := Aa.mk H; clear H; have aj : 0 ≤ (ai : Int) := of_decide_eq_true (by with_reducible assumption); have ak : ai < (l0.length : Int) := of_decide_eq_true (by with_reducible assumption); obtain ⟨aq, e156, ac, ae, af, ag⟩ := at_T58 HR0.out ai aj ak; cases e156; replace ac := (HB.out.cell (World.block_lt_of_cell? w _ ac)).trans ac; replace ae := (HB.out.cell (World.block_lt_of_cell? w _ ae)).trans ae; replace af := (HB.out.cell (World.block_lt_of_cell? w _ af)).trans af; replace ag := (HB.out.cell (World.block_lt_of_cell? w _ ag)).trans ag; replace aj := eq_true aj; replace ak := eq_true ak
         go_wp2_with (first | ((with_reducible refine Bu (N := 8) rfl ?_); refine Ce ?hg (N := 8) ?hd (cs := #[.int .i64 0, .int .i64 0, .int .i64 0, .int .i64 0]) (t := 58) ?hr ?_; (case hd => rfl); (case hg => rfl); (case hr => first | (go_simp; done) | (go_simp; rfl)); intro ab hg w12 hbox hb; have aa := Aa.mk (hbox); have ar := Aa.mk ((by rw [hg]; exact (Af (lU HB.out)) : w.heap.size ≤ ab)); have al := Aa.mk ((by rw [hg]; exact (Af (lU HB.out)) : w.heap.size ≤ ab)); replace HB := Aa.mk (Aj (lU HB.out) hb); clear hb hbox hg; have aZ : w12.cell? ⟨ab, 0, none⟩ = some (.int .i64 0) := (Ag aa.out 0).trans rfl; have a5 : w12.cell? ⟨ab, 1, none⟩ = some (.int .i64 0) := (Ag aa.out 1).trans rfl; have a6 : w12.cell? ⟨ab, 2, none⟩ = some (.int .i64 0) := (Ag aa.out 2).trans rfl; have a7 : w12.cell? ⟨ab, 3, none⟩ = some (.int .i64 0) := (Ag aa.out 3).trans rfl; have a8 := Ae aa.out 0; have a9 := Ae aa.out 1; have bc := Ae aa.out 2; have be := Ae aa.out 3))
         go_roundg k1
         case measure => have := HK1.out; omega
         case rel => exact ⟨(wrap64 (ai + 1)), (by first | rfl | (simp; done) | (simp [*]; done)), H', ⟨by have := HK1.out; omega⟩, ⟨by repeat (first | (with_reducible first | exact HB.out | apply Ad | apply Ab | apply Ac | refine Ak ?_ al.out) | exact HB.out)⟩⟩
       ·rw [if_neg c8] at H
        have bL : decide (((rd_T58 l0 ai).f1) ≤ a2) = false := decide_eq_false c8; clear c8; have H' := Aa.mk H; clear H; have aj : 0 ≤ (ai : Int) := of_decide_eq_true (by with_reducible assumption); have ak : ai < (l0.length : Int) := of_decide_eq_true (by with_reducible assumption); obtain ⟨aq, e156, ac, ae, af, ag⟩ := at_T58 HR0.out ai aj ak; cases e156; replace ac := (HB.out.cell (World.block_lt_of_cell? w _ ac)).trans ac; replace ae := (HB.out.cell (World.block_lt_of_cell? w _ ae)).trans ae; replace af := (HB.out.cell (World.block_lt_of_cell? w _ af)).trans af; replace ag := (HB.out.cell (World.block_lt_of_cell? w _ ag)).trans ag; replace aj := eq_true aj; replace ak := eq_true ak
        go_wp2_with (first | ((with_reducible refine Bu (N := 8) rfl ?_); refine Ce ?hg (N := 8) ?hd (cs := #[.int .i64 0, .int .i64 0, .int .i64 0, .int .i64 0]) (t := 58) ?hr ?_; (case hd => rfl); (case hg => rfl); (case hr => first | (go_simp; done) | (go_simp; rfl)); intro ab hg w14 hbox hb; have aa := Aa.mk (hbox); have ar := Aa.mk ((by rw [hg]; exact (Af (lU HB.out)) : w.heap.size ≤ ab)); have al := Aa.mk ((by rw [hg]; exact (Af (lU HB.out)) : w.heap.size ≤ ab)); replace HB := Aa.mk (Aj (lU HB.out) hb); clear hb hbox hg; have bf : w14.cell? ⟨ab, 0, none⟩ = some (.int .i64 0) := (Ag aa.out 0).trans rfl; have bg : w14.cell? ⟨ab, 1, none⟩ = some (.int .i64 0) := (Ag aa.out 1).trans rfl; have bh : w14.cell? ⟨ab, 2, none⟩ = some (.int .i64 0) := (Ag aa.out 2).trans rfl; have bi : w14.cell? ⟨ab, 3, none⟩ = some (.int .i64 0) := (Ag aa.out 3).trans rfl; have bj := Ae aa.out 0; have bk := Ae aa.out 1; have bl := Ae aa.out 2; have bm := Ae aa.out 3))
        go_roundg k1
        case measure => have := HK1.out; omega
        case rel => exact ⟨(wrap64 (ai + 1)), (by first | rfl | (simp; done) | (simp [*]; done)), H', ⟨by have := HK1.out; omega⟩, ⟨by repeat (first | (with_reducible first | exact HB.out | apply Ad | apply Ab | apply Ac | refine Ak ?_ al.out) | exact HB.out)⟩⟩
      ·rw [if_neg c7] at H
       have aE : decide (a1 < ((rd_T58 l0 ai).f2)) = false := decide_eq_false c7; clear c7; have H' := Aa.mk H; clear H; have aj : 0 ≤ (ai : Int) := of_decide_eq_true (by with_reducible assumption); have ak : ai < (l0.length : Int) := of_decide_eq_true (by with_reducible assumption); obtain ⟨aq, e156, ac, ae, af, ag⟩ := at_T58 HR0.out ai aj ak; cases e156; replace ac := (HB.out.cell (World.block_lt_of_cell? w _ ac)).trans ac; replace ae := (HB.out.cell (World.block_lt_of_cell? w _ ae)).trans ae; replace af := (HB.out.cell (World.block_lt_of_cell? w _ af)).trans af; replace ag := (HB.out.cell (World.block_lt_of_cell? w _ ag)).trans ag; replace aj := eq_true aj; replace ak := eq_true ak
       go_wp2_with (first | ((with_reducible refine Bu (N := 8) rfl ?_); refine Ce ?hg (N := 8) ?hd (cs := #[.int .i64 0, .int .i64 0, .int .i64 0, .int .i64 0]) (t := 58) ?hr ?_; (case hd => rfl); (case hg => rfl); (case hr => first | (go_simp; done) | (go_simp; rfl)); intro ab hg w16 hbox hb; have aa := Aa.mk (hbox); have ar := Aa.mk ((by rw [hg]; exact (Af (lU HB.out)) : w.heap.size ≤ ab)); have al := Aa.mk ((by rw [hg]; exact (Af (lU HB.out)) : w.heap.size ≤ ab)); replace HB := Aa.mk (Aj (lU HB.out) hb); clear hb hbox hg; have bn : w16.cell? ⟨ab, 0, none⟩ = some (.int .i64 0) := (Ag aa.out 0).trans rfl; have bo : w16.cell? ⟨ab, 1, none⟩ = some (.int .i64 0) := (Ag aa.out 1).trans rfl; have br : w16.cell? ⟨ab, 2, none⟩ = some (.int .i64 0) := (Ag aa.out 2).trans rfl; have bs : w16.cell? ⟨ab, 3, none⟩ = some (.int .i64 0) := (Ag aa.out 3).trans rfl; have bu := Ae aa.out 0; have bw := Ae aa.out 1; have bx := Ae aa.out 2; have bz := Ae aa.out 3))
       go_roundg k1
       case measure => have := HK1.out; omega
       case rel => exact ⟨(wrap64 (ai + 1)), (by first | rfl | (simp; done) | (simp [*]; done)), H', ⟨by have := HK1.out; omega⟩, ⟨by repeat (first | (with_reducible first | exact HB.out | apply Ad | apply Ab | apply Ac | refine Ak ?_ al.out) | exact HB.out)⟩⟩
     ·rw [if_neg c6] at H
      have aJ : decide (((rd_T58 l0 ai).f0) ≤ a1) = false := decide_eq_false c6; clear c6; have H' := Aa.mk H; clear H; have aj : 0 ≤ (ai : Int) := of_decide_eq_true (by with_reducible assumption); have ak : ai < (l0.length : Int) := of_decide_eq_true (by with_reducible assumption); obtain ⟨aq, e156, ac, ae, af, ag⟩ := at_T58 HR0.out ai aj ak; cases e156; replace ac := (HB.out.cell (World.block_lt_of_cell? w _ ac)).trans ac; replace ae := (HB.out.cell (World.block_lt_of_cell? w _ ae)).trans ae; replace af := (HB.out.cell (World.block_lt_of_cell? w _ af)).trans af; replace ag := (HB.out.cell (World.block_lt_of_cell? w _ ag)).trans ag; replace aj := eq_true aj; replace ak := eq_true ak
      go_wp2_with (first | ((with_reducible refine Bu (N := 8) rfl ?_); refine Ce ?hg (N := 8) ?hd (cs := #[.int .i64 0, .int .i64 0, .int .i64 0, .int .i64 0]) (t := 58) ?hr ?_; (case hd => rfl); (case hg => rfl); (case hr => first | (go_simp; done) | (go_simp; rfl)); intro ab hg w18 hbox hb; have aa := Aa.mk (hbox); have ar := Aa.mk ((by rw [hg]; exact (Af (lU HB.out)) : w.heap.size ≤ ab)); have al := Aa.mk ((by rw [hg]; exact (Af (lU HB.out)) : w.heap.size ≤ ab)); replace HB := Aa.mk (Aj (lU HB.out) hb); clear hb hbox hg; have bB : w18.cell? ⟨ab, 0, none⟩ = some (.int .i64 0) := (Ag aa.out 0).trans rfl; have bD : w18.cell? ⟨ab, 1, none⟩ = some (.int .i64 0) := (Ag aa.out 1).trans rfl; have bE : w18.cell? ⟨ab, 2, none⟩ = some (.int .i64 0) := (Ag aa.out 2).trans rfl; have bF : w18.cell? ⟨ab, 3, none⟩ = some (.int .i64 0) := (Ag aa.out 3).trans rfl; have bG := Ae aa.out 0; have bH := Ae aa.out 1; have bI := Ae aa.out 2; have bJ := Ae aa.out 3))
      go_roundg k1
      case measure => have := HK1.out; omega
      case rel => exact ⟨(wrap64 (ai + 1)), (by first | rfl | (simp; done) | (simp [*]; done)), H', ⟨by have := HK1.out; omega⟩, ⟨by repeat (first | (with_reducible first | exact HB.out | apply Ad | apply Ab | apply Ac | refine Ak ?_ al.out) | exact HB.out)⟩⟩
    ·rw [if_neg c5] at H
     exact absurd H (by simp)
   ·rw [if_neg c4] at H
    have aD : decide (ai < (l0.length : Int)) = false := decide_eq_false c4; clear c4; obtain rfl := Option.some.inj H
    go_wp2
    go_ret
    exact ⟨by first | rfl | (simp [Ba, Az] <;> rfl) | (simp [*, Ba, Az] <;> rfl), by repeat (first | (with_reducible first | exact HB.out | apply Ad | apply Ab | apply Ac) | exact HB.out)⟩

end Go.Proofs.Ytobdfiglgdbecaa.PGH
end
section
set_option linter.unusedVariables false
set_option linter.unusedSimpArgs false
open Go Go.RowKit Go.Proofs.YtobdfiglgdbecaaW.PrintWords Go.Proofs.YtobdfiglgdbecaaW.PrintMore
namespace Go.Proofs.Ytobdfiglgdbecaa
open PGA PGB PGH
namespace VR
theorem eqR_l0 (a b : List S58) (hl : a.length = b.length) (hb : a.length ≤ 1000000) : ∀ d i, i + d = a.length → Ev (fun k => Ar.l0 k a b (i : Int)) (decide ((a.drop i).map rc = (b.drop i).map rc)) := by
  intro d
  induction d with
  | zero =>
    intro i hi; refine one_round fun k => ?_
    rw [Ar.l0, if_neg (by omega), List.drop_of_length_le (by omega), List.drop_of_length_le (show b.length ≤ i by omega)]; rfl
  | succ d ih =>
    intro i hi; have h1 : i < a.length := by omega
    have h2 : i < b.length := by omega
    rw [List.drop_eq_getElem_cons h1, List.drop_eq_getElem_cons h2]
    have e : ((a[i] :: a.drop (i + 1)).map rc = (b[i] :: b.drop (i + 1)).map rc) ↔ ((a[i].f0 = b[i].f0 ∧ a[i].f1 = b[i].f1 ∧ a[i].f2 = b[i].f2 ∧ a[i].f3 = b[i].f3) ∧ (a.drop (i + 1)).map rc = (b.drop (i + 1)).map rc) := by
      rw [List.map_cons, List.map_cons, List.cons.injEq]
      simp [rc]
    have hc : ((!((a[i].f0) == (b[i].f0)) || (!((a[i].f1) == (b[i].f1)) || (!((a[i].f2) == (b[i].f2)) || (!((a[i].f3) == (b[i].f3)))))) = true) ↔ ¬ (a[i].f0 = b[i].f0 ∧ a[i].f1 = b[i].f1 ∧ a[i].f2 = b[i].f2 ∧ a[i].f3 = b[i].f3) := by
      simp only [Bool.or_eq_true, Bool.not_eq_true', beq_eq_false_iff_ne, ne_eq]
      omega
    by_cases c : a[i].f0 = b[i].f0 ∧ a[i].f1 = b[i].f1 ∧ a[i].f2 = b[i].f2 ∧ a[i].f3 = b[i].f3
    · rw [show decide ((a[i] :: a.drop (i + 1)).map rc = (b[i] :: b.drop (i + 1)).map rc) = decide ((a.drop (i + 1)).map rc = (b.drop (i + 1)).map rc) from decide_eq_decide.mpr (e.trans ⟨fun h => h.2, fun h => ⟨c, h⟩⟩)]
      refine Ev.step (fun k => ?_) (ih (i + 1) (by omega)); rw [Ar.l0, if_pos (by omega), if_pos (by omega), if_pos (by omega), rdR a i h1, rdR b i h2, if_neg (fun h => hc.mp h c), wrs i (by omega)]
    · rw [decide_eq_false (fun h => c (e.mp h).1)]
      refine one_round fun k => ?_
      rw [Ar.l0, if_pos (by omega), if_pos (by omega), if_pos (by omega), rdR a i h1, rdR b i h2, if_pos (hc.mpr c)]
theorem eqR_val (a b : List S58) (hb : a.length ≤ 1000000) : Ev (fun k => Ar.f k a b) (decide (a.map rc = b.map rc)) := by
  by_cases h : a.length = b.length
  · refine Ev.congr (fun k => ?_) (eqR_l0 a b h hb a.length 0 (Nat.zero_add _))
    unfold Ar.f; rw [if_pos (by omega)]; rfl
  · rw [decide_eq_false (fun e => h (by have := congrArg List.length e; simpa using this))]
    refine ⟨0, fun k _ => ?_⟩; show Ar.f k a b = _; unfold Ar.f; rw [if_neg (by omega)]
theorem eqR_true (a b : List S58) (hb : a.length ≤ 1000000) (h : a.map rc = b.map rc) : Ev (fun k => Ar.f k a b) true := by
  have := eqR_val a b hb
  rwa [decide_eq_true h] at this
theorem someH (x : S58) : Cf.f x.f0 x.f1 x.f2 x.f3 = some (RG.some1 (rc x)) := some_val x
theorem nearH (n : Int) : Bp.f n = some (RG.nearB n) := by
  unfold Bp.f RG.nearB
  by_cases h : -8192 ≤ n
  · rw [if_pos h]; simp [h]
  · rw [if_neg h]; simp [h]
theorem far_l0 (l : List S58) (hl : l.length ≤ 4096) : ∀ d i, i + d = l.length → Ev (fun k => Cd.l0 k l (i : Int)) (if ((l.drop i).map rc).all RG.okR = true then 0 else 61) := by
  intro d
  induction d with
  | zero =>
    intro i hi; refine one_round fun k => ?_
    rw [Cd.l0, if_neg (by omega), List.drop_of_length_le (by omega)]; rfl
  | succ d ih =>
    intro i hi; have hlt : i < l.length := by omega
    rw [List.drop_eq_getElem_cons hlt]; have ee : ∀ T : List S58, ((l[i] :: T).map rc).all RG.okR = (RG.okR (rc l[i]) && (T.map rc).all RG.okR) := fun T => rfl
    rw [ee]; have hno : RG.okR (rc l[i]) = (!RG.some1 (rc l[i]) || (RG.nearB l[i].f0 && RG.nearB l[i].f1 && RG.nearB l[i].f2 && RG.nearB l[i].f3)) := rfl
    have hst : ∀ k, Cd.l0 (k + 1) l (i : Int) = if RG.okR (rc l[i]) = true then Cd.l0 k l ((i + 1 : Nat) : Int) else some 61 := fun k => by
      rw [Cd.l0, if_pos (by omega), if_pos (by omega), rdR l i hlt, someH, nearH, nearH, nearH, nearH, wrs i (by omega), hno]
      simp only [Option.bind_some]
      cases RG.some1 (rc l[i]) <;> cases RG.nearB l[i].f0 <;> cases RG.nearB l[i].f1 <;> cases RG.nearB l[i].f2 <;> cases RG.nearB l[i].f3 <;> rfl
    by_cases c : RG.okR (rc l[i]) = true
    · rw [c, Bool.true_and]
      refine Ev.step (fun k => ?_) (ih (i + 1) (by omega)); rw [hst, if_pos c]
    · rw [show RG.okR (rc l[i]) = false by simpa using c, Bool.false_and]
      refine one_round fun k => ?_
      rw [hst, if_neg c]; rfl
theorem rightH_val (l : List S58) : Ev (fun k => Ch.f k l) (RG.rightP (l.map rc)) := by
  unfold RG.rightP; rw [List.length_map]
  by_cases h : 4096 < l.length
  · rw [if_pos h]
    refine ⟨0, fun k _ => ?_⟩; show Ch.f k l = _; unfold Ch.f; rw [if_pos (by omega)]
  · rw [if_neg h]
    refine Ev.congr (fun k => by unfold Ch.f; rw [if_neg (by omega)]) ?_; exact Ev.bind (far_l0 l (by omega) l.length 0 (Nat.zero_add _)) (Ev.now _)
def okB (b : S91) : Prop := (-8192 ≤ b.f0 ∧ b.f0 ≤ 8192) ∧ (-8192 ≤ b.f1 ∧ b.f1 ≤ 8192) ∧ ∀ s ∈ b.f2, (-8192 ≤ s.f0 ∧ s.f0 ≤ 8192) ∧ (-8192 ≤ s.f1 ∧ s.f1 ≤ 8192)
theorem wrap_add (x y : Int) : wrap64 (wrap64 x + wrap64 y) = wrap64 (x + y) := by unfold wrap64; omega
def sumS (b : S91) (l : List S93) : Int := (l.map fun s => (s.f1 - s.f0) * (b.f1 - b.f0)).sum
theorem count_l1 (L : List S91) (i : Nat) (hi : i < 1000000) (b : S91) (hb : okB b) (hbl : b.f2.length ≤ 8192) {R} (x0 : Int)
    (hE : Ev (fun k => Cp.l0 k (wrap64 (x0 + sumS b b.f2)) L (L.length : Int) ((i + 1 : Nat) : Int)) R) : ∀ d j, j + d = b.f2.length →
    Ev (fun k => Cp.l1 k (wrap64 (x0 + sumS b (b.f2.take j))) L (L.length : Int) (i : Int) b.f2 (b.f2.length : Int) (j : Int) b.f0 b.f1 b.f2) R := by
  intro d
  induction d with
  | zero =>
    intro j hj; refine Ev.step (fun k => ?_) hE; rw [Cp.l1, if_neg (by omega), List.take_of_length_le (by omega), wrs i (by omega)]
  | succ d ih =>
    intro j hj; have hlt : j < b.f2.length := by omega
    have hs := hb.2.2 b.f2[j] (List.getElem_mem hlt); have hb1 := hb.1; have hb2 := hb.2.1
    have e : sumS b (b.f2.take (j + 1)) = sumS b (b.f2.take j) + (b.f2[j].f1 - b.f2[j].f0) * (b.f1 - b.f0) := by
      unfold sumS; rw [List.take_succ_eq_append_getElem hlt, List.map_append, List.sum_append]
      simp
    have ih := ih (j + 1) (by omega); rw [e, ← Int.add_assoc, ← wrap_add] at ih; refine Ev.step (fun k => ?_) ih; have w1 : wrap64 (b.f2[j].f1 - b.f2[j].f0) = b.f2[j].f1 - b.f2[j].f0 := by unfold wrap64; omega
    have w2 : wrap64 (b.f1 - b.f0) = b.f1 - b.f0 := by unfold wrap64; omega
    rw [Cp.l1, if_pos (by omega), if_pos (by omega), if_pos (by omega), rdS b.f2 j hlt, w1, w2, wrs j (by omega)]
def areaS (L : List S91) : Int := (L.map fun b => sumS b b.f2).sum
theorem areaS_eq (L : List S91) : areaS L = RG.areaI (L.map bd) := by
  unfold areaS RG.areaI; rw [List.map_map]
  congr 1
  refine List.map_congr_left fun b _ => ?_
  unfold sumS; show _ = ((b.f2.map sp).map fun s => (s.2 - s.1) * (b.f1 - b.f0)).sum; rw [List.map_map]; rfl
theorem count_l0 (L : List S91) (hL : L.length ≤ 100000) (hb : ∀ b ∈ L, okB b ∧ b.f2.length ≤ 8192) : ∀ d i, i + d = L.length →
    Ev (fun k => Cp.l0 k (wrap64 (areaS (L.take i))) L (L.length : Int) (i : Int)) (wrap64 (areaS L), 0) := by
  intro d
  induction d with
  | zero =>
    intro i hi; refine one_round fun k => ?_
    rw [Cp.l0, if_neg (by omega), List.take_of_length_le (by omega)]
  | succ d ih =>
    intro i hi; have hlt : i < L.length := by omega
    have e : areaS (L.take (i + 1)) = areaS (L.take i) + sumS L[i] L[i].f2 := by
      unfold areaS; rw [List.take_succ_eq_append_getElem hlt, List.map_append, List.sum_append]
      simp
    have ih := ih (i + 1) (by omega); rw [e] at ih; have hbi := hb _ (List.getElem_mem hlt); have h1 := count_l1 L i (by omega) L[i] hbi.1 hbi.2 (areaS (L.take i)) ih L[i].f2.length 0 (Nat.zero_add _); refine Ev.step (fun k => ?_) h1; rw [Cp.l0, if_pos (by omega), if_pos (by omega), if_pos (by omega), rdB L i hlt]; show _ = Cp.l1 k (wrap64 (areaS (L.take i) + 0)) _ _ _ _ _ _ _ _ _; rw [Int.add_zero]; rfl
theorem count_val (a : List S58) : Ev (fun k => C8.f k a) (RG.countP (a.map rc)) := by
  unfold RG.countP; refine Ev.bind (right_val a) ?_
  by_cases ca : RG.rightP (a.map rc) = 0
  · rw [if_pos ca]
    refine Ev.congr (fun k => by rw [if_pos ca]) ?_; have hal := right_len ca; have hs := sweep_val a [] 49 hal (by simp); obtain ⟨h1, h2⟩ := sweep_small a [] 49 hal (by simp); rw [keep_first] at hs h1 h2
    simp only [List.map_nil] at hs h1 h2
    refine Ev.bind hs ?_; have hin := RG.sweep_in (a := a.map rc) (b := []) (keep := RG.firstB) ca rfl
    have h := count_l0 ((RG.sweepP (a.map rc) [] RG.firstB).map db) (by rw [List.length_map]; omega) (fun x hx => by
      obtain ⟨y, hy, rfl⟩ := List.mem_map.mp hx; obtain ⟨i1, i2, i3⟩ := hin y hy; refine ⟨⟨i1, i2, fun s hs => ?_⟩, ?_⟩
      · obtain ⟨t, ht, rfl⟩ := List.mem_map.mp hs
        exact i3 t ht
      · have := h2 y hy
        show (y.2.2.map ps).length ≤ _; rw [List.length_map]; omega) ((RG.sweepP (a.map rc) [] RG.firstB).map db).length 0 (Nat.zero_add _)
    have e1 : areaS ((RG.sweepP (a.map rc) [] RG.firstB).map db) = RG.areaI (RG.sweepP (a.map rc) [] RG.firstB) := by rw [areaS_eq, map_bd_db]
    have e2 : wrap64 (areaS (((RG.sweepP (a.map rc) [] RG.firstB).map db).take 0)) = 0 := by show wrap64 0 = 0; unfold wrap64; omega
    rw [e1, e2] at h
    have hw : wrap64 (RG.areaI (RG.sweepP (a.map rc) [] RG.firstB)) = RG.areaI (RG.sweepP (a.map rc) [] RG.firstB) := by
      rw [RG.areaI_eq _ (RG.sweep_ok (a.map rc) [] RG.firstB rfl).1, RG.area_val ca rfl rfl]; have := RG.cnt_le (fun x y => RG.firstB (RG.cov (a.map rc) x y) (RG.cov [] x y)) (-8192) 16384; unfold wrap64
      omega
    rw [hw] at h; exact h
  · rw [if_neg ca]
    exact Ev.congr (fun k => by rw [if_neg ca]) (Ev.now _)
end VR
end Go.Proofs.Ytobdfiglgdbecaa
end
