import Derived.Test.YtobdfiglgdbecaaXPGHx0
import Derived.Test.YtobdfiglgdbecaaXPGHx1
namespace Go.Proofs.Ytobdfiglgdbecaa.PGH
open Go.Proofs.Ytobdfiglgdbecaa.PGA Go.Proofs.Ytobdfiglgdbecaa.PGB
open Go.RowKit Go.Proofs.YtobdfiglgdbecaaW.PrintWords Go.Proofs.YtobdfiglgdbecaaW.PrintLast Go.Proofs.YtobdfiglgdbecaaW.PrintMore
attribute [local go_sem] max2_int min2_int max_two min_two max_three min_three max_four min_four
set_option linter.unusedVariables false
set_option linter.unusedSimpArgs false

attribute [local go_sem high] eqA58
def An.f (a0 : Int) : Option (Int) := some a0
set_option maxHeartbeats 8000000 in
set_option maxRecDepth 100000 in
theorem An.calls (a0 : Int) (r : Int) (w : World) (h : An.f a0 = some r) :
  Calls Try.prog 14 #[.int .i64 a0] w fun e w' => e = .returned (.int .i64 r) ∧ Drawn0 w w' := by
 have H : (some a0) = some r := h
 clear h
 obtain rfl := Option.some.inj H
 go_enter Try.func14, Try.ntmps14
 go_wp2
 go_ret
 exact ⟨by first | rfl | (simp; done) | (simp [*]; done), by repeat (first | exact Drawn0.refl _ | apply Drawn0.step)⟩

def Ah.l0 : Nat → List (S58) → List (S58) → Int → Option (Bool)
 | 0, _, _, _ => none
 | k + 1, x0, x1, x5 => if x5 < (x0.length : Int) then (if 0 ≤ x5 then (if x5 < (x1.length : Int) then (if (!(((rd_T58 x0 x5).f0) == ((rd_T58 x1 x5).f0)) || (!(((rd_T58 x0 x5).f1) == ((rd_T58 x1 x5).f1)) || (!(((rd_T58 x0 x5).f2) == ((rd_T58 x1 x5).f2)) || (!(((rd_T58 x0 x5).f3) == ((rd_T58 x1 x5).f3)))))) = true then (some false) else (Ah.l0 k x0 x1 (wrap64 (x5 + 1)))) else (none)) else (none)) else (some true)
def Ah.f (k : Nat) (l0 : List (S58)) (l1 : List (S58)) : Option (Bool) := if (l0.length : Int) = (l1.length : Int) then (Ah.l0 k l0 l1 0) else (some false)
set_option maxHeartbeats 8000000 in
set_option maxRecDepth 100000 in
theorem Ah.calls (k : Nat) (A0 : Option Addr) (c0 : Nat) (l0 : List (S58)) (A1 : Option Addr) (c1 : Nat) (l1 : List (S58)) (r : Bool) (w : World) (hr0 : Kd.C k58 w A0 l0.length l0) (hc0 : l0.length ≤ c0) (hr1 : Kd.C k58 w A1 l1.length l1) (hc1 : l1.length ≤ c1) (h : Ah.f k l0 l1 = some r) :
  Calls Try.prog 15 #[.slice A0 l0.length c0, .slice A1 l1.length c1] w fun e w' => e = .returned (.bool r) ∧ Drawn0 w w' := by
 have hu58 := Try.underlying58
 have HR0 := Aa.mk hr0
 have HC0 := Aa.mk hc0
 clear hr0 hc0
 have HR1 := Aa.mk hr1
 have HC1 := Aa.mk hc1
 clear hr1 hc1
 have H : (if (l0.length : Int) = (l1.length : Int) then (Ah.l0 k l0 l1 0) else (some false)) = some r := h
 clear h
 by_cases c3 : (l0.length : Int) = (l1.length : Int)
 ·rw [if_pos c3] at H
  have aG : ((l0.length : Int) == (l1.length : Int)) = true := beq_iff_eq.mpr c3
  have aH : ((l0.length : Int) != (l1.length : Int)) = false := bne_eq_false_iff_eq.mpr c3
  have aI : (l0.length == l1.length) = true := by first | simpa using c3 | (simp at c3 ⊢; omega)
  clear c3
  have H' := Aa.mk H
  clear H
  go_enter Try.func15, Try.ntmps15
  go_wp2
  repeat (go_quiet (fail); try go_wp2)
  go_loopg [5] k (fun kq v5 w' => ∃ (ah : Int), v5 = .int .i64 ah ∧ Aa (Ah.l0 kq l0 l1 ah = some r) ∧ Aa (kq ≤ k) ∧ Drawn0 w w')
  case atStart => exact ⟨(0), (by first | rfl | (simp; done) | (simp [*]; done)), H', ⟨Nat.le_refl _⟩, by repeat (first | exact Drawn0.refl _ | apply Drawn0.step)⟩
  case round =>
   clear H'
   try clear c1
   try clear p2
   try clear c3
   try clear aG
   try clear aH
   try clear aI
   obtain ⟨ah, rfl, HA, HK1, ⟨m1, rfl⟩⟩ := hrel
   cases gk with
   | zero => exact absurd HA.out (by simp [Ah.l0])
   | succ k1 =>
    have H := HA.out
    clear HA
    simp only [Ah.l0] at H
    by_cases c4 : ah < (l0.length : Int)
    ·rw [if_pos c4] at H
     have aD : decide (ah < (l0.length : Int)) = true := decide_eq_true c4
     clear c4
     by_cases c5 : 0 ≤ ah
     ·rw [if_pos c5] at H
      have bE : decide (0 ≤ ah) = true := decide_eq_true c5
      clear c5
      by_cases c6 : ah < (l1.length : Int)
      ·rw [if_pos c6] at H
       have aJ : decide (ah < (l1.length : Int)) = true := decide_eq_true c6
       clear c6
       by_cases c7 : (!(((rd_T58 l0 ah).f0) == ((rd_T58 l1 ah).f0)) || (!(((rd_T58 l0 ah).f1) == ((rd_T58 l1 ah).f1)) || (!(((rd_T58 l0 ah).f2) == ((rd_T58 l1 ah).f2)) || (!(((rd_T58 l0 ah).f3) == ((rd_T58 l1 ah).f3)))))) = true
       ·rw [if_pos c7] at H
        have aE : (!(((rd_T58 l0 ah).f0) == ((rd_T58 l1 ah).f0)) || (!(((rd_T58 l0 ah).f1) == ((rd_T58 l1 ah).f1)) || (!(((rd_T58 l0 ah).f2) == ((rd_T58 l1 ah).f2)) || (!(((rd_T58 l0 ah).f3) == ((rd_T58 l1 ah).f3)))))) = true := c7
        clear c7
        obtain rfl := Option.some.inj H
        have am : 0 ≤ (ah : Int) := of_decide_eq_true (by with_reducible assumption)
        have an : ah < (l0.length : Int) := of_decide_eq_true (by with_reducible assumption)
        obtain ⟨aK, e154, au, av, aw, ax⟩ := at_T58 HR0.out ah am an
        cases e154
        replace am := eq_true am
        replace an := eq_true an
        have ao : 0 ≤ (ah : Int) := of_decide_eq_true (by with_reducible assumption)
        have ap : ah < (l1.length : Int) := of_decide_eq_true (by with_reducible assumption)
        obtain ⟨aM, e155, ay, az, aA, aC⟩ := at_T58 HR1.out ah ao ap
        cases e155
        replace ao := eq_true ao
        replace ap := eq_true ap
        go_wp2
        repeat (go_quiet (fail); try go_wp2)
        go_ret
        exact ⟨by first | rfl | (simp; done) | (simp [*]; done), by repeat (first | exact Drawn0.refl _ | apply Drawn0.step)⟩
       ·rw [if_neg c7] at H
        have aE : (!(((rd_T58 l0 ah).f0) == ((rd_T58 l1 ah).f0)) || (!(((rd_T58 l0 ah).f1) == ((rd_T58 l1 ah).f1)) || (!(((rd_T58 l0 ah).f2) == ((rd_T58 l1 ah).f2)) || (!(((rd_T58 l0 ah).f3) == ((rd_T58 l1 ah).f3)))))) = false := by simpa using c7
        clear c7
        have H' := Aa.mk H
        clear H
        have am : 0 ≤ (ah : Int) := of_decide_eq_true (by with_reducible assumption)
        have an : ah < (l0.length : Int) := of_decide_eq_true (by with_reducible assumption)
        obtain ⟨aK, e154, au, av, aw, ax⟩ := at_T58 HR0.out ah am an
        cases e154
        replace am := eq_true am
        replace an := eq_true an
        have ao : 0 ≤ (ah : Int) := of_decide_eq_true (by with_reducible assumption)
        have ap : ah < (l1.length : Int) := of_decide_eq_true (by with_reducible assumption)
        obtain ⟨aM, e155, ay, az, aA, aC⟩ := at_T58 HR1.out ah ao ap
        cases e155
        replace ao := eq_true ao
        replace ap := eq_true ap
        go_wp2
        repeat (go_quiet (fail); try go_wp2)
        go_roundg k1
        case measure => have := HK1.out; omega
        case rel => exact ⟨(wrap64 (ah + 1)), (by first | rfl | (simp; done) | (simp [*]; done)), H', ⟨by have := HK1.out; omega⟩, by repeat (first | exact Drawn0.refl _ | apply Drawn0.step)⟩
      ·rw [if_neg c6] at H
       exact absurd H (by simp)
     ·rw [if_neg c5] at H
      exact absurd H (by simp)
    ·rw [if_neg c4] at H
     have aD : decide (ah < (l0.length : Int)) = false := decide_eq_false c4
     clear c4
     obtain rfl := Option.some.inj H
     go_wp2
     repeat (go_quiet (fail); try go_wp2)
     go_ret
     exact ⟨by first | rfl | (simp; done) | (simp [*]; done), by repeat (first | exact Drawn0.refl _ | apply Drawn0.step)⟩
 ·rw [if_neg c3] at H
  have aG : ((l0.length : Int) == (l1.length : Int)) = false := beq_eq_false_iff_ne.mpr c3
  have aH : ((l0.length : Int) != (l1.length : Int)) = true := bne_iff_ne.mpr c3
  have aI : (l0.length == l1.length) = false := by first | simpa using c3 | (simp at c3 ⊢; omega)
  obtain rfl := Option.some.inj H
  go_enter Try.func15, Try.ntmps15
  go_wp2
  repeat (go_quiet (fail); try go_wp2)
  go_ret
  exact ⟨by first | rfl | (simp; done) | (simp [*]; done), by repeat (first | exact Drawn0.refl _ | apply Drawn0.step)⟩

def Ax.l0 : Nat → List (S58) → Int → Int → Int → Option (Bool)
 | 0, _, _, _, _ => none
 | k + 1, x0, x1, x2, x7 => if x7 < (x0.length : Int) then (if 0 ≤ x7 then (if x1 ≥ ((rd_T58 x0 x7).f0) then (if x1 < ((rd_T58 x0 x7).f2) then (if x2 ≥ ((rd_T58 x0 x7).f1) then (if x2 < ((rd_T58 x0 x7).f3) then (some true) else (Ax.l0 k x0 x1 x2 (wrap64 (x7 + 1)))) else (Ax.l0 k x0 x1 x2 (wrap64 (x7 + 1)))) else (Ax.l0 k x0 x1 x2 (wrap64 (x7 + 1)))) else (Ax.l0 k x0 x1 x2 (wrap64 (x7 + 1)))) else (none)) else (some false)
def Ax.f (k : Nat) (l0 : List (S58)) (a1 : Int) (a2 : Int) : Option (Bool) := Ax.l0 k l0 a1 a2 0
set_option maxHeartbeats 8000000 in
set_option maxRecDepth 100000 in
theorem Ax.calls (k : Nat) (A0 : Option Addr) (c0 : Nat) (l0 : List (S58)) (a1 : Int) (a2 : Int) (r : Bool) (w : World) (hr0 : Kd.C k58 w A0 l0.length l0) (hc0 : l0.length ≤ c0) (h : Ax.f k l0 a1 a2 = some r) :
  Calls Try.prog 32 #[.slice A0 l0.length c0, .int .i64 a1, .int .i64 a2] w fun e w' => e = .returned (.bool r) ∧ Below w.heap.size w w' := by
 have hu58 := Try.underlying58
 have HR0 := Aa.mk hr0
 have HC0 := Aa.mk hc0
 clear hr0 hc0
 have HB := Aa.mk (Below.refl w.heap.size w)
 have H : (Ax.l0 k l0 a1 a2 0) = some r := h
 clear h
 have H' := Aa.mk H
 clear H
 go_enter Try.func32, Try.ntmps32
 go_wp2
 go_loopg [7] k (fun kq v7 w' => ∃ (ai : Int), v7 = .int .i64 ai ∧ Aa (Ax.l0 kq l0 a1 a2 ai = some r) ∧ Aa (kq ≤ k) ∧ Aa (Below w.heap.size w w'))
 case atStart => exact ⟨(0), (by first | rfl | (simp; done) | (simp [*]; done)), H', ⟨Nat.le_refl _⟩, ⟨by repeat (first | (with_reducible first | exact HB.out | apply Ae | apply Ac | apply Ad) | exact HB.out)⟩⟩
 case round =>
  clear H'
  try clear p2
  try clear c3
  obtain ⟨ai, rfl, HA, HK1, HB⟩ := hrel
  cases gk with
  | zero => exact absurd HA.out (by simp [Ax.l0])
  | succ k1 =>
   have H := HA.out
   clear HA
   simp only [Ax.l0] at H
   by_cases c4 : ai < (l0.length : Int)
   ·rw [if_pos c4] at H
    have aD : decide (ai < (l0.length : Int)) = true := decide_eq_true c4
    clear c4
    by_cases c5 : 0 ≤ ai
    ·rw [if_pos c5] at H
     have bE : decide (0 ≤ ai) = true := decide_eq_true c5
     clear c5
     by_cases c6 : a1 ≥ ((rd_T58 l0 ai).f0)
     ·rw [if_pos c6] at H
      have aJ : decide (((rd_T58 l0 ai).f0) ≤ a1) = true := decide_eq_true c6
      clear c6
      by_cases c7 : a1 < ((rd_T58 l0 ai).f2)
      ·rw [if_pos c7] at H
       have aE : decide (a1 < ((rd_T58 l0 ai).f2)) = true := decide_eq_true c7
       clear c7
       by_cases c8 : a2 ≥ ((rd_T58 l0 ai).f1)
       ·rw [if_pos c8] at H
        have bF : decide (((rd_T58 l0 ai).f1) ≤ a2) = true := decide_eq_true c8
        clear c8
        by_cases c9 : a2 < ((rd_T58 l0 ai).f3)
        ·rw [if_pos c9] at H
         have bG : decide (a2 < ((rd_T58 l0 ai).f3)) = true := decide_eq_true c9
         clear c9
         obtain rfl := Option.some.inj H
         have aj : 0 ≤ (ai : Int) := of_decide_eq_true (by with_reducible assumption)
         have ak : ai < (l0.length : Int) := of_decide_eq_true (by with_reducible assumption)
         obtain ⟨aq, e156, ac, ae, af, ag⟩ := at_T58 HR0.out ai aj ak
         cases e156
         replace ac := (HB.out.cell (World.block_lt_of_cell? w _ ac)).trans ac
         replace ae := (HB.out.cell (World.block_lt_of_cell? w _ ae)).trans ae
         replace af := (HB.out.cell (World.block_lt_of_cell? w _ af)).trans af
         replace ag := (HB.out.cell (World.block_lt_of_cell? w _ ag)).trans ag
         replace aj := eq_true aj
         replace ak := eq_true ak
         go_wp2_with (first | ((with_reducible refine Bo (N := 8) rfl ?_); refine B2 ?hg (N := 8) ?hd (cs := #[.int .i64 0, .int .i64 0, .int .i64 0, .int .i64 0]) (t := 58) ?hr ?_; (case hd => rfl); (case hg => rfl); (case hr => first | (go_simp; done) | (go_simp; rfl)); intro ab hg w10 hbox hb; have n0_ := Aa.mk (Ai (lU HB.out) hb); have n1_ := Aa.mk (hbox); have n2_ := Aa.mk ((by rw [hg]; exact (Af (lU HB.out)) : w.heap.size ≤ ab)); have n3_ := Aa.mk ((by rw [hg]; exact (Af (lU HB.out)) : w.heap.size ≤ ab)); clear HB; have HB := n0_; have aa := n1_; have ar := n2_; have al := n3_; clear n0_ n1_ n2_ n3_; clear hb hbox hg; have aN : w10.cell? ⟨ab, 0, none⟩ = some (.int .i64 0) := (Ak aa.out 0).trans rfl; have aQ : w10.cell? ⟨ab, 1, none⟩ = some (.int .i64 0) := (Ak aa.out 1).trans rfl; have aT : w10.cell? ⟨ab, 2, none⟩ = some (.int .i64 0) := (Ak aa.out 2).trans rfl; have aU : w10.cell? ⟨ab, 3, none⟩ = some (.int .i64 0) := (Ak aa.out 3).trans rfl; have aV := Ag aa.out 0; have aW := Ag aa.out 1; have aX := Ag aa.out 2; have aY := Ag aa.out 3))
         go_ret
         exact ⟨by first | rfl | (simp [Av, Au] <;> rfl) | (simp [*, Av, Au] <;> rfl), by repeat (first | (with_reducible first | exact HB.out | apply Ae | apply Ac | apply Ad | refine Ar ?_ al.out) | exact HB.out)⟩
        ·rw [if_neg c9] at H
         have bG : decide (a2 < ((rd_T58 l0 ai).f3)) = false := decide_eq_false c9
         clear c9
         have H' := Aa.mk H
         clear H
         have aj : 0 ≤ (ai : Int) := of_decide_eq_true (by with_reducible assumption)
         have ak : ai < (l0.length : Int) := of_decide_eq_true (by with_reducible assumption)
         obtain ⟨aq, e156, ac, ae, af, ag⟩ := at_T58 HR0.out ai aj ak
         cases e156
         replace ac := (HB.out.cell (World.block_lt_of_cell? w _ ac)).trans ac
         replace ae := (HB.out.cell (World.block_lt_of_cell? w _ ae)).trans ae
         replace af := (HB.out.cell (World.block_lt_of_cell? w _ af)).trans af
         replace ag := (HB.out.cell (World.block_lt_of_cell? w _ ag)).trans ag
         replace aj := eq_true aj
         replace ak := eq_true ak
         go_wp2_with (first | ((with_reducible refine Bo (N := 8) rfl ?_); refine B2 ?hg (N := 8) ?hd (cs := #[.int .i64 0, .int .i64 0, .int .i64 0, .int .i64 0]) (t := 58) ?hr ?_; (case hd => rfl); (case hg => rfl); (case hr => first | (go_simp; done) | (go_simp; rfl)); intro ab hg w12 hbox hb; have n0_ := Aa.mk (Ai (lU HB.out) hb); have n1_ := Aa.mk (hbox); have n2_ := Aa.mk ((by rw [hg]; exact (Af (lU HB.out)) : w.heap.size ≤ ab)); have n3_ := Aa.mk ((by rw [hg]; exact (Af (lU HB.out)) : w.heap.size ≤ ab)); clear HB; have HB := n0_; have aa := n1_; have ar := n2_; have al := n3_; clear n0_ n1_ n2_ n3_; clear hb hbox hg; have aZ : w12.cell? ⟨ab, 0, none⟩ = some (.int .i64 0) := (Ak aa.out 0).trans rfl; have a5 : w12.cell? ⟨ab, 1, none⟩ = some (.int .i64 0) := (Ak aa.out 1).trans rfl; have a6 : w12.cell? ⟨ab, 2, none⟩ = some (.int .i64 0) := (Ak aa.out 2).trans rfl; have a7 : w12.cell? ⟨ab, 3, none⟩ = some (.int .i64 0) := (Ak aa.out 3).trans rfl; have a8 := Ag aa.out 0; have a9 := Ag aa.out 1; have ba := Ag aa.out 2; have bb := Ag aa.out 3))
         go_roundg k1
         case measure => have := HK1.out; omega
         case rel => exact ⟨(wrap64 (ai + 1)), (by first | rfl | (simp; done) | (simp [*]; done)), H', ⟨by have := HK1.out; omega⟩, ⟨by repeat (first | (with_reducible first | exact HB.out | apply Ae | apply Ac | apply Ad | refine Ar ?_ al.out) | exact HB.out)⟩⟩
       ·rw [if_neg c8] at H
        have bF : decide (((rd_T58 l0 ai).f1) ≤ a2) = false := decide_eq_false c8
        clear c8
        have H' := Aa.mk H
        clear H
        have aj : 0 ≤ (ai : Int) := of_decide_eq_true (by with_reducible assumption)
        have ak : ai < (l0.length : Int) := of_decide_eq_true (by with_reducible assumption)
        obtain ⟨aq, e156, ac, ae, af, ag⟩ := at_T58 HR0.out ai aj ak
        cases e156
        replace ac := (HB.out.cell (World.block_lt_of_cell? w _ ac)).trans ac
        replace ae := (HB.out.cell (World.block_lt_of_cell? w _ ae)).trans ae
        replace af := (HB.out.cell (World.block_lt_of_cell? w _ af)).trans af
        replace ag := (HB.out.cell (World.block_lt_of_cell? w _ ag)).trans ag
        replace aj := eq_true aj
        replace ak := eq_true ak
        go_wp2_with (first | ((with_reducible refine Bo (N := 8) rfl ?_); refine B2 ?hg (N := 8) ?hd (cs := #[.int .i64 0, .int .i64 0, .int .i64 0, .int .i64 0]) (t := 58) ?hr ?_; (case hd => rfl); (case hg => rfl); (case hr => first | (go_simp; done) | (go_simp; rfl)); intro ab hg w14 hbox hb; have n0_ := Aa.mk (Ai (lU HB.out) hb); have n1_ := Aa.mk (hbox); have n2_ := Aa.mk ((by rw [hg]; exact (Af (lU HB.out)) : w.heap.size ≤ ab)); have n3_ := Aa.mk ((by rw [hg]; exact (Af (lU HB.out)) : w.heap.size ≤ ab)); clear HB; have HB := n0_; have aa := n1_; have ar := n2_; have al := n3_; clear n0_ n1_ n2_ n3_; clear hb hbox hg; have bc : w14.cell? ⟨ab, 0, none⟩ = some (.int .i64 0) := (Ak aa.out 0).trans rfl; have be : w14.cell? ⟨ab, 1, none⟩ = some (.int .i64 0) := (Ak aa.out 1).trans rfl; have bf : w14.cell? ⟨ab, 2, none⟩ = some (.int .i64 0) := (Ak aa.out 2).trans rfl; have bg : w14.cell? ⟨ab, 3, none⟩ = some (.int .i64 0) := (Ak aa.out 3).trans rfl; have bh := Ag aa.out 0; have bi := Ag aa.out 1; have bj := Ag aa.out 2; have bk := Ag aa.out 3))
        go_roundg k1
        case measure => have := HK1.out; omega
        case rel => exact ⟨(wrap64 (ai + 1)), (by first | rfl | (simp; done) | (simp [*]; done)), H', ⟨by have := HK1.out; omega⟩, ⟨by repeat (first | (with_reducible first | exact HB.out | apply Ae | apply Ac | apply Ad | refine Ar ?_ al.out) | exact HB.out)⟩⟩
      ·rw [if_neg c7] at H
       have aE : decide (a1 < ((rd_T58 l0 ai).f2)) = false := decide_eq_false c7
       clear c7
       have H' := Aa.mk H
       clear H
       have aj : 0 ≤ (ai : Int) := of_decide_eq_true (by with_reducible assumption)
       have ak : ai < (l0.length : Int) := of_decide_eq_true (by with_reducible assumption)
       obtain ⟨aq, e156, ac, ae, af, ag⟩ := at_T58 HR0.out ai aj ak
       cases e156
       replace ac := (HB.out.cell (World.block_lt_of_cell? w _ ac)).trans ac
       replace ae := (HB.out.cell (World.block_lt_of_cell? w _ ae)).trans ae
       replace af := (HB.out.cell (World.block_lt_of_cell? w _ af)).trans af
       replace ag := (HB.out.cell (World.block_lt_of_cell? w _ ag)).trans ag
       replace aj := eq_true aj
       replace ak := eq_true ak
       go_wp2_with (first | ((with_reducible refine Bo (N := 8) rfl ?_); refine B2 ?hg (N := 8) ?hd (cs := #[.int .i64 0, .int .i64 0, .int .i64 0, .int .i64 0]) (t := 58) ?hr ?_; (case hd => rfl); (case hg => rfl); (case hr => first | (go_simp; done) | (go_simp; rfl)); intro ab hg w16 hbox hb; have n0_ := Aa.mk (Ai (lU HB.out) hb); have n1_ := Aa.mk (hbox); have n2_ := Aa.mk ((by rw [hg]; exact (Af (lU HB.out)) : w.heap.size ≤ ab)); have n3_ := Aa.mk ((by rw [hg]; exact (Af (lU HB.out)) : w.heap.size ≤ ab)); clear HB; have HB := n0_; have aa := n1_; have ar := n2_; have al := n3_; clear n0_ n1_ n2_ n3_; clear hb hbox hg; have bl : w16.cell? ⟨ab, 0, none⟩ = some (.int .i64 0) := (Ak aa.out 0).trans rfl; have bm : w16.cell? ⟨ab, 1, none⟩ = some (.int .i64 0) := (Ak aa.out 1).trans rfl; have bn : w16.cell? ⟨ab, 2, none⟩ = some (.int .i64 0) := (Ak aa.out 2).trans rfl; have bo : w16.cell? ⟨ab, 3, none⟩ = some (.int .i64 0) := (Ak aa.out 3).trans rfl; have bp := Ag aa.out 0; have bq := Ag aa.out 1; have br := Ag aa.out 2; have bs := Ag aa.out 3))
       go_roundg k1
       case measure => have := HK1.out; omega
       case rel => exact ⟨(wrap64 (ai + 1)), (by first | rfl | (simp; done) | (simp [*]; done)), H', ⟨by have := HK1.out; omega⟩, ⟨by repeat (first | (with_reducible first | exact HB.out | apply Ae | apply Ac | apply Ad | refine Ar ?_ al.out) | exact HB.out)⟩⟩
     ·rw [if_neg c6] at H
      have aJ : decide (((rd_T58 l0 ai).f0) ≤ a1) = false := decide_eq_false c6
      clear c6
      have H' := Aa.mk H
      clear H
      have aj : 0 ≤ (ai : Int) := of_decide_eq_true (by with_reducible assumption)
      have ak : ai < (l0.length : Int) := of_decide_eq_true (by with_reducible assumption)
      obtain ⟨aq, e156, ac, ae, af, ag⟩ := at_T58 HR0.out ai aj ak
      cases e156
      replace ac := (HB.out.cell (World.block_lt_of_cell? w _ ac)).trans ac
      replace ae := (HB.out.cell (World.block_lt_of_cell? w _ ae)).trans ae
      replace af := (HB.out.cell (World.block_lt_of_cell? w _ af)).trans af
      replace ag := (HB.out.cell (World.block_lt_of_cell? w _ ag)).trans ag
      replace aj := eq_true aj
      replace ak := eq_true ak
      go_wp2_with (first | ((with_reducible refine Bo (N := 8) rfl ?_); refine B2 ?hg (N := 8) ?hd (cs := #[.int .i64 0, .int .i64 0, .int .i64 0, .int .i64 0]) (t := 58) ?hr ?_; (case hd => rfl); (case hg => rfl); (case hr => first | (go_simp; done) | (go_simp; rfl)); intro ab hg w18 hbox hb; have n0_ := Aa.mk (Ai (lU HB.out) hb); have n1_ := Aa.mk (hbox); have n2_ := Aa.mk ((by rw [hg]; exact (Af (lU HB.out)) : w.heap.size ≤ ab)); have n3_ := Aa.mk ((by rw [hg]; exact (Af (lU HB.out)) : w.heap.size ≤ ab)); clear HB; have HB := n0_; have aa := n1_; have ar := n2_; have al := n3_; clear n0_ n1_ n2_ n3_; clear hb hbox hg; have bu : w18.cell? ⟨ab, 0, none⟩ = some (.int .i64 0) := (Ak aa.out 0).trans rfl; have bv : w18.cell? ⟨ab, 1, none⟩ = some (.int .i64 0) := (Ak aa.out 1).trans rfl; have bw : w18.cell? ⟨ab, 2, none⟩ = some (.int .i64 0) := (Ak aa.out 2).trans rfl; have bx : w18.cell? ⟨ab, 3, none⟩ = some (.int .i64 0) := (Ak aa.out 3).trans rfl; have bz := Ag aa.out 0; have bB := Ag aa.out 1; have bC := Ag aa.out 2; have bD := Ag aa.out 3))
      go_roundg k1
      case measure => have := HK1.out; omega
      case rel => exact ⟨(wrap64 (ai + 1)), (by first | rfl | (simp; done) | (simp [*]; done)), H', ⟨by have := HK1.out; omega⟩, ⟨by repeat (first | (with_reducible first | exact HB.out | apply Ae | apply Ac | apply Ad | refine Ar ?_ al.out) | exact HB.out)⟩⟩
    ·rw [if_neg c5] at H
     exact absurd H (by simp)
   ·rw [if_neg c4] at H
    have aD : decide (ai < (l0.length : Int)) = false := decide_eq_false c4
    clear c4
    obtain rfl := Option.some.inj H
    go_wp2
    go_ret
    exact ⟨by first | rfl | (simp [Av, Au] <;> rfl) | (simp [*, Av, Au] <;> rfl), by repeat (first | (with_reducible first | exact HB.out | apply Ae | apply Ac | apply Ad) | exact HB.out)⟩

end Go.Proofs.Ytobdfiglgdbecaa.PGH

