import Derived.Test.YthpmkelcjlljmaaXPRAx0
namespace Go.Proofs.Ythpmkelcjlljmaa.PRA
open Go.RowKit Go.Proofs.YthpmkelcjlljmaaW.PrintWords Go.Proofs.YthpmkelcjlljmaaW.PrintLast Go.Proofs.YthpmkelcjlljmaaW.PrintMore
attribute [local go_sem] max2_int min2_int max_two min_two max_three min_three max_four min_four
set_option linter.unusedVariables false
set_option linter.unusedSimpArgs false

def As.l0 : Nat → List Int → List Int → Int → Option (Bool)
 | 0, _, _, _ => none
 | k + 1, x0, x1, x5 => if x5 < (x0.length : Int) then (if 0 ≤ x5 then (if x5 < (x1.length : Int) then (if (rd x0 x5) = (rd x1 x5) then (As.l0 k x0 x1 (wrap64 (x5 + 1))) else (some false)) else (none)) else (none)) else (some true)
def As.f (k : Nat) (l0 : List Int) (l1 : List Int) : Option (Bool) := if (l0.length : Int) = (l1.length : Int) then (As.l0 k l0 l1 0) else (some false)
set_option maxHeartbeats 8000000 in
set_option maxRecDepth 100000 in
theorem As.calls (k : Nat) (A0 : Option Addr) (c0 : Nat) (l0 : List Int) (A1 : Option Addr) (c1 : Nat) (l1 : List Int) (r : Bool) (w : World) (hr0 : Kd.C (Kd.int .u32) w A0 l0.length l0) (hc0 : l0.length ≤ c0) (hr1 : Kd.C (Kd.int .u32) w A1 l1.length l1) (hc1 : l1.length ≤ c1) (h : As.f k l0 l1 = some r) :
  Calls Try.prog 25 #[.slice A0 l0.length c0, .slice A1 l1.length c1] w fun e w' => e = .returned (.bool r) ∧ Drawn0 w w' := by
 have HR0 := Ac.mk hr0
 have HC0 := Ac.mk hc0
 clear hr0 hc0
 have HR1 := Ac.mk hr1
 have HC1 := Ac.mk hc1
 clear hr1 hc1
 have H : (if (l0.length : Int) = (l1.length : Int) then (As.l0 k l0 l1 0) else (some false)) = some r := h
 clear h
 by_cases c3 : (l0.length : Int) = (l1.length : Int)
 ·rw [if_pos c3] at H
  have ak : ((l0.length : Int) == (l1.length : Int)) = true := beq_iff_eq.mpr c3
  have am : ((l0.length : Int) != (l1.length : Int)) = false := bne_eq_false_iff_eq.mpr c3
  have an : (l0.length == l1.length) = true := by first | simpa using c3 | (simp at c3 ⊢; omega)
  clear c3
  have H' := Ac.mk H
  clear H
  go_enter Try.func25, Try.ntmps25
  go_wp2
  repeat (go_quiet (fail); try go_wp2)
  go_loopg [5] k (fun kq v5 w' => ∃ (aa : Int), v5 = .int .i64 aa ∧ Ac (As.l0 kq l0 l1 aa = some r) ∧ Ac (kq ≤ k) ∧ Drawn0 w w')
  case atStart => exact ⟨(0), (by first | rfl | (simp; done) | (simp [*]; done)), H', ⟨Nat.le_refl _⟩, by repeat (first | exact Drawn0.refl _ | apply Drawn0.step)⟩
  case round =>
   clear H'
   try clear c1
   try clear c2
   try clear p2
   try clear c3
   try clear ak
   try clear am
   try clear an
   obtain ⟨aa, rfl, HA, HK1, ⟨m1, rfl⟩⟩ := hrel
   cases gk with
   | zero => exact absurd HA.out (by simp [As.l0])
   | succ k1 =>
    have H := HA.out
    clear HA
    simp only [As.l0] at H
    by_cases c4 : aa < (l0.length : Int)
    ·rw [if_pos c4] at H
     have aq : decide (aa < (l0.length : Int)) = true := decide_eq_true c4
     clear c4
     by_cases c5 : 0 ≤ aa
     ·rw [if_pos c5] at H
      have av : decide (0 ≤ aa) = true := decide_eq_true c5
      clear c5
      by_cases c6 : aa < (l1.length : Int)
      ·rw [if_pos c6] at H
       have aw : decide (aa < (l1.length : Int)) = true := decide_eq_true c6
       clear c6
       by_cases c7 : (rd l0 aa) = (rd l1 aa)
       ·rw [if_pos c7] at H
        have ar : ((rd l0 aa) == (rd l1 aa)) = true := beq_iff_eq.mpr c7
        have au : ((rd l0 aa) != (rd l1 aa)) = false := bne_eq_false_iff_eq.mpr c7
        clear c7
        have H' := Ac.mk H
        clear H
        have ac : 0 ≤ (aa : Int) := of_decide_eq_true (by with_reducible assumption)
        have af : aa < (l0.length : Int) := of_decide_eq_true (by with_reducible assumption)
        obtain ⟨ao, e111, ai⟩ := Kd.at_int HR0.out aa ac af
        cases e111
        replace ac := eq_true ac
        replace af := eq_true af
        have ag : 0 ≤ (aa : Int) := of_decide_eq_true (by with_reducible assumption)
        have ah : aa < (l1.length : Int) := of_decide_eq_true (by with_reducible assumption)
        obtain ⟨ap, e112, aj⟩ := Kd.at_int HR1.out aa ag ah
        cases e112
        replace ag := eq_true ag
        replace ah := eq_true ah
        go_wp2
        repeat (go_quiet (fail); try go_wp2)
        go_roundg k1
        case measure => have := HK1.out; omega
        case rel => exact ⟨(wrap64 (aa + 1)), (by first | rfl | (simp; done) | (simp [*]; done)), H', ⟨by have := HK1.out; omega⟩, by repeat (first | exact Drawn0.refl _ | apply Drawn0.step)⟩
       ·rw [if_neg c7] at H
        have ar : ((rd l0 aa) == (rd l1 aa)) = false := beq_eq_false_iff_ne.mpr c7
        have au : ((rd l0 aa) != (rd l1 aa)) = true := bne_iff_ne.mpr c7
        obtain rfl := Option.some.inj H
        have ac : 0 ≤ (aa : Int) := of_decide_eq_true (by with_reducible assumption)
        have af : aa < (l0.length : Int) := of_decide_eq_true (by with_reducible assumption)
        obtain ⟨ao, e111, ai⟩ := Kd.at_int HR0.out aa ac af
        cases e111
        replace ac := eq_true ac
        replace af := eq_true af
        have ag : 0 ≤ (aa : Int) := of_decide_eq_true (by with_reducible assumption)
        have ah : aa < (l1.length : Int) := of_decide_eq_true (by with_reducible assumption)
        obtain ⟨ap, e112, aj⟩ := Kd.at_int HR1.out aa ag ah
        cases e112
        replace ag := eq_true ag
        replace ah := eq_true ah
        go_wp2
        repeat (go_quiet (fail); try go_wp2)
        go_ret
        exact ⟨by first | rfl | (simp; done) | (simp [*]; done), by repeat (first | exact Drawn0.refl _ | apply Drawn0.step)⟩
      ·rw [if_neg c6] at H
       exact absurd H (by simp)
     ·rw [if_neg c5] at H
      exact absurd H (by simp)
    ·rw [if_neg c4] at H
     have aq : decide (aa < (l0.length : Int)) = false := decide_eq_false c4
     clear c4
     obtain rfl := Option.some.inj H
     go_wp2
     repeat (go_quiet (fail); try go_wp2)
     go_ret
     exact ⟨by first | rfl | (simp; done) | (simp [*]; done), by repeat (first | exact Drawn0.refl _ | apply Drawn0.step)⟩
 ·rw [if_neg c3] at H
  have ak : ((l0.length : Int) == (l1.length : Int)) = false := beq_eq_false_iff_ne.mpr c3
  have am : ((l0.length : Int) != (l1.length : Int)) = true := bne_iff_ne.mpr c3
  have an : (l0.length == l1.length) = false := by first | simpa using c3 | (simp at c3 ⊢; omega)
  obtain rfl := Option.some.inj H
  go_enter Try.func25, Try.ntmps25
  go_wp2
  repeat (go_quiet (fail); try go_wp2)
  go_ret
  exact ⟨by first | rfl | (simp; done) | (simp [*]; done), by repeat (first | exact Drawn0.refl _ | apply Drawn0.step)⟩

end Go.Proofs.Ythpmkelcjlljmaa.PRA

