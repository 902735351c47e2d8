import Derived.Test.YtobdfiglgdbecaaQPGRx0
section
namespace Go.Proofs.Ytobdfiglgdbecaa.PGR
open Go.Proofs.Ytobdfiglgdbecaa.PGA Go.Proofs.Ytobdfiglgdbecaa.PGB Go.Proofs.Ytobdfiglgdbecaa.PGH Go.Proofs.Ytobdfiglgdbecaa.PGI
open Go.RowKit Go.Proofs.YtobdfiglgdbecaaW.PrintWords Go.Proofs.YtobdfiglgdbecaaW.PrintLast Go.Proofs.YtobdfiglgdbecaaW.PrintMore
attribute [local go_sem] max2_int min2_int max_two min_two max_three min_three max_four min_four
set_option linter.unusedVariables false
set_option linter.unusedSimpArgs false

theorem eqA99 (d : Nat) (w : World) (x0 y0 : Int) (x1 y1 : Int) :
  (Op.equalIn (d + 2) 99 (.agg #[.int .i64 x0, .int .i64 x1]) (.agg #[.int .i64 y0, .int .i64 y1])).run Try.prog w = .ok (x0 == y0 && (x1 == y1)) w := by
 refine eqA_of Try.underlying99 (by kernel_rfl) ?_; refine eqf_cons (by rfl) (by go_simp; rfl) (by go_simp; rfl) (by go_simp) ?_; exact eqf_last (by rfl) (by go_simp; rfl) (by go_simp; rfl) (by go_simp)
end Go.Proofs.Ytobdfiglgdbecaa.PGR
end
section
namespace Go.Proofs.Ytobdfiglgdbecaa.PGR
open Go.Proofs.Ytobdfiglgdbecaa.PGA Go.Proofs.Ytobdfiglgdbecaa.PGB Go.Proofs.Ytobdfiglgdbecaa.PGH Go.Proofs.Ytobdfiglgdbecaa.PGI
open Go.RowKit Go.Proofs.YtobdfiglgdbecaaW.PrintWords Go.Proofs.YtobdfiglgdbecaaW.PrintLast Go.Proofs.YtobdfiglgdbecaaW.PrintMore
attribute [local go_sem] max2_int min2_int max_two min_two max_three min_three max_four min_four
set_option linter.unusedVariables false
set_option linter.unusedSimpArgs false

attribute [local go_sem high] eqA99
def Cf.l0 : Nat → List (S99) → List (S99) → Int → Option (Bool)
 | 0, _, _, _ => none
 | k + 1, x0, x1, x5 => if x5 < (x0.length : Int) then (if 0 ≤ x5 then (if x5 < (x1.length : Int) then (if (!(((rd_T99 x0 x5).f0) == ((rd_T99 x1 x5).f0)) || (!(((rd_T99 x0 x5).f1) == ((rd_T99 x1 x5).f1)))) = true then (some false) else (Cf.l0 k x0 x1 (wrap64 (x5 + 1)))) else (none)) else (none)) else (some true)
def Cf.f (k : Nat) (l0 : List (S99)) (l1 : List (S99)) : Option (Bool) := if (l0.length : Int) = (l1.length : Int) then (Cf.l0 k l0 l1 0) else (some false)
set_option maxHeartbeats 8000000 in
set_option maxRecDepth 100000 in
theorem Cf.calls (k : Nat) (A0 : Option Addr) (c0 : Nat) (l0 : List (S99)) (A1 : Option Addr) (c1 : Nat) (l1 : List (S99)) (r : Bool) (w : World) (hr0 : Kd.C k99 w A0 l0.length l0) (hc0 : l0.length ≤ c0) (hr1 : Kd.C k99 w A1 l1.length l1) (hc1 : l1.length ≤ c1) (h : Cf.f k l0 l1 = some r) :
  Calls Try.prog 78 #[.slice A0 l0.length c0, .slice A1 l1.length c1] w fun e w' => e = .returned (.bool r) ∧ Drawn0 w w' := by
 have hu99 := Try.underlying99; have HR0 := Aa.mk hr0; have HC0 := Aa.mk hc0; clear hr0 hc0; have HR1 := Aa.mk hr1; have HC1 := Aa.mk hc1; clear hr1 hc1; have H : (if (l0.length : Int) = (l1.length : Int) then (Cf.l0 k l0 l1 0) else (some false)) = some r := h; clear h
 by_cases c3 : (l0.length : Int) = (l1.length : Int)
 ·rw [if_pos c3] at H
  have ak : ((l0.length : Int) == (l1.length : Int)) = true := beq_iff_eq.mpr c3; have al : ((l0.length : Int) != (l1.length : Int)) = false := bne_eq_false_iff_eq.mpr c3; have am : (l0.length == l1.length) = true := by first | simpa using c3 | (simp at c3 ⊢; omega)
  clear c3; have H' := Aa.mk H; clear H; go_enter Try.func78, Try.ntmps78
  go_wp2
  repeat (go_quiet (fail); try go_wp2)
  go_loopg [5] k (fun kq v5 w' => ∃ (aa : Int), v5 = .int .i64 aa ∧ Aa (Cf.l0 kq l0 l1 aa = some r) ∧ Aa (kq ≤ k) ∧ Drawn0 w w')
  case atStart => exact ⟨(0), (by first | rfl | (simp; done) | (simp [*]; done)), H', ⟨Nat.le_refl _⟩, by repeat (first | exact Drawn0.refl _ | apply Drawn0.step)⟩
  case round =>
   clear H'; (try clear c1); (try clear p2); (try clear c3); (try clear ak); (try clear al); (try clear am); obtain ⟨aa, rfl, HA, HK1, ⟨m1, rfl⟩⟩ := hrel; cases gk with
   | zero => exact absurd HA.out (by simp [Cf.l0])
   | succ k1 =>
    have H := HA.out; clear HA
    simp only [Cf.l0] at H
    by_cases c4 : aa < (l0.length : Int)
    ·rw [if_pos c4] at H
     have ap : decide (aa < (l0.length : Int)) = true := decide_eq_true c4; clear c4
     by_cases c5 : 0 ≤ aa
     ·rw [if_pos c5] at H
      have ar : decide (0 ≤ aa) = true := decide_eq_true c5; clear c5
      by_cases c6 : aa < (l1.length : Int)
      ·rw [if_pos c6] at H
       have au : decide (aa < (l1.length : Int)) = true := decide_eq_true c6; clear c6
       by_cases c7 : (!(((rd_T99 l0 aa).f0) == ((rd_T99 l1 aa).f0)) || (!(((rd_T99 l0 aa).f1) == ((rd_T99 l1 aa).f1)))) = true
       ·rw [if_pos c7] at H
        have aq : (!(((rd_T99 l0 aa).f0) == ((rd_T99 l1 aa).f0)) || (!(((rd_T99 l0 aa).f1) == ((rd_T99 l1 aa).f1)))) = true := c7; clear c7; obtain rfl := Option.some.inj H; have ab : 0 ≤ (aa : Int) := of_decide_eq_true (by with_reducible assumption); have ac : aa < (l0.length : Int) := of_decide_eq_true (by with_reducible assumption); obtain ⟨an, e183, ag, ah⟩ := at_T99 HR0.out aa ab ac; cases e183; replace ab := eq_true ab; replace ac := eq_true ac; have ae : 0 ≤ (aa : Int) := of_decide_eq_true (by with_reducible assumption); have af : aa < (l1.length : Int) := of_decide_eq_true (by with_reducible assumption); obtain ⟨ao, e184, ai, aj⟩ := at_T99 HR1.out aa ae af; cases e184; replace ae := eq_true ae; replace af := eq_true af
        go_wp2
        repeat (go_quiet (fail); try go_wp2)
        go_ret
        exact ⟨by first | rfl | (simp; done) | (simp [*]; done), by repeat (first | exact Drawn0.refl _ | apply Drawn0.step)⟩
       ·rw [if_neg c7] at H
        have aq : (!(((rd_T99 l0 aa).f0) == ((rd_T99 l1 aa).f0)) || (!(((rd_T99 l0 aa).f1) == ((rd_T99 l1 aa).f1)))) = false := by simpa using c7
        clear c7; have H' := Aa.mk H; clear H; have ab : 0 ≤ (aa : Int) := of_decide_eq_true (by with_reducible assumption); have ac : aa < (l0.length : Int) := of_decide_eq_true (by with_reducible assumption); obtain ⟨an, e183, ag, ah⟩ := at_T99 HR0.out aa ab ac; cases e183; replace ab := eq_true ab; replace ac := eq_true ac; have ae : 0 ≤ (aa : Int) := of_decide_eq_true (by with_reducible assumption); have af : aa < (l1.length : Int) := of_decide_eq_true (by with_reducible assumption); obtain ⟨ao, e184, ai, aj⟩ := at_T99 HR1.out aa ae af; cases e184; replace ae := eq_true ae; replace af := eq_true af
        go_wp2
        repeat (go_quiet (fail); try go_wp2)
        go_roundg k1
        case measure => have := HK1.out; omega
        case rel => exact ⟨(wrap64 (aa + 1)), (by first | rfl | (simp; done) | (simp [*]; done)), H', ⟨by have := HK1.out; omega⟩, by repeat (first | exact Drawn0.refl _ | apply Drawn0.step)⟩
      ·rw [if_neg c6] at H
       exact absurd H (by simp)
     ·rw [if_neg c5] at H
      exact absurd H (by simp)
    ·rw [if_neg c4] at H
     have ap : decide (aa < (l0.length : Int)) = false := decide_eq_false c4; clear c4; obtain rfl := Option.some.inj H
     go_wp2
     repeat (go_quiet (fail); try go_wp2)
     go_ret
     exact ⟨by first | rfl | (simp; done) | (simp [*]; done), by repeat (first | exact Drawn0.refl _ | apply Drawn0.step)⟩
 ·rw [if_neg c3] at H
  have ak : ((l0.length : Int) == (l1.length : Int)) = false := beq_eq_false_iff_ne.mpr c3; have al : ((l0.length : Int) != (l1.length : Int)) = true := bne_iff_ne.mpr c3; have am : (l0.length == l1.length) = false := by first | simpa using c3 | (simp at c3 ⊢; omega)
  obtain rfl := Option.some.inj H; go_enter Try.func78, Try.ntmps78
  go_wp2
  repeat (go_quiet (fail); try go_wp2)
  go_ret
  exact ⟨by first | rfl | (simp; done) | (simp [*]; done), by repeat (first | exact Drawn0.refl _ | apply Drawn0.step)⟩

end Go.Proofs.Ytobdfiglgdbecaa.PGR
end
