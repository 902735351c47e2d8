import Derived.Test.YtbfimplajocmmaaYUQ
import Derived.Test.YtbfimplajocmmaaYPRAx0
import Derived.Test.YtbfimplajocmmaaYPFAx2
import Derived.Shelf.SlSortCmp.NoneTotal
import Derived.Shelf.Lay
import Derived.Ground.SlsfProg
import Derived.Lib.RowBridge
import Derived.Lib.SortBridge
import Derived.WalkKit
section
namespace Go.Proofs.Ytbfimplajocmmaa.PRA
open Go.Proofs.Ytbfimplajocmmaa.PFA Go.Proofs.Ytbfimplajocmmaa.PFC Go.Proofs.Ytbfimplajocmmaa.PFD Go.Proofs.Ytbfimplajocmmaa.PFK
open Go.RowKit Go.Proofs.YtbfimplajocmmaaW.PrintWords Go.Proofs.YtbfimplajocmmaaW.PrintLast Go.Proofs.YtbfimplajocmmaaW.PrintMore
attribute [local go_sem] max2_int min2_int max_two min_two max_three min_three max_four min_four
set_option linter.unusedVariables false
set_option linter.unusedSimpArgs false

def Dg.f (a0 : Int) (a1 : Int) : Option (Int) := if a1 = 0 then (none) else (some (Int.tmod (wrap64 ((Int.tmod a0 a1) + a1)) a1))
set_option maxHeartbeats 8000000 in
set_option maxRecDepth 100000 in
theorem Dg.calls (a0 : Int) (a1 : Int) (r : Int) (w : World) (h : Dg.f a0 a1 = some r) :
  Calls Try.prog 102 #[.int .i64 a0, .int .i64 a1] w fun e w' => e = .returned (.int .i64 r) ∧ Drawn0 w w' := by
 have H : (if a1 = 0 then (none) else (some (Int.tmod (wrap64 ((Int.tmod a0 a1) + a1)) a1))) = some r := h; clear h
 by_cases c3 : a1 = 0
 ·rw [if_pos c3] at H
  exact absurd H (by simp)
 ·rw [if_neg c3] at H
  have dA : (a1 == 0) = false := beq_eq_false_iff_ne.mpr c3; have dB : (a1 != 0) = true := bne_iff_ne.mpr c3; obtain rfl := Option.some.inj H; go_enter Try.func102, Try.ntmps102
  go_wp2
  go_ret
  exact ⟨by first | rfl | (simp; done) | (simp [*]; done), by repeat (first | exact Drawn0.refl _ | apply Drawn0.step)⟩

mutual
def B7.j0 : Nat → Int → Int → Int → Bool → Option (Int × Int)
 | 0, _, _, _, _ => none
 | k + 1, x0, x1, x2, x9 => if x9 = true then (some (0, 53)) else (if x1 < 1 then (B7.j1 k x0 x1 x2 true) else (B7.j1 k x0 x1 x2 (decide (x1 > 1024))))
def B7.j1 : Nat → Int → Int → Int → Bool → Option (Int × Int)
 | 0, _, _, _, _ => none
 | k + 1, x0, x1, x2, x16 => if x16 = true then (some (0, 50)) else (if x0 = 1 then (some (mn (mx x2 0) (wrap64 (x1 - 1)), 0)) else (if x0 = 3 then ((Dg.f x2 x1).bind fun bY => (some (bY, 0))) else (if x1 = 1 then (some (0, 0)) else ((Dg.f x2 (wrap64 (2 * (wrap64 (x1 - 1))))).bind fun aq => (some (mn aq (wrap64 ((wrap64 (2 * (wrap64 (x1 - 1)))) - aq)), 0))))))
end
def B7.f (k : Nat) (a0 : Int) (a1 : Int) (a2 : Int) : Option (Int × Int) := if a0 < 1 then (B7.j0 k a0 a1 a2 true) else (B7.j0 k a0 a1 a2 (decide (a0 > 3)))
set_option maxHeartbeats 8000000 in
set_option maxRecDepth 100000 in
theorem B7.calls (k : Nat) (a0 : Int) (a1 : Int) (a2 : Int) (r1 : Int) (r2 : Int) (w : World) (h : B7.f k a0 a1 a2 = some (r1, r2)) :
  Calls Try.prog 99 #[.int .i64 a0, .int .i64 a1, .int .i64 a2] w fun e w' => e = .returned (.tuple #[.int .i64 r1, .int .i64 r2]) ∧ Below w.heap.size w w' := by
 have HB := Ac.mk (Below.refl w.heap.size w); have H : (if a0 < 1 then (B7.j0 k a0 a1 a2 true) else (B7.j0 k a0 a1 a2 (decide (a0 > 3)))) = some (r1, r2) := h; clear h; have HC4 := Ac.mk H; clear H; go_enter Try.func99, Try.ntmps99
 go_upto_region 1 with (fail)
 go_cut [9] (fun v9 wc => ∃ (kq : Nat) (aH : Bool), v9 = .bool aH ∧ Ac (B7.j0 kq a0 a1 a2 aH = some (r1, r2)) ∧ Ac (kq ≤ k) ∧ Ac (Below w.heap.size w wc))
 case first =>
  have H := HC4.out; clear HC4
  by_cases c5 : a0 < 1
  ·rw [if_pos c5] at H
   have ax : decide (a0 < 1) = true := decide_eq_true c5; clear c5; (first | rw [ax] | (simp only [i64_w, i32_w]; rw [ax]) | skip); have H' := Ac.mk H; clear H
   go_wp2
   go_meet
   case rel => exact ⟨_, (true), (by first | rfl | (simp; done) | (simp [*]; done)), H', ⟨by first | omega | exact Nat.le_refl _⟩, ⟨by repeat (first | (with_reducible first | exact HB.out | apply Ah | apply Ae | apply Ai) | exact HB.out)⟩⟩
  ·rw [if_neg c5] at H
   have ax : decide (a0 < 1) = false := decide_eq_false c5; clear c5; (first | rw [ax] | (simp only [i64_w, i32_w]; rw [ax]) | skip); have H' := Ac.mk H; clear H
   go_wp2
   go_meet
   case rel => exact ⟨_, (decide (a0 > 3)), (by first | rfl | (simp; done) | (simp [*]; done)), H', ⟨by first | omega | exact Nat.le_refl _⟩, ⟨by repeat (first | (with_reducible first | exact HB.out | apply Ah | apply Ae | apply Ai) | exact HB.out)⟩⟩
 case rest =>
  clear HC4; (try clear p2); (try clear c5); (try clear ax); obtain ⟨kq, aH, rfl, HA, HJ3, HB⟩ := hcut; cases kq with
  | zero => exact absurd HA.out (by simp [B7.j0])
  | succ kj3 =>
   have H := HA.out; clear HA
   simp only [B7.j0] at H
   by_cases c6 : aH = true
   ·subst c6
    have H1 := H; rw [if_pos rfl] at H1; clear H; have H := H1; clear H1
    simp only [Option.some.injEq, Prod.mk.injEq] at H
    obtain ⟨rfl, rfl⟩ := H
    go_wp2
    go_ret2
    exact ⟨by first | rfl | (simp [At, As] <;> rfl) | (simp [*, At, As] <;> rfl), by repeat (first | (with_reducible first | exact HB.out | apply Ah | apply Ae | apply Ai) | exact HB.out)⟩
   ·replace c6 := Bool.eq_false_iff.mpr c6
    subst c6; have H1 := H; rw [if_neg (show ¬ (false = true) by decide)] at H1; clear H; have H := H1; clear H1; have HC7 := Ac.mk H; clear H
    go_upto_region 3 with (fail)
    go_cut [16] (fun v16 wc => ∃ (kq : Nat) (ay : Bool), v16 = .bool ay ∧ Ac (B7.j1 kq a0 a1 a2 ay = some (r1, r2)) ∧ Ac (kq ≤ kj3) ∧ Ac (Below w.heap.size w wc))
    case first =>
     have H := HC7.out; clear HC7
     by_cases c8 : a1 < 1
     ·rw [if_pos c8] at H
      have ar : decide (a1 < 1) = true := decide_eq_true c8; clear c8; (first | rw [ar] | (simp only [i64_w, i32_w]; rw [ar]) | skip); have H' := Ac.mk H; clear H
      go_wp2
      go_meet
      case rel => exact ⟨_, (true), (by first | rfl | (simp; done) | (simp [*]; done)), H', ⟨by have := HJ3.out; first | omega | exact Nat.le_refl _⟩, ⟨by repeat (first | (with_reducible first | exact HB.out | apply Ah | apply Ae | apply Ai) | exact HB.out)⟩⟩
     ·rw [if_neg c8] at H
      have ar : decide (a1 < 1) = false := decide_eq_false c8; clear c8; (first | rw [ar] | (simp only [i64_w, i32_w]; rw [ar]) | skip); have H' := Ac.mk H; clear H
      go_wp2
      go_meet
      case rel => exact ⟨_, (decide (a1 > 1024)), (by first | rfl | (simp; done) | (simp [*]; done)), H', ⟨by have := HJ3.out; first | omega | exact Nat.le_refl _⟩, ⟨by repeat (first | (with_reducible first | exact HB.out | apply Ah | apply Ae | apply Ai) | exact HB.out)⟩⟩
    case rest =>
     clear HC7; (try clear p2); (try clear c5); (try clear ax); (try clear c6); (try clear c8); (try clear ar); (try clear p2); obtain ⟨kq, ay, rfl, HA, HJ6, HB⟩ := hcut; cases kq with
     | zero => exact absurd HA.out (by simp [B7.j1])
     | succ kj6 =>
      have H := HA.out; clear HA
      simp only [B7.j1] at H
      by_cases c9 : ay = true
      ·subst c9
       have H1 := H; rw [if_pos rfl] at H1; clear H; have H := H1; clear H1
       simp only [Option.some.injEq, Prod.mk.injEq] at H
       obtain ⟨rfl, rfl⟩ := H
       go_wp2
       go_ret2
       exact ⟨by first | rfl | (simp [At, As] <;> rfl) | (simp [*, At, As] <;> rfl), by repeat (first | (with_reducible first | exact HB.out | apply Ah | apply Ae | apply Ai) | exact HB.out)⟩
      ·replace c9 := Bool.eq_false_iff.mpr c9
       subst c9; have H1 := H; rw [if_neg (show ¬ (false = true) by decide)] at H1; clear H; have H := H1; clear H1
       by_cases c10 : a0 = 1
       ·rw [if_pos c10] at H
        have cp : (a0 == 1) = true := beq_iff_eq.mpr c10; have cr : (a0 != 1) = false := bne_eq_false_iff_eq.mpr c10; clear c10; obtain ⟨aE, az⟩ : ∃ j_ : Int, (mx a2 0) = j_ := ⟨_, rfl⟩; replace H : (some (mn (aE) (wrap64 (a1 - 1)), 0)) = some (r1, r2) := by first | (rw [az] at H; exact H) | (simp only [az] at H ⊢; exact H)
        have hji11_ : (if a2 < 0 then 0 else a2) = aE := az; obtain ⟨ct, aA⟩ : ∃ j_ : Int, (mn (aE) (wrap64 (a1 - 1))) = j_ := ⟨_, rfl⟩; replace H : (some (ct, 0)) = some (r1, r2) := by first | (rw [aA] at H; exact H) | (simp only [aA] at H ⊢; exact H)
        have hji12_ : (if (wrap64 (a1 - 1)) < (aE) then (wrap64 (a1 - 1)) else (aE)) = ct := aA
        simp only [Option.some.injEq, Prod.mk.injEq] at H
        obtain ⟨rfl, rfl⟩ := H
        go_wp2
        go_ret2
        exact ⟨by first | rfl | (simp [At, As] <;> rfl) | (simp only [← az, ← aA]; first | rfl | (simp [At, As] <;> rfl)) | (simp [*, At, As] <;> rfl), by repeat (first | (with_reducible first | exact HB.out | apply Ah | apply Ae | apply Ai) | exact HB.out)⟩
       ·rw [if_neg c10] at H
        have cp : (a0 == 1) = false := beq_eq_false_iff_ne.mpr c10; have cr : (a0 != 1) = true := bne_iff_ne.mpr c10
        by_cases c13 : a0 = 3
        ·rw [if_pos c13] at H
         have aC : (a0 == 3) = true := beq_iff_eq.mpr c13; have cu : (a0 != 3) = false := bne_eq_false_iff_eq.mpr c13; clear c13; replace H := Option.bind_eq_some_iff.mp H; obtain ⟨bY, A140, H⟩ := H
         try dsimp only at H
         have A14 := Ac.mk A140; clear A140
         simp only [Option.some.injEq, Prod.mk.injEq] at H
         obtain ⟨rfl, rfl⟩ := H
         go_wp2_with (((with_reducible refine Be (f := 102) rfl ?_); refine gL (some 36) Try.func102 #[.int .i64 a2, .int .i64 a1] ?_; (with_reducible refine (Dg.calls a2 a1 bY _ A14.out).mono ?_); rintro e w' ⟨rfl, ⟨nd, rfl⟩⟩; refine ⟨_, rfl, ?_⟩))
         go_ret2
         exact ⟨by first | rfl | (simp [At, As] <;> rfl) | (simp [*, At, As] <;> rfl), by repeat (first | (with_reducible first | exact HB.out | apply Ah | apply Ae | apply Ai) | exact HB.out)⟩
        ·rw [if_neg c13] at H
         have aC : (a0 == 3) = false := beq_eq_false_iff_ne.mpr c13; have cu : (a0 != 3) = true := bne_iff_ne.mpr c13
         by_cases c15 : a1 = 1
         ·rw [if_pos c15] at H
          have cw : (a1 == 1) = true := beq_iff_eq.mpr c15; have cx : (a1 != 1) = false := bne_eq_false_iff_eq.mpr c15; clear c15
          simp only [Option.some.injEq, Prod.mk.injEq] at H
          obtain ⟨rfl, rfl⟩ := H
          go_wp2
          go_ret2
          exact ⟨by first | rfl | (simp [At, As] <;> rfl) | (simp [*, At, As] <;> rfl), by repeat (first | (with_reducible first | exact HB.out | apply Ah | apply Ae | apply Ai) | exact HB.out)⟩
         ·rw [if_neg c15] at H
          have cw : (a1 == 1) = false := beq_eq_false_iff_ne.mpr c15; have cx : (a1 != 1) = true := bne_iff_ne.mpr c15; replace H := Option.bind_eq_some_iff.mp H; obtain ⟨aq, A160, H⟩ := H
          try dsimp only at H
          have A16 := Ac.mk A160; clear A160; obtain ⟨cy, au⟩ : ∃ j_ : Int, (mn aq (wrap64 ((wrap64 (2 * (wrap64 (a1 - 1)))) - aq))) = j_ := ⟨_, rfl⟩; replace H : (some (cy, 0)) = some (r1, r2) := by first | (rw [au] at H; exact H) | (simp only [au] at H ⊢; exact H)
          (try rw [au] at A16); have hji17_ : (if (wrap64 ((wrap64 (2 * (wrap64 (a1 - 1)))) - aq)) < aq then (wrap64 ((wrap64 (2 * (wrap64 (a1 - 1)))) - aq)) else aq) = cy := au
          simp only [Option.some.injEq, Prod.mk.injEq] at H
          obtain ⟨rfl, rfl⟩ := H
          go_wp2_with (((with_reducible refine Be (f := 102) rfl ?_); refine gL (some 44) Try.func102 #[.int .i64 a2, .int .i64 (wrap64 (2 * (wrap64 (a1 - 1))))] ?_; (with_reducible refine (Dg.calls a2 (wrap64 (2 * (wrap64 (a1 - 1)))) aq _ A16.out).mono ?_); rintro e w' ⟨rfl, ⟨nd, rfl⟩⟩; refine ⟨_, rfl, ?_⟩))
          go_ret2
          exact ⟨by first | rfl | (simp [At, As] <;> rfl) | (simp only [← au]; first | rfl | (simp [At, As] <;> rfl)) | (simp [*, At, As] <;> rfl), by repeat (first | (with_reducible first | exact HB.out | apply Ah | apply Ae | apply Ai) | exact HB.out)⟩

def Bs.j0 : Nat → Int → Bool → Int → Int → List Int → Int → Int → Int → Option (Int)
 | 0, _, _, _, _, _, _, _, _ => none
 | k + 1, x1, x14, cF, cG, cH, aI, aJ, aK => if x14 = true then (some 120) else (if x1 < 0 then (some 121) else (if x1 ≥ (wrap64 (aJ * aK)) then (some 121) else ((B7.f k aI 1 0).bind fun cz => (some cz.2))))
def Bs.f (k : Nat) (ai : Int) (aj : Int) (ah : List Int) (ak : Int) (af : Int) (ag : Int) (a1 : Int) : Option (Int) := (Ce.f ai aj ah).bind fun ap => (if ap = 0 then (if af < 1 then (Bs.j0 k a1 true ai aj ah ak af ag) else (if ag < 1 then (Bs.j0 k a1 true ai aj ah ak af ag) else (if af > 15 then (Bs.j0 k a1 true ai aj ah ak af ag) else (Bs.j0 k a1 (decide (ag > 15)) ai aj ah ak af ag)))) else (some ap))
set_option maxHeartbeats 8000000 in
set_option maxRecDepth 100000 in
theorem Bs.calls (k : Nat) (ai : Int) (aj : Int) (an : Option Addr) (ao : Nat) (ah : List Int) (ak : Int) (af : Int) (ag : Int) (a1 : Int) (r : Int) (w : World) (bS : Kd.C (Kd.int .u32) w an ah.length ah) (bT : ah.length ≤ ao) (h : Bs.f k ai aj ah ak af ag a1 = some r) :
  Calls Try.prog 96 #[.agg #[.int .i64 ai, .int .i64 aj, .slice an ah.length ao, .int .i64 ak, .int .i64 af, .int .i64 ag], .int .i64 a1] w fun e w' => e = .returned (.int .i64 r) ∧ Below w.heap.size w w' := by
 have hu131 := Try.underlying131; have hu24 := Try.underlying24; have bV := Ac.mk bS; have bW := Ac.mk bT; clear bS bT; have HB := Ac.mk (Below.refl w.heap.size w); have H : ((Ce.f ai aj ah).bind fun ap => (if ap = 0 then (if af < 1 then (Bs.j0 k a1 true ai aj ah ak af ag) else (if ag < 1 then (Bs.j0 k a1 true ai aj ah ak af ag) else (if af > 15 then (Bs.j0 k a1 true ai aj ah ak af ag) else (Bs.j0 k a1 (decide (ag > 15)) ai aj ah ak af ag)))) else (some ap))) = some r := h; clear h; replace H := Option.bind_eq_some_iff.mp H; obtain ⟨ap, A30, H⟩ := H
 try dsimp only at H
 have A3 := Ac.mk A30; clear A30
 by_cases c4 : ap = 0
 ·rw [if_pos c4] at H
  have cA : (ap == 0) = true := beq_iff_eq.mpr c4; have cB : (ap != 0) = false := bne_eq_false_iff_eq.mpr c4; clear c4; have HC5 := Ac.mk H; clear H; go_enter Try.func96, Try.ntmps96
  go_upto_region 4 with (first | ((with_reducible refine Bf (N := 2) rfl ?_); refine Bc ?hg (N := 2) ?hd (cs := #[.int .i64 ai, .int .i64 aj, .slice an ah.length ao, .int .i64 ak, .int .i64 af, .int .i64 ag]) (t := 131) ?hr ?_; (case hd => rfl); (case hg => rfl); (case hr => first | (go_simp; done) | (go_simp; rfl)); intro ac hg w6 hbox hb; have aa := Ac.mk (hbox); have cC := Ac.mk ((by rw [hg]; exact (Ak (lU HB.out)) : w.heap.size ≤ ac)); have am := Ac.mk ((by rw [hg]; exact (Ak (lU HB.out)) : w.heap.size ≤ ac)); replace HB := Ac.mk (Aq (lU HB.out) hb); clear hb hbox hg; have bZ : w6.cell? ⟨ac, 0, none⟩ = some (.int .i64 ai) := (Ad aa.out 0).trans rfl; have b3 : w6.cell? ⟨ac, 1, none⟩ = some (.int .i64 aj) := (Ad aa.out 1).trans rfl; have b4 : w6.cell? ⟨ac, 2, none⟩ = some (.slice an ah.length ao) := (Ad aa.out 2).trans rfl; have b5 : w6.cell? ⟨ac, 3, none⟩ = some (.int .i64 ak) := (Ad aa.out 3).trans rfl; have b6 : w6.cell? ⟨ac, 4, none⟩ = some (.int .i64 af) := (Ad aa.out 4).trans rfl; have b7 : w6.cell? ⟨ac, 5, none⟩ = some (.int .i64 ag) := (Ad aa.out 5).trans rfl; have b8 := Af aa.out 0; have b9 := Af aa.out 1; have cd := Af aa.out 2; have ce := Af aa.out 3; have cg := Af aa.out 4; have ck := Af aa.out 5) | ((with_reducible refine Be (f := 44) rfl ?_); refine gL (some 10) Try.func44 #[.agg #[.int .i64 ai, .int .i64 aj, .slice an ah.length ao]] ?_; (with_reducible refine (Ce.calls ai aj _ _ ah ap _ ?side1 ?side2 A3.out).mono ?_); (case side1 => repeat (first | exact (Kd.B2 bV.out HB.out) | (with_reducible refine Kd.Bw ?_ _) | (with_reducible refine Kd.B6 ?_ _) | (with_reducible refine Kd.C_drew ?_))); (case side2 => exact bW.out); rintro e w8 ⟨rfl, hb⟩; refine ⟨_, rfl, ?_⟩; replace aa := Ac.mk (An (g := ac) (o := .cells #[.int .i64 ai, .int .i64 aj, .slice an ah.length ao, .int .i64 ak, .int .i64 af, .int .i64 ag] 131 (0, 0)) (by exact bU <| aa.out) hb); replace HB := Ac.mk (Aq (by repeat (first | (with_reducible first | exact HB.out | apply Ah | apply Ae | apply Ai | refine Ag ?_ am.out) | exact HB.out)) hb); (try clear hb); (try clear hb2); (try clear hk); (try clear hi)))
  (try simp only [Act.put, sA, sB, sC])
  go_cut [14] (fun v14 wc => ∃ (kq : Nat) (aD : Bool), v14 = .bool aD ∧ Ac (Bs.j0 kq a1 aD ai aj ah ak af ag = some r) ∧ Ac (kq ≤ k) ∧ Ac (wc.heap[ac]? = some (.cells #[.int .i64 ai, .int .i64 aj, (.slice an ah.length ao), .int .i64 ak, .int .i64 af, .int .i64 ag] 131 (0, 0))) ∧ Ac (Below w.heap.size w wc))
  case first =>
   have H := HC5.out; clear HC5
   by_cases c9 : af < 1
   ·rw [if_pos c9] at H
    have av : decide (af < 1) = true := decide_eq_true c9; clear c9; (first | rw [av] | (simp only [i64_w, i32_w]; rw [av]) | skip); have H' := Ac.mk H; clear H; have aM : w8.cell? ⟨ac, 0, none⟩ = some (.int .i64 ai) := (Ad aa.out 0).trans rfl; have aN : w8.cell? ⟨ac, 1, none⟩ = some (.int .i64 aj) := (Ad aa.out 1).trans rfl; have aQ : w8.cell? ⟨ac, 2, none⟩ = some (.slice an ah.length ao) := (Ad aa.out 2).trans rfl; have aT : w8.cell? ⟨ac, 3, none⟩ = some (.int .i64 ak) := (Ad aa.out 3).trans rfl; have aU : w8.cell? ⟨ac, 4, none⟩ = some (.int .i64 af) := (Ad aa.out 4).trans rfl; have aV : w8.cell? ⟨ac, 5, none⟩ = some (.int .i64 ag) := (Ad aa.out 5).trans rfl; have aW := Af aa.out 0; have aX := Af aa.out 1; have aY := Af aa.out 2; have aZ := Af aa.out 3; have ba := Af aa.out 4; have bb := Af aa.out 5
    go_wp2
    go_meet
    case rel => exact ⟨_, (true), (by first | rfl | (simp; done) | (simp [*]; done)), H', ⟨by first | omega | exact Nat.le_refl _⟩, ⟨by exact bU <| aa.out⟩, ⟨by repeat (first | (with_reducible first | exact HB.out | apply Ah | apply Ae | apply Ai | refine Ag ?_ am.out) | exact HB.out)⟩⟩
   ·rw [if_neg c9] at H
    have av : decide (af < 1) = false := decide_eq_false c9; clear c9; (first | rw [av] | (simp only [i64_w, i32_w]; rw [av]) | skip)
    by_cases c11 : ag < 1
    ·rw [if_pos c11] at H
     have bX : decide (ag < 1) = true := decide_eq_true c11; clear c11; have H' := Ac.mk H; clear H; have bc : w8.cell? ⟨ac, 0, none⟩ = some (.int .i64 ai) := (Ad aa.out 0).trans rfl; have bd : w8.cell? ⟨ac, 1, none⟩ = some (.int .i64 aj) := (Ad aa.out 1).trans rfl; have be : w8.cell? ⟨ac, 2, none⟩ = some (.slice an ah.length ao) := (Ad aa.out 2).trans rfl; have bf : w8.cell? ⟨ac, 3, none⟩ = some (.int .i64 ak) := (Ad aa.out 3).trans rfl; have bg : w8.cell? ⟨ac, 4, none⟩ = some (.int .i64 af) := (Ad aa.out 4).trans rfl; have bh : w8.cell? ⟨ac, 5, none⟩ = some (.int .i64 ag) := (Ad aa.out 5).trans rfl; have bj := Af aa.out 0; have bl := Af aa.out 1; have bm := Af aa.out 2; have bo := Af aa.out 3; have bp := Af aa.out 4; have bq := Af aa.out 5
     go_wp2
     go_meet
     case rel => exact ⟨_, (true), (by first | rfl | (simp; done) | (simp [*]; done)), H', ⟨by first | omega | exact Nat.le_refl _⟩, ⟨by exact bU <| aa.out⟩, ⟨by repeat (first | (with_reducible first | exact HB.out | apply Ah | apply Ae | apply Ai | refine Ag ?_ am.out) | exact HB.out)⟩⟩
    ·rw [if_neg c11] at H
     have bX : decide (ag < 1) = false := decide_eq_false c11; clear c11
     by_cases c13 : af > 15
     ·rw [if_pos c13] at H
      have aC : decide (15 < af) = true := decide_eq_true c13; clear c13; have H' := Ac.mk H; clear H; have br : w8.cell? ⟨ac, 0, none⟩ = some (.int .i64 ai) := (Ad aa.out 0).trans rfl; have bs : w8.cell? ⟨ac, 1, none⟩ = some (.int .i64 aj) := (Ad aa.out 1).trans rfl; have bt : w8.cell? ⟨ac, 2, none⟩ = some (.slice an ah.length ao) := (Ad aa.out 2).trans rfl; have bu : w8.cell? ⟨ac, 3, none⟩ = some (.int .i64 ak) := (Ad aa.out 3).trans rfl; have bv : w8.cell? ⟨ac, 4, none⟩ = some (.int .i64 af) := (Ad aa.out 4).trans rfl; have bw : w8.cell? ⟨ac, 5, none⟩ = some (.int .i64 ag) := (Ad aa.out 5).trans rfl; have bz := Af aa.out 0; have bB := Af aa.out 1; have bC := Af aa.out 2; have bD := Af aa.out 3; have bE := Af aa.out 4; have bF := Af aa.out 5
      go_wp2
      go_meet
      case rel => exact ⟨_, (true), (by first | rfl | (simp; done) | (simp [*]; done)), H', ⟨by first | omega | exact Nat.le_refl _⟩, ⟨by exact bU <| aa.out⟩, ⟨by repeat (first | (with_reducible first | exact HB.out | apply Ah | apply Ae | apply Ai | refine Ag ?_ am.out) | exact HB.out)⟩⟩
     ·rw [if_neg c13] at H
      have aC : decide (15 < af) = false := decide_eq_false c13; clear c13; have H' := Ac.mk H; clear H; have bG : w8.cell? ⟨ac, 0, none⟩ = some (.int .i64 ai) := (Ad aa.out 0).trans rfl; have bH : w8.cell? ⟨ac, 1, none⟩ = some (.int .i64 aj) := (Ad aa.out 1).trans rfl; have bI : w8.cell? ⟨ac, 2, none⟩ = some (.slice an ah.length ao) := (Ad aa.out 2).trans rfl; have bJ : w8.cell? ⟨ac, 3, none⟩ = some (.int .i64 ak) := (Ad aa.out 3).trans rfl; have bK : w8.cell? ⟨ac, 4, none⟩ = some (.int .i64 af) := (Ad aa.out 4).trans rfl; have bL : w8.cell? ⟨ac, 5, none⟩ = some (.int .i64 ag) := (Ad aa.out 5).trans rfl; have bM := Af aa.out 0; have bN := Af aa.out 1; have bO := Af aa.out 2; have bP := Af aa.out 3; have bQ := Af aa.out 4; have bR := Af aa.out 5
      go_wp2
      go_meet
      case rel => exact ⟨_, (decide (ag > 15)), (by first | rfl | (simp; done) | (simp [*]; done)), H', ⟨by first | omega | exact Nat.le_refl _⟩, ⟨by exact bU <| aa.out⟩, ⟨by repeat (first | (with_reducible first | exact HB.out | apply Ah | apply Ae | apply Ai | refine Ag ?_ am.out) | exact HB.out)⟩⟩
  case rest =>
   clear HC5; (try clear c1); (try clear p2); (try clear c4); (try clear cA); (try clear cB); (try clear c9); (try clear av); (try clear c11); (try clear bX); (try clear c13); (try clear aC); (try clear aM); (try clear aN); (try clear aQ); (try clear aT); (try clear aU); (try clear aV); (try clear bc); (try clear bd); (try clear be); (try clear bf); (try clear bg); (try clear bh); (try clear br); (try clear bs); (try clear bt); (try clear bu); (try clear bv); (try clear bw); (try clear bG); (try clear bH); (try clear bI); (try clear bJ); (try clear bK); (try clear bL); (try clear bZ); (try clear b3); (try clear b4); (try clear b5); (try clear b6); (try clear b7); (try clear aW); (try clear aX); (try clear aY); (try clear aZ); (try clear ba); (try clear bb); (try clear bj); (try clear bl); (try clear bm); (try clear bo); (try clear bp); (try clear bq); (try clear bz); (try clear bB); (try clear bC); (try clear bD); (try clear bE); (try clear bF); (try clear bM); (try clear bN); (try clear bO); (try clear bP); (try clear bQ); (try clear bR); (try clear b8); (try clear b9); (try clear cd); (try clear ce); (try clear cg); (try clear ck); obtain ⟨kq, aD, rfl, HA, HJ4, aa, HB⟩ := hcut; cases kq with
   | zero => exact absurd HA.out (by simp [Bs.j0])
   | succ kj4 =>
    have H := HA.out; clear HA
    simp only [Bs.j0] at H
    by_cases c16 : aD = true
    ·subst c16
     have H1 := H; rw [if_pos rfl] at H1; clear H; have H := H1; clear H1; obtain rfl := Option.some.inj H
     go_wp2
     go_ret
     exact ⟨by first | rfl | (simp [At, As] <;> rfl) | (simp [*, At, As] <;> rfl), by repeat (first | (with_reducible first | exact HB.out | apply Ah | apply Ae | apply Ai | refine Ag ?_ am.out) | exact HB.out)⟩
    ·replace c16 := Bool.eq_false_iff.mpr c16
     subst c16; have H1 := H; rw [if_neg (show ¬ (false = true) by decide)] at H1; clear H; have H := H1; clear H1
     by_cases c17 : a1 < 0
     ·rw [if_pos c17] at H
      have cD : decide (a1 < 0) = true := decide_eq_true c17; clear c17; obtain rfl := Option.some.inj H
      go_wp2
      go_ret
      exact ⟨by first | rfl | (simp [At, As] <;> rfl) | (simp [*, At, As] <;> rfl), by repeat (first | (with_reducible first | exact HB.out | apply Ah | apply Ae | apply Ai | refine Ag ?_ am.out) | exact HB.out)⟩
     ·rw [if_neg c17] at H
      have cD : decide (a1 < 0) = false := decide_eq_false c17; clear c17
      by_cases c18 : a1 ≥ (wrap64 (af * ag))
      ·rw [if_pos c18] at H
       have cE : decide ((wrap64 (af * ag)) ≤ a1) = true := decide_eq_true c18; clear c18; obtain rfl := Option.some.inj H; have cI : wc.cell? ⟨ac, 0, none⟩ = some (.int .i64 ai) := (Ad aa.out 0).trans rfl; have cJ : wc.cell? ⟨ac, 1, none⟩ = some (.int .i64 aj) := (Ad aa.out 1).trans rfl; have cK : wc.cell? ⟨ac, 2, none⟩ = some (.slice an ah.length ao) := (Ad aa.out 2).trans rfl; have cL : wc.cell? ⟨ac, 3, none⟩ = some (.int .i64 ak) := (Ad aa.out 3).trans rfl; have cM : wc.cell? ⟨ac, 4, none⟩ = some (.int .i64 af) := (Ad aa.out 4).trans rfl; have cN : wc.cell? ⟨ac, 5, none⟩ = some (.int .i64 ag) := (Ad aa.out 5).trans rfl; have cO := Af aa.out 0; have cP := Af aa.out 1; have cQ := Af aa.out 2; have cR := Af aa.out 3; have cS := Af aa.out 4; have cU := Af aa.out 5
       go_wp2
       go_ret
       exact ⟨by first | rfl | (simp [At, As] <;> rfl) | (simp [*, At, As] <;> rfl), by repeat (first | (with_reducible first | exact HB.out | apply Ah | apply Ae | apply Ai | refine Ag ?_ am.out) | exact HB.out)⟩
      ·rw [if_neg c18] at H
       have cE : decide ((wrap64 (af * ag)) ≤ a1) = false := decide_eq_false c18; clear c18; replace H := Option.bind_eq_some_iff.mp H; obtain ⟨⟨dw, dz⟩, A200, H⟩ := H
       try dsimp only at H
       have A20 := Ac.mk A200; clear A200; obtain rfl := Option.some.inj H; have cV : wc.cell? ⟨ac, 0, none⟩ = some (.int .i64 ai) := (Ad aa.out 0).trans rfl; have cW : wc.cell? ⟨ac, 1, none⟩ = some (.int .i64 aj) := (Ad aa.out 1).trans rfl; have cX : wc.cell? ⟨ac, 2, none⟩ = some (.slice an ah.length ao) := (Ad aa.out 2).trans rfl; have cY : wc.cell? ⟨ac, 3, none⟩ = some (.int .i64 ak) := (Ad aa.out 3).trans rfl; have cZ : wc.cell? ⟨ac, 4, none⟩ = some (.int .i64 af) := (Ad aa.out 4).trans rfl; have da : wc.cell? ⟨ac, 5, none⟩ = some (.int .i64 ag) := (Ad aa.out 5).trans rfl; have db := Af aa.out 0; have dc := Af aa.out 1; have dd := Af aa.out 2; have de := Af aa.out 3; have df := Af aa.out 4; have dg := Af aa.out 5
       go_wp2_with (((with_reducible refine Be (f := 99) rfl ?_); refine gL (some 48) Try.func99 #[.int .i64 ak, .int .i64 1, .int .i64 0] ?_; (with_reducible refine (B7.calls kj4 ak 1 0 dw dz _ A20.out).mono ?_); rintro e w22 ⟨rfl, hb⟩; refine ⟨_, rfl, ?_⟩; replace aa := Ac.mk (An (g := ac) (o := .cells #[.int .i64 ai, .int .i64 aj, .slice an ah.length ao, .int .i64 ak, .int .i64 af, .int .i64 ag] 131 (0, 0)) (by exact bU <| aa.out) hb); replace HB := Ac.mk (Aq (by repeat (first | (with_reducible first | exact HB.out | apply Ah | apply Ae | apply Ai | refine Ag ?_ am.out) | exact HB.out)) hb); (try clear hb); (try clear hb2); (try clear hk); (try clear hi)))
       go_ret
       exact ⟨by first | rfl | (simp [At, As] <;> rfl) | (simp [*, At, As] <;> rfl), by repeat (first | (with_reducible first | exact HB.out | apply Ah | apply Ae | apply Ai | refine Ag ?_ am.out) | exact HB.out)⟩
 ·rw [if_neg c4] at H
  have cA : (ap == 0) = false := beq_eq_false_iff_ne.mpr c4; have cB : (ap != 0) = true := bne_iff_ne.mpr c4; obtain rfl := Option.some.inj H; go_enter Try.func96, Try.ntmps96
  go_wp2_with (first | ((with_reducible refine Bf (N := 2) rfl ?_); refine Bc ?hg (N := 2) ?hd (cs := #[.int .i64 ai, .int .i64 aj, .slice an ah.length ao, .int .i64 ak, .int .i64 af, .int .i64 ag]) (t := 131) ?hr ?_; (case hd => rfl); (case hg => rfl); (case hr => first | (go_simp; done) | (go_simp; rfl)); intro ac hg w23 hbox hb; have aa := Ac.mk (hbox); have cC := Ac.mk ((by rw [hg]; exact (Ak (lU HB.out)) : w.heap.size ≤ ac)); have am := Ac.mk ((by rw [hg]; exact (Ak (lU HB.out)) : w.heap.size ≤ ac)); replace HB := Ac.mk (Aq (lU HB.out) hb); clear hb hbox hg; have dh : w23.cell? ⟨ac, 0, none⟩ = some (.int .i64 ai) := (Ad aa.out 0).trans rfl; have di : w23.cell? ⟨ac, 1, none⟩ = some (.int .i64 aj) := (Ad aa.out 1).trans rfl; have dj : w23.cell? ⟨ac, 2, none⟩ = some (.slice an ah.length ao) := (Ad aa.out 2).trans rfl; have dk : w23.cell? ⟨ac, 3, none⟩ = some (.int .i64 ak) := (Ad aa.out 3).trans rfl; have dl : w23.cell? ⟨ac, 4, none⟩ = some (.int .i64 af) := (Ad aa.out 4).trans rfl; have dn : w23.cell? ⟨ac, 5, none⟩ = some (.int .i64 ag) := (Ad aa.out 5).trans rfl; have dp := Af aa.out 0; have dq := Af aa.out 1; have dr := Af aa.out 2; have dt := Af aa.out 3; have du := Af aa.out 4; have dv := Af aa.out 5) | ((with_reducible refine Be (f := 44) rfl ?_); refine gL (some 10) Try.func44 #[.agg #[.int .i64 ai, .int .i64 aj, .slice an ah.length ao]] ?_; (with_reducible refine (Ce.calls ai aj _ _ ah ap _ ?side1 ?side2 A3.out).mono ?_); (case side1 => repeat (first | exact (Kd.B2 bV.out HB.out) | (with_reducible refine Kd.Bw ?_ _) | (with_reducible refine Kd.B6 ?_ _) | (with_reducible refine Kd.C_drew ?_))); (case side2 => exact bW.out); rintro e w25 ⟨rfl, hb⟩; refine ⟨_, rfl, ?_⟩; replace aa := Ac.mk (An (g := ac) (o := .cells #[.int .i64 ai, .int .i64 aj, .slice an ah.length ao, .int .i64 ak, .int .i64 af, .int .i64 ag] 131 (0, 0)) (by exact bU <| aa.out) hb); replace HB := Ac.mk (Aq (by repeat (first | (with_reducible first | exact HB.out | apply Ah | apply Ae | apply Ai | refine Ag ?_ am.out) | exact HB.out)) hb); (try clear hb); (try clear hb2); (try clear hk); (try clear hi)))
  go_ret
  exact ⟨by first | rfl | (simp [At, As] <;> rfl) | (simp [*, At, As] <;> rfl), by repeat (first | (with_reducible first | exact HB.out | apply Ah | apply Ae | apply Ai | refine Ag ?_ am.out) | exact HB.out)⟩

def cmp_isNaN_uint32.f (a0 : Int) : Option (Bool) := some (a0 != a0)
set_option maxHeartbeats 8000000 in
set_option maxRecDepth 100000 in
theorem cmp_isNaN_uint32.calls (a0 : Int) (r : Bool) (w : World) (h : cmp_isNaN_uint32.f a0 = some r) :
  Calls Try.prog 109 #[.int .u32 a0] w fun e w' => e = .returned (.bool r) ∧ Drawn0 w w' := by
 have H : (some (a0 != a0)) = some r := h; clear h; obtain rfl := Option.some.inj H; go_enter Try.func109, Try.ntmps109
 go_wp2
 go_ret
 exact ⟨by first | rfl | (simp; done) | (simp [*]; done), by repeat (first | exact Drawn0.refl _ | apply Drawn0.step)⟩

def cmp_Compare_uint32.f (a0 : Int) (a1 : Int) : Option (Int) := (cmp_isNaN_uint32.f a0).bind fun aG => ((cmp_isNaN_uint32.f a1).bind fun aw => (if aG = true then (if aw = true then (some 0) else (some (-1))) else (if aw = true then (some 1) else (if a0 < a1 then (some (-1)) else (if a0 > a1 then (some 1) else (some 0))))))
set_option maxHeartbeats 8000000 in
set_option maxRecDepth 100000 in
theorem cmp_Compare_uint32.calls (a0 : Int) (a1 : Int) (r : Int) (w : World) (h : cmp_Compare_uint32.f a0 a1 = some r) :
  Calls Try.prog 106 #[.int .u32 a0, .int .u32 a1] w fun e w' => e = .returned (.int .i64 r) ∧ Drawn0 w w' := by
 have H : ((cmp_isNaN_uint32.f a0).bind fun aG => ((cmp_isNaN_uint32.f a1).bind fun aw => (if aG = true then (if aw = true then (some 0) else (some (-1))) else (if aw = true then (some 1) else (if a0 < a1 then (some (-1)) else (if a0 > a1 then (some 1) else (some 0))))))) = some r := h; clear h; replace H := Option.bind_eq_some_iff.mp H; obtain ⟨aG, A30, H⟩ := H
 try dsimp only at H
 have A3 := Ac.mk A30; clear A30; replace H := Option.bind_eq_some_iff.mp H; obtain ⟨aw, A40, H⟩ := H
 try dsimp only at H
 have A4 := Ac.mk A40; clear A40
 by_cases c5 : aG = true
 ·subst c5
  have H1 := H; rw [if_pos rfl] at H1; clear H; have H := H1; clear H1
  by_cases c6 : aw = true
  ·subst c6
   have H1 := H; rw [if_pos rfl] at H1; clear H; have H := H1; clear H1; obtain rfl := Option.some.inj H; go_enter Try.func106, Try.ntmps106
   go_wp2_with (first | ((with_reducible refine Be (f := 109) rfl ?_); refine gL (some 8) Try.func109 #[.int .u32 a0] ?_; (with_reducible refine (cmp_isNaN_uint32.calls a0 true _ A3.out).mono ?_); rintro e w' ⟨rfl, ⟨nd, rfl⟩⟩; refine ⟨_, rfl, ?_⟩) | ((with_reducible refine Be (f := 109) rfl ?_); refine gL (some 10) Try.func109 #[.int .u32 a1] ?_; (with_reducible refine (cmp_isNaN_uint32.calls a1 true _ A4.out).mono ?_); rintro e w' ⟨rfl, ⟨nd, rfl⟩⟩; refine ⟨_, rfl, ?_⟩))
   go_ret
   exact ⟨by first | rfl | (simp; done) | (simp [*]; done), by repeat (first | exact Drawn0.refl _ | apply Drawn0.step)⟩
  ·replace c6 := Bool.eq_false_iff.mpr c6
   subst c6; have H1 := H; rw [if_neg (show ¬ (false = true) by decide)] at H1; clear H; have H := H1; clear H1; obtain rfl := Option.some.inj H; go_enter Try.func106, Try.ntmps106
   go_wp2_with (first | ((with_reducible refine Be (f := 109) rfl ?_); refine gL (some 8) Try.func109 #[.int .u32 a0] ?_; (with_reducible refine (cmp_isNaN_uint32.calls a0 true _ A3.out).mono ?_); rintro e w' ⟨rfl, ⟨nd, rfl⟩⟩; refine ⟨_, rfl, ?_⟩) | ((with_reducible refine Be (f := 109) rfl ?_); refine gL (some 10) Try.func109 #[.int .u32 a1] ?_; (with_reducible refine (cmp_isNaN_uint32.calls a1 false _ A4.out).mono ?_); rintro e w' ⟨rfl, ⟨nd, rfl⟩⟩; refine ⟨_, rfl, ?_⟩))
   go_ret
   exact ⟨by first | rfl | (simp; done) | (simp [*]; done), by repeat (first | exact Drawn0.refl _ | apply Drawn0.step)⟩
 ·replace c5 := Bool.eq_false_iff.mpr c5
  subst c5; have H1 := H; rw [if_neg (show ¬ (false = true) by decide)] at H1; clear H; have H := H1; clear H1
  by_cases c7 : aw = true
  ·subst c7
   have H1 := H; rw [if_pos rfl] at H1; clear H; have H := H1; clear H1; obtain rfl := Option.some.inj H; go_enter Try.func106, Try.ntmps106
   go_wp2_with (first | ((with_reducible refine Be (f := 109) rfl ?_); refine gL (some 8) Try.func109 #[.int .u32 a0] ?_; (with_reducible refine (cmp_isNaN_uint32.calls a0 false _ A3.out).mono ?_); rintro e w' ⟨rfl, ⟨nd, rfl⟩⟩; refine ⟨_, rfl, ?_⟩) | ((with_reducible refine Be (f := 109) rfl ?_); refine gL (some 10) Try.func109 #[.int .u32 a1] ?_; (with_reducible refine (cmp_isNaN_uint32.calls a1 true _ A4.out).mono ?_); rintro e w' ⟨rfl, ⟨nd, rfl⟩⟩; refine ⟨_, rfl, ?_⟩))
   go_ret
   exact ⟨by first | rfl | (simp; done) | (simp [*]; done), by repeat (first | exact Drawn0.refl _ | apply Drawn0.step)⟩
  ·replace c7 := Bool.eq_false_iff.mpr c7
   subst c7; have H1 := H; rw [if_neg (show ¬ (false = true) by decide)] at H1; clear H; have H := H1; clear H1
   by_cases c8 : a0 < a1
   ·rw [if_pos c8] at H
    have ar : decide (a0 < a1) = true := decide_eq_true c8; clear c8; obtain rfl := Option.some.inj H; go_enter Try.func106, Try.ntmps106
    go_wp2_with (first | ((with_reducible refine Be (f := 109) rfl ?_); refine gL (some 8) Try.func109 #[.int .u32 a0] ?_; (with_reducible refine (cmp_isNaN_uint32.calls a0 false _ A3.out).mono ?_); rintro e w' ⟨rfl, ⟨nd, rfl⟩⟩; refine ⟨_, rfl, ?_⟩) | ((with_reducible refine Be (f := 109) rfl ?_); refine gL (some 10) Try.func109 #[.int .u32 a1] ?_; (with_reducible refine (cmp_isNaN_uint32.calls a1 false _ A4.out).mono ?_); rintro e w' ⟨rfl, ⟨nd, rfl⟩⟩; refine ⟨_, rfl, ?_⟩))
    go_ret
    exact ⟨by first | rfl | (simp; done) | (simp [*]; done), by repeat (first | exact Drawn0.refl _ | apply Drawn0.step)⟩
   ·rw [if_neg c8] at H
    have ar : decide (a0 < a1) = false := decide_eq_false c8; clear c8
    by_cases c9 : a0 > a1
    ·rw [if_pos c9] at H
     have av : decide (a1 < a0) = true := decide_eq_true c9; clear c9; obtain rfl := Option.some.inj H; go_enter Try.func106, Try.ntmps106
     go_wp2_with (first | ((with_reducible refine Be (f := 109) rfl ?_); refine gL (some 8) Try.func109 #[.int .u32 a0] ?_; (with_reducible refine (cmp_isNaN_uint32.calls a0 false _ A3.out).mono ?_); rintro e w' ⟨rfl, ⟨nd, rfl⟩⟩; refine ⟨_, rfl, ?_⟩) | ((with_reducible refine Be (f := 109) rfl ?_); refine gL (some 10) Try.func109 #[.int .u32 a1] ?_; (with_reducible refine (cmp_isNaN_uint32.calls a1 false _ A4.out).mono ?_); rintro e w' ⟨rfl, ⟨nd, rfl⟩⟩; refine ⟨_, rfl, ?_⟩))
     go_ret
     exact ⟨by first | rfl | (simp; done) | (simp [*]; done), by repeat (first | exact Drawn0.refl _ | apply Drawn0.step)⟩
    ·rw [if_neg c9] at H
     have av : decide (a1 < a0) = false := decide_eq_false c9; clear c9; obtain rfl := Option.some.inj H; go_enter Try.func106, Try.ntmps106
     go_wp2_with (first | ((with_reducible refine Be (f := 109) rfl ?_); refine gL (some 8) Try.func109 #[.int .u32 a0] ?_; (with_reducible refine (cmp_isNaN_uint32.calls a0 false _ A3.out).mono ?_); rintro e w' ⟨rfl, ⟨nd, rfl⟩⟩; refine ⟨_, rfl, ?_⟩) | ((with_reducible refine Be (f := 109) rfl ?_); refine gL (some 10) Try.func109 #[.int .u32 a1] ?_; (with_reducible refine (cmp_isNaN_uint32.calls a1 false _ A4.out).mono ?_); rintro e w' ⟨rfl, ⟨nd, rfl⟩⟩; refine ⟨_, rfl, ?_⟩))
     go_ret
     exact ⟨by first | rfl | (simp; done) | (simp [*]; done), by repeat (first | exact Drawn0.refl _ | apply Drawn0.step)⟩

end Go.Proofs.Ytbfimplajocmmaa.PRA
end
section
namespace Go.Proofs
open Go.Shelf
shelf_lay_g SlLaysF.n6 Slsf 6 at Try 104 as Try.sortL
end Go.Proofs
namespace Go.Proofs.Ytbfimplajocmmaa
open Go Go.RowKit Go.Shelf Go.Lib Go.Sort Go.Proofs.YtbfimplajocmmaaW.PrintWords Go.Proofs.YtbfimplajocmmaaW.PrintLast Go.Proofs.YtbfimplajocmmaaW.PrintMore
open PFA PRA
set_option linter.unusedVariables false
set_option linter.unusedSimpArgs false

abbrev Smp := Fin 4294967296
def encS (x : Smp) : Value := .int .u32 (x.val : Int)
def keyN (s : Nat) : Nat := if s < 2147483648 then s + 2147483648 else 4294967295 - s
def cfS (x y : Smp) : Int := if keyN x.val < keyN y.val then -1 else if keyN y.val < keyN x.val then 1 else 0
theorem ltS (x y : Smp) : ltOf cfS x y = decide (keyN x.val < keyN y.val) := by
  unfold ltOf cfS
  by_cases h1 : keyN x.val < keyN y.val
  · simp [h1]
  · by_cases h2 : keyN y.val < keyN x.val <;> simp [h1, h2]
theorem keyN_inj (s t : Nat) (hs : s < 4294967296) (ht : t < 4294967296) (h : keyN s = keyN t) : s = t := by
  unfold keyN at h
  split at h <;> split at h <;> omega
theorem swoS : SWO (ltOf cfS) where
  irrefl x := by rw [ltS]; simp
  trans x y z h1 h2 := by rw [ltS] at *; simp at *; omega
  ntrans x y z h1 h2 := by rw [ltS] at *; simp at *; omega
theorem totS (x y : Smp) (h1 : ltOf cfS x y = false) (h2 : ltOf cfS y x = false) : x = y := by
  rw [ltS] at *
  simp at *
  exact Fin.ext (keyN_inj _ _ x.isLt y.isLt (by omega))
theorem geS : (fun x y : Smp => !ltOf cfS y x) = fun x y => decide (keyN x.val ≤ keyN y.val) := by
  funext x y
  rw [ltS]
  by_cases h : keyN x.val ≤ keyN y.val
  · have h' : ¬ keyN y.val < keyN x.val := by omega
    simp [h, h']
  · have h' : keyN y.val < keyN x.val := by omega
    simp [h, h']

theorem key_eq (s : Nat) (h : s < 4294967296) : De.f s = some (keyN s : Int) := by
  unfold De.f keyN
  by_cases h1 : s < 2147483648
  · rw [if_pos (by omega), if_pos h1, show ((s : Int) + 2147483648) % 4294967296 = ((s + 2147483648 : Nat) : Int) by omega]
  · rw [if_neg (by omega), if_neg h1, show ((4294967295 : Int) - (s : Int)) % 4294967296 = ((4294967295 - s : Nat) : Int) by omega]
theorem cmp_eq (s t : Nat) : cmp_Compare_uint32.f s t = some (if s < t then -1 else if t < s then 1 else 0) := by
  unfold cmp_Compare_uint32.f cmp_isNaN_uint32.f
  simp
  by_cases h1 : s < t
  · simp [h1]
  · by_cases h2 : t < s <;> simp [h1, h2]

set_option maxRecDepth 100000 in
set_option maxHeartbeats 4000000 in
theorem closure48 (x y : Smp) (W : World) : Calls Try.prog 105 #[encS x, encS y] W fun e w' => e = .returned (.int .i64 (cfS x y)) ∧ ∃ q, w' = W.drewN q := by
  unfold encS; have hc : cmp_Compare_uint32.f (keyN x.val) (keyN y.val) = some (cfS x y) := cmp_eq _ _; have hx := key_eq x.val x.isLt; have hy := key_eq y.val y.isLt; generalize (keyN x.val : Int) = kx at *; generalize (keyN y.val : Int) = ky at *; generalize cfS x y = r at *; generalize (x.val : Int) = a at *; generalize (y.val : Int) = b at *; go_enter Try.func105, Try.ntmps105
  go_wp2_with (first | (go_at_call 75; (first | refine (De.calls a kx _ hx).mono ?_ | refine (De.calls b ky _ hy).mono ?_); rintro e w' ⟨rfl, ⟨nd, rfl⟩⟩) | (go_at_call 106; refine (cmp_Compare_uint32.calls kx ky r _ hc).mono ?_; rintro e w' ⟨rfl, ⟨nd, rfl⟩⟩))
  go_ret
  exact ⟨rfl, _, rfl⟩

theorem cmpReads48 (blk off size : Nat) (w : World) : CmpReads Try.prog 105 #[] encS cfS blk off size w := fun _ _ _ _ x y => closure48 x y _

def srt (l : List Smp) : List Smp := l.mergeSort fun x y => decide (keyN x.val ≤ keyN y.val)

set_option maxRecDepth 100000 in
set_option maxHeartbeats 4000000 in
theorem sort_calls (blk off c : Nat) (d : Array Smp) (h12 : d.size < 4611686018427387904) (w : World) (hH : Holds encS w blk off d) (hblk : blk < w.heap.size) :
    Calls Try.prog 103 #[.slice (some ⟨blk, off, none⟩) d.size c] w fun e w' =>
      e = .returned (.tuple #[]) ∧ ∃ n os, w' = sortWorld encS w blk off n (srt d.toList).toArray os := by
  have eg : ∀ args w, (callFunc 105 args).run Try.prog w = .ok (.enter 105 args) w := enters_of Try.func105 (by kernel_rfl) rfl; have hS := Any.slices_SortFunc_total Try.sortL encS (fun _ => rfl) cfS swoS 105 #[] blk off c d w eg (cmpReads48 blk off d.size w).lays hH hblk h12 totS; rw [geS] at hS
  change Calls Try.prog 104 _ _ _ at hS
  clear hH; unfold srt; go_enter Try.func103, Try.ntmps103
  go_wp2_with (go_at_call 104; refine hS.mono ?_; rintro e w' ⟨rfl, n, os, rfl⟩)
  go_end0
  exact ⟨rfl, n, os, rfl⟩

end Go.Proofs.Ytbfimplajocmmaa
end
section
open Go Go.RowKit
set_option linter.unusedVariables false
set_option linter.unusedSimpArgs false
namespace Go.Proofs.Ytbfimplajocmmaa
def toS (x : Int) : Smp := Fin.ofNat 4294967296 x.toNat
def srtI (l : List Int) : List Int := (srt (l.map toS)).map (fun s => (s.val : Int))
def leK (a b : Int) : Bool := decide (keyN a.toNat ≤ keyN b.toNat)
theorem leK_trans (a b c : Int) (h1 : leK a b = true) (h2 : leK b c = true) : leK a c = true := by
  unfold leK at *; have := of_decide_eq_true h1; have := of_decide_eq_true h2; exact decide_eq_true (by omega)
theorem leK_total (a b : Int) : (leK a b || leK b a) = true := by
  unfold leK
  by_cases h : keyN a.toNat ≤ keyN b.toNat
  · simp [h]
  · have : keyN b.toNat ≤ keyN a.toNat := by omega
    simp [this]
abbrev UpS (l : List Int) : Prop := l.Pairwise (fun a b => leK a b = true)

theorem toS_val (x : Int) (h0 : 0 ≤ x) (h1 : x < 4294967296) : ((toS x).val : Int) = x := by
  have h : (toS x).val = x.toNat % 4294967296 := rfl; rw [h, Nat.mod_eq_of_lt (by omega), Int.toNat_of_nonneg h0]
theorem srtI_perm (l : List Int) (hu : ∀ s ∈ l, 0 ≤ s ∧ s < 4294967296) : (srtI l).Perm l := by
  unfold srtI srt; have h1 := (List.mergeSort_perm (l.map toS) (fun x y => decide (keyN x.val ≤ keyN y.val))).map (fun s : Smp => (s.val : Int)); rw [List.map_map] at h1
  have h2 : l.map ((fun s : Smp => (s.val : Int)) ∘ toS) = l := by
    have : l.map ((fun s : Smp => (s.val : Int)) ∘ toS) = l.map id := List.map_congr_left fun x hx => toS_val x (hu x hx).1 (hu x hx).2
    rw [this, List.map_id]
  rw [h2] at h1; exact h1
theorem srtI_up (l : List Int) : UpS (srtI l) := by
  unfold srtI srt; refine List.pairwise_map.mpr ?_; refine (List.pairwise_mergeSort (le := fun x y : Smp => decide (keyN x.val ≤ keyN y.val)) ?_ ?_ (l.map toS)).imp ?_
  · intro a b c h1 h2
    have := of_decide_eq_true h1; have := of_decide_eq_true h2; exact decide_eq_true (by omega)
  · intro a b
    by_cases h : keyN a.val ≤ keyN b.val
    · simp [h]
    · have : keyN b.val ≤ keyN a.val := by omega
      simp [this]
  · intro a b h
    unfold leK; rw [Int.toNat_natCast, Int.toNat_natCast]; exact h
theorem srtI_unique (l out : List Int) (hu : ∀ s ∈ l, 0 ≤ s ∧ s < 4294967296) (hp : out.Perm l) (hs : UpS out) : out = srtI l := by
  refine List.Perm.eq_of_pairwise (le := fun a b => leK a b = true) ?_ hs (srtI_up l) (hp.trans (srtI_perm l hu).symm); intro a b ha hb h1 h2; have ua := hu a (hp.mem_iff.mp ha); have ub := hu b ((srtI_perm l hu).mem_iff.mp hb); unfold leK at h1 h2; have h1 := of_decide_eq_true h1; have h2 := of_decide_eq_true h2; have := keyN_inj a.toNat b.toNat (by omega) (by omega) (by omega)
  omega

def insK (x : Int) : List Int → List Int
  | [] => [x]
  | y :: t => if leK x y = true then x :: y :: t else y :: insK x t
def isrt : List Int → List Int
  | [] => []
  | x :: t => insK x (isrt t)
theorem insK_perm (x : Int) : ∀ l, (insK x l).Perm (x :: l)
  | [] => List.Perm.refl _
  | y :: t => by
    rw [insK]
    split
    · exact List.Perm.refl _
    · exact ((insK_perm x t).cons y).trans (List.Perm.swap x y t)
theorem isrt_perm : ∀ l, (isrt l).Perm l
  | [] => List.Perm.refl _
  | x :: t => (insK_perm x (isrt t)).trans ((isrt_perm t).cons x)
theorem insK_up (x : Int) : ∀ l, UpS l → UpS (insK x l)
  | [], h => List.pairwise_singleton _ _
  | y :: t, h => by
    have h2 := List.pairwise_cons.mp h; rw [insK]
    split
    · rename_i hxy
      refine List.pairwise_cons.mpr ⟨fun z hz => ?_, h⟩
      rcases List.mem_cons.mp hz with rfl | hz
      · exact hxy
      · exact leK_trans _ _ _ hxy (h2.1 z hz)
    · rename_i hxy
      refine List.pairwise_cons.mpr ⟨fun z hz => ?_, insK_up x t h2.2⟩
      rcases List.mem_cons.mp ((insK_perm x t).mem_iff.mp hz) with rfl | hz
      · have := leK_total z y
        cases h9 : leK z y with
        | true => exact absurd h9 hxy
        | false => rw [h9] at this; simpa using this
      · exact h2.1 z hz
theorem isrt_up : ∀ l, UpS (isrt l)
  | [] => List.Pairwise.nil
  | x :: t => insK_up x _ (isrt_up t)
theorem isrt_eq (l : List Int) (hu : ∀ s ∈ l, 0 ≤ s ∧ s < 4294967296) : isrt l = srtI l := srtI_unique l (isrt l) hu (isrt_perm l) (isrt_up l)
end Go.Proofs.Ytbfimplajocmmaa
end
section
open Go Go.RowKit
set_option linter.unusedVariables false
set_option linter.unusedSimpArgs false
namespace Go.Proofs.Ytbfimplajocmmaa

def U32 (l : List Int) : Prop := ∀ s ∈ l, 0 ≤ s ∧ s < 4294967296
theorem isrt_length (l : List Int) : (isrt l).length = l.length := (isrt_perm l).length_eq
end Go.Proofs.Ytbfimplajocmmaa
end
