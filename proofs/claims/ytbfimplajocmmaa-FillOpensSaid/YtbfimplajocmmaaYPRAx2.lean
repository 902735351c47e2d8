import Derived.Test.YtbfimplajocmmaaYUQ
import Derived.Test.YtbfimplajocmmaaYPRAx0
import Derived.Test.YtbfimplajocmmaaYPFCx1
namespace Go.Proofs.Ytbfimplajocmmaa.PRA
open Go.Proofs.Ytbfimplajocmmaa.PFA Go.Proofs.Ytbfimplajocmmaa.PFC Go.Proofs.Ytbfimplajocmmaa.PFD Go.Proofs.Ytbfimplajocmmaa.PFK
open Go.RowKit Go.Proofs.YtbfimplajocmmaaW.PrintWords Go.Proofs.YtbfimplajocmmaaW.PrintLast Go.Proofs.YtbfimplajocmmaaW.PrintMore
attribute [local go_sem] max2_int min2_int max_two min_two max_three min_three max_four min_four
set_option linter.unusedVariables false
set_option linter.unusedSimpArgs false

mutual
def Ay.j0 : Nat → Int → Int → Int → Bool → Option (Int × Int)
 | 0, _, _, _, _ => none
 | k + 1, x0, x1, x2, x19 => if x19 = true then (some (0, 53)) else (if x1 < 1 then (Ay.j1 k x0 x1 x2 true) else (Ay.j1 k x0 x1 x2 (decide (x1 > 1024))))
def Ay.j1 : Nat → Int → Int → Int → Bool → Option (Int × Int)
 | 0, _, _, _, _ => none
 | k + 1, x0, x1, x2, x25 => if x25 = true then (some (0, 50)) else (if x0 = 1 then (some (mx 0 (mn x2 (wrap64 (x1 - 1))), 0)) else (if x0 = 3 then (if x1 = 0 then (none) else (some (Int.tmod (wrap64 ((Int.tmod x2 x1) + x1)) x1, 0))) else (if x1 = 1 then (some (0, 0)) else (if (wrap64 (2 * (wrap64 (x1 - 1)))) = 0 then (none) else (if (Int.tmod (wrap64 ((Int.tmod x2 (wrap64 (2 * (wrap64 (x1 - 1))))) + (wrap64 (2 * (wrap64 (x1 - 1)))))) (wrap64 (2 * (wrap64 (x1 - 1))))) < x1 then (some (Int.tmod (wrap64 ((Int.tmod x2 (wrap64 (2 * (wrap64 (x1 - 1))))) + (wrap64 (2 * (wrap64 (x1 - 1)))))) (wrap64 (2 * (wrap64 (x1 - 1)))), 0)) else (some (wrap64 ((wrap64 (2 * (wrap64 (x1 - 1)))) - (Int.tmod (wrap64 ((Int.tmod x2 (wrap64 (2 * (wrap64 (x1 - 1))))) + (wrap64 (2 * (wrap64 (x1 - 1)))))) (wrap64 (2 * (wrap64 (x1 - 1)))))), 0)))))))
end
def Ay.f (k : Nat) (a0 : Int) (a1 : Int) (a2 : Int) : Option (Int × Int) := if a0 = 1 then (Ay.j0 k a0 a1 a2 false) else (if a0 = 2 then (Ay.j0 k a0 a1 a2 false) else (Ay.j0 k a0 a1 a2 (a0 != 3)))
theorem Ay.mono_l : ∀ k, (∀ y0 y1 y2 y3, LeO (Ay.j0 k y0 y1 y2 y3) (Ay.j0 (k + 1) y0 y1 y2 y3)) ∧ (∀ y0 y1 y2 y3, LeO (Ay.j1 k y0 y1 y2 y3) (Ay.j1 (k + 1) y0 y1 y2 y3))
 | 0 => ⟨fun _ _ _ _ r h => by simp [Ay.j0] at h, fun _ _ _ _ r h => by simp [Ay.j1] at h⟩
 | k + 1 => by
  obtain ⟨ih0, ih1⟩ := Ay.mono_l k; refine ⟨?_, ?_⟩
  ·intro y0 y1 y2 y3
   unfold Ay.j0
   repeat' first
   | (with_reducible exact ih0 _ _ _ _)
   | (with_reducible exact ih1 _ _ _ _)
   | (with_reducible exact LeO.refl _)
   | (with_reducible exact LeO.none _)
   | (with_reducible refine LeO.ite ?_ ?_)
   | (with_reducible refine LeO.bind ?_ (fun _ => ?_))
   | exact ih0 _ _ _ _
   | exact ih1 _ _ _ _
   | exact LeO.none _
   | refine LeO.ite ?_ ?_
   | refine LeO.bind ?_ (fun _ => ?_)
  ·intro y0 y1 y2 y3
   unfold Ay.j1
   repeat' first
   | (with_reducible exact ih0 _ _ _ _)
   | (with_reducible exact ih1 _ _ _ _)
   | (with_reducible exact LeO.refl _)
   | (with_reducible exact LeO.none _)
   | (with_reducible refine LeO.ite ?_ ?_)
   | (with_reducible refine LeO.bind ?_ (fun _ => ?_))
   | exact ih0 _ _ _ _
   | exact ih1 _ _ _ _
   | exact LeO.none _
   | refine LeO.ite ?_ ?_
   | refine LeO.bind ?_ (fun _ => ?_)
theorem Ay.mono : ∀ a0 a1 a2 k, LeO (Ay.f k a0 a1 a2) (Ay.f (k + 1) a0 a1 a2) := by
 intro a0 a1 a2 k; obtain ⟨ih0, ih1⟩ := Ay.mono_l k; unfold Ay.f
 repeat' first
   | (with_reducible exact ih0 _ _ _ _)
   | (with_reducible exact ih1 _ _ _ _)
   | (with_reducible exact LeO.refl _)
   | (with_reducible exact LeO.none _)
   | (with_reducible refine LeO.ite ?_ ?_)
   | (with_reducible refine LeO.bind ?_ (fun _ => ?_))
   | exact ih0 _ _ _ _
   | exact ih1 _ _ _ _
   | exact LeO.none _
   | refine LeO.ite ?_ ?_
   | refine LeO.bind ?_ (fun _ => ?_)
set_option maxHeartbeats 8000000 in
set_option maxRecDepth 100000 in
theorem Ay.calls (k : Nat) (a0 : Int) (a1 : Int) (a2 : Int) (r1 : Int) (r2 : Int) (w : World) (h : Ay.f k a0 a1 a2 = some (r1, r2)) :
  Calls Try.prog 94 #[.int .i64 a0, .int .i64 a1, .int .i64 a2] w fun e w' => e = .returned (.tuple #[.int .i64 r1, .int .i64 r2]) ∧ Below w.heap.size w w' := by
 have HB := Ac.mk (Below.refl w.heap.size w); have H : (if a0 = 1 then (Ay.j0 k a0 a1 a2 false) else (if a0 = 2 then (Ay.j0 k a0 a1 a2 false) else (Ay.j0 k a0 a1 a2 (a0 != 3)))) = some (r1, r2) := h; clear h; have HC4 := Ac.mk H; clear H; go_enter Try.func94, Try.ntmps94
 go_upto_region 1 with (fail)
 go_cut [19] (fun v19 wc => ∃ (kq : Nat) (ap : Bool), v19 = .bool ap ∧ Ac (Ay.j0 kq a0 a1 a2 ap = some (r1, r2)) ∧ Ac (kq ≤ k) ∧ Ac (Below w.heap.size w wc))
 case first =>
  have H := HC4.out; clear HC4
  by_cases c5 : a0 = 1
  ·rw [if_pos c5] at H
   have ao : (a0 == 1) = true := beq_iff_eq.mpr c5; have aT : (a0 != 1) = false := bne_eq_false_iff_eq.mpr c5; clear c5; (first | rw [ao] | (simp only [i64_w, i32_w]; rw [ao]) | skip); have H' := Ac.mk H; clear H
   go_wp2
   go_meet
   case rel => exact ⟨_, (false), (by first | rfl | (simp; done) | (simp [*]; done)), H', ⟨by first | omega | exact Nat.le_refl _⟩, ⟨by repeat (first | (with_reducible first | exact HB.out | apply Ah | apply Ae | apply Ai) | exact HB.out)⟩⟩
  ·rw [if_neg c5] at H
   have ao : (a0 == 1) = false := beq_eq_false_iff_ne.mpr c5; have aT : (a0 != 1) = true := bne_iff_ne.mpr c5; (first | rw [ao] | (simp only [i64_w, i32_w]; rw [ao]) | skip)
   by_cases c6 : a0 = 2
   ·rw [if_pos c6] at H
    have aU : (a0 == 2) = true := beq_iff_eq.mpr c6; have aV : (a0 != 2) = false := bne_eq_false_iff_eq.mpr c6; clear c6; have H' := Ac.mk H; clear H
    go_wp2
    go_meet
    case rel => exact ⟨_, (false), (by first | rfl | (simp; done) | (simp [*]; done)), H', ⟨by first | omega | exact Nat.le_refl _⟩, ⟨by repeat (first | (with_reducible first | exact HB.out | apply Ah | apply Ae | apply Ai) | exact HB.out)⟩⟩
   ·rw [if_neg c6] at H
    have aU : (a0 == 2) = false := beq_eq_false_iff_ne.mpr c6; have aV : (a0 != 2) = true := bne_iff_ne.mpr c6; have H' := Ac.mk H; clear H
    go_wp2
    go_meet
    case rel => exact ⟨_, ((a0 != 3)), (by first | rfl | (simp; done) | (simp [*]; done)), H', ⟨by first | omega | exact Nat.le_refl _⟩, ⟨by repeat (first | (with_reducible first | exact HB.out | apply Ah | apply Ae | apply Ai) | exact HB.out)⟩⟩
 case rest =>
  clear HC4; (try clear p2); (try clear c5); (try clear ao); (try clear aT); (try clear c6); (try clear aU); (try clear aV); obtain ⟨kq, ap, rfl, HA, HJ3, HB⟩ := hcut; cases kq with
  | zero => exact absurd HA.out (by simp [Ay.j0])
  | succ kj3 =>
   have H := HA.out; clear HA
   simp only [Ay.j0] at H
   by_cases c7 : ap = true
   ·subst c7
    have H1 := H; rw [if_pos rfl] at H1; clear H; have H := H1; clear H1
    simp only [Option.some.injEq, Prod.mk.injEq] at H
    obtain ⟨rfl, rfl⟩ := H
    go_wp2
    go_ret2
    exact ⟨by first | rfl | (simp [At, As] <;> rfl) | (simp [*, At, As] <;> rfl), by repeat (first | (with_reducible first | exact HB.out | apply Ah | apply Ae | apply Ai) | exact HB.out)⟩
   ·replace c7 := Bool.eq_false_iff.mpr c7
    subst c7; have H1 := H; rw [if_neg (show ¬ (false = true) by decide)] at H1; clear H; have H := H1; clear H1; have HC8 := Ac.mk H; clear H
    go_upto_region 3 with (fail)
    go_cut [25] (fun v25 wc => ∃ (kq : Nat) (aq : Bool), v25 = .bool aq ∧ Ac (Ay.j1 kq a0 a1 a2 aq = some (r1, r2)) ∧ Ac (kq ≤ kj3) ∧ Ac (Below w.heap.size w wc))
    case first =>
     have H := HC8.out; clear HC8
     by_cases c9 : a1 < 1
     ·rw [if_pos c9] at H
      have ax : decide (a1 < 1) = true := decide_eq_true c9; clear c9; (first | rw [ax] | (simp only [i64_w, i32_w]; rw [ax]) | skip); have H' := Ac.mk H; clear H
      go_wp2
      go_meet
      case rel => exact ⟨_, (true), (by first | rfl | (simp; done) | (simp [*]; done)), H', ⟨by have := HJ3.out; first | omega | exact Nat.le_refl _⟩, ⟨by repeat (first | (with_reducible first | exact HB.out | apply Ah | apply Ae | apply Ai) | exact HB.out)⟩⟩
     ·rw [if_neg c9] at H
      have ax : decide (a1 < 1) = false := decide_eq_false c9; clear c9; (first | rw [ax] | (simp only [i64_w, i32_w]; rw [ax]) | skip); have H' := Ac.mk H; clear H
      go_wp2
      go_meet
      case rel => exact ⟨_, (decide (a1 > 1024)), (by first | rfl | (simp; done) | (simp [*]; done)), H', ⟨by have := HJ3.out; first | omega | exact Nat.le_refl _⟩, ⟨by repeat (first | (with_reducible first | exact HB.out | apply Ah | apply Ae | apply Ai) | exact HB.out)⟩⟩
    case rest =>
     clear HC8; (try clear p2); (try clear c5); (try clear ao); (try clear aT); (try clear c6); (try clear aU); (try clear aV); (try clear c7); (try clear c9); (try clear ax); (try clear p2); obtain ⟨kq, aq, rfl, HA, HJ7, HB⟩ := hcut; cases kq with
     | zero => exact absurd HA.out (by simp [Ay.j1])
     | succ kj7 =>
      have H := HA.out; clear HA
      simp only [Ay.j1] at H
      by_cases c10 : aq = true
      ·subst c10
       have H1 := H; rw [if_pos rfl] at H1; clear H; have H := H1; clear H1
       simp only [Option.some.injEq, Prod.mk.injEq] at H
       obtain ⟨rfl, rfl⟩ := H
       go_wp2
       go_ret2
       exact ⟨by first | rfl | (simp [At, As] <;> rfl) | (simp [*, At, As] <;> rfl), by repeat (first | (with_reducible first | exact HB.out | apply Ah | apply Ae | apply Ai) | exact HB.out)⟩
      ·replace c10 := Bool.eq_false_iff.mpr c10
       subst c10; have H1 := H; rw [if_neg (show ¬ (false = true) by decide)] at H1; clear H; have H := H1; clear H1
       by_cases c11 : a0 = 1
       ·rw [if_pos c11] at H
        have aW : (a0 == 1) = true := beq_iff_eq.mpr c11; have aX : (a0 != 1) = false := bne_eq_false_iff_eq.mpr c11; clear c11; obtain ⟨ay, ar⟩ : ∃ j_ : Int, (mn a2 (wrap64 (a1 - 1))) = j_ := ⟨_, rfl⟩; replace H : (some (mx 0 (ay), 0)) = some (r1, r2) := by first | (rw [ar] at H; exact H) | (simp only [ar] at H ⊢; exact H)
        have hji12_ : (if (wrap64 (a1 - 1)) < a2 then (wrap64 (a1 - 1)) else a2) = ay := ar; obtain ⟨aY, au⟩ : ∃ j_ : Int, (mx 0 (ay)) = j_ := ⟨_, rfl⟩; replace H : (some (aY, 0)) = some (r1, r2) := by first | (rw [au] at H; exact H) | (simp only [au] at H ⊢; exact H)
        have hji13_ : (if 0 < (ay) then (ay) else 0) = aY := au
        simp only [Option.some.injEq, Prod.mk.injEq] at H
        obtain ⟨rfl, rfl⟩ := H
        go_wp2
        go_ret2
        exact ⟨by first | rfl | (simp [At, As] <;> rfl) | (simp only [← ar, ← au]; first | rfl | (simp [At, As] <;> rfl)) | (simp [*, At, As] <;> rfl), by repeat (first | (with_reducible first | exact HB.out | apply Ah | apply Ae | apply Ai) | exact HB.out)⟩
       ·rw [if_neg c11] at H
        have aW : (a0 == 1) = false := beq_eq_false_iff_ne.mpr c11; have aX : (a0 != 1) = true := bne_iff_ne.mpr c11
        by_cases c14 : a0 = 3
        ·rw [if_pos c14] at H
         have av : (a0 == 3) = true := beq_iff_eq.mpr c14; have aZ : (a0 != 3) = false := bne_eq_false_iff_eq.mpr c14; clear c14
         by_cases c15 : a1 = 0
         ·rw [if_pos c15] at H
          exact absurd H (by simp)
         ·rw [if_neg c15] at H
          have bt : (a1 == 0) = false := beq_eq_false_iff_ne.mpr c15; have bu : (a1 != 0) = true := bne_iff_ne.mpr c15
          simp only [Option.some.injEq, Prod.mk.injEq] at H
          obtain ⟨rfl, rfl⟩ := H
          go_wp2
          go_ret2
          exact ⟨by first | rfl | (simp [At, As] <;> rfl) | (simp [*, At, As] <;> rfl), by repeat (first | (with_reducible first | exact HB.out | apply Ah | apply Ae | apply Ai) | exact HB.out)⟩
        ·rw [if_neg c14] at H
         have av : (a0 == 3) = false := beq_eq_false_iff_ne.mpr c14; have aZ : (a0 != 3) = true := bne_iff_ne.mpr c14
         by_cases c16 : a1 = 1
         ·rw [if_pos c16] at H
          have az : (a1 == 1) = true := beq_iff_eq.mpr c16; have ba : (a1 != 1) = false := bne_eq_false_iff_eq.mpr c16; clear c16
          simp only [Option.some.injEq, Prod.mk.injEq] at H
          obtain ⟨rfl, rfl⟩ := H
          go_wp2
          go_ret2
          exact ⟨by first | rfl | (simp [At, As] <;> rfl) | (simp [*, At, As] <;> rfl), by repeat (first | (with_reducible first | exact HB.out | apply Ah | apply Ae | apply Ai) | exact HB.out)⟩
         ·rw [if_neg c16] at H
          have az : (a1 == 1) = false := beq_eq_false_iff_ne.mpr c16; have ba : (a1 != 1) = true := bne_iff_ne.mpr c16
          by_cases c17 : (wrap64 (2 * (wrap64 (a1 - 1)))) = 0
          ·rw [if_pos c17] at H
           exact absurd H (by simp)
          ·rw [if_neg c17] at H
           have aI : ((wrap64 (2 * (wrap64 (a1 - 1)))) == 0) = false := beq_eq_false_iff_ne.mpr c17; have bv : ((wrap64 (2 * (wrap64 (a1 - 1)))) != 0) = true := bne_iff_ne.mpr c17
           by_cases c18 : (Int.tmod (wrap64 ((Int.tmod a2 (wrap64 (2 * (wrap64 (a1 - 1))))) + (wrap64 (2 * (wrap64 (a1 - 1)))))) (wrap64 (2 * (wrap64 (a1 - 1))))) < a1
           ·rw [if_pos c18] at H
            have bb : decide ((Int.tmod (wrap64 ((Int.tmod a2 (wrap64 (2 * (wrap64 (a1 - 1))))) + (wrap64 (2 * (wrap64 (a1 - 1)))))) (wrap64 (2 * (wrap64 (a1 - 1))))) < a1) = true := decide_eq_true c18; clear c18
            simp only [Option.some.injEq, Prod.mk.injEq] at H
            obtain ⟨rfl, rfl⟩ := H
            go_wp2
            go_ret2
            exact ⟨by first | rfl | (simp [At, As] <;> rfl) | (simp [*, At, As] <;> rfl), by repeat (first | (with_reducible first | exact HB.out | apply Ah | apply Ae | apply Ai) | exact HB.out)⟩
           ·rw [if_neg c18] at H
            have bb : decide ((Int.tmod (wrap64 ((Int.tmod a2 (wrap64 (2 * (wrap64 (a1 - 1))))) + (wrap64 (2 * (wrap64 (a1 - 1)))))) (wrap64 (2 * (wrap64 (a1 - 1))))) < a1) = false := decide_eq_false c18; clear c18
            simp only [Option.some.injEq, Prod.mk.injEq] at H
            obtain ⟨rfl, rfl⟩ := H
            go_wp2
            go_ret2
            exact ⟨by first | rfl | (simp [At, As] <;> rfl) | (simp [*, At, As] <;> rfl), by repeat (first | (with_reducible first | exact HB.out | apply Ah | apply Ae | apply Ai) | exact HB.out)⟩

def Bb.j0 : Nat → Int → Int → Int → Int → Bool → Option (Int)
 | 0, _, _, _, _, _ => none
 | k + 1, x1, x2, x3, x4, x30 => if x30 = true then (some 120) else (if x4 < 0 then (some 121) else (if x4 ≥ (wrap64 (x2 * x3)) then (some 121) else ((Ay.f k x1 1 0).bind fun bc => (some bc.2))))
def Bb.f (k : Nat) (ah : Int) (ai : Int) (af : List Int) (a1 : Int) (a2 : Int) (a3 : Int) (a4 : Int) : Option (Int) := (Co.f ah ai af).bind fun aj => (if aj = 0 then (if a2 < 1 then (Bb.j0 k a1 a2 a3 a4 true) else (if a3 < 1 then (Bb.j0 k a1 a2 a3 a4 true) else (if a2 > 15 then (Bb.j0 k a1 a2 a3 a4 true) else (Bb.j0 k a1 a2 a3 a4 (decide (a3 > 15)))))) else (some aj))
theorem Bb.mono_l : ∀ k, (∀ y0 y1 y2 y3 y4, LeO (Bb.j0 k y0 y1 y2 y3 y4) (Bb.j0 (k + 1) y0 y1 y2 y3 y4))
 | 0 => fun _ _ _ _ _ r h => by simp [Bb.j0] at h
 | k + 1 => by
  have ih0 := Bb.mono_l k
  ·intro y0 y1 y2 y3 y4
   unfold Bb.j0
   repeat' first
   | (with_reducible exact ih0 _ _ _ _ _)
   | (with_reducible exact Ay.mono _ _ _ _)
   | (with_reducible exact LeO.refl _)
   | (with_reducible exact LeO.none _)
   | (with_reducible refine LeO.ite ?_ ?_)
   | (with_reducible refine LeO.bind ?_ (fun _ => ?_))
   | exact ih0 _ _ _ _ _
   | exact Ay.mono _ _ _ _
   | exact LeO.none _
   | refine LeO.ite ?_ ?_
   | refine LeO.bind ?_ (fun _ => ?_)
theorem Bb.mono : ∀ a0 a1 a2 a3 a4 a5 a6 k, LeO (Bb.f k a0 a1 a2 a3 a4 a5 a6) (Bb.f (k + 1) a0 a1 a2 a3 a4 a5 a6) := by
 intro a0 a1 a2 a3 a4 a5 a6 k; have ih0 := Bb.mono_l k; unfold Bb.f
 repeat' first
   | (with_reducible exact ih0 _ _ _ _ _)
   | (with_reducible exact Ay.mono _ _ _ _)
   | (with_reducible exact LeO.refl _)
   | (with_reducible exact LeO.none _)
   | (with_reducible refine LeO.ite ?_ ?_)
   | (with_reducible refine LeO.bind ?_ (fun _ => ?_))
   | exact ih0 _ _ _ _ _
   | exact Ay.mono _ _ _ _
   | exact LeO.none _
   | refine LeO.ite ?_ ?_
   | refine LeO.bind ?_ (fun _ => ?_)
set_option maxHeartbeats 8000000 in
set_option maxRecDepth 100000 in
theorem Bb.calls (k : Nat) (ah : Int) (ai : Int) (ak : Option Addr) (am : Nat) (af : List Int) (a1 : Int) (a2 : Int) (a3 : Int) (a4 : Int) (r : Int) (w : World) (aJ : Kd.C (Kd.int .u32) w ak af.length af) (aK : af.length ≤ am) (h : Bb.f k ah ai af a1 a2 a3 a4 = some r) :
  Calls Try.prog 91 #[.agg #[.int .i64 ah, .int .i64 ai, .slice ak af.length am], .int .i64 a1, .int .i64 a2, .int .i64 a3, .int .i64 a4] w fun e w' => e = .returned (.int .i64 r) ∧ Below w.heap.size w w' := by
 have hu24 := Try.underlying24; have aM := Ac.mk aJ; have aN := Ac.mk aK; clear aJ aK; have HB := Ac.mk (Below.refl w.heap.size w); have H : ((Co.f ah ai af).bind fun aj => (if aj = 0 then (if a2 < 1 then (Bb.j0 k a1 a2 a3 a4 true) else (if a3 < 1 then (Bb.j0 k a1 a2 a3 a4 true) else (if a2 > 15 then (Bb.j0 k a1 a2 a3 a4 true) else (Bb.j0 k a1 a2 a3 a4 (decide (a3 > 15)))))) else (some aj))) = some r := h; clear h; replace H := Option.bind_eq_some_iff.mp H; obtain ⟨aj, A60, H⟩ := H
 try dsimp only at H
 have A6 := Ac.mk A60; clear A60
 by_cases c7 : aj = 0
 ·rw [if_pos c7] at H
  have bd : (aj == 0) = true := beq_iff_eq.mpr c7; have be : (aj != 0) = false := bne_eq_false_iff_eq.mpr c7; clear c7; have HC8 := Ac.mk H; clear H; go_enter Try.func91, Try.ntmps91
  go_upto_region 4 with (first | ((with_reducible refine Bf (N := 5) rfl ?_); refine Bc ?hg (N := 5) ?hd (cs := #[.int .i64 ah, .int .i64 ai, .slice ak af.length am]) (t := 24) ?hr ?_; (case hd => rfl); (case hg => rfl); (case hr => first | (go_simp; done) | (go_simp; rfl)); intro ac hg w9 hbox hb; have aa := Ac.mk (hbox); have bf := Ac.mk ((by rw [hg]; exact (Ak (lU HB.out)) : w.heap.size ≤ ac)); have ag := Ac.mk ((by rw [hg]; exact (Ak (lU HB.out)) : w.heap.size ≤ ac)); replace HB := Ac.mk (Aq (lU HB.out) hb); clear hb hbox hg; have aA : w9.cell? ⟨ac, 0, none⟩ = some (.int .i64 ah) := (Ad aa.out 0).trans rfl; have aC : w9.cell? ⟨ac, 1, none⟩ = some (.int .i64 ai) := (Ad aa.out 1).trans rfl; have aD : w9.cell? ⟨ac, 2, none⟩ = some (.slice ak af.length am) := (Ad aa.out 2).trans rfl; have aE := Af aa.out 0; have aG := Af aa.out 1; have aH := Af aa.out 2) | ((with_reducible refine Be (f := 47) rfl ?_); refine gL (some 13) Try.func47 #[.agg #[.int .i64 ah, .int .i64 ai, .slice ak af.length am]] ?_; (with_reducible refine (Co.calls ah ai _ _ af aj _ ?side1 ?side2 A6.out).mono ?_); (case side1 => repeat (first | exact (Kd.B2 aM.out HB.out) | (with_reducible refine Kd.Bw ?_ _) | (with_reducible refine Kd.B6 ?_ _) | (with_reducible refine Kd.C_drew ?_))); (case side2 => exact aN.out); rintro e w11 ⟨rfl, hb⟩; refine ⟨_, rfl, ?_⟩; replace aa := Ac.mk (An (g := ac) (o := .cells #[.int .i64 ah, .int .i64 ai, .slice ak af.length am] 24 (0, 0)) (by exact bU <| aa.out) hb); replace HB := Ac.mk (Aq (by repeat (first | (with_reducible first | exact HB.out | apply Ah | apply Ae | apply Ai | refine Ag ?_ ag.out) | exact HB.out)) hb); (try clear hb); (try clear hb2); (try clear hk); (try clear hi)))
  (try simp only [Act.put, sA, sB, sC])
  go_cut [30] (fun v30 wc => ∃ (kq : Nat) (aw : Bool), v30 = .bool aw ∧ Ac (Bb.j0 kq a1 a2 a3 a4 aw = some r) ∧ Ac (kq ≤ k) ∧ Ac (wc.heap[ac]? = some (.cells #[.int .i64 ah, .int .i64 ai, (.slice ak af.length am)] 24 (0, 0))) ∧ Ac (Below w.heap.size w wc))
  case first =>
   have H := HC8.out; clear HC8
   by_cases c12 : a2 < 1
   ·rw [if_pos c12] at H
    have an : decide (a2 < 1) = true := decide_eq_true c12; clear c12; (first | rw [an] | (simp only [i64_w, i32_w]; rw [an]) | skip); have H' := Ac.mk H; clear H
    go_wp2
    go_meet
    case rel => exact ⟨_, (true), (by first | rfl | (simp; done) | (simp [*]; done)), H', ⟨by first | omega | exact Nat.le_refl _⟩, ⟨by exact bU <| aa.out⟩, ⟨by repeat (first | (with_reducible first | exact HB.out | apply Ah | apply Ae | apply Ai | refine Ag ?_ ag.out) | exact HB.out)⟩⟩
   ·rw [if_neg c12] at H
    have an : decide (a2 < 1) = false := decide_eq_false c12; clear c12; (first | rw [an] | (simp only [i64_w, i32_w]; rw [an]) | skip)
    by_cases c13 : a3 < 1
    ·rw [if_pos c13] at H
     have aQ : decide (a3 < 1) = true := decide_eq_true c13; clear c13; have H' := Ac.mk H; clear H
     go_wp2
     go_meet
     case rel => exact ⟨_, (true), (by first | rfl | (simp; done) | (simp [*]; done)), H', ⟨by first | omega | exact Nat.le_refl _⟩, ⟨by exact bU <| aa.out⟩, ⟨by repeat (first | (with_reducible first | exact HB.out | apply Ah | apply Ae | apply Ai | refine Ag ?_ ag.out) | exact HB.out)⟩⟩
    ·rw [if_neg c13] at H
     have aQ : decide (a3 < 1) = false := decide_eq_false c13; clear c13
     by_cases c14 : a2 > 15
     ·rw [if_pos c14] at H
      have av : decide (15 < a2) = true := decide_eq_true c14; clear c14; have H' := Ac.mk H; clear H
      go_wp2
      go_meet
      case rel => exact ⟨_, (true), (by first | rfl | (simp; done) | (simp [*]; done)), H', ⟨by first | omega | exact Nat.le_refl _⟩, ⟨by exact bU <| aa.out⟩, ⟨by repeat (first | (with_reducible first | exact HB.out | apply Ah | apply Ae | apply Ai | refine Ag ?_ ag.out) | exact HB.out)⟩⟩
     ·rw [if_neg c14] at H
      have av : decide (15 < a2) = false := decide_eq_false c14; clear c14; have H' := Ac.mk H; clear H
      go_wp2
      go_meet
      case rel => exact ⟨_, (decide (a3 > 15)), (by first | rfl | (simp; done) | (simp [*]; done)), H', ⟨by first | omega | exact Nat.le_refl _⟩, ⟨by exact bU <| aa.out⟩, ⟨by repeat (first | (with_reducible first | exact HB.out | apply Ah | apply Ae | apply Ai | refine Ag ?_ ag.out) | exact HB.out)⟩⟩
  case rest =>
   clear HC8; (try clear c1); (try clear p2); (try clear c4); (try clear c7); (try clear bd); (try clear be); (try clear c9); (try clear c12); (try clear an); (try clear c13); (try clear aQ); (try clear c14); (try clear av); (try clear aA); (try clear aC); (try clear aD); (try clear aE); (try clear aG); (try clear aH); obtain ⟨kq, aw, rfl, HA, HJ7, aa, HB⟩ := hcut; cases kq with
   | zero => exact absurd HA.out (by simp [Bb.j0])
   | succ kj7 =>
    have H := HA.out; clear HA
    simp only [Bb.j0] at H
    by_cases c15 : aw = true
    ·subst c15
     have H1 := H; rw [if_pos rfl] at H1; clear H; have H := H1; clear H1; obtain rfl := Option.some.inj H
     go_wp2
     go_ret
     exact ⟨by first | rfl | (simp [At, As] <;> rfl) | (simp [*, At, As] <;> rfl), by repeat (first | (with_reducible first | exact HB.out | apply Ah | apply Ae | apply Ai | refine Ag ?_ ag.out) | exact HB.out)⟩
    ·replace c15 := Bool.eq_false_iff.mpr c15
     subst c15; have H1 := H; rw [if_neg (show ¬ (false = true) by decide)] at H1; clear H; have H := H1; clear H1
     by_cases c16 : a4 < 0
     ·rw [if_pos c16] at H
      have az : decide (a4 < 0) = true := decide_eq_true c16; clear c16; obtain rfl := Option.some.inj H
      go_wp2
      go_ret
      exact ⟨by first | rfl | (simp [At, As] <;> rfl) | (simp [*, At, As] <;> rfl), by repeat (first | (with_reducible first | exact HB.out | apply Ah | apply Ae | apply Ai | refine Ag ?_ ag.out) | exact HB.out)⟩
     ·rw [if_neg c16] at H
      have az : decide (a4 < 0) = false := decide_eq_false c16; clear c16
      by_cases c17 : a4 ≥ (wrap64 (a2 * a3))
      ·rw [if_pos c17] at H
       have aI : decide ((wrap64 (a2 * a3)) ≤ a4) = true := decide_eq_true c17; clear c17; obtain rfl := Option.some.inj H
       go_wp2
       go_ret
       exact ⟨by first | rfl | (simp [At, As] <;> rfl) | (simp [*, At, As] <;> rfl), by repeat (first | (with_reducible first | exact HB.out | apply Ah | apply Ae | apply Ai | refine Ag ?_ ag.out) | exact HB.out)⟩
      ·rw [if_neg c17] at H
       have aI : decide ((wrap64 (a2 * a3)) ≤ a4) = false := decide_eq_false c17; clear c17; replace H := Option.bind_eq_some_iff.mp H; obtain ⟨⟨bp, bq⟩, A180, H⟩ := H
       try dsimp only at H
       have A18 := Ac.mk A180; clear A180; obtain rfl := Option.some.inj H
       go_wp2_with (first | ((with_reducible refine Be (f := 94) rfl ?_); refine gL (some 42) Try.func94 #[.int .i64 a1, .int .i64 1, .int .i64 0] ?_; (with_reducible refine (Ay.calls kj7 a1 1 0 bp bq _ A18.out).mono ?_); rintro e w19 ⟨rfl, hb⟩; refine ⟨_, rfl, ?_⟩; replace aa := Ac.mk (An (g := ac) (o := .cells #[.int .i64 ah, .int .i64 ai, .slice ak af.length am] 24 (0, 0)) (by exact bU <| aa.out) hb); replace HB := Ac.mk (Aq (by repeat (first | (with_reducible first | exact HB.out | apply Ah | apply Ae | apply Ai | refine Ag ?_ ag.out) | exact HB.out)) hb); (try clear hb); (try clear hb2); (try clear hk); (try clear hi)))
       go_ret
       exact ⟨by first | rfl | (simp [At, As] <;> rfl) | (simp [*, At, As] <;> rfl), by repeat (first | (with_reducible first | exact HB.out | apply Ah | apply Ae | apply Ai | refine Ag ?_ ag.out) | exact HB.out)⟩
 ·rw [if_neg c7] at H
  have bd : (aj == 0) = false := beq_eq_false_iff_ne.mpr c7; have be : (aj != 0) = true := bne_iff_ne.mpr c7; obtain rfl := Option.some.inj H; go_enter Try.func91, Try.ntmps91
  go_wp2_with (first | ((with_reducible refine Bf (N := 5) rfl ?_); refine Bc ?hg (N := 5) ?hd (cs := #[.int .i64 ah, .int .i64 ai, .slice ak af.length am]) (t := 24) ?hr ?_; (case hd => rfl); (case hg => rfl); (case hr => first | (go_simp; done) | (go_simp; rfl)); intro ac hg w20 hbox hb; have aa := Ac.mk (hbox); have bf := Ac.mk ((by rw [hg]; exact (Ak (lU HB.out)) : w.heap.size ≤ ac)); have ag := Ac.mk ((by rw [hg]; exact (Ak (lU HB.out)) : w.heap.size ≤ ac)); replace HB := Ac.mk (Aq (lU HB.out) hb); clear hb hbox hg; have bg : w20.cell? ⟨ac, 0, none⟩ = some (.int .i64 ah) := (Ad aa.out 0).trans rfl; have bh : w20.cell? ⟨ac, 1, none⟩ = some (.int .i64 ai) := (Ad aa.out 1).trans rfl; have bj : w20.cell? ⟨ac, 2, none⟩ = some (.slice ak af.length am) := (Ad aa.out 2).trans rfl; have bl := Af aa.out 0; have bm := Af aa.out 1; have bo := Af aa.out 2) | ((with_reducible refine Be (f := 47) rfl ?_); refine gL (some 13) Try.func47 #[.agg #[.int .i64 ah, .int .i64 ai, .slice ak af.length am]] ?_; (with_reducible refine (Co.calls ah ai _ _ af aj _ ?side1 ?side2 A6.out).mono ?_); (case side1 => repeat (first | exact (Kd.B2 aM.out HB.out) | (with_reducible refine Kd.Bw ?_ _) | (with_reducible refine Kd.B6 ?_ _) | (with_reducible refine Kd.C_drew ?_))); (case side2 => exact aN.out); rintro e w22 ⟨rfl, hb⟩; refine ⟨_, rfl, ?_⟩; replace aa := Ac.mk (An (g := ac) (o := .cells #[.int .i64 ah, .int .i64 ai, .slice ak af.length am] 24 (0, 0)) (by exact bU <| aa.out) hb); replace HB := Ac.mk (Aq (by repeat (first | (with_reducible first | exact HB.out | apply Ah | apply Ae | apply Ai | refine Ag ?_ ag.out) | exact HB.out)) hb); (try clear hb); (try clear hb2); (try clear hk); (try clear hi)))
  go_ret
  exact ⟨by first | rfl | (simp [At, As] <;> rfl) | (simp [*, At, As] <;> rfl), by repeat (first | (with_reducible first | exact HB.out | apply Ah | apply Ae | apply Ai | refine Ag ?_ ag.out) | exact HB.out)⟩

def Cy.f (a0 : Int) : Option (Int) := if (a0 / 2147483648) = 0 then (some ((a0 + 2147483648) % 4294967296)) else (some ((4294967295 - a0) % 4294967296))
set_option maxHeartbeats 8000000 in
set_option maxRecDepth 100000 in
theorem Cy.calls (a0 : Int) (r : Int) (w : World) (h : Cy.f a0 = some r) :
  Calls Try.prog 101 #[.int .u32 a0] w fun e w' => e = .returned (.int .u32 r) ∧ Drawn0 w w' := by
 have H : (if (a0 / 2147483648) = 0 then (some ((a0 + 2147483648) % 4294967296)) else (some ((4294967295 - a0) % 4294967296))) = some r := h; clear h
 by_cases c2 : (a0 / 2147483648) = 0
 ·rw [if_pos c2] at H
  have br : ((a0 / 2147483648) == 0) = true := beq_iff_eq.mpr c2; have bs : ((a0 / 2147483648) != 0) = false := bne_eq_false_iff_eq.mpr c2; clear c2; obtain rfl := Option.some.inj H; go_enter Try.func101, Try.ntmps101
  go_wp2
  go_ret
  exact ⟨by first | rfl | (simp; done) | (simp [*]; done), by repeat (first | exact Drawn0.refl _ | apply Drawn0.step)⟩
 ·rw [if_neg c2] at H
  have br : ((a0 / 2147483648) == 0) = false := beq_eq_false_iff_ne.mpr c2; have bs : ((a0 / 2147483648) != 0) = true := bne_iff_ne.mpr c2; obtain rfl := Option.some.inj H; go_enter Try.func101, Try.ntmps101
  go_wp2
  go_ret
  exact ⟨by first | rfl | (simp; done) | (simp [*]; done), by repeat (first | exact Drawn0.refl _ | apply Drawn0.step)⟩

end Go.Proofs.Ytbfimplajocmmaa.PRA


