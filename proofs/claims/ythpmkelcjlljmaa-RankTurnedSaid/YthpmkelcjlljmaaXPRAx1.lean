import Derived.Test.YthpmkelcjlljmaaXPRAx0
namespace Go.Proofs.Ythpmkelcjlljmaa.PRA
open Go.RowKit Go.Proofs.YthpmkelcjlljmaaW.PrintWords Go.Proofs.YthpmkelcjlljmaaW.PrintLast Go.Proofs.YthpmkelcjlljmaaW.PrintMore
attribute [local go_sem] max2_int min2_int max_two min_two max_three min_three max_four min_four
set_option linter.unusedVariables false
set_option linter.unusedSimpArgs false

def B6.f (a0 : Int) (a1 : Int) : Option (Bool) := if a0 ≥ 1 then (if a1 ≥ 1 then (if a0 ≤ 1024 then (if a1 ≤ 1024 then (some (decide ((wrap64 (a0 * a1)) ≤ 65536))) else (some false)) else (some false)) else (some false)) else (some false)
set_option maxHeartbeats 8000000 in
set_option maxRecDepth 100000 in
theorem B6.calls (a0 : Int) (a1 : Int) (r : Bool) (w : World) (h : B6.f a0 a1 = some r) :
  Calls Try.prog 52 #[.int .i64 a0, .int .i64 a1] w fun e w' => e = .returned (.bool r) ∧ Drawn0 w w' := by
 have H : (if a0 ≥ 1 then (if a1 ≥ 1 then (if a0 ≤ 1024 then (if a1 ≤ 1024 then (some (decide ((wrap64 (a0 * a1)) ≤ 65536))) else (some false)) else (some false)) else (some false)) else (some false)) = some r := h
 clear h
 by_cases c3 : a0 ≥ 1
 ·rw [if_pos c3] at H
  have cm : decide (1 ≤ a0) = true := decide_eq_true c3
  clear c3
  by_cases c4 : a1 ≥ 1
  ·rw [if_pos c4] at H
   have aV : decide (1 ≤ a1) = true := decide_eq_true c4
   clear c4
   by_cases c5 : a0 ≤ 1024
   ·rw [if_pos c5] at H
    have av : decide (a0 ≤ 1024) = true := decide_eq_true c5
    clear c5
    by_cases c6 : a1 ≤ 1024
    ·rw [if_pos c6] at H
     have dn : decide (a1 ≤ 1024) = true := decide_eq_true c6
     clear c6
     obtain rfl := Option.some.inj H
     go_enter Try.func52, Try.ntmps52
     go_wp2
     go_ret
     exact ⟨by first | rfl | (simp; done) | (simp [*]; done), by repeat (first | exact Drawn0.refl _ | apply Drawn0.step)⟩
    ·rw [if_neg c6] at H
     have dn : decide (a1 ≤ 1024) = false := decide_eq_false c6
     clear c6
     obtain rfl := Option.some.inj H
     go_enter Try.func52, Try.ntmps52
     go_wp2
     go_ret
     exact ⟨by first | rfl | (simp; done) | (simp [*]; done), by repeat (first | exact Drawn0.refl _ | apply Drawn0.step)⟩
   ·rw [if_neg c5] at H
    have av : decide (a0 ≤ 1024) = false := decide_eq_false c5
    clear c5
    obtain rfl := Option.some.inj H
    go_enter Try.func52, Try.ntmps52
    go_wp2
    go_ret
    exact ⟨by first | rfl | (simp; done) | (simp [*]; done), by repeat (first | exact Drawn0.refl _ | apply Drawn0.step)⟩
  ·rw [if_neg c4] at H
   have aV : decide (1 ≤ a1) = false := decide_eq_false c4
   clear c4
   obtain rfl := Option.some.inj H
   go_enter Try.func52, Try.ntmps52
   go_wp2
   go_ret
   exact ⟨by first | rfl | (simp; done) | (simp [*]; done), by repeat (first | exact Drawn0.refl _ | apply Drawn0.step)⟩
 ·rw [if_neg c3] at H
  have cm : decide (1 ≤ a0) = false := decide_eq_false c3
  clear c3
  obtain rfl := Option.some.inj H
  go_enter Try.func52, Try.ntmps52
  go_wp2
  go_ret
  exact ⟨by first | rfl | (simp; done) | (simp [*]; done), by repeat (first | exact Drawn0.refl _ | apply Drawn0.step)⟩

def Bx.f (af : Int) (ag : Int) (ah : List Int) : Option (Int) := (B6.f af ag).bind fun aW => (if aW = true then (if (ah.length : Int) = (wrap64 (af * ag)) then (some 0) else (some 51)) else (some 50))
set_option maxHeartbeats 8000000 in
set_option maxRecDepth 100000 in
theorem Bx.calls (af : Int) (ag : Int) (an : Option Addr) (ao : Nat) (ah : List Int) (r : Int) (w : World) (aw : Kd.C (Kd.int .u32) w an ah.length ah) (ax : ah.length ≤ ao) (h : Bx.f af ag ah = some r) :
  Calls Try.prog 45 #[.agg #[.int .i64 af, .int .i64 ag, .slice an ah.length ao]] w fun e w' => e = .returned (.int .i64 r) ∧ Below w.heap.size w w' := by
 have hu25 := Try.underlying25
 have aX := Ac.mk aw
 have aY := Ac.mk ax
 clear aw ax
 have HB := Ac.mk (Below.refl w.heap.size w)
 have H : ((B6.f af ag).bind fun aW => (if aW = true then (if (ah.length : Int) = (wrap64 (af * ag)) then (some 0) else (some 51)) else (some 50))) = some r := h
 clear h
 replace H := Option.bind_eq_some_iff.mp H
 obtain ⟨aW, A20, H⟩ := H
 try dsimp only at H
 have A2 := Ac.mk A20
 clear A20
 by_cases c3 : aW = true
 ·subst c3
  have H1 := H
  rw [if_pos rfl] at H1
  clear H
  have H := H1
  clear H1
  by_cases c4 : (ah.length : Int) = (wrap64 (af * ag))
  ·rw [if_pos c4] at H
   have aV : ((ah.length : Int) == (wrap64 (af * ag))) = true := beq_iff_eq.mpr c4
   have bc : ((ah.length : Int) != (wrap64 (af * ag))) = false := bne_eq_false_iff_eq.mpr c4
   clear c4
   obtain rfl := Option.some.inj H
   go_enter Try.func45, Try.ntmps45
   go_wp2_with (first | ((with_reducible refine Bd (N := 1) rfl ?_); refine Bc ?hg (N := 1) ?hd (cs := #[.int .i64 af, .int .i64 ag, .slice an ah.length ao]) (t := 25) ?hr ?_; (case hd => rfl); (case hg => rfl); (case hr => first | (go_simp; done) | (go_simp; rfl)); intro ap hg w5 hbox hb; have n0_ := Ac.mk (At (by repeat (first | (with_reducible first | exact HB.out | apply Ai | apply Af | apply Aj) | exact HB.out)) hb); have n1_ := Ac.mk (hbox); have n2_ := Ac.mk ((by rw [hg]; exact (Ap (by repeat (first | (with_reducible first | exact HB.out | apply Ai | apply Af | apply Aj) | exact HB.out))) : w.heap.size ≤ ap)); have n3_ := Ac.mk ((by rw [hg]; exact (Ap (by repeat (first | (with_reducible first | exact HB.out | apply Ai | apply Af | apply Aj) | exact HB.out))) : w.heap.size ≤ ap)); clear HB; have HB := n0_; have ak := n1_; have bZ := n2_; have ay := n3_; clear n0_ n1_ n2_ n3_; clear hb hbox hg; have dp : w5.cell? ⟨ap, 0, none⟩ = some (.int .i64 af) := (Ag ak.out 0).trans rfl; have dq : w5.cell? ⟨ap, 1, none⟩ = some (.int .i64 ag) := (Ag ak.out 1).trans rfl; have dt : w5.cell? ⟨ap, 2, none⟩ = some (.slice an ah.length ao) := (Ag ak.out 2).trans rfl; have du := Ah ak.out 0; have dv := Ah ak.out 1; have dw := Ah ak.out 2) | ((with_reducible refine Be (f := 52) rfl ?_); refine Bv (some 8) rfl rfl Try.func52 (by kernel_rfl) rfl #[.int .i64 af, .int .i64 ag] rfl (by (try simp only [List.map_toArray, List.map_cons, List.map_nil]); first | done | rfl | (simp only [List.length_drop, List.length_take]; rfl)) ?_; (with_reducible refine (B6.calls af ag true _ A2.out).mono ?_); rintro e w' ⟨rfl, ⟨nd, rfl⟩⟩; refine ⟨_, rfl, ?_⟩))
   go_ret
   exact ⟨by first | rfl | (simp [Bb, Ba] <;> rfl) | (simp [*, Bb, Ba] <;> rfl), by repeat (first | (with_reducible first | exact HB.out | apply Ai | apply Af | apply Aj | refine Ae ?_ ay.out) | exact HB.out)⟩
  ·rw [if_neg c4] at H
   have aV : ((ah.length : Int) == (wrap64 (af * ag))) = false := beq_eq_false_iff_ne.mpr c4
   have bc : ((ah.length : Int) != (wrap64 (af * ag))) = true := bne_iff_ne.mpr c4
   obtain rfl := Option.some.inj H
   go_enter Try.func45, Try.ntmps45
   go_wp2_with (first | ((with_reducible refine Bd (N := 1) rfl ?_); refine Bc ?hg (N := 1) ?hd (cs := #[.int .i64 af, .int .i64 ag, .slice an ah.length ao]) (t := 25) ?hr ?_; (case hd => rfl); (case hg => rfl); (case hr => first | (go_simp; done) | (go_simp; rfl)); intro ap hg w7 hbox hb; have n0_ := Ac.mk (At (by repeat (first | (with_reducible first | exact HB.out | apply Ai | apply Af | apply Aj) | exact HB.out)) hb); have n1_ := Ac.mk (hbox); have n2_ := Ac.mk ((by rw [hg]; exact (Ap (by repeat (first | (with_reducible first | exact HB.out | apply Ai | apply Af | apply Aj) | exact HB.out))) : w.heap.size ≤ ap)); have n3_ := Ac.mk ((by rw [hg]; exact (Ap (by repeat (first | (with_reducible first | exact HB.out | apply Ai | apply Af | apply Aj) | exact HB.out))) : w.heap.size ≤ ap)); clear HB; have HB := n0_; have ak := n1_; have bZ := n2_; have ay := n3_; clear n0_ n1_ n2_ n3_; clear hb hbox hg; have dx : w7.cell? ⟨ap, 0, none⟩ = some (.int .i64 af) := (Ag ak.out 0).trans rfl; have dy : w7.cell? ⟨ap, 1, none⟩ = some (.int .i64 ag) := (Ag ak.out 1).trans rfl; have dz : w7.cell? ⟨ap, 2, none⟩ = some (.slice an ah.length ao) := (Ag ak.out 2).trans rfl; have dA := Ah ak.out 0; have dB := Ah ak.out 1; have dC := Ah ak.out 2) | ((with_reducible refine Be (f := 52) rfl ?_); refine Bv (some 8) rfl rfl Try.func52 (by kernel_rfl) rfl #[.int .i64 af, .int .i64 ag] rfl (by (try simp only [List.map_toArray, List.map_cons, List.map_nil]); first | done | rfl | (simp only [List.length_drop, List.length_take]; rfl)) ?_; (with_reducible refine (B6.calls af ag true _ A2.out).mono ?_); rintro e w' ⟨rfl, ⟨nd, rfl⟩⟩; refine ⟨_, rfl, ?_⟩))
   go_ret
   exact ⟨by first | rfl | (simp [Bb, Ba] <;> rfl) | (simp [*, Bb, Ba] <;> rfl), by repeat (first | (with_reducible first | exact HB.out | apply Ai | apply Af | apply Aj | refine Ae ?_ ay.out) | exact HB.out)⟩
 ·replace c3 := Bool.eq_false_iff.mpr c3
  subst c3
  have H1 := H
  rw [if_neg (show ¬ (false = true) by decide)] at H1
  clear H
  have H := H1
  clear H1
  obtain rfl := Option.some.inj H
  go_enter Try.func45, Try.ntmps45
  go_wp2_with (first | ((with_reducible refine Bd (N := 1) rfl ?_); refine Bc ?hg (N := 1) ?hd (cs := #[.int .i64 af, .int .i64 ag, .slice an ah.length ao]) (t := 25) ?hr ?_; (case hd => rfl); (case hg => rfl); (case hr => first | (go_simp; done) | (go_simp; rfl)); intro ap hg w9 hbox hb; have n0_ := Ac.mk (At (by repeat (first | (with_reducible first | exact HB.out | apply Ai | apply Af | apply Aj) | exact HB.out)) hb); have n1_ := Ac.mk (hbox); have n2_ := Ac.mk ((by rw [hg]; exact (Ap (by repeat (first | (with_reducible first | exact HB.out | apply Ai | apply Af | apply Aj) | exact HB.out))) : w.heap.size ≤ ap)); have n3_ := Ac.mk ((by rw [hg]; exact (Ap (by repeat (first | (with_reducible first | exact HB.out | apply Ai | apply Af | apply Aj) | exact HB.out))) : w.heap.size ≤ ap)); clear HB; have HB := n0_; have ak := n1_; have bZ := n2_; have ay := n3_; clear n0_ n1_ n2_ n3_; clear hb hbox hg; have aE : w9.cell? ⟨ap, 0, none⟩ = some (.int .i64 af) := (Ag ak.out 0).trans rfl; have aG : w9.cell? ⟨ap, 1, none⟩ = some (.int .i64 ag) := (Ag ak.out 1).trans rfl; have aH : w9.cell? ⟨ap, 2, none⟩ = some (.slice an ah.length ao) := (Ag ak.out 2).trans rfl; have aI := Ah ak.out 0; have aJ := Ah ak.out 1; have aK := Ah ak.out 2) | ((with_reducible refine Be (f := 52) rfl ?_); refine Bv (some 8) rfl rfl Try.func52 (by kernel_rfl) rfl #[.int .i64 af, .int .i64 ag] rfl (by (try simp only [List.map_toArray, List.map_cons, List.map_nil]); first | done | rfl | (simp only [List.length_drop, List.length_take]; rfl)) ?_; (with_reducible refine (B6.calls af ag false _ A2.out).mono ?_); rintro e w' ⟨rfl, ⟨nd, rfl⟩⟩; refine ⟨_, rfl, ?_⟩))
  go_ret
  exact ⟨by first | rfl | (simp [Bb, Ba] <;> rfl) | (simp [*, Bb, Ba] <;> rfl), by repeat (first | (with_reducible first | exact HB.out | apply Ai | apply Af | apply Aj | refine Ae ?_ ay.out) | exact HB.out)⟩

def Cf.f (a0 : Int) (a1 : Int) : Option (Int) := if a1 = 0 then (none) else (some (Int.tmod (wrap64 ((Int.tmod a0 a1) + a1)) a1))
set_option maxHeartbeats 8000000 in
set_option maxRecDepth 100000 in
theorem Cf.calls (a0 : Int) (a1 : Int) (r : Int) (w : World) (h : Cf.f a0 a1 = some r) :
  Calls Try.prog 53 #[.int .i64 a0, .int .i64 a1] w fun e w' => e = .returned (.int .i64 r) ∧ Drawn0 w w' := by
 have H : (if a1 = 0 then (none) else (some (Int.tmod (wrap64 ((Int.tmod a0 a1) + a1)) a1))) = some r := h
 clear h
 by_cases c3 : a1 = 0
 ·rw [if_pos c3] at H
  exact absurd H (by simp)
 ·rw [if_neg c3] at H
  have cm : (a1 == 0) = false := beq_eq_false_iff_ne.mpr c3
  have dG : (a1 != 0) = true := bne_iff_ne.mpr c3
  obtain rfl := Option.some.inj H
  go_enter Try.func53, Try.ntmps53
  go_wp2
  go_ret
  exact ⟨by first | rfl | (simp; done) | (simp [*]; done), by repeat (first | exact Drawn0.refl _ | apply Drawn0.step)⟩

mutual
def Bp.j0 : Nat → Int → Int → Int → Bool → Option (Int × Int)
 | 0, _, _, _, _ => none
 | k + 1, x0, x1, x2, x9 => if x9 = true then (some (0, 53)) else (if x1 < 1 then (Bp.j1 k x0 x1 x2 true) else (Bp.j1 k x0 x1 x2 (decide (x1 > 1024))))
def Bp.j1 : Nat → Int → Int → Int → Bool → Option (Int × Int)
 | 0, _, _, _, _ => none
 | k + 1, x0, x1, x2, x16 => if x16 = true then (some (0, 50)) else (if x0 = 1 then (some (mn (mx x2 0) (wrap64 (x1 - 1)), 0)) else (if x0 = 3 then ((Cf.f x2 x1).bind fun b7 => (some (b7, 0))) else (if x1 = 1 then (some (0, 0)) else ((Cf.f x2 (wrap64 (2 * (wrap64 (x1 - 1))))).bind fun au => (some (mn au (wrap64 ((wrap64 (2 * (wrap64 (x1 - 1)))) - au)), 0))))))
end
def Bp.f (k : Nat) (a0 : Int) (a1 : Int) (a2 : Int) : Option (Int × Int) := if a0 < 1 then (Bp.j0 k a0 a1 a2 true) else (Bp.j0 k a0 a1 a2 (decide (a0 > 3)))
set_option maxHeartbeats 8000000 in
set_option maxRecDepth 100000 in
theorem Bp.calls (k : Nat) (a0 : Int) (a1 : Int) (a2 : Int) (r1 : Int) (r2 : Int) (w : World) (h : Bp.f k a0 a1 a2 = some (r1, r2)) :
  Calls Try.prog 46 #[.int .i64 a0, .int .i64 a1, .int .i64 a2] w fun e w' => e = .returned (.tuple #[.int .i64 r1, .int .i64 r2]) ∧ Below w.heap.size w w' := by
 have HB := Ac.mk (Below.refl w.heap.size w)
 have H : (if a0 < 1 then (Bp.j0 k a0 a1 a2 true) else (Bp.j0 k a0 a1 a2 (decide (a0 > 3)))) = some (r1, r2) := h
 clear h
 have HC4 := Ac.mk H
 clear H
 go_enter Try.func46, Try.ntmps46
 go_upto_region 1 with (fail)
 go_cut [9] (fun v9 wc => ∃ (kq : Nat) (bd : Bool), v9 = .bool bd ∧ Ac (Bp.j0 kq a0 a1 a2 bd = some (r1, r2)) ∧ Ac (kq ≤ k) ∧ Ac (Below w.heap.size w wc))
 case first =>
  have H := HC4.out
  clear HC4
  by_cases c5 : a0 < 1
  ·rw [if_pos c5] at H
   have av : decide (a0 < 1) = true := decide_eq_true c5
   clear c5
   (first | rw [av] | (simp only [i64_w, i32_w]; rw [av]) | skip)
   have H' := Ac.mk H
   clear H
   go_wp2
   go_meet
   case rel => exact ⟨_, (true), (by first | rfl | (simp; done) | (simp [*]; done)), H', ⟨by first | omega | exact Nat.le_refl _⟩, ⟨by repeat (first | (with_reducible first | exact HB.out | apply Ai | apply Af | apply Aj) | exact HB.out)⟩⟩
  ·rw [if_neg c5] at H
   have av : decide (a0 < 1) = false := decide_eq_false c5
   clear c5
   (first | rw [av] | (simp only [i64_w, i32_w]; rw [av]) | skip)
   have H' := Ac.mk H
   clear H
   go_wp2
   go_meet
   case rel => exact ⟨_, (decide (a0 > 3)), (by first | rfl | (simp; done) | (simp [*]; done)), H', ⟨by first | omega | exact Nat.le_refl _⟩, ⟨by repeat (first | (with_reducible first | exact HB.out | apply Ai | apply Af | apply Aj) | exact HB.out)⟩⟩
 case rest =>
  clear HC4
  try clear p2
  try clear c4
  try clear c5
  try clear av
  obtain ⟨kq, bd, rfl, HA, HJ3, HB⟩ := hcut
  cases kq with
  | zero => exact absurd HA.out (by simp [Bp.j0])
  | succ kj3 =>
   have H := HA.out
   clear HA
   simp only [Bp.j0] at H
   by_cases c6 : bd = true
   ·subst c6
    have H1 := H
    rw [if_pos rfl] at H1
    clear H
    have H := H1
    clear H1
    simp only [Option.some.injEq, Prod.mk.injEq] at H
    obtain ⟨rfl, rfl⟩ := H
    go_wp2
    go_ret2
    exact ⟨by first | rfl | (simp [Bb, Ba] <;> rfl) | (simp [*, Bb, Ba] <;> rfl), by repeat (first | (with_reducible first | exact HB.out | apply Ai | apply Af | apply Aj) | exact HB.out)⟩
   ·replace c6 := Bool.eq_false_iff.mpr c6
    subst c6
    have H1 := H
    rw [if_neg (show ¬ (false = true) by decide)] at H1
    clear H
    have H := H1
    clear H1
    have HC7 := Ac.mk H
    clear H
    go_upto_region 3 with (fail)
    go_cut [16] (fun v16 wc => ∃ (kq : Nat) (aM : Bool), v16 = .bool aM ∧ Ac (Bp.j1 kq a0 a1 a2 aM = some (r1, r2)) ∧ Ac (kq ≤ kj3) ∧ Ac (Below w.heap.size w wc))
    case first =>
     have H := HC7.out
     clear HC7
     by_cases c8 : a1 < 1
     ·rw [if_pos c8] at H
      have az : decide (a1 < 1) = true := decide_eq_true c8
      clear c8
      (first | rw [az] | (simp only [i64_w, i32_w]; rw [az]) | skip)
      have H' := Ac.mk H
      clear H
      go_wp2
      go_meet
      case rel => exact ⟨_, (true), (by first | rfl | (simp; done) | (simp [*]; done)), H', ⟨by have := HJ3.out; first | omega | exact Nat.le_refl _⟩, ⟨by repeat (first | (with_reducible first | exact HB.out | apply Ai | apply Af | apply Aj) | exact HB.out)⟩⟩
     ·rw [if_neg c8] at H
      have az : decide (a1 < 1) = false := decide_eq_false c8
      clear c8
      (first | rw [az] | (simp only [i64_w, i32_w]; rw [az]) | skip)
      have H' := Ac.mk H
      clear H
      go_wp2
      go_meet
      case rel => exact ⟨_, (decide (a1 > 1024)), (by first | rfl | (simp; done) | (simp [*]; done)), H', ⟨by have := HJ3.out; first | omega | exact Nat.le_refl _⟩, ⟨by repeat (first | (with_reducible first | exact HB.out | apply Ai | apply Af | apply Aj) | exact HB.out)⟩⟩
    case rest =>
     clear HC7
     try clear p2
     try clear c4
     try clear c5
     try clear av
     try clear c6
     try clear c8
     try clear az
     try clear p2
     obtain ⟨kq, aM, rfl, HA, HJ6, HB⟩ := hcut
     cases kq with
     | zero => exact absurd HA.out (by simp [Bp.j1])
     | succ kj6 =>
      have H := HA.out
      clear HA
      simp only [Bp.j1] at H
      by_cases c9 : aM = true
      ·subst c9
       have H1 := H
       rw [if_pos rfl] at H1
       clear H
       have H := H1
       clear H1
       simp only [Option.some.injEq, Prod.mk.injEq] at H
       obtain ⟨rfl, rfl⟩ := H
       go_wp2
       go_ret2
       exact ⟨by first | rfl | (simp [Bb, Ba] <;> rfl) | (simp [*, Bb, Ba] <;> rfl), by repeat (first | (with_reducible first | exact HB.out | apply Ai | apply Af | apply Aj) | exact HB.out)⟩
      ·replace c9 := Bool.eq_false_iff.mpr c9
       subst c9
       have H1 := H
       rw [if_neg (show ¬ (false = true) by decide)] at H1
       clear H
       have H := H1
       clear H1
       by_cases c10 : a0 = 1
       ·rw [if_pos c10] at H
        have co : (a0 == 1) = true := beq_iff_eq.mpr c10
        have cp : (a0 != 1) = false := bne_eq_false_iff_eq.mpr c10
        clear c10
        obtain ⟨aZ, aN⟩ : ∃ j_ : Int, (mx a2 0) = j_ := ⟨_, rfl⟩
        replace H : (some (mn (aZ) (wrap64 (a1 - 1)), 0)) = some (r1, r2) := by first | (rw [aN] at H; exact H) | (simp only [aN] at H ⊢; exact H)
        have hji11_ : (if a2 < 0 then 0 else a2) = aZ := aN
        obtain ⟨cq, aQ⟩ : ∃ j_ : Int, (mn (aZ) (wrap64 (a1 - 1))) = j_ := ⟨_, rfl⟩
        replace H : (some (cq, 0)) = some (r1, r2) := by first | (rw [aQ] at H; exact H) | (simp only [aQ] at H ⊢; exact H)
        have hji12_ : (if (wrap64 (a1 - 1)) < (aZ) then (wrap64 (a1 - 1)) else (aZ)) = cq := aQ
        simp only [Option.some.injEq, Prod.mk.injEq] at H
        obtain ⟨rfl, rfl⟩ := H
        go_wp2
        go_ret2
        exact ⟨by first | rfl | (simp [Bb, Ba] <;> rfl) | (simp only [← aN, ← aQ]; first | rfl | (simp [Bb, Ba] <;> rfl)) | (simp [*, Bb, Ba] <;> rfl), by repeat (first | (with_reducible first | exact HB.out | apply Ai | apply Af | apply Aj) | exact HB.out)⟩
       ·rw [if_neg c10] at H
        have co : (a0 == 1) = false := beq_eq_false_iff_ne.mpr c10
        have cp : (a0 != 1) = true := bne_iff_ne.mpr c10
        by_cases c13 : a0 = 3
        ·rw [if_pos c13] at H
         have aT : (a0 == 3) = true := beq_iff_eq.mpr c13
         have cr : (a0 != 3) = false := bne_eq_false_iff_eq.mpr c13
         clear c13
         replace H := Option.bind_eq_some_iff.mp H
         obtain ⟨b7, A140, H⟩ := H
         try dsimp only at H
         have A14 := Ac.mk A140
         clear A140
         simp only [Option.some.injEq, Prod.mk.injEq] at H
         obtain ⟨rfl, rfl⟩ := H
         go_wp2_with (first | ((with_reducible refine Be (f := 53) rfl ?_); refine Bv (some 36) rfl rfl Try.func53 (by kernel_rfl) rfl #[.int .i64 a2, .int .i64 a1] rfl (by (try simp only [List.map_toArray, List.map_cons, List.map_nil]); first | done | rfl | (simp only [List.length_drop, List.length_take]; rfl)) ?_; (with_reducible refine (Cf.calls a2 a1 b7 _ A14.out).mono ?_); rintro e w' ⟨rfl, ⟨nd, rfl⟩⟩; refine ⟨_, rfl, ?_⟩))
         go_ret2
         exact ⟨by first | rfl | (simp [Bb, Ba] <;> rfl) | (simp [*, Bb, Ba] <;> rfl), by repeat (first | (with_reducible first | exact HB.out | apply Ai | apply Af | apply Aj) | exact HB.out)⟩
        ·rw [if_neg c13] at H
         have aT : (a0 == 3) = false := beq_eq_false_iff_ne.mpr c13
         have cr : (a0 != 3) = true := bne_iff_ne.mpr c13
         by_cases c15 : a1 = 1
         ·rw [if_pos c15] at H
          have ct : (a1 == 1) = true := beq_iff_eq.mpr c15
          have cu : (a1 != 1) = false := bne_eq_false_iff_eq.mpr c15
          clear c15
          simp only [Option.some.injEq, Prod.mk.injEq] at H
          obtain ⟨rfl, rfl⟩ := H
          go_wp2
          go_ret2
          exact ⟨by first | rfl | (simp [Bb, Ba] <;> rfl) | (simp [*, Bb, Ba] <;> rfl), by repeat (first | (with_reducible first | exact HB.out | apply Ai | apply Af | apply Aj) | exact HB.out)⟩
         ·rw [if_neg c15] at H
          have ct : (a1 == 1) = false := beq_eq_false_iff_ne.mpr c15
          have cu : (a1 != 1) = true := bne_iff_ne.mpr c15
          replace H := Option.bind_eq_some_iff.mp H
          obtain ⟨au, A160, H⟩ := H
          try dsimp only at H
          have A16 := Ac.mk A160
          clear A160
          obtain ⟨cv, aA⟩ : ∃ j_ : Int, (mn au (wrap64 ((wrap64 (2 * (wrap64 (a1 - 1)))) - au))) = j_ := ⟨_, rfl⟩
          replace H : (some (cv, 0)) = some (r1, r2) := by first | (rw [aA] at H; exact H) | (simp only [aA] at H ⊢; exact H)
          (try rw [aA] at A16)
          have hji17_ : (if (wrap64 ((wrap64 (2 * (wrap64 (a1 - 1)))) - au)) < au then (wrap64 ((wrap64 (2 * (wrap64 (a1 - 1)))) - au)) else au) = cv := aA
          simp only [Option.some.injEq, Prod.mk.injEq] at H
          obtain ⟨rfl, rfl⟩ := H
          go_wp2_with (first | ((with_reducible refine Be (f := 53) rfl ?_); refine Bv (some 44) rfl rfl Try.func53 (by kernel_rfl) rfl #[.int .i64 a2, .int .i64 (wrap64 (2 * (wrap64 (a1 - 1))))] rfl (by (try simp only [List.map_toArray, List.map_cons, List.map_nil]); first | done | rfl | (simp only [List.length_drop, List.length_take]; rfl)) ?_; (with_reducible refine (Cf.calls a2 (wrap64 (2 * (wrap64 (a1 - 1)))) au _ A16.out).mono ?_); rintro e w' ⟨rfl, ⟨nd, rfl⟩⟩; refine ⟨_, rfl, ?_⟩))
          go_ret2
          exact ⟨by first | rfl | (simp [Bb, Ba] <;> rfl) | (simp only [← aA]; first | rfl | (simp [Bb, Ba] <;> rfl)) | (simp [*, Bb, Ba] <;> rfl), by repeat (first | (with_reducible first | exact HB.out | apply Ai | apply Af | apply Aj) | exact HB.out)⟩

def Ax.j0 : Nat → Int → Bool → Int → Int → List Int → Int → Int → Int → Option (Int)
 | 0, _, _, _, _, _, _, _, _ => none
 | k + 1, x1, x14, cA, cB, cC, be, bf, bg => if x14 = true then (some 120) else (if x1 < 0 then (some 121) else (if x1 ≥ (wrap64 (bf * bg)) then (some 121) else ((Bp.f k be 1 0).bind fun cw => (some cw.2))))
def Ax.f (k : Nat) (af : Int) (ag : Int) (ah : List Int) (am : Int) (ai : Int) (aj : Int) (a1 : Int) : Option (Int) := (Bx.f af ag ah).bind fun ar => (if ar = 0 then (if ai < 1 then (Ax.j0 k a1 true af ag ah am ai aj) else (if aj < 1 then (Ax.j0 k a1 true af ag ah am ai aj) else (if ai > 15 then (Ax.j0 k a1 true af ag ah am ai aj) else (Ax.j0 k a1 (decide (aj > 15)) af ag ah am ai aj)))) else (some ar))
set_option maxHeartbeats 8000000 in
set_option maxRecDepth 100000 in
theorem Ax.calls (k : Nat) (af : Int) (ag : Int) (an : Option Addr) (ao : Nat) (ah : List Int) (am : Int) (ai : Int) (aj : Int) (a1 : Int) (r : Int) (w : World) (aw : Kd.C (Kd.int .u32) w an ah.length ah) (ax : ah.length ≤ ao) (h : Ax.f k af ag ah am ai aj a1 = some r) :
  Calls Try.prog 31 #[.agg #[.int .i64 af, .int .i64 ag, .slice an ah.length ao, .int .i64 am, .int .i64 ai, .int .i64 aj], .int .i64 a1] w fun e w' => e = .returned (.int .i64 r) ∧ Below w.heap.size w w' := by
 have hu58 := Try.underlying58
 have hu25 := Try.underlying25
 have aX := Ac.mk aw
 have aY := Ac.mk ax
 clear aw ax
 have HB := Ac.mk (Below.refl w.heap.size w)
 have H : ((Bx.f af ag ah).bind fun ar => (if ar = 0 then (if ai < 1 then (Ax.j0 k a1 true af ag ah am ai aj) else (if aj < 1 then (Ax.j0 k a1 true af ag ah am ai aj) else (if ai > 15 then (Ax.j0 k a1 true af ag ah am ai aj) else (Ax.j0 k a1 (decide (aj > 15)) af ag ah am ai aj)))) else (some ar))) = some r := h
 clear h
 replace H := Option.bind_eq_some_iff.mp H
 obtain ⟨ar, A30, H⟩ := H
 try dsimp only at H
 have A3 := Ac.mk A30
 clear A30
 by_cases c4 : ar = 0
 ·rw [if_pos c4] at H
  have aV : (ar == 0) = true := beq_iff_eq.mpr c4
  have bc : (ar != 0) = false := bne_eq_false_iff_eq.mpr c4
  clear c4
  have HC5 := Ac.mk H
  clear H
  go_enter Try.func31, Try.ntmps31
  go_upto_region 4 with (first | ((with_reducible refine Bd (N := 2) rfl ?_); refine Bc ?hg (N := 2) ?hd (cs := #[.int .i64 af, .int .i64 ag, .slice an ah.length ao, .int .i64 am, .int .i64 ai, .int .i64 aj]) (t := 58) ?hr ?_; (case hd => rfl); (case hg => rfl); (case hr => first | (go_simp; done) | (go_simp; rfl)); intro ac hg w6 hbox hb; have n0_ := Ac.mk (At (by repeat (first | (with_reducible first | exact HB.out | apply Ai | apply Af | apply Aj) | exact HB.out)) hb); have n1_ := Ac.mk (hbox); have n2_ := Ac.mk ((by rw [hg]; exact (Ap (by repeat (first | (with_reducible first | exact HB.out | apply Ai | apply Af | apply Aj) | exact HB.out))) : w.heap.size ≤ ac)); have n3_ := Ac.mk ((by rw [hg]; exact (Ap (by repeat (first | (with_reducible first | exact HB.out | apply Ai | apply Af | apply Aj) | exact HB.out))) : w.heap.size ≤ ac)); clear HB; have HB := n0_; have aa := n1_; have cx := n2_; have aq := n3_; clear n0_ n1_ n2_ n3_; clear hb hbox hg; have b8 : w6.cell? ⟨ac, 0, none⟩ = some (.int .i64 af) := (Ag aa.out 0).trans rfl; have b9 : w6.cell? ⟨ac, 1, none⟩ = some (.int .i64 ag) := (Ag aa.out 1).trans rfl; have ca : w6.cell? ⟨ac, 2, none⟩ = some (.slice an ah.length ao) := (Ag aa.out 2).trans rfl; have cb : w6.cell? ⟨ac, 3, none⟩ = some (.int .i64 am) := (Ag aa.out 3).trans rfl; have cd : w6.cell? ⟨ac, 4, none⟩ = some (.int .i64 ai) := (Ag aa.out 4).trans rfl; have ce : w6.cell? ⟨ac, 5, none⟩ = some (.int .i64 aj) := (Ag aa.out 5).trans rfl; have cf := Ah aa.out 0; have cg := Ah aa.out 1; have ch := Ah aa.out 2; have ci := Ah aa.out 3; have cj := Ah aa.out 4; have cl := Ah aa.out 5) | ((with_reducible refine Be (f := 45) rfl ?_); refine Bv (some 10) rfl rfl Try.func45 (by kernel_rfl) rfl #[.agg #[.int .i64 af, .int .i64 ag, .slice an ah.length ao]] rfl (by (try simp only [List.map_toArray, List.map_cons, List.map_nil]); first | done | rfl | (simp only [List.length_drop, List.length_take]; rfl)) ?_; (with_reducible refine (Bx.calls af ag _ _ ah ar _ ?side1 ?side2 A3.out).mono ?_); (case side1 => repeat (first | exact (Kd.Bo aX.out HB.out) | (with_reducible refine Kd.Ca ?_ _) | (with_reducible refine Kd.B7 ?_ _) | (with_reducible refine Kd.Ce ?_))); (case side2 => exact aY.out); rintro e w8 ⟨rfl, hb⟩; refine ⟨_, rfl, ?_⟩; have n0_ := Ac.mk (Ak (g := ac) (o := .cells #[.int .i64 af, .int .i64 ag, .slice an ah.length ao, .int .i64 am, .int .i64 ai, .int .i64 aj] 58 (0, 0)) (by (with_reducible repeat (first | refine Ab ?_ _ | refine Ad ?_ | refine Aa ?_ _)); exact aa.out) hb); have n1_ := Ac.mk (At (by repeat (first | (with_reducible first | exact HB.out | apply Ai | apply Af | apply Aj | refine Ae ?_ aq.out) | exact HB.out)) hb); clear aa; clear HB; have aa := n0_; have HB := n1_; clear n0_ n1_; (try clear hb); (try clear hb2); (try clear hk); (try clear hi)))
  (try simp only [Act.put, List.setIfInBounds_toArray, List.set_cons_zero, List.set_cons_succ])
  go_cut [14] (fun v14 wc => ∃ (kq : Nat) (aU : Bool), v14 = .bool aU ∧ Ac (Ax.j0 kq a1 aU af ag ah am ai aj = some r) ∧ Ac (kq ≤ k) ∧ Ac (wc.heap[ac]? = some (.cells #[.int .i64 af, .int .i64 ag, (.slice an ah.length ao), .int .i64 am, .int .i64 ai, .int .i64 aj] 58 (0, 0))) ∧ Ac (Below w.heap.size w wc))
  case first =>
   have H := HC5.out
   clear HC5
   by_cases c9 : ai < 1
   ·rw [if_pos c9] at H
    have aC : decide (ai < 1) = true := decide_eq_true c9
    clear c9
    (first | rw [aC] | (simp only [i64_w, i32_w]; rw [aC]) | skip)
    have H' := Ac.mk H
    clear H
    have aE : w8.cell? ⟨ac, 0, none⟩ = some (.int .i64 af) := (Ag aa.out 0).trans rfl
    have aG : w8.cell? ⟨ac, 1, none⟩ = some (.int .i64 ag) := (Ag aa.out 1).trans rfl
    have aH : w8.cell? ⟨ac, 2, none⟩ = some (.slice an ah.length ao) := (Ag aa.out 2).trans rfl
    have bh : w8.cell? ⟨ac, 3, none⟩ = some (.int .i64 am) := (Ag aa.out 3).trans rfl
    have bi : w8.cell? ⟨ac, 4, none⟩ = some (.int .i64 ai) := (Ag aa.out 4).trans rfl
    have bj : w8.cell? ⟨ac, 5, none⟩ = some (.int .i64 aj) := (Ag aa.out 5).trans rfl
    have aI := Ah aa.out 0
    have aJ := Ah aa.out 1
    have aK := Ah aa.out 2
    have bl := Ah aa.out 3
    have bm := Ah aa.out 4
    have bn := Ah aa.out 5
    go_wp2
    go_meet
    case rel => exact ⟨_, (true), (by first | rfl | (simp; done) | (simp [*]; done)), H', ⟨by first | omega | exact Nat.le_refl _⟩, ⟨by (with_reducible repeat (first | refine Ab ?_ _ | refine Ad ?_ | refine Aa ?_ _)); exact aa.out⟩, ⟨by repeat (first | (with_reducible first | exact HB.out | apply Ai | apply Af | apply Aj | refine Ae ?_ aq.out) | exact HB.out)⟩⟩
   ·rw [if_neg c9] at H
    have aC : decide (ai < 1) = false := decide_eq_false c9
    clear c9
    (first | rw [aC] | (simp only [i64_w, i32_w]; rw [aC]) | skip)
    by_cases c11 : aj < 1
    ·rw [if_pos c11] at H
     have b6 : decide (aj < 1) = true := decide_eq_true c11
     clear c11
     have H' := Ac.mk H
     clear H
     have bo : w8.cell? ⟨ac, 0, none⟩ = some (.int .i64 af) := (Ag aa.out 0).trans rfl
     have bp : w8.cell? ⟨ac, 1, none⟩ = some (.int .i64 ag) := (Ag aa.out 1).trans rfl
     have bq : w8.cell? ⟨ac, 2, none⟩ = some (.slice an ah.length ao) := (Ag aa.out 2).trans rfl
     have br : w8.cell? ⟨ac, 3, none⟩ = some (.int .i64 am) := (Ag aa.out 3).trans rfl
     have bs : w8.cell? ⟨ac, 4, none⟩ = some (.int .i64 ai) := (Ag aa.out 4).trans rfl
     have bt : w8.cell? ⟨ac, 5, none⟩ = some (.int .i64 aj) := (Ag aa.out 5).trans rfl
     have bu := Ah aa.out 0
     have bv := Ah aa.out 1
     have bw := Ah aa.out 2
     have bx := Ah aa.out 3
     have bz := Ah aa.out 4
     have bA := Ah aa.out 5
     go_wp2
     go_meet
     case rel => exact ⟨_, (true), (by first | rfl | (simp; done) | (simp [*]; done)), H', ⟨by first | omega | exact Nat.le_refl _⟩, ⟨by (with_reducible repeat (first | refine Ab ?_ _ | refine Ad ?_ | refine Aa ?_ _)); exact aa.out⟩, ⟨by repeat (first | (with_reducible first | exact HB.out | apply Ai | apply Af | apply Aj | refine Ae ?_ aq.out) | exact HB.out)⟩⟩
    ·rw [if_neg c11] at H
     have b6 : decide (aj < 1) = false := decide_eq_false c11
     clear c11
     by_cases c13 : ai > 15
     ·rw [if_pos c13] at H
      have aT : decide (15 < ai) = true := decide_eq_true c13
      clear c13
      have H' := Ac.mk H
      clear H
      have bB : w8.cell? ⟨ac, 0, none⟩ = some (.int .i64 af) := (Ag aa.out 0).trans rfl
      have bC : w8.cell? ⟨ac, 1, none⟩ = some (.int .i64 ag) := (Ag aa.out 1).trans rfl
      have bD : w8.cell? ⟨ac, 2, none⟩ = some (.slice an ah.length ao) := (Ag aa.out 2).trans rfl
      have bE : w8.cell? ⟨ac, 3, none⟩ = some (.int .i64 am) := (Ag aa.out 3).trans rfl
      have bF : w8.cell? ⟨ac, 4, none⟩ = some (.int .i64 ai) := (Ag aa.out 4).trans rfl
      have bG : w8.cell? ⟨ac, 5, none⟩ = some (.int .i64 aj) := (Ag aa.out 5).trans rfl
      have bH := Ah aa.out 0
      have bI := Ah aa.out 1
      have bJ := Ah aa.out 2
      have bK := Ah aa.out 3
      have bL := Ah aa.out 4
      have bM := Ah aa.out 5
      go_wp2
      go_meet
      case rel => exact ⟨_, (true), (by first | rfl | (simp; done) | (simp [*]; done)), H', ⟨by first | omega | exact Nat.le_refl _⟩, ⟨by (with_reducible repeat (first | refine Ab ?_ _ | refine Ad ?_ | refine Aa ?_ _)); exact aa.out⟩, ⟨by repeat (first | (with_reducible first | exact HB.out | apply Ai | apply Af | apply Aj | refine Ae ?_ aq.out) | exact HB.out)⟩⟩
     ·rw [if_neg c13] at H
      have aT : decide (15 < ai) = false := decide_eq_false c13
      clear c13
      have H' := Ac.mk H
      clear H
      have bN : w8.cell? ⟨ac, 0, none⟩ = some (.int .i64 af) := (Ag aa.out 0).trans rfl
      have bO : w8.cell? ⟨ac, 1, none⟩ = some (.int .i64 ag) := (Ag aa.out 1).trans rfl
      have bP : w8.cell? ⟨ac, 2, none⟩ = some (.slice an ah.length ao) := (Ag aa.out 2).trans rfl
      have bQ : w8.cell? ⟨ac, 3, none⟩ = some (.int .i64 am) := (Ag aa.out 3).trans rfl
      have bR : w8.cell? ⟨ac, 4, none⟩ = some (.int .i64 ai) := (Ag aa.out 4).trans rfl
      have bS : w8.cell? ⟨ac, 5, none⟩ = some (.int .i64 aj) := (Ag aa.out 5).trans rfl
      have bT := Ah aa.out 0
      have bU := Ah aa.out 1
      have bV := Ah aa.out 2
      have bW := Ah aa.out 3
      have bX := Ah aa.out 4
      have bY := Ah aa.out 5
      go_wp2
      go_meet
      case rel => exact ⟨_, (decide (aj > 15)), (by first | rfl | (simp; done) | (simp [*]; done)), H', ⟨by first | omega | exact Nat.le_refl _⟩, ⟨by (with_reducible repeat (first | refine Ab ?_ _ | refine Ad ?_ | refine Aa ?_ _)); exact aa.out⟩, ⟨by repeat (first | (with_reducible first | exact HB.out | apply Ai | apply Af | apply Aj | refine Ae ?_ aq.out) | exact HB.out)⟩⟩
  case rest =>
   clear HC5
   try clear c1
   try clear p2
   try clear c3
   try clear c4
   try clear aV
   try clear bc
   try clear c9
   try clear aC
   try clear c11
   try clear b6
   try clear c13
   try clear aT
   try clear aE
   try clear aG
   try clear aH
   try clear bh
   try clear bi
   try clear bj
   try clear bo
   try clear bp
   try clear bq
   try clear br
   try clear bs
   try clear bt
   try clear bB
   try clear bC
   try clear bD
   try clear bE
   try clear bF
   try clear bG
   try clear bN
   try clear bO
   try clear bP
   try clear bQ
   try clear bR
   try clear bS
   try clear b8
   try clear b9
   try clear ca
   try clear cb
   try clear cd
   try clear ce
   try clear aI
   try clear aJ
   try clear aK
   try clear bl
   try clear bm
   try clear bn
   try clear bu
   try clear bv
   try clear bw
   try clear bx
   try clear bz
   try clear bA
   try clear bH
   try clear bI
   try clear bJ
   try clear bK
   try clear bL
   try clear bM
   try clear bT
   try clear bU
   try clear bV
   try clear bW
   try clear bX
   try clear bY
   try clear cf
   try clear cg
   try clear ch
   try clear ci
   try clear cj
   try clear cl
   obtain ⟨kq, aU, rfl, HA, HJ4, aa, HB⟩ := hcut
   cases kq with
   | zero => exact absurd HA.out (by simp [Ax.j0])
   | succ kj4 =>
    have H := HA.out
    clear HA
    simp only [Ax.j0] at H
    by_cases c16 : aU = true
    ·subst c16
     have H1 := H
     rw [if_pos rfl] at H1
     clear H
     have H := H1
     clear H1
     obtain rfl := Option.some.inj H
     go_wp2
     go_ret
     exact ⟨by first | rfl | (simp [Bb, Ba] <;> rfl) | (simp [*, Bb, Ba] <;> rfl), by repeat (first | (with_reducible first | exact HB.out | apply Ai | apply Af | apply Aj | refine Ae ?_ aq.out) | exact HB.out)⟩
    ·replace c16 := Bool.eq_false_iff.mpr c16
     subst c16
     have H1 := H
     rw [if_neg (show ¬ (false = true) by decide)] at H1
     clear H
     have H := H1
     clear H1
     by_cases c17 : a1 < 0
     ·rw [if_pos c17] at H
      have cy : decide (a1 < 0) = true := decide_eq_true c17
      clear c17
      obtain rfl := Option.some.inj H
      go_wp2
      go_ret
      exact ⟨by first | rfl | (simp [Bb, Ba] <;> rfl) | (simp [*, Bb, Ba] <;> rfl), by repeat (first | (with_reducible first | exact HB.out | apply Ai | apply Af | apply Aj | refine Ae ?_ aq.out) | exact HB.out)⟩
     ·rw [if_neg c17] at H
      have cy : decide (a1 < 0) = false := decide_eq_false c17
      clear c17
      by_cases c18 : a1 ≥ (wrap64 (ai * aj))
      ·rw [if_pos c18] at H
       have cz : decide ((wrap64 (ai * aj)) ≤ a1) = true := decide_eq_true c18
       clear c18
       obtain rfl := Option.some.inj H
       have cD : wc.cell? ⟨ac, 0, none⟩ = some (.int .i64 af) := (Ag aa.out 0).trans rfl
       have cE : wc.cell? ⟨ac, 1, none⟩ = some (.int .i64 ag) := (Ag aa.out 1).trans rfl
       have cF : wc.cell? ⟨ac, 2, none⟩ = some (.slice an ah.length ao) := (Ag aa.out 2).trans rfl
       have cG : wc.cell? ⟨ac, 3, none⟩ = some (.int .i64 am) := (Ag aa.out 3).trans rfl
       have cH : wc.cell? ⟨ac, 4, none⟩ = some (.int .i64 ai) := (Ag aa.out 4).trans rfl
       have cI : wc.cell? ⟨ac, 5, none⟩ = some (.int .i64 aj) := (Ag aa.out 5).trans rfl
       have cJ := Ah aa.out 0
       have cK := Ah aa.out 1
       have cL := Ah aa.out 2
       have cM := Ah aa.out 3
       have cN := Ah aa.out 4
       have cO := Ah aa.out 5
       go_wp2
       go_ret
       exact ⟨by first | rfl | (simp [Bb, Ba] <;> rfl) | (simp [*, Bb, Ba] <;> rfl), by repeat (first | (with_reducible first | exact HB.out | apply Ai | apply Af | apply Aj | refine Ae ?_ aq.out) | exact HB.out)⟩
      ·rw [if_neg c18] at H
       have cz : decide ((wrap64 (ai * aj)) ≤ a1) = false := decide_eq_false c18
       clear c18
       replace H := Option.bind_eq_some_iff.mp H
       obtain ⟨⟨dD, dE⟩, A200, H⟩ := H
       try dsimp only at H
       have A20 := Ac.mk A200
       clear A200
       obtain rfl := Option.some.inj H
       have cP : wc.cell? ⟨ac, 0, none⟩ = some (.int .i64 af) := (Ag aa.out 0).trans rfl
       have cQ : wc.cell? ⟨ac, 1, none⟩ = some (.int .i64 ag) := (Ag aa.out 1).trans rfl
       have cR : wc.cell? ⟨ac, 2, none⟩ = some (.slice an ah.length ao) := (Ag aa.out 2).trans rfl
       have cS : wc.cell? ⟨ac, 3, none⟩ = some (.int .i64 am) := (Ag aa.out 3).trans rfl
       have cT : wc.cell? ⟨ac, 4, none⟩ = some (.int .i64 ai) := (Ag aa.out 4).trans rfl
       have cU : wc.cell? ⟨ac, 5, none⟩ = some (.int .i64 aj) := (Ag aa.out 5).trans rfl
       have cV := Ah aa.out 0
       have cW := Ah aa.out 1
       have cX := Ah aa.out 2
       have cY := Ah aa.out 3
       have cZ := Ah aa.out 4
       have da := Ah aa.out 5
       go_wp2_with (first | ((with_reducible refine Be (f := 46) rfl ?_); refine Bv (some 48) rfl rfl Try.func46 (by kernel_rfl) rfl #[.int .i64 am, .int .i64 1, .int .i64 0] rfl (by (try simp only [List.map_toArray, List.map_cons, List.map_nil]); first | done | rfl | (simp only [List.length_drop, List.length_take]; rfl)) ?_; (with_reducible refine (Bp.calls kj4 am 1 0 dD dE _ A20.out).mono ?_); rintro e w22 ⟨rfl, hb⟩; refine ⟨_, rfl, ?_⟩; have n0_ := Ac.mk (Ak (g := ac) (o := .cells #[.int .i64 af, .int .i64 ag, .slice an ah.length ao, .int .i64 am, .int .i64 ai, .int .i64 aj] 58 (0, 0)) (by (with_reducible repeat (first | refine Ab ?_ _ | refine Ad ?_ | refine Aa ?_ _)); exact aa.out) hb); have n1_ := Ac.mk (At (by repeat (first | (with_reducible first | exact HB.out | apply Ai | apply Af | apply Aj | refine Ae ?_ aq.out) | exact HB.out)) hb); clear aa; clear HB; have aa := n0_; have HB := n1_; clear n0_ n1_; (try clear hb); (try clear hb2); (try clear hk); (try clear hi)))
       go_ret
       exact ⟨by first | rfl | (simp [Bb, Ba] <;> rfl) | (simp [*, Bb, Ba] <;> rfl), by repeat (first | (with_reducible first | exact HB.out | apply Ai | apply Af | apply Aj | refine Ae ?_ aq.out) | exact HB.out)⟩
 ·rw [if_neg c4] at H
  have aV : (ar == 0) = false := beq_eq_false_iff_ne.mpr c4
  have bc : (ar != 0) = true := bne_iff_ne.mpr c4
  obtain rfl := Option.some.inj H
  go_enter Try.func31, Try.ntmps31
  go_wp2_with (first | ((with_reducible refine Bd (N := 2) rfl ?_); refine Bc ?hg (N := 2) ?hd (cs := #[.int .i64 af, .int .i64 ag, .slice an ah.length ao, .int .i64 am, .int .i64 ai, .int .i64 aj]) (t := 58) ?hr ?_; (case hd => rfl); (case hg => rfl); (case hr => first | (go_simp; done) | (go_simp; rfl)); intro ac hg w23 hbox hb; have n0_ := Ac.mk (At (by repeat (first | (with_reducible first | exact HB.out | apply Ai | apply Af | apply Aj) | exact HB.out)) hb); have n1_ := Ac.mk (hbox); have n2_ := Ac.mk ((by rw [hg]; exact (Ap (by repeat (first | (with_reducible first | exact HB.out | apply Ai | apply Af | apply Aj) | exact HB.out))) : w.heap.size ≤ ac)); have n3_ := Ac.mk ((by rw [hg]; exact (Ap (by repeat (first | (with_reducible first | exact HB.out | apply Ai | apply Af | apply Aj) | exact HB.out))) : w.heap.size ≤ ac)); clear HB; have HB := n0_; have aa := n1_; have cx := n2_; have aq := n3_; clear n0_ n1_ n2_ n3_; clear hb hbox hg; have db : w23.cell? ⟨ac, 0, none⟩ = some (.int .i64 af) := (Ag aa.out 0).trans rfl; have dc : w23.cell? ⟨ac, 1, none⟩ = some (.int .i64 ag) := (Ag aa.out 1).trans rfl; have dd : w23.cell? ⟨ac, 2, none⟩ = some (.slice an ah.length ao) := (Ag aa.out 2).trans rfl; have de : w23.cell? ⟨ac, 3, none⟩ = some (.int .i64 am) := (Ag aa.out 3).trans rfl; have df : w23.cell? ⟨ac, 4, none⟩ = some (.int .i64 ai) := (Ag aa.out 4).trans rfl; have dg : w23.cell? ⟨ac, 5, none⟩ = some (.int .i64 aj) := (Ag aa.out 5).trans rfl; have dh := Ah aa.out 0; have di := Ah aa.out 1; have dj := Ah aa.out 2; have dk := Ah aa.out 3; have dl := Ah aa.out 4; have dm := Ah aa.out 5) | ((with_reducible refine Be (f := 45) rfl ?_); refine Bv (some 10) rfl rfl Try.func45 (by kernel_rfl) rfl #[.agg #[.int .i64 af, .int .i64 ag, .slice an ah.length ao]] rfl (by (try simp only [List.map_toArray, List.map_cons, List.map_nil]); first | done | rfl | (simp only [List.length_drop, List.length_take]; rfl)) ?_; (with_reducible refine (Bx.calls af ag _ _ ah ar _ ?side1 ?side2 A3.out).mono ?_); (case side1 => repeat (first | exact (Kd.Bo aX.out HB.out) | (with_reducible refine Kd.Ca ?_ _) | (with_reducible refine Kd.B7 ?_ _) | (with_reducible refine Kd.Ce ?_))); (case side2 => exact aY.out); rintro e w25 ⟨rfl, hb⟩; refine ⟨_, rfl, ?_⟩; have n0_ := Ac.mk (Ak (g := ac) (o := .cells #[.int .i64 af, .int .i64 ag, .slice an ah.length ao, .int .i64 am, .int .i64 ai, .int .i64 aj] 58 (0, 0)) (by (with_reducible repeat (first | refine Ab ?_ _ | refine Ad ?_ | refine Aa ?_ _)); exact aa.out) hb); have n1_ := Ac.mk (At (by repeat (first | (with_reducible first | exact HB.out | apply Ai | apply Af | apply Aj | refine Ae ?_ aq.out) | exact HB.out)) hb); clear aa; clear HB; have aa := n0_; have HB := n1_; clear n0_ n1_; (try clear hb); (try clear hb2); (try clear hk); (try clear hi)))
  go_ret
  exact ⟨by first | rfl | (simp [Bb, Ba] <;> rfl) | (simp [*, Bb, Ba] <;> rfl), by repeat (first | (with_reducible first | exact HB.out | apply Ai | apply Af | apply Aj | refine Ae ?_ aq.out) | exact HB.out)⟩

def bits_Key.f (a0 : Int) : Option (Int) := if a0 < 2147483648 then (some ((a0 + 2147483648) % 4294967296)) else (some ((4294967295 - a0) % 4294967296))
set_option maxHeartbeats 8000000 in
set_option maxRecDepth 100000 in
theorem bits_Key.calls (a0 : Int) (r : Int) (w : World) (h : bits_Key.f a0 = some r) :
  Calls Try.prog 50 #[.int .u32 a0] w fun e w' => e = .returned (.int .u32 r) ∧ Drawn0 w w' := by
 have H : (if a0 < 2147483648 then (some ((a0 + 2147483648) % 4294967296)) else (some ((4294967295 - a0) % 4294967296))) = some r := h
 clear h
 by_cases c2 : a0 < 2147483648
 ·rw [if_pos c2] at H
  have dF : decide (a0 < 2147483648) = true := decide_eq_true c2
  clear c2
  obtain rfl := Option.some.inj H
  go_enter Try.func50, Try.ntmps50
  go_wp2
  go_ret
  exact ⟨by first | rfl | (simp; done) | (simp [*]; done), by repeat (first | exact Drawn0.refl _ | apply Drawn0.step)⟩
 ·rw [if_neg c2] at H
  have dF : decide (a0 < 2147483648) = false := decide_eq_false c2
  clear c2
  obtain rfl := Option.some.inj H
  go_enter Try.func50, Try.ntmps50
  go_wp2
  go_ret
  exact ⟨by first | rfl | (simp; done) | (simp [*]; done), by repeat (first | exact Drawn0.refl _ | apply Drawn0.step)⟩

def cmp_isNaN_uint32.f (a0 : Int) : Option (Bool) := some (a0 != a0)
set_option maxHeartbeats 8000000 in
set_option maxRecDepth 100000 in
theorem cmp_isNaN_uint32.calls (a0 : Int) (r : Bool) (w : World) (h : cmp_isNaN_uint32.f a0 = some r) :
  Calls Try.prog 56 #[.int .u32 a0] w fun e w' => e = .returned (.bool r) ∧ Drawn0 w w' := by
 have H : (some (a0 != a0)) = some r := h
 clear h
 obtain rfl := Option.some.inj H
 go_enter Try.func56, Try.ntmps56
 go_wp2
 go_ret
 exact ⟨by first | rfl | (simp; done) | (simp [*]; done), by repeat (first | exact Drawn0.refl _ | apply Drawn0.step)⟩

def cmp_Compare_uint32.f (a0 : Int) (a1 : Int) : Option (Int) := (cmp_isNaN_uint32.f a0).bind fun ba => ((cmp_isNaN_uint32.f a1).bind fun aD => (if ba = true then (if aD = true then (some 0) else (some (-1))) else (if aD = true then (some 1) else (if a0 < a1 then (some (-1)) else (if a0 > a1 then (some 1) else (some 0))))))
set_option maxHeartbeats 8000000 in
set_option maxRecDepth 100000 in
theorem cmp_Compare_uint32.calls (a0 : Int) (a1 : Int) (r : Int) (w : World) (h : cmp_Compare_uint32.f a0 a1 = some r) :
  Calls Try.prog 49 #[.int .u32 a0, .int .u32 a1] w fun e w' => e = .returned (.int .i64 r) ∧ Drawn0 w w' := by
 have H : ((cmp_isNaN_uint32.f a0).bind fun ba => ((cmp_isNaN_uint32.f a1).bind fun aD => (if ba = true then (if aD = true then (some 0) else (some (-1))) else (if aD = true then (some 1) else (if a0 < a1 then (some (-1)) else (if a0 > a1 then (some 1) else (some 0))))))) = some r := h
 clear h
 replace H := Option.bind_eq_some_iff.mp H
 obtain ⟨ba, A30, H⟩ := H
 try dsimp only at H
 have A3 := Ac.mk A30
 clear A30
 replace H := Option.bind_eq_some_iff.mp H
 obtain ⟨aD, A40, H⟩ := H
 try dsimp only at H
 have A4 := Ac.mk A40
 clear A40
 by_cases c5 : ba = true
 ·subst c5
  have H1 := H
  rw [if_pos rfl] at H1
  clear H
  have H := H1
  clear H1
  by_cases c6 : aD = true
  ·subst c6
   have H1 := H
   rw [if_pos rfl] at H1
   clear H
   have H := H1
   clear H1
   obtain rfl := Option.some.inj H
   go_enter Try.func49, Try.ntmps49
   go_wp2_with (first | ((with_reducible refine Be (f := 56) rfl ?_); refine Bv (some 8) rfl rfl Try.func56 (by kernel_rfl) rfl #[.int .u32 a0] rfl (by (try simp only [List.map_toArray, List.map_cons, List.map_nil]); first | done | rfl | (simp only [List.length_drop, List.length_take]; rfl)) ?_; (with_reducible refine (cmp_isNaN_uint32.calls a0 true _ A3.out).mono ?_); rintro e w' ⟨rfl, ⟨nd, rfl⟩⟩; refine ⟨_, rfl, ?_⟩) | ((with_reducible refine Be (f := 56) rfl ?_); refine Bv (some 10) rfl rfl Try.func56 (by kernel_rfl) rfl #[.int .u32 a1] rfl (by (try simp only [List.map_toArray, List.map_cons, List.map_nil]); first | done | rfl | (simp only [List.length_drop, List.length_take]; rfl)) ?_; (with_reducible refine (cmp_isNaN_uint32.calls a1 true _ A4.out).mono ?_); rintro e w' ⟨rfl, ⟨nd, rfl⟩⟩; refine ⟨_, rfl, ?_⟩))
   go_ret
   exact ⟨by first | rfl | (simp; done) | (simp [*]; done), by repeat (first | exact Drawn0.refl _ | apply Drawn0.step)⟩
  ·replace c6 := Bool.eq_false_iff.mpr c6
   subst c6
   have H1 := H
   rw [if_neg (show ¬ (false = true) by decide)] at H1
   clear H
   have H := H1
   clear H1
   obtain rfl := Option.some.inj H
   go_enter Try.func49, Try.ntmps49
   go_wp2_with (first | ((with_reducible refine Be (f := 56) rfl ?_); refine Bv (some 8) rfl rfl Try.func56 (by kernel_rfl) rfl #[.int .u32 a0] rfl (by (try simp only [List.map_toArray, List.map_cons, List.map_nil]); first | done | rfl | (simp only [List.length_drop, List.length_take]; rfl)) ?_; (with_reducible refine (cmp_isNaN_uint32.calls a0 true _ A3.out).mono ?_); rintro e w' ⟨rfl, ⟨nd, rfl⟩⟩; refine ⟨_, rfl, ?_⟩) | ((with_reducible refine Be (f := 56) rfl ?_); refine Bv (some 10) rfl rfl Try.func56 (by kernel_rfl) rfl #[.int .u32 a1] rfl (by (try simp only [List.map_toArray, List.map_cons, List.map_nil]); first | done | rfl | (simp only [List.length_drop, List.length_take]; rfl)) ?_; (with_reducible refine (cmp_isNaN_uint32.calls a1 false _ A4.out).mono ?_); rintro e w' ⟨rfl, ⟨nd, rfl⟩⟩; refine ⟨_, rfl, ?_⟩))
   go_ret
   exact ⟨by first | rfl | (simp; done) | (simp [*]; done), by repeat (first | exact Drawn0.refl _ | apply Drawn0.step)⟩
 ·replace c5 := Bool.eq_false_iff.mpr c5
  subst c5
  have H1 := H
  rw [if_neg (show ¬ (false = true) by decide)] at H1
  clear H
  have H := H1
  clear H1
  by_cases c7 : aD = true
  ·subst c7
   have H1 := H
   rw [if_pos rfl] at H1
   clear H
   have H := H1
   clear H1
   obtain rfl := Option.some.inj H
   go_enter Try.func49, Try.ntmps49
   go_wp2_with (first | ((with_reducible refine Be (f := 56) rfl ?_); refine Bv (some 8) rfl rfl Try.func56 (by kernel_rfl) rfl #[.int .u32 a0] rfl (by (try simp only [List.map_toArray, List.map_cons, List.map_nil]); first | done | rfl | (simp only [List.length_drop, List.length_take]; rfl)) ?_; (with_reducible refine (cmp_isNaN_uint32.calls a0 false _ A3.out).mono ?_); rintro e w' ⟨rfl, ⟨nd, rfl⟩⟩; refine ⟨_, rfl, ?_⟩) | ((with_reducible refine Be (f := 56) rfl ?_); refine Bv (some 10) rfl rfl Try.func56 (by kernel_rfl) rfl #[.int .u32 a1] rfl (by (try simp only [List.map_toArray, List.map_cons, List.map_nil]); first | done | rfl | (simp only [List.length_drop, List.length_take]; rfl)) ?_; (with_reducible refine (cmp_isNaN_uint32.calls a1 true _ A4.out).mono ?_); rintro e w' ⟨rfl, ⟨nd, rfl⟩⟩; refine ⟨_, rfl, ?_⟩))
   go_ret
   exact ⟨by first | rfl | (simp; done) | (simp [*]; done), by repeat (first | exact Drawn0.refl _ | apply Drawn0.step)⟩
  ·replace c7 := Bool.eq_false_iff.mpr c7
   subst c7
   have H1 := H
   rw [if_neg (show ¬ (false = true) by decide)] at H1
   clear H
   have H := H1
   clear H1
   by_cases c8 : a0 < a1
   ·rw [if_pos c8] at H
    have az : decide (a0 < a1) = true := decide_eq_true c8
    clear c8
    obtain rfl := Option.some.inj H
    go_enter Try.func49, Try.ntmps49
    go_wp2_with (first | ((with_reducible refine Be (f := 56) rfl ?_); refine Bv (some 8) rfl rfl Try.func56 (by kernel_rfl) rfl #[.int .u32 a0] rfl (by (try simp only [List.map_toArray, List.map_cons, List.map_nil]); first | done | rfl | (simp only [List.length_drop, List.length_take]; rfl)) ?_; (with_reducible refine (cmp_isNaN_uint32.calls a0 false _ A3.out).mono ?_); rintro e w' ⟨rfl, ⟨nd, rfl⟩⟩; refine ⟨_, rfl, ?_⟩) | ((with_reducible refine Be (f := 56) rfl ?_); refine Bv (some 10) rfl rfl Try.func56 (by kernel_rfl) rfl #[.int .u32 a1] rfl (by (try simp only [List.map_toArray, List.map_cons, List.map_nil]); first | done | rfl | (simp only [List.length_drop, List.length_take]; rfl)) ?_; (with_reducible refine (cmp_isNaN_uint32.calls a1 false _ A4.out).mono ?_); rintro e w' ⟨rfl, ⟨nd, rfl⟩⟩; refine ⟨_, rfl, ?_⟩))
    go_ret
    exact ⟨by first | rfl | (simp; done) | (simp [*]; done), by repeat (first | exact Drawn0.refl _ | apply Drawn0.step)⟩
   ·rw [if_neg c8] at H
    have az : decide (a0 < a1) = false := decide_eq_false c8
    clear c8
    by_cases c9 : a0 > a1
    ·rw [if_pos c9] at H
     have aC : decide (a1 < a0) = true := decide_eq_true c9
     clear c9
     obtain rfl := Option.some.inj H
     go_enter Try.func49, Try.ntmps49
     go_wp2_with (first | ((with_reducible refine Be (f := 56) rfl ?_); refine Bv (some 8) rfl rfl Try.func56 (by kernel_rfl) rfl #[.int .u32 a0] rfl (by (try simp only [List.map_toArray, List.map_cons, List.map_nil]); first | done | rfl | (simp only [List.length_drop, List.length_take]; rfl)) ?_; (with_reducible refine (cmp_isNaN_uint32.calls a0 false _ A3.out).mono ?_); rintro e w' ⟨rfl, ⟨nd, rfl⟩⟩; refine ⟨_, rfl, ?_⟩) | ((with_reducible refine Be (f := 56) rfl ?_); refine Bv (some 10) rfl rfl Try.func56 (by kernel_rfl) rfl #[.int .u32 a1] rfl (by (try simp only [List.map_toArray, List.map_cons, List.map_nil]); first | done | rfl | (simp only [List.length_drop, List.length_take]; rfl)) ?_; (with_reducible refine (cmp_isNaN_uint32.calls a1 false _ A4.out).mono ?_); rintro e w' ⟨rfl, ⟨nd, rfl⟩⟩; refine ⟨_, rfl, ?_⟩))
     go_ret
     exact ⟨by first | rfl | (simp; done) | (simp [*]; done), by repeat (first | exact Drawn0.refl _ | apply Drawn0.step)⟩
    ·rw [if_neg c9] at H
     have aC : decide (a1 < a0) = false := decide_eq_false c9
     clear c9
     obtain rfl := Option.some.inj H
     go_enter Try.func49, Try.ntmps49
     go_wp2_with (first | ((with_reducible refine Be (f := 56) rfl ?_); refine Bv (some 8) rfl rfl Try.func56 (by kernel_rfl) rfl #[.int .u32 a0] rfl (by (try simp only [List.map_toArray, List.map_cons, List.map_nil]); first | done | rfl | (simp only [List.length_drop, List.length_take]; rfl)) ?_; (with_reducible refine (cmp_isNaN_uint32.calls a0 false _ A3.out).mono ?_); rintro e w' ⟨rfl, ⟨nd, rfl⟩⟩; refine ⟨_, rfl, ?_⟩) | ((with_reducible refine Be (f := 56) rfl ?_); refine Bv (some 10) rfl rfl Try.func56 (by kernel_rfl) rfl #[.int .u32 a1] rfl (by (try simp only [List.map_toArray, List.map_cons, List.map_nil]); first | done | rfl | (simp only [List.length_drop, List.length_take]; rfl)) ?_; (with_reducible refine (cmp_isNaN_uint32.calls a1 false _ A4.out).mono ?_); rintro e w' ⟨rfl, ⟨nd, rfl⟩⟩; refine ⟨_, rfl, ?_⟩))
     go_ret
     exact ⟨by first | rfl | (simp; done) | (simp [*]; done), by repeat (first | exact Drawn0.refl _ | apply Drawn0.step)⟩

end Go.Proofs.Ythpmkelcjlljmaa.PRA

