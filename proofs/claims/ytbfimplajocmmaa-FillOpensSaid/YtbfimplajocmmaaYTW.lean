import Derived.Test.YtbfimplajocmmaaYRM12
import Derived.Test.YtbfimplajocmmaaYPFAx2
open Go Go.RowKit Go.Proofs.YtbfimplajocmmaaW.PrintWords Go.Proofs.YtbfimplajocmmaaW.PrintLast Go.Proofs.YtbfimplajocmmaaW.PrintMore
attribute [local go_sem ↓] Go.wp_at_zero Go.wp_at_succ
set_option linter.unusedVariables false
set_option linter.unusedSimpArgs false
namespace Go.Proofs.Ytbfimplajocmmaa
open PFA PRA PRB
namespace TW
abbrev RF := Int → Int → List Int → Int → Int → Int → Option (Int × Int × List Int × Int)
def twoF (E D : RF) (a b : Int) (l : List Int) (bk w h : Int) : Option (Int × Int × List Int × Int) :=
 (Ce.f a b l).bind fun e => if e = 0 then (if Int.tmod w 2 = 1 ∧ Int.tmod h 2 = 1 ∧ w ≤ 15 ∧ h ≤ 15 then (E a b l bk w h).bind fun q => if q.2.2.2 = 0 then D q.1 q.2.1 q.2.2.1 bk w h else some (0, 0, [], q.2.2.2) else some (0, 0, [], 305)) else some (0, 0, [], e)
theorem back3 {w W : World} (h : Below w.heap.size w W) (y0 y1 y2 : Value) : Below w.heap.size w (((W.setCell ⟨w.heap.size + 1, 0, none⟩ y0).setCell ⟨w.heap.size + 1, 1, none⟩ y1).setCell ⟨w.heap.size + 1, 2, none⟩ y2) :=
 ((h.setCell (show w.heap.size ≤ w.heap.size + 1 by omega) _).setCell (show w.heap.size ≤ w.heap.size + 1 by omega) _).setCell (show w.heap.size ≤ w.heap.size + 1 by omega) _
theorem out3 {w : World} {g : Nat} {x0 x1 x2 : Value} (y0 y1 y2 : Value) (h : w.heap[g]? = some (.cells #[x0, x1, x2] 24 (0, 0))) :
  (((w.setCell ⟨g, 0, none⟩ y0).setCell ⟨g, 1, none⟩ y1).setCell ⟨g, 2, none⟩ y2).heap[g]? = some (.cells #[y0, y1, y2] 24 (0, 0)) := Ax (Ax (Ax h 0 _ rfl) 1 _ rfl) 2 _ rfl
set_option maxHeartbeats 8000000 in
set_option maxRecDepth 100000 in
theorem twoOpen (k : Nat) (a0_0 : Int) (a0_1 : Int) (A0_2 : Option Addr) (c0_2 : Nat) (l0_2 : List Int) (a1 a2 a3 : Int) (r1 : Int) (r2 : Int) (r3 : List Int) (r4 : Int) (w : World) (hr0_2 : Kd.C (Kd.int .u32) w A0_2 l0_2.length l0_2) (hc0_2 : l0_2.length ≤ c0_2) (h : twoF (Cu.f k) (Cq.f k) a0_0 a0_1 l0_2 a1 a2 a3 = some (r1, r2, r3, r4)) :
  Calls Try.prog 59 #[.agg #[.int .i64 a0_0, .int .i64 a0_1, .slice A0_2 l0_2.length c0_2], .int .i64 a1, .int .i64 a2, .int .i64 a3, .func (.func 60) #[] #[], .func (.func 61) #[] #[]] w fun e w' => ∃ v2_ : Value, e = .returned (.tuple #[.agg #[.int .i64 r1, .int .i64 r2, v2_], .int .i64 r4]) ∧ Kd.R (Kd.int .u32) 28 w' w.heap.size (fun _ => True) v2_ r3 ∧ Below w.heap.size w w' := by
 unfold twoF at h; obtain ⟨e0, hk0, H⟩ := Option.bind_eq_some_iff.mp h; have HK0 := Ac.mk hk0; have HC := Ac.mk hr0_2; clear h hk0 hr0_2; have hp0 : ((w.alloc (.cells #[.int .i64 a0_0, .int .i64 a0_1, .slice A0_2 l0_2.length c0_2] 24)).alloc (.cells #[.int .i64 0, .int .i64 0, .slice none 0 0] 24)).heap[w.heap.size]? = some (.cells #[.int .i64 a0_0, .int .i64 a0_1, .slice A0_2 l0_2.length c0_2] 24 (0, 0)) := Aj (Dm _ _) _
 have hz0 : ((w.alloc (.cells #[.int .i64 a0_0, .int .i64 a0_1, .slice A0_2 l0_2.length c0_2] 24)).alloc (.cells #[.int .i64 0, .int .i64 0, .slice none 0 0] 24)).heap[w.heap.size + 1]? = some (.cells #[.int .i64 0, .int .i64 0, .slice none 0 0] 24 (0, 0)) := by
  have := heap_alloc_new (w.alloc (.cells #[.int .i64 a0_0, .int .i64 a0_1, .slice A0_2 l0_2.length c0_2] 24)) (.cells #[.int .i64 0, .int .i64 0, .slice none 0 0] 24)
  simpa using this
 have hb0 : Below w.heap.size w ((w.alloc (.cells #[.int .i64 a0_0, .int .i64 a0_1, .slice A0_2 l0_2.length c0_2] 24)).alloc (.cells #[.int .i64 0, .int .i64 0, .slice none 0 0] 24)) := Ah (Ah (Below.refl _ _) _) _; have HP0 := Ac.mk hp0; have HZ0 := Ac.mk hz0; have HB0 := Ac.mk hb0; clear hp0 hz0 hb0; go_enter Try.func59, Try.ntmps59
 go_upto_region 2 with (go_at_call 44; refine (Ce.calls a0_0 a0_1 A0_2 c0_2 l0_2 e0 _ (Kd.B2 HC.out HB0.out) hc0_2 HK0.out).mono ?_; rintro e w1 ⟨rfl, hb⟩; have HB := Ac.mk hb; clear hb)
 have HP1 := Ac.mk (An HP0.out HB.out); have HZ1 := Ac.mk (An HZ0.out HB.out); have HB1 := Ac.mk (Aq HB0.out HB.out); clear HP0 HZ0 HB0 HB; have m0 : w1.cell? ⟨w.heap.size + 1, 0, none⟩ = some (.int .i64 0) := (Ad HZ1.out 0).trans rfl; have m1 : w1.cell? ⟨w.heap.size + 1, 1, none⟩ = some (.int .i64 0) := (Ad HZ1.out 1).trans rfl; have m2 : w1.cell? ⟨w.heap.size + 1, 2, none⟩ = some (.slice none 0 0) := (Ad HZ1.out 2).trans rfl; have f0 := Af HZ1.out 0; have f1 := Af HZ1.out 1; have f2 := Af HZ1.out 2
 by_cases c0 : e0 = 0
 case neg =>
  rw [if_neg c0] at H
  simp only [Option.some.injEq, Prod.mk.injEq] at H
  obtain ⟨rfl, rfl, rfl, rfl⟩ := H; have x1 : (e0 == 0) = false := by simpa using c0
  have x2 : (e0 != 0) = true := by simpa using c0
  clear c0
  go_wp2
  refine bodyPost_ret (results_ct rfl _ _ (w.heap.size + 1) 24 #[.int .i64 0, .int .i64 0, .slice none 0 0] (0, 0) _ rfl (out3 _ _ _ HZ1.out) Try.underlying24 rfl (by kernel_rfl)) rfl ?_; exact ⟨_, rfl, Kd.Ct _ _ _ _ _, back3 HB1.out _ _ _⟩
 subst c0; rw [if_pos rfl] at H
 by_cases t1 : Int.tmod a2 2 = 1
 case neg =>
  rw [if_neg (fun hh => t1 hh.1)] at H
  simp only [Option.some.injEq, Prod.mk.injEq] at H
  obtain ⟨rfl, rfl, rfl, rfl⟩ := H; have v1 : (Int.tmod a2 2 == 1) = false := by simpa using t1
  have v2 : (Int.tmod a2 2 != 1) = true := by simpa using t1
  clear t1
  go_wp2
  refine bodyPost_ret (results_ct rfl _ _ (w.heap.size + 1) 24 #[.int .i64 0, .int .i64 0, .slice none 0 0] (0, 0) _ rfl (out3 _ _ _ HZ1.out) Try.underlying24 rfl (by kernel_rfl)) rfl ?_; exact ⟨_, rfl, Kd.Ct _ _ _ _ _, back3 HB1.out _ _ _⟩
 have t1a : (Int.tmod a2 2 == 1) = true := by simpa using t1
 have t1b : (Int.tmod a2 2 != 1) = false := by simpa using t1
 by_cases t2 : Int.tmod a3 2 = 1
 case neg =>
  rw [if_neg (fun hh => t2 hh.2.1)] at H
  simp only [Option.some.injEq, Prod.mk.injEq] at H
  obtain ⟨rfl, rfl, rfl, rfl⟩ := H; have v1 : (Int.tmod a3 2 == 1) = false := by simpa using t2
  have v2 : (Int.tmod a3 2 != 1) = true := by simpa using t2
  clear t2
  go_wp2
  refine bodyPost_ret (results_ct rfl _ _ (w.heap.size + 1) 24 #[.int .i64 0, .int .i64 0, .slice none 0 0] (0, 0) _ rfl (out3 _ _ _ HZ1.out) Try.underlying24 rfl (by kernel_rfl)) rfl ?_; exact ⟨_, rfl, Kd.Ct _ _ _ _ _, back3 HB1.out _ _ _⟩
 have t2a : (Int.tmod a3 2 == 1) = true := by simpa using t2
 have t2b : (Int.tmod a3 2 != 1) = false := by simpa using t2
 by_cases t3 : a2 ≤ 15
 case neg =>
  rw [if_neg (fun hh => t3 hh.2.2.1)] at H
  simp only [Option.some.injEq, Prod.mk.injEq] at H
  obtain ⟨rfl, rfl, rfl, rfl⟩ := H; have v1 : decide (15 < a2) = true := decide_eq_true (by omega); clear t3
  go_wp2
  refine bodyPost_ret (results_ct rfl _ _ (w.heap.size + 1) 24 #[.int .i64 0, .int .i64 0, .slice none 0 0] (0, 0) _ rfl (out3 _ _ _ HZ1.out) Try.underlying24 rfl (by kernel_rfl)) rfl ?_; exact ⟨_, rfl, Kd.Ct _ _ _ _ _, back3 HB1.out _ _ _⟩
 have t3a : decide (15 < a2) = false := decide_eq_false (by omega)
 by_cases t4 : a3 ≤ 15
 case neg =>
  rw [if_neg (fun hh => t4 hh.2.2.2)] at H
  simp only [Option.some.injEq, Prod.mk.injEq] at H
  obtain ⟨rfl, rfl, rfl, rfl⟩ := H; have v1 : decide (15 < a3) = true := decide_eq_true (by omega); clear t4
  go_wp2
  refine bodyPost_ret (results_ct rfl _ _ (w.heap.size + 1) 24 #[.int .i64 0, .int .i64 0, .slice none 0 0] (0, 0) _ rfl (out3 _ _ _ HZ1.out) Try.underlying24 rfl (by kernel_rfl)) rfl ?_; exact ⟨_, rfl, Kd.Ct _ _ _ _ _, back3 HB1.out _ _ _⟩
 have t4a : decide (15 < a3) = false := decide_eq_false (by omega); rw [if_pos ⟨t1, t2, t3, t4⟩] at H; obtain ⟨⟨q1, q2, q3, q4⟩, hq, H⟩ := Option.bind_eq_some_iff.mp H; dsimp only at H; have HQ := Ac.mk hq; have HCw := Ac.mk (Kd.B2 HC.out HB1.out); clear t1 t2 t3 t4 hq m0 m1 m2 f0 f1 f2; have p0 : w1.cell? ⟨w.heap.size, 0, none⟩ = some (.int .i64 a0_0) := (Ad HP1.out 0).trans rfl; have p1 : w1.cell? ⟨w.heap.size, 1, none⟩ = some (.int .i64 a0_1) := (Ad HP1.out 1).trans rfl; have p2 : w1.cell? ⟨w.heap.size, 2, none⟩ = some (.slice A0_2 l0_2.length c0_2) := (Ad HP1.out 2).trans rfl
 go_upto_region 7 with (go_at_call 60; refine (Cu.calls k a0_0 a0_1 A0_2 c0_2 l0_2 a1 a2 a3 q1 q2 q3 q4 w1 HCw.out hc0_2 HQ.out).mono ?_; rintro e w2 ⟨v2, rfl, h1, h2⟩; obtain ⟨A2, c2, e2⟩ := Kd.B0 h1; subst e2; have H1 := Ac.mk h1; have H2 := Ac.mk h2; clear h1 h2)
 clear p0 p1 p2; obtain ⟨w3, hw3⟩ : ∃ y, y = w2.alloc (.cells #[.int .i64 q1, .int .i64 q2, .slice A2 q3.length c2] 24) := ⟨_, rfl⟩; rw [← hw3]; have hab : Below w2.heap.size w2 w3 := by rw [hw3]; exact Ah (Below.refl _ _) _
 have hb13 := H2.out.trans (hab.mono H2.out.size); have HZ3 := Ac.mk (An HZ1.out hb13); have HB3 := Ac.mk (HB1.out.trans (hb13.mono HB1.out.size)); have HQ3 := Ac.mk (show w3.heap[w2.heap.size]? = some (.cells #[.int .i64 q1, .int .i64 q2, .slice A2 q3.length c2] 24 (0, 0)) by rw [hw3]; exact Dm _ _); have HR3 := Ac.mk (Kd.Az H1.out hab); clear hw3 hab hb13 H1 H2 HZ1 HB1 HP1
 by_cases c4 : q4 = 0
 case neg =>
  rw [if_neg c4] at H
  simp only [Option.some.injEq, Prod.mk.injEq] at H
  obtain ⟨rfl, rfl, rfl, rfl⟩ := H; have x1 : (q4 == 0) = false := by simpa using c4
  have x2 : (q4 != 0) = true := by simpa using c4
  have m0 : w3.cell? ⟨w.heap.size + 1, 0, none⟩ = some (.int .i64 0) := (Ad HZ3.out 0).trans rfl; have m1 : w3.cell? ⟨w.heap.size + 1, 1, none⟩ = some (.int .i64 0) := (Ad HZ3.out 1).trans rfl; have m2 : w3.cell? ⟨w.heap.size + 1, 2, none⟩ = some (.slice none 0 0) := (Ad HZ3.out 2).trans rfl; have f0 := Af HZ3.out 0; have f1 := Af HZ3.out 1; have f2 := Af HZ3.out 2; clear c4
  go_wp2
  refine bodyPost_ret (results_ct rfl _ _ (w.heap.size + 1) 24 #[.int .i64 0, .int .i64 0, .slice none 0 0] (0, 0) _ rfl (out3 _ _ _ HZ3.out) Try.underlying24 rfl (by kernel_rfl)) rfl ?_; exact ⟨_, rfl, Kd.Ct _ _ _ _ _, back3 HB3.out _ _ _⟩
 subst c4; rw [if_pos rfl] at H; have HD := Ac.mk H; clear H; have g0 : w3.cell? ⟨w2.heap.size, 0, none⟩ = some (.int .i64 q1) := (Ad HQ3.out 0).trans rfl; have g1 : w3.cell? ⟨w2.heap.size, 1, none⟩ = some (.int .i64 q2) := (Ad HQ3.out 1).trans rfl; have g2 : w3.cell? ⟨w2.heap.size, 2, none⟩ = some (.slice A2 q3.length c2) := (Ad HQ3.out 2).trans rfl; have hrd := Kd.Bn HR3.out; have HRD := Ac.mk hrd; clear hrd
 go_wp2_with (go_at_call 61; refine (Cq.calls k q1 q2 A2 c2 q3 a1 a2 a3 r1 r2 r3 r4 w3 HRD.out.2.2 HRD.out.2.1 HD.out).mono ?_; rintro e w4 ⟨v4, rfl, h1, h2⟩; obtain ⟨A4, c4, e4⟩ := Kd.B0 h1; subst e4; have H1 := Ac.mk h1; have H2 := Ac.mk h2; have HZ4 := Ac.mk (An HZ3.out h2); clear h1 h2; have m0 : w4.cell? ⟨w.heap.size + 1, 0, none⟩ = some (.int .i64 0) := (Ad HZ4.out 0).trans rfl; have m1 : w4.cell? ⟨w.heap.size + 1, 1, none⟩ = some (.int .i64 0) := (Ad HZ4.out 1).trans rfl; have m2 : w4.cell? ⟨w.heap.size + 1, 2, none⟩ = some (.slice none 0 0) := (Ad HZ4.out 2).trans rfl; have f0 := Af HZ4.out 0; have f1 := Af HZ4.out 1; have f2 := Af HZ4.out 2)
 have HB4 := HB3.out.trans (H2.out.mono HB3.out.size); have hR4 := Kd.B9 H1.out (show w.heap.size ≤ w3.heap.size from HB3.out.size); refine bodyPost_ret (results_ct rfl _ _ (w.heap.size + 1) 24 #[.int .i64 r1, .int .i64 r2, .slice A4 r3.length c4] (0, 0) _ rfl (out3 _ _ _ HZ4.out) Try.underlying24 rfl (by kernel_rfl)) rfl ?_; exact ⟨_, rfl, Kd.Dh (Kd.Dh (Kd.Dh hR4 HZ4.out (by decide) 0 _) (Ax HZ4.out 0 _ rfl) (by decide) 1 _) (Ax (Ax HZ4.out 0 _ rfl) 1 _ rfl) (by decide) 2 _, back3 HB4 _ _ _⟩
set_option maxHeartbeats 8000000 in
set_option maxRecDepth 100000 in
theorem Open_calls (k : Nat) (a0_0 : Int) (a0_1 : Int) (A0_2 : Option Addr) (c0_2 : Nat) (l0_2 : List Int) (a1 a2 a3 : Int) (r1 : Int) (r2 : Int) (r3 : List Int) (r4 : Int) (w : World) (hr0_2 : Kd.C (Kd.int .u32) w A0_2 l0_2.length l0_2) (hc0_2 : l0_2.length ≤ c0_2) (h : twoF (Cu.f k) (Cq.f k) a0_0 a0_1 l0_2 a1 a2 a3 = some (r1, r2, r3, r4)) :
  Calls Try.prog 25 #[.agg #[.int .i64 a0_0, .int .i64 a0_1, .slice A0_2 l0_2.length c0_2], .int .i64 a1, .int .i64 a2, .int .i64 a3] w fun e w' => ∃ v2_ : Value, e = .returned (.tuple #[.agg #[.int .i64 r1, .int .i64 r2, v2_], .int .i64 r4]) ∧ Kd.R (Kd.int .u32) 28 w' w.heap.size (fun _ => True) v2_ r3 ∧ Below w.heap.size w w' := by
 have hz0 : ((w.alloc (.cells #[.int .i64 a0_0, .int .i64 a0_1, .slice A0_2 l0_2.length c0_2] 24)).alloc (.cells #[.int .i64 0, .int .i64 0, .slice none 0 0] 24)).heap[w.heap.size + 1]? = some (.cells #[.int .i64 0, .int .i64 0, .slice none 0 0] 24 (0, 0)) := by
  have := heap_alloc_new (w.alloc (.cells #[.int .i64 a0_0, .int .i64 a0_1, .slice A0_2 l0_2.length c0_2] 24)) (.cells #[.int .i64 0, .int .i64 0, .slice none 0 0] 24)
  simpa using this
 have hb0 : Below w.heap.size w ((w.alloc (.cells #[.int .i64 a0_0, .int .i64 a0_1, .slice A0_2 l0_2.length c0_2] 24)).alloc (.cells #[.int .i64 0, .int .i64 0, .slice none 0 0] 24)) := Ah (Ah (Below.refl _ _) _) _; have HZR := Ac.mk hz0; have HBW := Ac.mk hb0; clear hz0 hb0; go_enter Try.func25, Try.ntmps25
 go_wp2_with fail
 refine (twoOpen k a0_0 a0_1 A0_2 c0_2 l0_2 a1 a2 a3 r1 r2 r3 r4 _ (Kd.B2 hr0_2 HBW.out) hc0_2 h).mono ?_; rintro e w2 ⟨v2, rfl, ho, hb⟩; have HZ2 := Ac.mk (An HZR.out hb); have HB2 := Ac.mk (Aq HBW.out hb); have HO := Ac.mk (Kd.B9 ho (show w.heap.size ≤ ((w.alloc (.cells #[.int .i64 a0_0, .int .i64 a0_1, .slice A0_2 l0_2.length c0_2] 24)).alloc (.cells #[.int .i64 0, .int .i64 0, .slice none 0 0] 24)).heap.size by simp; omega)); obtain ⟨A9, c9, e9⟩ := Kd.B0 ho; subst e9; have m0 : w2.cell? ⟨w.heap.size + 1, 0, none⟩ = some (.int .i64 0) := (Ad HZ2.out 0).trans rfl; have m1 : w2.cell? ⟨w.heap.size + 1, 1, none⟩ = some (.int .i64 0) := (Ad HZ2.out 1).trans rfl; have m2 : w2.cell? ⟨w.heap.size + 1, 2, none⟩ = some (.slice none 0 0) := (Ad HZ2.out 2).trans rfl; have f0 := Af HZ2.out 0; have f1 := Af HZ2.out 1; have f2 := Af HZ2.out 2; clear ho hb HZR HBW
 go_wp2
 refine bodyPost_ret (results_ct rfl _ _ (w.heap.size + 1) 24 #[.int .i64 r1, .int .i64 r2, .slice A9 r3.length c9] (0, 0) _ rfl (out3 _ _ _ HZ2.out) Try.underlying24 rfl (by kernel_rfl)) rfl ?_; exact ⟨_, rfl, Kd.Dh (Kd.Dh (Kd.Dh HO.out HZ2.out (by decide) 0 _) (Ax HZ2.out 0 _ rfl) (by decide) 1 _) (Ax (Ax HZ2.out 0 _ rfl) 1 _ rfl) (by decide) 2 _, back3 HB2.out _ _ _⟩
set_option maxHeartbeats 8000000 in
set_option maxRecDepth 100000 in
theorem twoClose (k : Nat) (a0_0 : Int) (a0_1 : Int) (A0_2 : Option Addr) (c0_2 : Nat) (l0_2 : List Int) (a1 a2 a3 : Int) (r1 : Int) (r2 : Int) (r3 : List Int) (r4 : Int) (w : World) (hr0_2 : Kd.C (Kd.int .u32) w A0_2 l0_2.length l0_2) (hc0_2 : l0_2.length ≤ c0_2) (h : twoF (Cq.f k) (Cu.f k) a0_0 a0_1 l0_2 a1 a2 a3 = some (r1, r2, r3, r4)) :
  Calls Try.prog 59 #[.agg #[.int .i64 a0_0, .int .i64 a0_1, .slice A0_2 l0_2.length c0_2], .int .i64 a1, .int .i64 a2, .int .i64 a3, .func (.func 61) #[] #[], .func (.func 60) #[] #[]] w fun e w' => ∃ v2_ : Value, e = .returned (.tuple #[.agg #[.int .i64 r1, .int .i64 r2, v2_], .int .i64 r4]) ∧ Kd.R (Kd.int .u32) 28 w' w.heap.size (fun _ => True) v2_ r3 ∧ Below w.heap.size w w' := by
 unfold twoF at h; obtain ⟨e0, hk0, H⟩ := Option.bind_eq_some_iff.mp h; have HK0 := Ac.mk hk0; have HC := Ac.mk hr0_2; clear h hk0 hr0_2; have hp0 : ((w.alloc (.cells #[.int .i64 a0_0, .int .i64 a0_1, .slice A0_2 l0_2.length c0_2] 24)).alloc (.cells #[.int .i64 0, .int .i64 0, .slice none 0 0] 24)).heap[w.heap.size]? = some (.cells #[.int .i64 a0_0, .int .i64 a0_1, .slice A0_2 l0_2.length c0_2] 24 (0, 0)) := Aj (Dm _ _) _
 have hz0 : ((w.alloc (.cells #[.int .i64 a0_0, .int .i64 a0_1, .slice A0_2 l0_2.length c0_2] 24)).alloc (.cells #[.int .i64 0, .int .i64 0, .slice none 0 0] 24)).heap[w.heap.size + 1]? = some (.cells #[.int .i64 0, .int .i64 0, .slice none 0 0] 24 (0, 0)) := by
  have := heap_alloc_new (w.alloc (.cells #[.int .i64 a0_0, .int .i64 a0_1, .slice A0_2 l0_2.length c0_2] 24)) (.cells #[.int .i64 0, .int .i64 0, .slice none 0 0] 24)
  simpa using this
 have hb0 : Below w.heap.size w ((w.alloc (.cells #[.int .i64 a0_0, .int .i64 a0_1, .slice A0_2 l0_2.length c0_2] 24)).alloc (.cells #[.int .i64 0, .int .i64 0, .slice none 0 0] 24)) := Ah (Ah (Below.refl _ _) _) _; have HP0 := Ac.mk hp0; have HZ0 := Ac.mk hz0; have HB0 := Ac.mk hb0; clear hp0 hz0 hb0; go_enter Try.func59, Try.ntmps59
 go_upto_region 2 with (go_at_call 44; refine (Ce.calls a0_0 a0_1 A0_2 c0_2 l0_2 e0 _ (Kd.B2 HC.out HB0.out) hc0_2 HK0.out).mono ?_; rintro e w1 ⟨rfl, hb⟩; have HB := Ac.mk hb; clear hb)
 have HP1 := Ac.mk (An HP0.out HB.out); have HZ1 := Ac.mk (An HZ0.out HB.out); have HB1 := Ac.mk (Aq HB0.out HB.out); clear HP0 HZ0 HB0 HB; have m0 : w1.cell? ⟨w.heap.size + 1, 0, none⟩ = some (.int .i64 0) := (Ad HZ1.out 0).trans rfl; have m1 : w1.cell? ⟨w.heap.size + 1, 1, none⟩ = some (.int .i64 0) := (Ad HZ1.out 1).trans rfl; have m2 : w1.cell? ⟨w.heap.size + 1, 2, none⟩ = some (.slice none 0 0) := (Ad HZ1.out 2).trans rfl; have f0 := Af HZ1.out 0; have f1 := Af HZ1.out 1; have f2 := Af HZ1.out 2
 by_cases c0 : e0 = 0
 case neg =>
  rw [if_neg c0] at H
  simp only [Option.some.injEq, Prod.mk.injEq] at H
  obtain ⟨rfl, rfl, rfl, rfl⟩ := H; have x1 : (e0 == 0) = false := by simpa using c0
  have x2 : (e0 != 0) = true := by simpa using c0
  clear c0
  go_wp2
  refine bodyPost_ret (results_ct rfl _ _ (w.heap.size + 1) 24 #[.int .i64 0, .int .i64 0, .slice none 0 0] (0, 0) _ rfl (out3 _ _ _ HZ1.out) Try.underlying24 rfl (by kernel_rfl)) rfl ?_; exact ⟨_, rfl, Kd.Ct _ _ _ _ _, back3 HB1.out _ _ _⟩
 subst c0; rw [if_pos rfl] at H
 by_cases t1 : Int.tmod a2 2 = 1
 case neg =>
  rw [if_neg (fun hh => t1 hh.1)] at H
  simp only [Option.some.injEq, Prod.mk.injEq] at H
  obtain ⟨rfl, rfl, rfl, rfl⟩ := H; have v1 : (Int.tmod a2 2 == 1) = false := by simpa using t1
  have v2 : (Int.tmod a2 2 != 1) = true := by simpa using t1
  clear t1
  go_wp2
  refine bodyPost_ret (results_ct rfl _ _ (w.heap.size + 1) 24 #[.int .i64 0, .int .i64 0, .slice none 0 0] (0, 0) _ rfl (out3 _ _ _ HZ1.out) Try.underlying24 rfl (by kernel_rfl)) rfl ?_; exact ⟨_, rfl, Kd.Ct _ _ _ _ _, back3 HB1.out _ _ _⟩
 have t1a : (Int.tmod a2 2 == 1) = true := by simpa using t1
 have t1b : (Int.tmod a2 2 != 1) = false := by simpa using t1
 by_cases t2 : Int.tmod a3 2 = 1
 case neg =>
  rw [if_neg (fun hh => t2 hh.2.1)] at H
  simp only [Option.some.injEq, Prod.mk.injEq] at H
  obtain ⟨rfl, rfl, rfl, rfl⟩ := H; have v1 : (Int.tmod a3 2 == 1) = false := by simpa using t2
  have v2 : (Int.tmod a3 2 != 1) = true := by simpa using t2
  clear t2
  go_wp2
  refine bodyPost_ret (results_ct rfl _ _ (w.heap.size + 1) 24 #[.int .i64 0, .int .i64 0, .slice none 0 0] (0, 0) _ rfl (out3 _ _ _ HZ1.out) Try.underlying24 rfl (by kernel_rfl)) rfl ?_; exact ⟨_, rfl, Kd.Ct _ _ _ _ _, back3 HB1.out _ _ _⟩
 have t2a : (Int.tmod a3 2 == 1) = true := by simpa using t2
 have t2b : (Int.tmod a3 2 != 1) = false := by simpa using t2
 by_cases t3 : a2 ≤ 15
 case neg =>
  rw [if_neg (fun hh => t3 hh.2.2.1)] at H
  simp only [Option.some.injEq, Prod.mk.injEq] at H
  obtain ⟨rfl, rfl, rfl, rfl⟩ := H; have v1 : decide (15 < a2) = true := decide_eq_true (by omega); clear t3
  go_wp2
  refine bodyPost_ret (results_ct rfl _ _ (w.heap.size + 1) 24 #[.int .i64 0, .int .i64 0, .slice none 0 0] (0, 0) _ rfl (out3 _ _ _ HZ1.out) Try.underlying24 rfl (by kernel_rfl)) rfl ?_; exact ⟨_, rfl, Kd.Ct _ _ _ _ _, back3 HB1.out _ _ _⟩
 have t3a : decide (15 < a2) = false := decide_eq_false (by omega)
 by_cases t4 : a3 ≤ 15
 case neg =>
  rw [if_neg (fun hh => t4 hh.2.2.2)] at H
  simp only [Option.some.injEq, Prod.mk.injEq] at H
  obtain ⟨rfl, rfl, rfl, rfl⟩ := H; have v1 : decide (15 < a3) = true := decide_eq_true (by omega); clear t4
  go_wp2
  refine bodyPost_ret (results_ct rfl _ _ (w.heap.size + 1) 24 #[.int .i64 0, .int .i64 0, .slice none 0 0] (0, 0) _ rfl (out3 _ _ _ HZ1.out) Try.underlying24 rfl (by kernel_rfl)) rfl ?_; exact ⟨_, rfl, Kd.Ct _ _ _ _ _, back3 HB1.out _ _ _⟩
 have t4a : decide (15 < a3) = false := decide_eq_false (by omega); rw [if_pos ⟨t1, t2, t3, t4⟩] at H; obtain ⟨⟨q1, q2, q3, q4⟩, hq, H⟩ := Option.bind_eq_some_iff.mp H; dsimp only at H; have HQ := Ac.mk hq; have HCw := Ac.mk (Kd.B2 HC.out HB1.out); clear t1 t2 t3 t4 hq m0 m1 m2 f0 f1 f2; have p0 : w1.cell? ⟨w.heap.size, 0, none⟩ = some (.int .i64 a0_0) := (Ad HP1.out 0).trans rfl; have p1 : w1.cell? ⟨w.heap.size, 1, none⟩ = some (.int .i64 a0_1) := (Ad HP1.out 1).trans rfl; have p2 : w1.cell? ⟨w.heap.size, 2, none⟩ = some (.slice A0_2 l0_2.length c0_2) := (Ad HP1.out 2).trans rfl
 go_upto_region 7 with (go_at_call 61; refine (Cq.calls k a0_0 a0_1 A0_2 c0_2 l0_2 a1 a2 a3 q1 q2 q3 q4 w1 HCw.out hc0_2 HQ.out).mono ?_; rintro e w2 ⟨v2, rfl, h1, h2⟩; obtain ⟨A2, c2, e2⟩ := Kd.B0 h1; subst e2; have H1 := Ac.mk h1; have H2 := Ac.mk h2; clear h1 h2)
 clear p0 p1 p2; obtain ⟨w3, hw3⟩ : ∃ y, y = w2.alloc (.cells #[.int .i64 q1, .int .i64 q2, .slice A2 q3.length c2] 24) := ⟨_, rfl⟩; rw [← hw3]; have hab : Below w2.heap.size w2 w3 := by rw [hw3]; exact Ah (Below.refl _ _) _
 have hb13 := H2.out.trans (hab.mono H2.out.size); have HZ3 := Ac.mk (An HZ1.out hb13); have HB3 := Ac.mk (HB1.out.trans (hb13.mono HB1.out.size)); have HQ3 := Ac.mk (show w3.heap[w2.heap.size]? = some (.cells #[.int .i64 q1, .int .i64 q2, .slice A2 q3.length c2] 24 (0, 0)) by rw [hw3]; exact Dm _ _); have HR3 := Ac.mk (Kd.Az H1.out hab); clear hw3 hab hb13 H1 H2 HZ1 HB1 HP1
 by_cases c4 : q4 = 0
 case neg =>
  rw [if_neg c4] at H
  simp only [Option.some.injEq, Prod.mk.injEq] at H
  obtain ⟨rfl, rfl, rfl, rfl⟩ := H; have x1 : (q4 == 0) = false := by simpa using c4
  have x2 : (q4 != 0) = true := by simpa using c4
  have m0 : w3.cell? ⟨w.heap.size + 1, 0, none⟩ = some (.int .i64 0) := (Ad HZ3.out 0).trans rfl; have m1 : w3.cell? ⟨w.heap.size + 1, 1, none⟩ = some (.int .i64 0) := (Ad HZ3.out 1).trans rfl; have m2 : w3.cell? ⟨w.heap.size + 1, 2, none⟩ = some (.slice none 0 0) := (Ad HZ3.out 2).trans rfl; have f0 := Af HZ3.out 0; have f1 := Af HZ3.out 1; have f2 := Af HZ3.out 2; clear c4
  go_wp2
  refine bodyPost_ret (results_ct rfl _ _ (w.heap.size + 1) 24 #[.int .i64 0, .int .i64 0, .slice none 0 0] (0, 0) _ rfl (out3 _ _ _ HZ3.out) Try.underlying24 rfl (by kernel_rfl)) rfl ?_; exact ⟨_, rfl, Kd.Ct _ _ _ _ _, back3 HB3.out _ _ _⟩
 subst c4; rw [if_pos rfl] at H; have HD := Ac.mk H; clear H; have g0 : w3.cell? ⟨w2.heap.size, 0, none⟩ = some (.int .i64 q1) := (Ad HQ3.out 0).trans rfl; have g1 : w3.cell? ⟨w2.heap.size, 1, none⟩ = some (.int .i64 q2) := (Ad HQ3.out 1).trans rfl; have g2 : w3.cell? ⟨w2.heap.size, 2, none⟩ = some (.slice A2 q3.length c2) := (Ad HQ3.out 2).trans rfl; have hrd := Kd.Bn HR3.out; have HRD := Ac.mk hrd; clear hrd
 go_wp2_with (go_at_call 60; refine (Cu.calls k q1 q2 A2 c2 q3 a1 a2 a3 r1 r2 r3 r4 w3 HRD.out.2.2 HRD.out.2.1 HD.out).mono ?_; rintro e w4 ⟨v4, rfl, h1, h2⟩; obtain ⟨A4, c4, e4⟩ := Kd.B0 h1; subst e4; have H1 := Ac.mk h1; have H2 := Ac.mk h2; have HZ4 := Ac.mk (An HZ3.out h2); clear h1 h2; have m0 : w4.cell? ⟨w.heap.size + 1, 0, none⟩ = some (.int .i64 0) := (Ad HZ4.out 0).trans rfl; have m1 : w4.cell? ⟨w.heap.size + 1, 1, none⟩ = some (.int .i64 0) := (Ad HZ4.out 1).trans rfl; have m2 : w4.cell? ⟨w.heap.size + 1, 2, none⟩ = some (.slice none 0 0) := (Ad HZ4.out 2).trans rfl; have f0 := Af HZ4.out 0; have f1 := Af HZ4.out 1; have f2 := Af HZ4.out 2)
 have HB4 := HB3.out.trans (H2.out.mono HB3.out.size); have hR4 := Kd.B9 H1.out (show w.heap.size ≤ w3.heap.size from HB3.out.size); refine bodyPost_ret (results_ct rfl _ _ (w.heap.size + 1) 24 #[.int .i64 r1, .int .i64 r2, .slice A4 r3.length c4] (0, 0) _ rfl (out3 _ _ _ HZ4.out) Try.underlying24 rfl (by kernel_rfl)) rfl ?_; exact ⟨_, rfl, Kd.Dh (Kd.Dh (Kd.Dh hR4 HZ4.out (by decide) 0 _) (Ax HZ4.out 0 _ rfl) (by decide) 1 _) (Ax (Ax HZ4.out 0 _ rfl) 1 _ rfl) (by decide) 2 _, back3 HB4 _ _ _⟩
set_option maxHeartbeats 8000000 in
set_option maxRecDepth 100000 in
theorem Close_calls (k : Nat) (a0_0 : Int) (a0_1 : Int) (A0_2 : Option Addr) (c0_2 : Nat) (l0_2 : List Int) (a1 a2 a3 : Int) (r1 : Int) (r2 : Int) (r3 : List Int) (r4 : Int) (w : World) (hr0_2 : Kd.C (Kd.int .u32) w A0_2 l0_2.length l0_2) (hc0_2 : l0_2.length ≤ c0_2) (h : twoF (Cq.f k) (Cu.f k) a0_0 a0_1 l0_2 a1 a2 a3 = some (r1, r2, r3, r4)) :
  Calls Try.prog 26 #[.agg #[.int .i64 a0_0, .int .i64 a0_1, .slice A0_2 l0_2.length c0_2], .int .i64 a1, .int .i64 a2, .int .i64 a3] w fun e w' => ∃ v2_ : Value, e = .returned (.tuple #[.agg #[.int .i64 r1, .int .i64 r2, v2_], .int .i64 r4]) ∧ Kd.R (Kd.int .u32) 28 w' w.heap.size (fun _ => True) v2_ r3 ∧ Below w.heap.size w w' := by
 have hz0 : ((w.alloc (.cells #[.int .i64 a0_0, .int .i64 a0_1, .slice A0_2 l0_2.length c0_2] 24)).alloc (.cells #[.int .i64 0, .int .i64 0, .slice none 0 0] 24)).heap[w.heap.size + 1]? = some (.cells #[.int .i64 0, .int .i64 0, .slice none 0 0] 24 (0, 0)) := by
  have := heap_alloc_new (w.alloc (.cells #[.int .i64 a0_0, .int .i64 a0_1, .slice A0_2 l0_2.length c0_2] 24)) (.cells #[.int .i64 0, .int .i64 0, .slice none 0 0] 24)
  simpa using this
 have hb0 : Below w.heap.size w ((w.alloc (.cells #[.int .i64 a0_0, .int .i64 a0_1, .slice A0_2 l0_2.length c0_2] 24)).alloc (.cells #[.int .i64 0, .int .i64 0, .slice none 0 0] 24)) := Ah (Ah (Below.refl _ _) _) _; have HZR := Ac.mk hz0; have HBW := Ac.mk hb0; clear hz0 hb0; go_enter Try.func26, Try.ntmps26
 go_wp2_with fail
 refine (twoClose k a0_0 a0_1 A0_2 c0_2 l0_2 a1 a2 a3 r1 r2 r3 r4 _ (Kd.B2 hr0_2 HBW.out) hc0_2 h).mono ?_; rintro e w2 ⟨v2, rfl, ho, hb⟩; have HZ2 := Ac.mk (An HZR.out hb); have HB2 := Ac.mk (Aq HBW.out hb); have HO := Ac.mk (Kd.B9 ho (show w.heap.size ≤ ((w.alloc (.cells #[.int .i64 a0_0, .int .i64 a0_1, .slice A0_2 l0_2.length c0_2] 24)).alloc (.cells #[.int .i64 0, .int .i64 0, .slice none 0 0] 24)).heap.size by simp; omega)); obtain ⟨A9, c9, e9⟩ := Kd.B0 ho; subst e9; have m0 : w2.cell? ⟨w.heap.size + 1, 0, none⟩ = some (.int .i64 0) := (Ad HZ2.out 0).trans rfl; have m1 : w2.cell? ⟨w.heap.size + 1, 1, none⟩ = some (.int .i64 0) := (Ad HZ2.out 1).trans rfl; have m2 : w2.cell? ⟨w.heap.size + 1, 2, none⟩ = some (.slice none 0 0) := (Ad HZ2.out 2).trans rfl; have f0 := Af HZ2.out 0; have f1 := Af HZ2.out 1; have f2 := Af HZ2.out 2; clear ho hb HZR HBW
 go_wp2
 refine bodyPost_ret (results_ct rfl _ _ (w.heap.size + 1) 24 #[.int .i64 r1, .int .i64 r2, .slice A9 r3.length c9] (0, 0) _ rfl (out3 _ _ _ HZ2.out) Try.underlying24 rfl (by kernel_rfl)) rfl ?_; exact ⟨_, rfl, Kd.Dh (Kd.Dh (Kd.Dh HO.out HZ2.out (by decide) 0 _) (Ax HZ2.out 0 _ rfl) (by decide) 1 _) (Ax (Ax HZ2.out 0 _ rfl) 1 _ rfl) (by decide) 2 _, back3 HB2.out _ _ _⟩
end TW
end Go.Proofs.Ytbfimplajocmmaa


