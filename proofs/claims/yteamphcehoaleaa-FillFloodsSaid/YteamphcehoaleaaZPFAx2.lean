import Derived.Test.YteamphcehoaleaaZPFAx0
import Derived.Test.YteamphcehoaleaaZH1
namespace Go.Proofs.Yteamphcehoaleaa.PFA
open Go.RowKit Go.Proofs.YteamphcehoaleaaW.PrintWords Go.Proofs.YteamphcehoaleaaW.PrintLast Go.Proofs.YteamphcehoaleaaW.PrintMore
attribute [local go_sem] max2_int min2_int max_two min_two max_three min_three max_four min_four   -- for this text's walks alone
set_option linter.unusedVariables false
set_option linter.unusedSimpArgs false

def Ap.l0 : Nat → List Int → List Int → Int → Option (Bool)
 | 0, _, _, _ => none
 | k + 1, x0, x1, x5 => if x5 < (x0.length : Int) then (if 0 ≤ x5 then (if x5 < (x1.length : Int) then (if (rd x0 x5) = (rd x1 x5) then (Ap.l0 k x0 x1 (wrap64 (x5 + 1))) else (some false)) else (none)) else (none)) else (some true)
def Ap.f (k : Nat) (l0 : List Int) (l1 : List Int) : Option (Bool) := if (l0.length : Int) = (l1.length : Int) then (Ap.l0 k l0 l1 0) else (some false)
theorem Ap.mono_l : ∀ k, (∀ y0 y1 y2, LeO (Ap.l0 k y0 y1 y2) (Ap.l0 (k + 1) y0 y1 y2))
 | 0 => fun _ _ _ r h => by simp [Ap.l0] at h
 | k + 1 => by
  have ih0 := Ap.mono_l k
  ·intro y0 y1 y2
   unfold Ap.l0
   repeat' first
   | (with_reducible exact ih0 _ _ _)
   | (with_reducible exact LeO.refl _)
   | (with_reducible exact LeO.none _)
   | (with_reducible refine LeO.ite ?_ ?_)
   | (with_reducible refine LeO.bind ?_ (fun _ => ?_))
   | exact ih0 _ _ _
   | exact LeO.none _
   | refine LeO.ite ?_ ?_
   | refine LeO.bind ?_ (fun _ => ?_)
theorem Ap.mono : ∀ a0 a1 k, LeO (Ap.f k a0 a1) (Ap.f (k + 1) a0 a1) := by
 intro a0 a1 k
 have ih0 := Ap.mono_l k
 unfold Ap.f
 repeat' first
   | (with_reducible exact ih0 _ _ _)
   | (with_reducible exact LeO.refl _)
   | (with_reducible exact LeO.none _)
   | (with_reducible refine LeO.ite ?_ ?_)
   | (with_reducible refine LeO.bind ?_ (fun _ => ?_))
   | exact ih0 _ _ _
   | exact LeO.none _
   | refine LeO.ite ?_ ?_
   | refine LeO.bind ?_ (fun _ => ?_)
set_option maxHeartbeats 8000000 in
set_option maxRecDepth 100000 in
theorem Ap.calls (k : Nat) (A0 : Option Addr) (c0 : Nat) (l0 : List Int) (A1 : Option Addr) (c1 : Nat) (l1 : List Int) (r : Bool) (w : World) (hr0 : Kd.C (Kd.int .i64) w A0 l0.length l0) (hc0 : l0.length ≤ c0) (hr1 : Kd.C (Kd.int .i64) w A1 l1.length l1) (hc1 : l1.length ≤ c1) (h : Ap.f k l0 l1 = some r) :
  Calls Try.prog 18 #[.slice A0 l0.length c0, .slice A1 l1.length c1] w fun e w' => e = .returned (.bool r) ∧ Drawn0 w w' := by
 have HR0 := Aa.mk hr0
 have HC0 := Aa.mk hc0
 clear hr0 hc0
 have HR1 := Aa.mk hr1
 have HC1 := Aa.mk hc1
 clear hr1 hc1
 have H : (if (l0.length : Int) = (l1.length : Int) then (Ap.l0 k l0 l1 0) else (some false)) = some r := h
 clear h
 by_cases c3 : (l0.length : Int) = (l1.length : Int)
 ·rw [if_pos c3] at H
  have c3b0 : ((l0.length : Int) == (l1.length : Int)) = true := beq_iff_eq.mpr c3
  have c3b1 : ((l0.length : Int) != (l1.length : Int)) = false := bne_eq_false_iff_eq.mpr c3
  have c3b2 : (l0.length == l1.length) = true := by first | simpa using c3 | (simp at c3 ⊢; omega)
  clear c3
  have H' := Aa.mk H
  clear H
  go_enter Try.func18, Try.ntmps18
  go_wp2
  repeat (go_quiet (fail); try go_wp2)
  go_loopg [5] k (fun kq v5 w' => ∃ (x5_1 : Int), v5 = .int .i64 x5_1 ∧ Aa (Ap.l0 kq l0 l1 x5_1 = some r) ∧ Aa (kq ≤ k) ∧ Drawn0 w w')
  case atStart => exact ⟨(0), (by first | rfl | (simp; done) | (simp [*]; done)), H', ⟨Nat.le_refl _⟩, by repeat (first | exact Drawn0.refl _ | apply Drawn0.step)⟩
  case round =>
   clear H'
   try clear c1
   try clear p2
   try clear c3
   try clear c3b0
   try clear c3b1
   try clear c3b2
   obtain ⟨x5_1, rfl, HA, HK1, ⟨m1, rfl⟩⟩ := hrel
   cases gk with
   | zero => exact absurd HA.out (by simp [Ap.l0])
   | succ k1 =>
    have H := HA.out
    clear HA
    simp only [Ap.l0] at H
    by_cases c4 : x5_1 < (l0.length : Int)
    ·rw [if_pos c4] at H
     have c4b0 : decide (x5_1 < (l0.length : Int)) = true := decide_eq_true c4
     clear c4
     by_cases c5 : 0 ≤ x5_1
     ·rw [if_pos c5] at H
      have c5b0 : decide (0 ≤ x5_1) = true := decide_eq_true c5
      clear c5
      by_cases c6 : x5_1 < (l1.length : Int)
      ·rw [if_pos c6] at H
       have c6b0 : decide (x5_1 < (l1.length : Int)) = true := decide_eq_true c6
       clear c6
       by_cases c7 : (rd l0 x5_1) = (rd l1 x5_1)
       ·rw [if_pos c7] at H
        have c7b0 : ((rd l0 x5_1) == (rd l1 x5_1)) = true := beq_iff_eq.mpr c7
        have c7b1 : ((rd l0 x5_1) != (rd l1 x5_1)) = false := bne_eq_false_iff_eq.mpr c7
        clear c7
        have H' := Aa.mk H
        clear H
        have p101 : 0 ≤ (x5_1 : Int) := of_decide_eq_true (by first | (with_reducible assumption) | assumption)
        have q101 : x5_1 < (l0.length : Int) := of_decide_eq_true (by first | (with_reducible assumption) | assumption)
        obtain ⟨ad101, e101, hx101_0⟩ := Kd.at_int HR0.out x5_1 p101 q101
        cases e101
        replace p101 := eq_true p101
        replace q101 := eq_true q101
        have p102 : 0 ≤ (x5_1 : Int) := of_decide_eq_true (by first | (with_reducible assumption) | assumption)
        have q102 : x5_1 < (l1.length : Int) := of_decide_eq_true (by first | (with_reducible assumption) | assumption)
        obtain ⟨ad102, e102, hx102_0⟩ := Kd.at_int HR1.out x5_1 p102 q102
        cases e102
        replace p102 := eq_true p102
        replace q102 := eq_true q102
        go_wp2
        repeat (go_quiet (fail); try go_wp2)
        go_roundg k1
        case measure => have := HK1.out; omega
        case rel => exact ⟨(wrap64 (x5_1 + 1)), (by first | rfl | (simp; done) | (simp [*]; done)), H', ⟨by have := HK1.out; omega⟩, by repeat (first | exact Drawn0.refl _ | apply Drawn0.step)⟩
       ·rw [if_neg c7] at H
        have c7b0 : ((rd l0 x5_1) == (rd l1 x5_1)) = false := beq_eq_false_iff_ne.mpr c7
        have c7b1 : ((rd l0 x5_1) != (rd l1 x5_1)) = true := bne_iff_ne.mpr c7
        obtain rfl := Option.some.inj H
        have p101 : 0 ≤ (x5_1 : Int) := of_decide_eq_true (by first | (with_reducible assumption) | assumption)
        have q101 : x5_1 < (l0.length : Int) := of_decide_eq_true (by first | (with_reducible assumption) | assumption)
        obtain ⟨ad101, e101, hx101_0⟩ := Kd.at_int HR0.out x5_1 p101 q101
        cases e101
        replace p101 := eq_true p101
        replace q101 := eq_true q101
        have p102 : 0 ≤ (x5_1 : Int) := of_decide_eq_true (by first | (with_reducible assumption) | assumption)
        have q102 : x5_1 < (l1.length : Int) := of_decide_eq_true (by first | (with_reducible assumption) | assumption)
        obtain ⟨ad102, e102, hx102_0⟩ := Kd.at_int HR1.out x5_1 p102 q102
        cases e102
        replace p102 := eq_true p102
        replace q102 := eq_true q102
        go_wp2
        repeat (go_quiet (fail); try go_wp2)
        go_ret
        exact ⟨by first | rfl | (simp; done) | (simp [*]; done), by repeat (first | exact Drawn0.refl _ | apply Drawn0.step)⟩
      ·rw [if_neg c6] at H
       exact absurd H (by simp)
     ·rw [if_neg c5] at H
      exact absurd H (by simp)
    ·rw [if_neg c4] at H
     have c4b0 : decide (x5_1 < (l0.length : Int)) = false := decide_eq_false c4
     clear c4
     obtain rfl := Option.some.inj H
     go_wp2
     repeat (go_quiet (fail); try go_wp2)
     go_ret
     exact ⟨by first | rfl | (simp; done) | (simp [*]; done), by repeat (first | exact Drawn0.refl _ | apply Drawn0.step)⟩
 ·rw [if_neg c3] at H
  have c3b0 : ((l0.length : Int) == (l1.length : Int)) = false := beq_eq_false_iff_ne.mpr c3
  have c3b1 : ((l0.length : Int) != (l1.length : Int)) = true := bne_iff_ne.mpr c3
  have c3b2 : (l0.length == l1.length) = false := by first | simpa using c3 | (simp at c3 ⊢; omega)
  obtain rfl := Option.some.inj H
  go_enter Try.func18, Try.ntmps18
  go_wp2
  repeat (go_quiet (fail); try go_wp2)
  go_ret
  exact ⟨by first | rfl | (simp; done) | (simp [*]; done), by repeat (first | exact Drawn0.refl _ | apply Drawn0.step)⟩

def De.f (a0 : Int) (a1 : Int) : Option (Bool) := if a0 ≥ 1 then (if a1 ≥ 1 then (if a0 ≤ 1024 then (if a1 ≤ 1024 then (some (decide ((wrap64 (a0 * a1)) ≤ 65536))) else (some false)) else (some false)) else (some false)) else (some false)
set_option maxHeartbeats 8000000 in
set_option maxRecDepth 100000 in
theorem De.calls (a0 : Int) (a1 : Int) (r : Bool) (w : World) (h : De.f a0 a1 = some r) :
  Calls Try.prog 98 #[.int .i64 a0, .int .i64 a1] w fun e w' => e = .returned (.bool r) ∧ Drawn0 w w' := by
 have H : (if a0 ≥ 1 then (if a1 ≥ 1 then (if a0 ≤ 1024 then (if a1 ≤ 1024 then (some (decide ((wrap64 (a0 * a1)) ≤ 65536))) else (some false)) else (some false)) else (some false)) else (some false)) = some r := h
 clear h
 by_cases c3 : a0 ≥ 1
 ·rw [if_pos c3] at H
  have c3b0 : decide (1 ≤ a0) = true := decide_eq_true c3
  clear c3
  by_cases c4 : a1 ≥ 1
  ·rw [if_pos c4] at H
   have c4b0 : decide (1 ≤ a1) = true := decide_eq_true c4
   clear c4
   by_cases c5 : a0 ≤ 1024
   ·rw [if_pos c5] at H
    have c5b0 : decide (a0 ≤ 1024) = true := decide_eq_true c5
    clear c5
    by_cases c6 : a1 ≤ 1024
    ·rw [if_pos c6] at H
     have c6b0 : decide (a1 ≤ 1024) = true := decide_eq_true c6
     clear c6
     obtain rfl := Option.some.inj H
     go_enter Try.func98, Try.ntmps98
     go_wp2
     go_ret
     exact ⟨by first | rfl | (simp; done) | (simp [*]; done), by repeat (first | exact Drawn0.refl _ | apply Drawn0.step)⟩
    ·rw [if_neg c6] at H
     have c6b0 : decide (a1 ≤ 1024) = false := decide_eq_false c6
     clear c6
     obtain rfl := Option.some.inj H
     go_enter Try.func98, Try.ntmps98
     go_wp2
     go_ret
     exact ⟨by first | rfl | (simp; done) | (simp [*]; done), by repeat (first | exact Drawn0.refl _ | apply Drawn0.step)⟩
   ·rw [if_neg c5] at H
    have c5b0 : decide (a0 ≤ 1024) = false := decide_eq_false c5
    clear c5
    obtain rfl := Option.some.inj H
    go_enter Try.func98, Try.ntmps98
    go_wp2
    go_ret
    exact ⟨by first | rfl | (simp; done) | (simp [*]; done), by repeat (first | exact Drawn0.refl _ | apply Drawn0.step)⟩
  ·rw [if_neg c4] at H
   have c4b0 : decide (1 ≤ a1) = false := decide_eq_false c4
   clear c4
   obtain rfl := Option.some.inj H
   go_enter Try.func98, Try.ntmps98
   go_wp2
   go_ret
   exact ⟨by first | rfl | (simp; done) | (simp [*]; done), by repeat (first | exact Drawn0.refl _ | apply Drawn0.step)⟩
 ·rw [if_neg c3] at H
  have c3b0 : decide (1 ≤ a0) = false := decide_eq_false c3
  clear c3
  obtain rfl := Option.some.inj H
  go_enter Try.func98, Try.ntmps98
  go_wp2
  go_ret
  exact ⟨by first | rfl | (simp; done) | (simp [*]; done), by repeat (first | exact Drawn0.refl _ | apply Drawn0.step)⟩

def Dc.f (a0_0 : Int) (a0_1 : Int) (l0_2 : List Int) : Option (Int) := (De.f a0_0 a0_1).bind fun t104 => (if t104 = true then (if (l0_2.length : Int) = (wrap64 (a0_0 * a0_1)) then (some 0) else (some 51)) else (some 50))
set_option maxHeartbeats 8000000 in
set_option maxRecDepth 100000 in
theorem Dc.calls (a0_0 : Int) (a0_1 : Int) (A0_2 : Option Addr) (c0_2 : Nat) (l0_2 : List Int) (r : Int) (w : World) (hr0_2 : Kd.C (Kd.int .u32) w A0_2 l0_2.length l0_2) (hc0_2 : l0_2.length ≤ c0_2) (h : Dc.f a0_0 a0_1 l0_2 = some r) :
  Calls Try.prog 65 #[.agg #[.int .i64 a0_0, .int .i64 a0_1, .slice A0_2 l0_2.length c0_2]] w fun e w' => e = .returned (.int .i64 r) ∧ Below w.heap.size w w' := by
 have hu24 := Try.underlying24
 have HR0_2 := Aa.mk hr0_2
 have HC0_2 := Aa.mk hc0_2
 clear hr0_2 hc0_2
 have HB := Aa.mk (Below.refl w.heap.size w)
 have H : ((De.f a0_0 a0_1).bind fun t104 => (if t104 = true then (if (l0_2.length : Int) = (wrap64 (a0_0 * a0_1)) then (some 0) else (some 51)) else (some 50))) = some r := h
 clear h
 replace H := Option.bind_eq_some_iff.mp H
 obtain ⟨t104, A20, H⟩ := H
 replace H : (if t104 = true then (if (l0_2.length : Int) = (wrap64 (a0_0 * a0_1)) then (some 0) else (some 51)) else (some 50)) = some r := H
 have A2 := Aa.mk A20
 clear A20
 by_cases c3 : t104 = true
 ·subst c3
  have H1 : (if (l0_2.length : Int) = (wrap64 (a0_0 * a0_1)) then (some 0) else (some 51)) = some r := by rw [if_pos rfl] at H; exact H
  clear H
  have H := H1
  clear H1
  by_cases c4 : (l0_2.length : Int) = (wrap64 (a0_0 * a0_1))
  ·rw [if_pos c4] at H
   have c4b0 : ((l0_2.length : Int) == (wrap64 (a0_0 * a0_1))) = true := beq_iff_eq.mpr c4
   have c4b1 : ((l0_2.length : Int) != (wrap64 (a0_0 * a0_1))) = false := bne_eq_false_iff_eq.mpr c4
   clear c4
   obtain rfl := Option.some.inj H
   go_enter Try.func65, Try.ntmps65
   go_wp2_with (first | ((with_reducible refine Bk (N := 1) rfl ?_); refine Bp ?hg (N := 1) ?hd (cs := #[.int .i64 a0_0, .int .i64 a0_1, .slice A0_2 l0_2.length c0_2]) (t := 24) ?hr ?_; (case hd => rfl); (case hg => rfl); (case hr => first | (go_simp; done) | (go_simp; rfl)); intro gb103 hg w5 hbox hb; have n0_ := Aa.mk (Ar (lU HB.out) hb); have n1_ := Aa.mk (hbox); have n2_ := Aa.mk ((by rw [hg]; exact (Ak (lU HB.out)) : w.heap.size ≤ gb103)); have n3_ := Aa.mk ((by rw [hg]; exact (Ak (lU HB.out)) : w.heap.size ≤ gb103)); clear HB; have HB := n0_; have BK103 := n1_; have GW103 := n2_; have GE103 := n3_; clear n0_ n1_ n2_ n3_; clear hb hbox hg; have hcz6_0 : w5.cell? ⟨gb103, 0, none⟩ = some (.int .i64 a0_0) := (Ae BK103.out 0).trans rfl; have hcz6_1 : w5.cell? ⟨gb103, 1, none⟩ = some (.int .i64 a0_1) := (Ae BK103.out 1).trans rfl; have hcz6_2 : w5.cell? ⟨gb103, 2, none⟩ = some (.slice A0_2 l0_2.length c0_2) := (Ae BK103.out 2).trans rfl; have hfz6_0 := Ag BK103.out 0; have hfz6_1 := Ag BK103.out 1; have hfz6_2 := Ag BK103.out 2) | ((with_reducible refine Bn (f := 98) rfl ?_); refine Ca (some 8) rfl rfl Try.func98 (by kernel_rfl) rfl #[.int .i64 a0_0, .int .i64 a0_1] rfl (by (try simp only [List.map_toArray, List.map_cons, List.map_nil]); first | done | rfl | (simp only [List.length_drop, List.length_take]; rfl)) ?_; (with_reducible refine (De.calls a0_0 a0_1 true _ A2.out).mono ?_); rintro e w' ⟨rfl, ⟨nd, rfl⟩⟩; refine ⟨_, rfl, ?_⟩))
   go_ret
   exact ⟨by first | rfl | (simp [Az, Ba] <;> rfl) | (simp [*, Az, Ba] <;> rfl), by repeat (first | (with_reducible first | exact HB.out | apply Ad | apply Ac | apply Ah | refine Af ?_ GE103.out) | exact HB.out)⟩
  ·rw [if_neg c4] at H
   have c4b0 : ((l0_2.length : Int) == (wrap64 (a0_0 * a0_1))) = false := beq_eq_false_iff_ne.mpr c4
   have c4b1 : ((l0_2.length : Int) != (wrap64 (a0_0 * a0_1))) = true := bne_iff_ne.mpr c4
   obtain rfl := Option.some.inj H
   go_enter Try.func65, Try.ntmps65
   go_wp2_with (first | ((with_reducible refine Bk (N := 1) rfl ?_); refine Bp ?hg (N := 1) ?hd (cs := #[.int .i64 a0_0, .int .i64 a0_1, .slice A0_2 l0_2.length c0_2]) (t := 24) ?hr ?_; (case hd => rfl); (case hg => rfl); (case hr => first | (go_simp; done) | (go_simp; rfl)); intro gb103 hg w7 hbox hb; have n0_ := Aa.mk (Ar (lU HB.out) hb); have n1_ := Aa.mk (hbox); have n2_ := Aa.mk ((by rw [hg]; exact (Ak (lU HB.out)) : w.heap.size ≤ gb103)); have n3_ := Aa.mk ((by rw [hg]; exact (Ak (lU HB.out)) : w.heap.size ≤ gb103)); clear HB; have HB := n0_; have BK103 := n1_; have GW103 := n2_; have GE103 := n3_; clear n0_ n1_ n2_ n3_; clear hb hbox hg; have hcz8_0 : w7.cell? ⟨gb103, 0, none⟩ = some (.int .i64 a0_0) := (Ae BK103.out 0).trans rfl; have hcz8_1 : w7.cell? ⟨gb103, 1, none⟩ = some (.int .i64 a0_1) := (Ae BK103.out 1).trans rfl; have hcz8_2 : w7.cell? ⟨gb103, 2, none⟩ = some (.slice A0_2 l0_2.length c0_2) := (Ae BK103.out 2).trans rfl; have hfz8_0 := Ag BK103.out 0; have hfz8_1 := Ag BK103.out 1; have hfz8_2 := Ag BK103.out 2) | ((with_reducible refine Bn (f := 98) rfl ?_); refine Ca (some 8) rfl rfl Try.func98 (by kernel_rfl) rfl #[.int .i64 a0_0, .int .i64 a0_1] rfl (by (try simp only [List.map_toArray, List.map_cons, List.map_nil]); first | done | rfl | (simp only [List.length_drop, List.length_take]; rfl)) ?_; (with_reducible refine (De.calls a0_0 a0_1 true _ A2.out).mono ?_); rintro e w' ⟨rfl, ⟨nd, rfl⟩⟩; refine ⟨_, rfl, ?_⟩))
   go_ret
   exact ⟨by first | rfl | (simp [Az, Ba] <;> rfl) | (simp [*, Az, Ba] <;> rfl), by repeat (first | (with_reducible first | exact HB.out | apply Ad | apply Ac | apply Ah | refine Af ?_ GE103.out) | exact HB.out)⟩
 ·replace c3 := Bool.eq_false_iff.mpr c3
  subst c3
  have H1 : (some 50) = some r := by rw [if_neg (show ¬ (false = true) by decide)] at H; exact H
  clear H
  have H := H1
  clear H1
  obtain rfl := Option.some.inj H
  go_enter Try.func65, Try.ntmps65
  go_wp2_with (first | ((with_reducible refine Bk (N := 1) rfl ?_); refine Bp ?hg (N := 1) ?hd (cs := #[.int .i64 a0_0, .int .i64 a0_1, .slice A0_2 l0_2.length c0_2]) (t := 24) ?hr ?_; (case hd => rfl); (case hg => rfl); (case hr => first | (go_simp; done) | (go_simp; rfl)); intro gb103 hg w9 hbox hb; have n0_ := Aa.mk (Ar (lU HB.out) hb); have n1_ := Aa.mk (hbox); have n2_ := Aa.mk ((by rw [hg]; exact (Ak (lU HB.out)) : w.heap.size ≤ gb103)); have n3_ := Aa.mk ((by rw [hg]; exact (Ak (lU HB.out)) : w.heap.size ≤ gb103)); clear HB; have HB := n0_; have BK103 := n1_; have GW103 := n2_; have GE103 := n3_; clear n0_ n1_ n2_ n3_; clear hb hbox hg; have hcz10_0 : w9.cell? ⟨gb103, 0, none⟩ = some (.int .i64 a0_0) := (Ae BK103.out 0).trans rfl; have hcz10_1 : w9.cell? ⟨gb103, 1, none⟩ = some (.int .i64 a0_1) := (Ae BK103.out 1).trans rfl; have hcz10_2 : w9.cell? ⟨gb103, 2, none⟩ = some (.slice A0_2 l0_2.length c0_2) := (Ae BK103.out 2).trans rfl; have hfz10_0 := Ag BK103.out 0; have hfz10_1 := Ag BK103.out 1; have hfz10_2 := Ag BK103.out 2) | ((with_reducible refine Bn (f := 98) rfl ?_); refine Ca (some 8) rfl rfl Try.func98 (by kernel_rfl) rfl #[.int .i64 a0_0, .int .i64 a0_1] rfl (by (try simp only [List.map_toArray, List.map_cons, List.map_nil]); first | done | rfl | (simp only [List.length_drop, List.length_take]; rfl)) ?_; (with_reducible refine (De.calls a0_0 a0_1 false _ A2.out).mono ?_); rintro e w' ⟨rfl, ⟨nd, rfl⟩⟩; refine ⟨_, rfl, ?_⟩))
  go_ret
  exact ⟨by first | rfl | (simp [Az, Ba] <;> rfl) | (simp [*, Az, Ba] <;> rfl), by repeat (first | (with_reducible first | exact HB.out | apply Ad | apply Ac | apply Ah | refine Af ?_ GE103.out) | exact HB.out)⟩

def C7.f (a0 : Int) : Option (Int) := if a0 < 2147483648 then (some ((a0 + 2147483648) % 4294967296)) else (some ((4294967295 - a0) % 4294967296))
set_option maxHeartbeats 8000000 in
set_option maxRecDepth 100000 in
theorem C7.calls (a0 : Int) (r : Int) (w : World) (h : C7.f a0 = some r) :
  Calls Try.prog 99 #[.int .u32 a0] w fun e w' => e = .returned (.int .u32 r) ∧ Drawn0 w w' := by
 have H : (if a0 < 2147483648 then (some ((a0 + 2147483648) % 4294967296)) else (some ((4294967295 - a0) % 4294967296))) = some r := h
 clear h
 by_cases c2 : a0 < 2147483648
 ·rw [if_pos c2] at H
  have c2b0 : decide (a0 < 2147483648) = true := decide_eq_true c2
  clear c2
  obtain rfl := Option.some.inj H
  go_enter Try.func99, Try.ntmps99
  go_wp2
  go_ret
  exact ⟨by first | rfl | (simp; done) | (simp [*]; done), by repeat (first | exact Drawn0.refl _ | apply Drawn0.step)⟩
 ·rw [if_neg c2] at H
  have c2b0 : decide (a0 < 2147483648) = false := decide_eq_false c2
  clear c2
  obtain rfl := Option.some.inj H
  go_enter Try.func99, Try.ntmps99
  go_wp2
  go_ret
  exact ⟨by first | rfl | (simp; done) | (simp [*]; done), by repeat (first | exact Drawn0.refl _ | apply Drawn0.step)⟩

def C5.f (a0 : Int) (a1 : Int) : Option (Int) := (C7.f a1).bind fun t105 => ((C7.f a0).bind fun t106 => (some (wrap64 ((wrap64 (t105)) - (wrap64 (t106))))))
set_option maxHeartbeats 8000000 in
set_option maxRecDepth 100000 in
theorem C5.calls (a0 : Int) (a1 : Int) (r : Int) (w : World) (h : C5.f a0 a1 = some r) :
  Calls Try.prog 68 #[.int .u32 a0, .int .u32 a1] w fun e w' => e = .returned (.int .i64 r) ∧ Drawn0 w w' := by
 have H : ((C7.f a1).bind fun t105 => ((C7.f a0).bind fun t106 => (some (wrap64 ((wrap64 (t105)) - (wrap64 (t106))))))) = some r := h
 clear h
 replace H := Option.bind_eq_some_iff.mp H
 obtain ⟨t105, A30, H⟩ := H
 replace H : ((C7.f a0).bind fun t106 => (some (wrap64 ((wrap64 (t105)) - (wrap64 (t106)))))) = some r := H
 have A3 := Aa.mk A30
 clear A30
 replace H := Option.bind_eq_some_iff.mp H
 obtain ⟨t106, A40, H⟩ := H
 replace H : (some (wrap64 ((wrap64 (t105)) - (wrap64 (t106))))) = some r := H
 have A4 := Aa.mk A40
 clear A40
 obtain rfl := Option.some.inj H
 go_enter Try.func68, Try.ntmps68
 go_wp2_with (first | ((with_reducible refine Bn (f := 99) rfl ?_); refine Ca (some 6) rfl rfl Try.func99 (by kernel_rfl) rfl #[.int .u32 a1] rfl (by (try simp only [List.map_toArray, List.map_cons, List.map_nil]); first | done | rfl | (simp only [List.length_drop, List.length_take]; rfl)) ?_; (with_reducible refine (C7.calls a1 t105 _ A3.out).mono ?_); rintro e w' ⟨rfl, ⟨nd, rfl⟩⟩; refine ⟨_, rfl, ?_⟩) | ((with_reducible refine Bn (f := 99) rfl ?_); refine Ca (some 9) rfl rfl Try.func99 (by kernel_rfl) rfl #[.int .u32 a0] rfl (by (try simp only [List.map_toArray, List.map_cons, List.map_nil]); first | done | rfl | (simp only [List.length_drop, List.length_take]; rfl)) ?_; (with_reducible refine (C7.calls a0 t106 _ A4.out).mono ?_); rintro e w' ⟨rfl, ⟨nd, rfl⟩⟩; refine ⟨_, rfl, ?_⟩))
 go_ret
 exact ⟨by first | rfl | (simp; done) | (simp [*]; done), by repeat (first | exact Drawn0.refl _ | apply Drawn0.step)⟩

def Di.f (a0 : Int) (a1 : Int) : Option (Bool) := (plane_New.f a0 a1 0).bind fun bt107 => (some (bt107.2.2.2 == 0))
set_option maxHeartbeats 8000000 in
set_option maxRecDepth 100000 in
theorem Di.calls (a0 : Int) (a1 : Int) (r : Bool) (w : World) (h : Di.f a0 a1 = some r) :
  Calls Try.prog 89 #[.int .i64 a0, .int .i64 a1] w fun e w' => e = .returned (.bool r) ∧ Below w.heap.size w w' := by
 have hu24 := Try.underlying24
 have HB := Aa.mk (Below.refl w.heap.size w)
 have H : ((plane_New.f a0 a1 0).bind fun bt107 => (some (bt107.2.2.2 == 0))) = some r := h
 clear h
 replace H := Option.bind_eq_some_iff.mp H
 obtain ⟨⟨t107, t108, t109, t112⟩, A30, H⟩ := H
 replace H : (some (t112 == 0)) = some r := H
 have A3 := Aa.mk A30
 clear A30
 obtain rfl := Option.some.inj H
 go_enter Try.func89, Try.ntmps89
 go_wp2_with (first | ((with_reducible refine Bn (f := 107) rfl ?_); refine Ca (some 10) rfl rfl Try.func107 (by kernel_rfl) rfl #[.int .i64 a0, .int .i64 a1, .int .u32 0] rfl (by (try simp only [List.map_toArray, List.map_cons, List.map_nil]); first | done | rfl | (simp only [List.length_drop, List.length_take]; rfl)) ?_; (with_reducible refine (plane_New.calls a0 a1 0 t107 t108 t109 t112 _ A3.out).mono ?_); rintro e w4 ⟨v110, rfl, ho0, hb⟩; refine ⟨_, rfl, ?_⟩; have n0_ := Aa.mk (Kd.B6 ho0 (Ak (lU HB.out))); have n1_ := Aa.mk (Ar (lU HB.out) hb); clear HB; have HO111 := n0_; have HB := n1_; clear n0_ n1_; (try clear hb); (try clear hb2); (try clear hk); (try clear hi); (try clear ho0)) | ((with_reducible refine Bk (N := 5) rfl ?_); refine Bp ?hg (N := 5) ?hd (cs := #[.int .i64 0, .int .i64 0, .slice none 0 0]) (t := 24) ?hr ?_; (case hd => rfl); (case hg => rfl); (case hr => first | (go_simp; done) | (go_simp; rfl)); intro gb113 hg w5 hbox hb; have n0_ := Aa.mk (Kd.Au (by exact rU <| HO111.out) hb); have n1_ := Aa.mk (Ar (lU HB.out) hb); have n2_ := Aa.mk (hbox); have n3_ := Aa.mk ((by rw [hg]; exact (Ak (lU HB.out)) : w.heap.size ≤ gb113)); have n4_ := Aa.mk ((by rw [hg]; exact (Ak (lU HB.out)) : w.heap.size ≤ gb113)); clear HO111; clear HB; have HO111 := n0_; have HB := n1_; have BK113 := n2_; have GW113 := n3_; have GE113 := n4_; clear n0_ n1_ n2_ n3_ n4_; clear hb hbox hg; have hcz6_0 : w5.cell? ⟨gb113, 0, none⟩ = some (.int .i64 0) := (Ae BK113.out 0).trans rfl; have hcz6_1 : w5.cell? ⟨gb113, 1, none⟩ = some (.int .i64 0) := (Ae BK113.out 1).trans rfl; have hcz6_2 : w5.cell? ⟨gb113, 2, none⟩ = some (.slice none 0 0) := (Ae BK113.out 2).trans rfl; have hfz6_0 := Ag BK113.out 0; have hfz6_1 := Ag BK113.out 1; have hfz6_2 := Ag BK113.out 2; obtain ⟨Ao7, co7, eo7⟩ := Kd.Bz HO111.out; subst eo7))
 go_ret
 exact ⟨by first | rfl | (simp [Az, Ba] <;> rfl) | (simp [*, Az, Ba] <;> rfl), by repeat (first | (with_reducible first | exact HB.out | apply Ad | apply Ac | apply Ah | refine Af ?_ GE113.out) | exact HB.out)⟩

def Cp.f (a0_0 : Int) (a0_1 : Int) (l0_2 : List Bool) : Option (Int) := (Di.f a0_0 a0_1).bind fun t115 => (if t115 = true then (if (l0_2.length : Int) = (wrap64 (a0_0 * a0_1)) then (some 0) else (some 301)) else (some 300))
set_option maxHeartbeats 8000000 in
set_option maxRecDepth 100000 in
theorem Cp.calls (a0_0 : Int) (a0_1 : Int) (A0_2 : Option Addr) (c0_2 : Nat) (l0_2 : List Bool) (r : Int) (w : World) (hr0_2 : Kd.C Kd.bool w A0_2 l0_2.length l0_2) (hc0_2 : l0_2.length ≤ c0_2) (h : Cp.f a0_0 a0_1 l0_2 = some r) :
  Calls Try.prog 46 #[.agg #[.int .i64 a0_0, .int .i64 a0_1, .slice A0_2 l0_2.length c0_2]] w fun e w' => e = .returned (.int .i64 r) ∧ Below w.heap.size w w' := by
 have hu50 := Try.underlying50
 have HR0_2 := Aa.mk hr0_2
 have HC0_2 := Aa.mk hc0_2
 clear hr0_2 hc0_2
 have HB := Aa.mk (Below.refl w.heap.size w)
 have H : ((Di.f a0_0 a0_1).bind fun t115 => (if t115 = true then (if (l0_2.length : Int) = (wrap64 (a0_0 * a0_1)) then (some 0) else (some 301)) else (some 300))) = some r := h
 clear h
 replace H := Option.bind_eq_some_iff.mp H
 obtain ⟨t115, A20, H⟩ := H
 replace H : (if t115 = true then (if (l0_2.length : Int) = (wrap64 (a0_0 * a0_1)) then (some 0) else (some 301)) else (some 300)) = some r := H
 have A2 := Aa.mk A20
 clear A20
 by_cases c3 : t115 = true
 ·subst c3
  have H1 : (if (l0_2.length : Int) = (wrap64 (a0_0 * a0_1)) then (some 0) else (some 301)) = some r := by rw [if_pos rfl] at H; exact H
  clear H
  have H := H1
  clear H1
  by_cases c4 : (l0_2.length : Int) = (wrap64 (a0_0 * a0_1))
  ·rw [if_pos c4] at H
   have c4b0 : ((l0_2.length : Int) == (wrap64 (a0_0 * a0_1))) = true := beq_iff_eq.mpr c4
   have c4b1 : ((l0_2.length : Int) != (wrap64 (a0_0 * a0_1))) = false := bne_eq_false_iff_eq.mpr c4
   clear c4
   obtain rfl := Option.some.inj H
   go_enter Try.func46, Try.ntmps46
   go_wp2_with (first | ((with_reducible refine Bk (N := 1) rfl ?_); refine Bp ?hg (N := 1) ?hd (cs := #[.int .i64 a0_0, .int .i64 a0_1, .slice A0_2 l0_2.length c0_2]) (t := 50) ?hr ?_; (case hd => rfl); (case hg => rfl); (case hr => first | (go_simp; done) | (go_simp; rfl)); intro gb114 hg w5 hbox hb; have n0_ := Aa.mk (Ar (lU HB.out) hb); have n1_ := Aa.mk (hbox); have n2_ := Aa.mk ((by rw [hg]; exact (Ak (lU HB.out)) : w.heap.size ≤ gb114)); have n3_ := Aa.mk ((by rw [hg]; exact (Ak (lU HB.out)) : w.heap.size ≤ gb114)); clear HB; have HB := n0_; have BK114 := n1_; have GW114 := n2_; have GE114 := n3_; clear n0_ n1_ n2_ n3_; clear hb hbox hg; have hcz6_0 : w5.cell? ⟨gb114, 0, none⟩ = some (.int .i64 a0_0) := (Ae BK114.out 0).trans rfl; have hcz6_1 : w5.cell? ⟨gb114, 1, none⟩ = some (.int .i64 a0_1) := (Ae BK114.out 1).trans rfl; have hcz6_2 : w5.cell? ⟨gb114, 2, none⟩ = some (.slice A0_2 l0_2.length c0_2) := (Ae BK114.out 2).trans rfl; have hfz6_0 := Ag BK114.out 0; have hfz6_1 := Ag BK114.out 1; have hfz6_2 := Ag BK114.out 2) | ((with_reducible refine Bn (f := 89) rfl ?_); refine Ca (some 8) rfl rfl Try.func89 (by kernel_rfl) rfl #[.int .i64 a0_0, .int .i64 a0_1] rfl (by (try simp only [List.map_toArray, List.map_cons, List.map_nil]); first | done | rfl | (simp only [List.length_drop, List.length_take]; rfl)) ?_; (with_reducible refine (Di.calls a0_0 a0_1 true _ A2.out).mono ?_); rintro e w7 ⟨rfl, hb⟩; refine ⟨_, rfl, ?_⟩; have n0_ := Aa.mk (An (g := gb114) (o := .cells #[.int .i64 a0_0, .int .i64 a0_1, .slice A0_2 l0_2.length c0_2] 50 (0, 0)) (by exact bU <| BK114.out) hb); have n1_ := Aa.mk (Ar (by repeat (first | (with_reducible first | exact HB.out | apply Ad | apply Ac | apply Ah | refine Af ?_ GE114.out) | exact HB.out)) hb); clear BK114; clear HB; have BK114 := n0_; have HB := n1_; clear n0_ n1_; (try clear hb); (try clear hb2); (try clear hk); (try clear hi); have hcz8_0 : w7.cell? ⟨gb114, 0, none⟩ = some (.int .i64 a0_0) := (Ae BK114.out 0).trans rfl; have hcz8_1 : w7.cell? ⟨gb114, 1, none⟩ = some (.int .i64 a0_1) := (Ae BK114.out 1).trans rfl; have hcz8_2 : w7.cell? ⟨gb114, 2, none⟩ = some (.slice A0_2 l0_2.length c0_2) := (Ae BK114.out 2).trans rfl; have hfz8_0 := Ag BK114.out 0; have hfz8_1 := Ag BK114.out 1; have hfz8_2 := Ag BK114.out 2))
   go_ret
   exact ⟨by first | rfl | (simp [Az, Ba] <;> rfl) | (simp [*, Az, Ba] <;> rfl), by repeat (first | (with_reducible first | exact HB.out | apply Ad | apply Ac | apply Ah | refine Af ?_ GE114.out) | exact HB.out)⟩
  ·rw [if_neg c4] at H
   have c4b0 : ((l0_2.length : Int) == (wrap64 (a0_0 * a0_1))) = false := beq_eq_false_iff_ne.mpr c4
   have c4b1 : ((l0_2.length : Int) != (wrap64 (a0_0 * a0_1))) = true := bne_iff_ne.mpr c4
   obtain rfl := Option.some.inj H
   go_enter Try.func46, Try.ntmps46
   go_wp2_with (first | ((with_reducible refine Bk (N := 1) rfl ?_); refine Bp ?hg (N := 1) ?hd (cs := #[.int .i64 a0_0, .int .i64 a0_1, .slice A0_2 l0_2.length c0_2]) (t := 50) ?hr ?_; (case hd => rfl); (case hg => rfl); (case hr => first | (go_simp; done) | (go_simp; rfl)); intro gb114 hg w9 hbox hb; have n0_ := Aa.mk (Ar (lU HB.out) hb); have n1_ := Aa.mk (hbox); have n2_ := Aa.mk ((by rw [hg]; exact (Ak (lU HB.out)) : w.heap.size ≤ gb114)); have n3_ := Aa.mk ((by rw [hg]; exact (Ak (lU HB.out)) : w.heap.size ≤ gb114)); clear HB; have HB := n0_; have BK114 := n1_; have GW114 := n2_; have GE114 := n3_; clear n0_ n1_ n2_ n3_; clear hb hbox hg; have hcz10_0 : w9.cell? ⟨gb114, 0, none⟩ = some (.int .i64 a0_0) := (Ae BK114.out 0).trans rfl; have hcz10_1 : w9.cell? ⟨gb114, 1, none⟩ = some (.int .i64 a0_1) := (Ae BK114.out 1).trans rfl; have hcz10_2 : w9.cell? ⟨gb114, 2, none⟩ = some (.slice A0_2 l0_2.length c0_2) := (Ae BK114.out 2).trans rfl; have hfz10_0 := Ag BK114.out 0; have hfz10_1 := Ag BK114.out 1; have hfz10_2 := Ag BK114.out 2) | ((with_reducible refine Bn (f := 89) rfl ?_); refine Ca (some 8) rfl rfl Try.func89 (by kernel_rfl) rfl #[.int .i64 a0_0, .int .i64 a0_1] rfl (by (try simp only [List.map_toArray, List.map_cons, List.map_nil]); first | done | rfl | (simp only [List.length_drop, List.length_take]; rfl)) ?_; (with_reducible refine (Di.calls a0_0 a0_1 true _ A2.out).mono ?_); rintro e w11 ⟨rfl, hb⟩; refine ⟨_, rfl, ?_⟩; have n0_ := Aa.mk (An (g := gb114) (o := .cells #[.int .i64 a0_0, .int .i64 a0_1, .slice A0_2 l0_2.length c0_2] 50 (0, 0)) (by exact bU <| BK114.out) hb); have n1_ := Aa.mk (Ar (by repeat (first | (with_reducible first | exact HB.out | apply Ad | apply Ac | apply Ah | refine Af ?_ GE114.out) | exact HB.out)) hb); clear BK114; clear HB; have BK114 := n0_; have HB := n1_; clear n0_ n1_; (try clear hb); (try clear hb2); (try clear hk); (try clear hi); have hcz12_0 : w11.cell? ⟨gb114, 0, none⟩ = some (.int .i64 a0_0) := (Ae BK114.out 0).trans rfl; have hcz12_1 : w11.cell? ⟨gb114, 1, none⟩ = some (.int .i64 a0_1) := (Ae BK114.out 1).trans rfl; have hcz12_2 : w11.cell? ⟨gb114, 2, none⟩ = some (.slice A0_2 l0_2.length c0_2) := (Ae BK114.out 2).trans rfl; have hfz12_0 := Ag BK114.out 0; have hfz12_1 := Ag BK114.out 1; have hfz12_2 := Ag BK114.out 2))
   go_ret
   exact ⟨by first | rfl | (simp [Az, Ba] <;> rfl) | (simp [*, Az, Ba] <;> rfl), by repeat (first | (with_reducible first | exact HB.out | apply Ad | apply Ac | apply Ah | refine Af ?_ GE114.out) | exact HB.out)⟩
 ·replace c3 := Bool.eq_false_iff.mpr c3
  subst c3
  have H1 : (some 300) = some r := by rw [if_neg (show ¬ (false = true) by decide)] at H; exact H
  clear H
  have H := H1
  clear H1
  obtain rfl := Option.some.inj H
  go_enter Try.func46, Try.ntmps46
  go_wp2_with (first | ((with_reducible refine Bk (N := 1) rfl ?_); refine Bp ?hg (N := 1) ?hd (cs := #[.int .i64 a0_0, .int .i64 a0_1, .slice A0_2 l0_2.length c0_2]) (t := 50) ?hr ?_; (case hd => rfl); (case hg => rfl); (case hr => first | (go_simp; done) | (go_simp; rfl)); intro gb114 hg w13 hbox hb; have n0_ := Aa.mk (Ar (lU HB.out) hb); have n1_ := Aa.mk (hbox); have n2_ := Aa.mk ((by rw [hg]; exact (Ak (lU HB.out)) : w.heap.size ≤ gb114)); have n3_ := Aa.mk ((by rw [hg]; exact (Ak (lU HB.out)) : w.heap.size ≤ gb114)); clear HB; have HB := n0_; have BK114 := n1_; have GW114 := n2_; have GE114 := n3_; clear n0_ n1_ n2_ n3_; clear hb hbox hg; have hcz14_0 : w13.cell? ⟨gb114, 0, none⟩ = some (.int .i64 a0_0) := (Ae BK114.out 0).trans rfl; have hcz14_1 : w13.cell? ⟨gb114, 1, none⟩ = some (.int .i64 a0_1) := (Ae BK114.out 1).trans rfl; have hcz14_2 : w13.cell? ⟨gb114, 2, none⟩ = some (.slice A0_2 l0_2.length c0_2) := (Ae BK114.out 2).trans rfl; have hfz14_0 := Ag BK114.out 0; have hfz14_1 := Ag BK114.out 1; have hfz14_2 := Ag BK114.out 2) | ((with_reducible refine Bn (f := 89) rfl ?_); refine Ca (some 8) rfl rfl Try.func89 (by kernel_rfl) rfl #[.int .i64 a0_0, .int .i64 a0_1] rfl (by (try simp only [List.map_toArray, List.map_cons, List.map_nil]); first | done | rfl | (simp only [List.length_drop, List.length_take]; rfl)) ?_; (with_reducible refine (Di.calls a0_0 a0_1 false _ A2.out).mono ?_); rintro e w15 ⟨rfl, hb⟩; refine ⟨_, rfl, ?_⟩; have n0_ := Aa.mk (An (g := gb114) (o := .cells #[.int .i64 a0_0, .int .i64 a0_1, .slice A0_2 l0_2.length c0_2] 50 (0, 0)) (by exact bU <| BK114.out) hb); have n1_ := Aa.mk (Ar (by repeat (first | (with_reducible first | exact HB.out | apply Ad | apply Ac | apply Ah | refine Af ?_ GE114.out) | exact HB.out)) hb); clear BK114; clear HB; have BK114 := n0_; have HB := n1_; clear n0_ n1_; (try clear hb); (try clear hb2); (try clear hk); (try clear hi)))
  go_ret
  exact ⟨by first | rfl | (simp [Az, Ba] <;> rfl) | (simp [*, Az, Ba] <;> rfl), by repeat (first | (with_reducible first | exact HB.out | apply Ad | apply Ac | apply Ah | refine Af ?_ GE114.out) | exact HB.out)⟩

def Da.f (a0_0 : Int) (a0_1 : Int) (l0_2 : List Bool) (a1 : Int) : Option (Int × Int × Int × Int) := (Cp.f a0_0 a0_1 l0_2).bind fun t118 => (if t118 = 0 then (if a1 = 4 then (some (a0_0, a0_1, a1, 0)) else (if a1 = 8 then (some (a0_0, a0_1, a1, 0)) else (some (0, 0, 0, 302)))) else (some (0, 0, 0, t118)))
set_option maxHeartbeats 8000000 in
set_option maxRecDepth 100000 in
theorem Da.calls (a0_0 : Int) (a0_1 : Int) (A0_2 : Option Addr) (c0_2 : Nat) (l0_2 : List Bool) (a1 : Int) (r1 : Int) (r2 : Int) (r3 : Int) (r4 : Int) (w : World) (hr0_2 : Kd.C Kd.bool w A0_2 l0_2.length l0_2) (hc0_2 : l0_2.length ≤ c0_2) (h : Da.f a0_0 a0_1 l0_2 a1 = some (r1, r2, r3, r4)) :
  Calls Try.prog 71 #[.agg #[.int .i64 a0_0, .int .i64 a0_1, .slice A0_2 l0_2.length c0_2], .int .i64 a1] w fun e w' => e = .returned (.tuple #[.agg #[.int .i64 r1, .int .i64 r2, .int .i64 r3], .int .i64 r4]) ∧ Below w.heap.size w w' := by
 have hu50 := Try.underlying50
 have hu108 := Try.underlying108
 have HR0_2 := Aa.mk hr0_2
 have HC0_2 := Aa.mk hc0_2
 clear hr0_2 hc0_2
 have HB := Aa.mk (Below.refl w.heap.size w)
 have H : ((Cp.f a0_0 a0_1 l0_2).bind fun t118 => (if t118 = 0 then (if a1 = 4 then (some (a0_0, a0_1, a1, 0)) else (if a1 = 8 then (some (a0_0, a0_1, a1, 0)) else (some (0, 0, 0, 302)))) else (some (0, 0, 0, t118)))) = some (r1, r2, r3, r4) := h
 clear h
 replace H := Option.bind_eq_some_iff.mp H
 obtain ⟨t118, A30, H⟩ := H
 replace H : (if t118 = 0 then (if a1 = 4 then (some (a0_0, a0_1, a1, 0)) else (if a1 = 8 then (some (a0_0, a0_1, a1, 0)) else (some (0, 0, 0, 302)))) else (some (0, 0, 0, t118))) = some (r1, r2, r3, r4) := H
 have A3 := Aa.mk A30
 clear A30
 by_cases c4 : t118 = 0
 ·rw [if_pos c4] at H
  have c4b0 : (t118 == 0) = true := beq_iff_eq.mpr c4
  have c4b1 : (t118 != 0) = false := bne_eq_false_iff_eq.mpr c4
  clear c4
  by_cases c5 : a1 = 4
  ·rw [if_pos c5] at H
   have c5b0 : (a1 == 4) = true := beq_iff_eq.mpr c5
   have c5b1 : (a1 != 4) = false := bne_eq_false_iff_eq.mpr c5
   clear c5
   simp only [Option.some.injEq, Prod.mk.injEq] at H
   obtain ⟨rfl, rfl, rfl, rfl⟩ := H
   go_enter Try.func71, Try.ntmps71
   go_wp2_with (first | ((with_reducible refine Bk (N := 2) rfl ?_); refine Bp ?hg (N := 2) ?hd (cs := #[.int .i64 a0_0, .int .i64 a0_1, .slice A0_2 l0_2.length c0_2]) (t := 50) ?hr ?_; (case hd => rfl); (case hg => rfl); (case hr => first | (go_simp; done) | (go_simp; rfl)); intro gb116 hg w6 hbox hb; have n0_ := Aa.mk (Ar (lU HB.out) hb); have n1_ := Aa.mk (hbox); have n2_ := Aa.mk ((by rw [hg]; exact (Ak (lU HB.out)) : w.heap.size ≤ gb116)); have n3_ := Aa.mk ((by rw [hg]; exact (Ak (lU HB.out)) : w.heap.size ≤ gb116)); clear HB; have HB := n0_; have BK116 := n1_; have GW116 := n2_; have GE116 := n3_; clear n0_ n1_ n2_ n3_; clear hb hbox hg) | ((with_reducible refine Bk (N := 4) rfl ?_); refine Bp ?hg (N := 4) ?hd (cs := #[.int .i64 0, .int .i64 0, .int .i64 0]) (t := 108) ?hr ?_; (case hd => rfl); (case hg => rfl); (case hr => first | (go_simp; done) | (go_simp; rfl)); intro gb117 hg w7 hbox hb; have n0_ := Aa.mk (An (g := gb116) (o := .cells #[.int .i64 a0_0, .int .i64 a0_1, .slice A0_2 l0_2.length c0_2] 50 (0, 0)) (by exact bU <| BK116.out) hb); have n1_ := Aa.mk (Ar (by repeat (first | (with_reducible first | exact HB.out | apply Ad | apply Ac | apply Ah | refine Af ?_ GE116.out) | exact HB.out)) hb); have n2_ := Aa.mk (hbox); have n3_ := Aa.mk ((by rw [hg]; exact (Ak (by repeat (first | (with_reducible first | exact HB.out | apply Ad | apply Ac | apply Ah | refine Af ?_ GE116.out) | exact HB.out))) : w.heap.size ≤ gb117)); have n4_ := Aa.mk ((by rw [hg]; exact (Ak (by repeat (first | (with_reducible first | exact HB.out | apply Ad | apply Ac | apply Ah | refine Af ?_ GE116.out) | exact HB.out))) : w.heap.size ≤ gb117)); have n5_ := Aa.mk ((by rw [hg]; exact Nat.ne_of_lt (Br (g := gb116) (o := .cells #[.int .i64 a0_0, .int .i64 a0_1, .slice A0_2 l0_2.length c0_2] 50 (0, 0)) (by exact bU <| BK116.out)) : gb116 ≠ gb117)); have n6_ := Aa.mk ((by rw [hg]; exact Nat.ne_of_gt (Br (g := gb116) (o := .cells #[.int .i64 a0_0, .int .i64 a0_1, .slice A0_2 l0_2.length c0_2] 50 (0, 0)) (by exact bU <| BK116.out)) : gb117 ≠ gb116)); clear BK116; clear HB; have BK116 := n0_; have HB := n1_; have BK117 := n2_; have GW117 := n3_; have GE117 := n4_; have NB116_117 := n5_; have NB117_116 := n6_; clear n0_ n1_ n2_ n3_ n4_ n5_ n6_; clear hb hbox hg; have hnb8 := NB116_117.out; have hnc8 := NB117_116.out; have hcz9_0 : w7.cell? ⟨gb116, 0, none⟩ = some (.int .i64 a0_0) := (Ae BK116.out 0).trans rfl; have hcz9_1 : w7.cell? ⟨gb116, 1, none⟩ = some (.int .i64 a0_1) := (Ae BK116.out 1).trans rfl; have hcz9_2 : w7.cell? ⟨gb116, 2, none⟩ = some (.slice A0_2 l0_2.length c0_2) := (Ae BK116.out 2).trans rfl; have hfz9_0 := Ag BK116.out 0; have hfz9_1 := Ag BK116.out 1; have hfz9_2 := Ag BK116.out 2) | ((with_reducible refine Bn (f := 46) rfl ?_); refine Ca (some 8) rfl rfl Try.func46 (by kernel_rfl) rfl #[.agg #[.int .i64 a0_0, .int .i64 a0_1, .slice A0_2 l0_2.length c0_2]] rfl (by (try simp only [List.map_toArray, List.map_cons, List.map_nil]); first | done | rfl | (simp only [List.length_drop, List.length_take]; rfl)) ?_; (with_reducible refine (Cp.calls a0_0 a0_1 _ _ l0_2 t118 _ ?side1 ?side2 A3.out).mono ?_); (case side1 => repeat (first | exact (Kd.Ce HR0_2.out HB.out) | (with_reducible refine Kd.Bt ?_ _) | (with_reducible refine Kd.B3 ?_ _) | (with_reducible refine Kd.B8 ?_))); (case side2 => exact HC0_2.out); rintro e w10 ⟨rfl, hb⟩; refine ⟨_, rfl, ?_⟩; have n0_ := Aa.mk (An (g := gb116) (o := .cells #[.int .i64 a0_0, .int .i64 a0_1, .slice A0_2 l0_2.length c0_2] 50 (0, 0)) (by exact bU <| BK116.out) hb); have n1_ := Aa.mk (An (g := gb117) (o := .cells #[.int .i64 0, .int .i64 0, .int .i64 0] 108 (0, 0)) (by exact bU <| BK117.out) hb); have n2_ := Aa.mk (Ar (by repeat (first | (with_reducible first | exact HB.out | apply Ad | apply Ac | apply Ah | refine Af ?_ GE116.out | refine Af ?_ GE117.out) | exact HB.out)) hb); clear BK116; clear BK117; clear HB; have BK116 := n0_; have BK117 := n1_; have HB := n2_; clear n0_ n1_ n2_; (try clear hb); (try clear hb2); (try clear hk); (try clear hi); have hcz11_0 : w10.cell? ⟨gb116, 0, none⟩ = some (.int .i64 a0_0) := (Ae BK116.out 0).trans rfl; have hcz11_1 : w10.cell? ⟨gb116, 1, none⟩ = some (.int .i64 a0_1) := (Ae BK116.out 1).trans rfl; have hcz11_2 : w10.cell? ⟨gb116, 2, none⟩ = some (.slice A0_2 l0_2.length c0_2) := (Ae BK116.out 2).trans rfl; have hfz11_0 := Ag BK116.out 0; have hfz11_1 := Ag BK116.out 1; have hfz11_2 := Ag BK116.out 2; have hcz12_0 : w10.cell? ⟨gb117, 0, none⟩ = some (.int .i64 0) := (Ae BK117.out 0).trans rfl; have hcz12_1 : w10.cell? ⟨gb117, 1, none⟩ = some (.int .i64 0) := (Ae BK117.out 1).trans rfl; have hcz12_2 : w10.cell? ⟨gb117, 2, none⟩ = some (.int .i64 0) := (Ae BK117.out 2).trans rfl; have hfz12_0 := Ag BK117.out 0; have hfz12_1 := Ag BK117.out 1; have hfz12_2 := Ag BK117.out 2))
   refine bodyPost_ret (results_ct rfl _ _ gb117 108 #[.int .i64 a0_0, .int .i64 a0_1, .int .i64 a1] (0, 0) _ rfl (by (with_reducible repeat (first | refine As ?_ _ | refine At ?_ | refine Aj ?_ _)); refine Bd (cs := #[.int .i64 a0_0, .int .i64 a0_1, .int .i64 0]) ?_ 2 _ rfl; (with_reducible repeat (first | refine As ?_ _ | refine At ?_ | refine Aj ?_ _)); refine Bd (cs := #[.int .i64 a0_0, .int .i64 0, .int .i64 0]) ?_ 1 _ rfl; (with_reducible repeat (first | refine As ?_ _ | refine At ?_ | refine Aj ?_ _)); refine Bd (cs := #[.int .i64 0, .int .i64 0, .int .i64 0]) ?_ 0 _ rfl; exact bU <| BK117.out) Try.underlying108 rfl (by kernel_rfl)) rfl ?_
   exact ⟨by first | rfl | (simp [Az, Ba] <;> rfl) | (simp [*, Az, Ba] <;> rfl), by repeat (first | (with_reducible first | exact HB.out | apply Ad | apply Ac | apply Ah | refine Af ?_ GE116.out | refine Af ?_ GE117.out) | exact HB.out)⟩
  ·rw [if_neg c5] at H
   have c5b0 : (a1 == 4) = false := beq_eq_false_iff_ne.mpr c5
   have c5b1 : (a1 != 4) = true := bne_iff_ne.mpr c5
   by_cases c13 : a1 = 8
   ·rw [if_pos c13] at H
    have c13b0 : (a1 == 8) = true := beq_iff_eq.mpr c13
    have c13b1 : (a1 != 8) = false := bne_eq_false_iff_eq.mpr c13
    clear c13
    simp only [Option.some.injEq, Prod.mk.injEq] at H
    obtain ⟨rfl, rfl, rfl, rfl⟩ := H
    go_enter Try.func71, Try.ntmps71
    go_wp2_with (first | ((with_reducible refine Bk (N := 2) rfl ?_); refine Bp ?hg (N := 2) ?hd (cs := #[.int .i64 a0_0, .int .i64 a0_1, .slice A0_2 l0_2.length c0_2]) (t := 50) ?hr ?_; (case hd => rfl); (case hg => rfl); (case hr => first | (go_simp; done) | (go_simp; rfl)); intro gb116 hg w14 hbox hb; have n0_ := Aa.mk (Ar (lU HB.out) hb); have n1_ := Aa.mk (hbox); have n2_ := Aa.mk ((by rw [hg]; exact (Ak (lU HB.out)) : w.heap.size ≤ gb116)); have n3_ := Aa.mk ((by rw [hg]; exact (Ak (lU HB.out)) : w.heap.size ≤ gb116)); clear HB; have HB := n0_; have BK116 := n1_; have GW116 := n2_; have GE116 := n3_; clear n0_ n1_ n2_ n3_; clear hb hbox hg) | ((with_reducible refine Bk (N := 4) rfl ?_); refine Bp ?hg (N := 4) ?hd (cs := #[.int .i64 0, .int .i64 0, .int .i64 0]) (t := 108) ?hr ?_; (case hd => rfl); (case hg => rfl); (case hr => first | (go_simp; done) | (go_simp; rfl)); intro gb117 hg w15 hbox hb; have n0_ := Aa.mk (An (g := gb116) (o := .cells #[.int .i64 a0_0, .int .i64 a0_1, .slice A0_2 l0_2.length c0_2] 50 (0, 0)) (by exact bU <| BK116.out) hb); have n1_ := Aa.mk (Ar (by repeat (first | (with_reducible first | exact HB.out | apply Ad | apply Ac | apply Ah | refine Af ?_ GE116.out) | exact HB.out)) hb); have n2_ := Aa.mk (hbox); have n3_ := Aa.mk ((by rw [hg]; exact (Ak (by repeat (first | (with_reducible first | exact HB.out | apply Ad | apply Ac | apply Ah | refine Af ?_ GE116.out) | exact HB.out))) : w.heap.size ≤ gb117)); have n4_ := Aa.mk ((by rw [hg]; exact (Ak (by repeat (first | (with_reducible first | exact HB.out | apply Ad | apply Ac | apply Ah | refine Af ?_ GE116.out) | exact HB.out))) : w.heap.size ≤ gb117)); have n5_ := Aa.mk ((by rw [hg]; exact Nat.ne_of_lt (Br (g := gb116) (o := .cells #[.int .i64 a0_0, .int .i64 a0_1, .slice A0_2 l0_2.length c0_2] 50 (0, 0)) (by exact bU <| BK116.out)) : gb116 ≠ gb117)); have n6_ := Aa.mk ((by rw [hg]; exact Nat.ne_of_gt (Br (g := gb116) (o := .cells #[.int .i64 a0_0, .int .i64 a0_1, .slice A0_2 l0_2.length c0_2] 50 (0, 0)) (by exact bU <| BK116.out)) : gb117 ≠ gb116)); clear BK116; clear HB; have BK116 := n0_; have HB := n1_; have BK117 := n2_; have GW117 := n3_; have GE117 := n4_; have NB116_117 := n5_; have NB117_116 := n6_; clear n0_ n1_ n2_ n3_ n4_ n5_ n6_; clear hb hbox hg; have hnb16 := NB116_117.out; have hnc16 := NB117_116.out; have hcz17_0 : w15.cell? ⟨gb116, 0, none⟩ = some (.int .i64 a0_0) := (Ae BK116.out 0).trans rfl; have hcz17_1 : w15.cell? ⟨gb116, 1, none⟩ = some (.int .i64 a0_1) := (Ae BK116.out 1).trans rfl; have hcz17_2 : w15.cell? ⟨gb116, 2, none⟩ = some (.slice A0_2 l0_2.length c0_2) := (Ae BK116.out 2).trans rfl; have hfz17_0 := Ag BK116.out 0; have hfz17_1 := Ag BK116.out 1; have hfz17_2 := Ag BK116.out 2) | ((with_reducible refine Bn (f := 46) rfl ?_); refine Ca (some 8) rfl rfl Try.func46 (by kernel_rfl) rfl #[.agg #[.int .i64 a0_0, .int .i64 a0_1, .slice A0_2 l0_2.length c0_2]] rfl (by (try simp only [List.map_toArray, List.map_cons, List.map_nil]); first | done | rfl | (simp only [List.length_drop, List.length_take]; rfl)) ?_; (with_reducible refine (Cp.calls a0_0 a0_1 _ _ l0_2 t118 _ ?side1 ?side2 A3.out).mono ?_); (case side1 => repeat (first | exact (Kd.Ce HR0_2.out HB.out) | (with_reducible refine Kd.Bt ?_ _) | (with_reducible refine Kd.B3 ?_ _) | (with_reducible refine Kd.B8 ?_))); (case side2 => exact HC0_2.out); rintro e w18 ⟨rfl, hb⟩; refine ⟨_, rfl, ?_⟩; have n0_ := Aa.mk (An (g := gb116) (o := .cells #[.int .i64 a0_0, .int .i64 a0_1, .slice A0_2 l0_2.length c0_2] 50 (0, 0)) (by exact bU <| BK116.out) hb); have n1_ := Aa.mk (An (g := gb117) (o := .cells #[.int .i64 0, .int .i64 0, .int .i64 0] 108 (0, 0)) (by exact bU <| BK117.out) hb); have n2_ := Aa.mk (Ar (by repeat (first | (with_reducible first | exact HB.out | apply Ad | apply Ac | apply Ah | refine Af ?_ GE116.out | refine Af ?_ GE117.out) | exact HB.out)) hb); clear BK116; clear BK117; clear HB; have BK116 := n0_; have BK117 := n1_; have HB := n2_; clear n0_ n1_ n2_; (try clear hb); (try clear hb2); (try clear hk); (try clear hi); have hcz19_0 : w18.cell? ⟨gb116, 0, none⟩ = some (.int .i64 a0_0) := (Ae BK116.out 0).trans rfl; have hcz19_1 : w18.cell? ⟨gb116, 1, none⟩ = some (.int .i64 a0_1) := (Ae BK116.out 1).trans rfl; have hcz19_2 : w18.cell? ⟨gb116, 2, none⟩ = some (.slice A0_2 l0_2.length c0_2) := (Ae BK116.out 2).trans rfl; have hfz19_0 := Ag BK116.out 0; have hfz19_1 := Ag BK116.out 1; have hfz19_2 := Ag BK116.out 2; have hcz20_0 : w18.cell? ⟨gb117, 0, none⟩ = some (.int .i64 0) := (Ae BK117.out 0).trans rfl; have hcz20_1 : w18.cell? ⟨gb117, 1, none⟩ = some (.int .i64 0) := (Ae BK117.out 1).trans rfl; have hcz20_2 : w18.cell? ⟨gb117, 2, none⟩ = some (.int .i64 0) := (Ae BK117.out 2).trans rfl; have hfz20_0 := Ag BK117.out 0; have hfz20_1 := Ag BK117.out 1; have hfz20_2 := Ag BK117.out 2))
    refine bodyPost_ret (results_ct rfl _ _ gb117 108 #[.int .i64 a0_0, .int .i64 a0_1, .int .i64 a1] (0, 0) _ rfl (by (with_reducible repeat (first | refine As ?_ _ | refine At ?_ | refine Aj ?_ _)); refine Bd (cs := #[.int .i64 a0_0, .int .i64 a0_1, .int .i64 0]) ?_ 2 _ rfl; (with_reducible repeat (first | refine As ?_ _ | refine At ?_ | refine Aj ?_ _)); refine Bd (cs := #[.int .i64 a0_0, .int .i64 0, .int .i64 0]) ?_ 1 _ rfl; (with_reducible repeat (first | refine As ?_ _ | refine At ?_ | refine Aj ?_ _)); refine Bd (cs := #[.int .i64 0, .int .i64 0, .int .i64 0]) ?_ 0 _ rfl; exact bU <| BK117.out) Try.underlying108 rfl (by kernel_rfl)) rfl ?_
    exact ⟨by first | rfl | (simp [Az, Ba] <;> rfl) | (simp [*, Az, Ba] <;> rfl), by repeat (first | (with_reducible first | exact HB.out | apply Ad | apply Ac | apply Ah | refine Af ?_ GE116.out | refine Af ?_ GE117.out) | exact HB.out)⟩
   ·rw [if_neg c13] at H
    have c13b0 : (a1 == 8) = false := beq_eq_false_iff_ne.mpr c13
    have c13b1 : (a1 != 8) = true := bne_iff_ne.mpr c13
    simp only [Option.some.injEq, Prod.mk.injEq] at H
    obtain ⟨rfl, rfl, rfl, rfl⟩ := H
    go_enter Try.func71, Try.ntmps71
    go_wp2_with (first | ((with_reducible refine Bk (N := 2) rfl ?_); refine Bp ?hg (N := 2) ?hd (cs := #[.int .i64 a0_0, .int .i64 a0_1, .slice A0_2 l0_2.length c0_2]) (t := 50) ?hr ?_; (case hd => rfl); (case hg => rfl); (case hr => first | (go_simp; done) | (go_simp; rfl)); intro gb116 hg w21 hbox hb; have n0_ := Aa.mk (Ar (lU HB.out) hb); have n1_ := Aa.mk (hbox); have n2_ := Aa.mk ((by rw [hg]; exact (Ak (lU HB.out)) : w.heap.size ≤ gb116)); have n3_ := Aa.mk ((by rw [hg]; exact (Ak (lU HB.out)) : w.heap.size ≤ gb116)); clear HB; have HB := n0_; have BK116 := n1_; have GW116 := n2_; have GE116 := n3_; clear n0_ n1_ n2_ n3_; clear hb hbox hg) | ((with_reducible refine Bk (N := 4) rfl ?_); refine Bp ?hg (N := 4) ?hd (cs := #[.int .i64 0, .int .i64 0, .int .i64 0]) (t := 108) ?hr ?_; (case hd => rfl); (case hg => rfl); (case hr => first | (go_simp; done) | (go_simp; rfl)); intro gb117 hg w22 hbox hb; have n0_ := Aa.mk (An (g := gb116) (o := .cells #[.int .i64 a0_0, .int .i64 a0_1, .slice A0_2 l0_2.length c0_2] 50 (0, 0)) (by exact bU <| BK116.out) hb); have n1_ := Aa.mk (Ar (by repeat (first | (with_reducible first | exact HB.out | apply Ad | apply Ac | apply Ah | refine Af ?_ GE116.out) | exact HB.out)) hb); have n2_ := Aa.mk (hbox); have n3_ := Aa.mk ((by rw [hg]; exact (Ak (by repeat (first | (with_reducible first | exact HB.out | apply Ad | apply Ac | apply Ah | refine Af ?_ GE116.out) | exact HB.out))) : w.heap.size ≤ gb117)); have n4_ := Aa.mk ((by rw [hg]; exact (Ak (by repeat (first | (with_reducible first | exact HB.out | apply Ad | apply Ac | apply Ah | refine Af ?_ GE116.out) | exact HB.out))) : w.heap.size ≤ gb117)); have n5_ := Aa.mk ((by rw [hg]; exact Nat.ne_of_lt (Br (g := gb116) (o := .cells #[.int .i64 a0_0, .int .i64 a0_1, .slice A0_2 l0_2.length c0_2] 50 (0, 0)) (by exact bU <| BK116.out)) : gb116 ≠ gb117)); have n6_ := Aa.mk ((by rw [hg]; exact Nat.ne_of_gt (Br (g := gb116) (o := .cells #[.int .i64 a0_0, .int .i64 a0_1, .slice A0_2 l0_2.length c0_2] 50 (0, 0)) (by exact bU <| BK116.out)) : gb117 ≠ gb116)); clear BK116; clear HB; have BK116 := n0_; have HB := n1_; have BK117 := n2_; have GW117 := n3_; have GE117 := n4_; have NB116_117 := n5_; have NB117_116 := n6_; clear n0_ n1_ n2_ n3_ n4_ n5_ n6_; clear hb hbox hg; have hnb23 := NB116_117.out; have hnc23 := NB117_116.out; have hcz24_0 : w22.cell? ⟨gb116, 0, none⟩ = some (.int .i64 a0_0) := (Ae BK116.out 0).trans rfl; have hcz24_1 : w22.cell? ⟨gb116, 1, none⟩ = some (.int .i64 a0_1) := (Ae BK116.out 1).trans rfl; have hcz24_2 : w22.cell? ⟨gb116, 2, none⟩ = some (.slice A0_2 l0_2.length c0_2) := (Ae BK116.out 2).trans rfl; have hfz24_0 := Ag BK116.out 0; have hfz24_1 := Ag BK116.out 1; have hfz24_2 := Ag BK116.out 2) | ((with_reducible refine Bn (f := 46) rfl ?_); refine Ca (some 8) rfl rfl Try.func46 (by kernel_rfl) rfl #[.agg #[.int .i64 a0_0, .int .i64 a0_1, .slice A0_2 l0_2.length c0_2]] rfl (by (try simp only [List.map_toArray, List.map_cons, List.map_nil]); first | done | rfl | (simp only [List.length_drop, List.length_take]; rfl)) ?_; (with_reducible refine (Cp.calls a0_0 a0_1 _ _ l0_2 t118 _ ?side1 ?side2 A3.out).mono ?_); (case side1 => repeat (first | exact (Kd.Ce HR0_2.out HB.out) | (with_reducible refine Kd.Bt ?_ _) | (with_reducible refine Kd.B3 ?_ _) | (with_reducible refine Kd.B8 ?_))); (case side2 => exact HC0_2.out); rintro e w25 ⟨rfl, hb⟩; refine ⟨_, rfl, ?_⟩; have n0_ := Aa.mk (An (g := gb116) (o := .cells #[.int .i64 a0_0, .int .i64 a0_1, .slice A0_2 l0_2.length c0_2] 50 (0, 0)) (by exact bU <| BK116.out) hb); have n1_ := Aa.mk (An (g := gb117) (o := .cells #[.int .i64 0, .int .i64 0, .int .i64 0] 108 (0, 0)) (by exact bU <| BK117.out) hb); have n2_ := Aa.mk (Ar (by repeat (first | (with_reducible first | exact HB.out | apply Ad | apply Ac | apply Ah | refine Af ?_ GE116.out | refine Af ?_ GE117.out) | exact HB.out)) hb); clear BK116; clear BK117; clear HB; have BK116 := n0_; have BK117 := n1_; have HB := n2_; clear n0_ n1_ n2_; (try clear hb); (try clear hb2); (try clear hk); (try clear hi); have hcz26_0 : w25.cell? ⟨gb117, 0, none⟩ = some (.int .i64 0) := (Ae BK117.out 0).trans rfl; have hcz26_1 : w25.cell? ⟨gb117, 1, none⟩ = some (.int .i64 0) := (Ae BK117.out 1).trans rfl; have hcz26_2 : w25.cell? ⟨gb117, 2, none⟩ = some (.int .i64 0) := (Ae BK117.out 2).trans rfl; have hfz26_0 := Ag BK117.out 0; have hfz26_1 := Ag BK117.out 1; have hfz26_2 := Ag BK117.out 2))
    refine bodyPost_ret (results_ct rfl _ _ gb117 108 #[.int .i64 0, .int .i64 0, .int .i64 0] (0, 0) _ rfl (by (with_reducible repeat (first | refine As ?_ _ | refine At ?_ | refine Aj ?_ _)); refine Bd (cs := #[.int .i64 0, .int .i64 0, .int .i64 0]) ?_ 2 _ rfl; (with_reducible repeat (first | refine As ?_ _ | refine At ?_ | refine Aj ?_ _)); refine Bd (cs := #[.int .i64 0, .int .i64 0, .int .i64 0]) ?_ 1 _ rfl; (with_reducible repeat (first | refine As ?_ _ | refine At ?_ | refine Aj ?_ _)); refine Bd (cs := #[.int .i64 0, .int .i64 0, .int .i64 0]) ?_ 0 _ rfl; exact bU <| BK117.out) Try.underlying108 rfl (by kernel_rfl)) rfl ?_
    exact ⟨by first | rfl | (simp [Az, Ba] <;> rfl) | (simp [*, Az, Ba] <;> rfl), by repeat (first | (with_reducible first | exact HB.out | apply Ad | apply Ac | apply Ah | refine Af ?_ GE116.out | refine Af ?_ GE117.out) | exact HB.out)⟩
 ·rw [if_neg c4] at H
  have c4b0 : (t118 == 0) = false := beq_eq_false_iff_ne.mpr c4
  have c4b1 : (t118 != 0) = true := bne_iff_ne.mpr c4
  simp only [Option.some.injEq, Prod.mk.injEq] at H
  obtain ⟨rfl, rfl, rfl, rfl⟩ := H
  go_enter Try.func71, Try.ntmps71
  go_wp2_with (first | ((with_reducible refine Bk (N := 2) rfl ?_); refine Bp ?hg (N := 2) ?hd (cs := #[.int .i64 a0_0, .int .i64 a0_1, .slice A0_2 l0_2.length c0_2]) (t := 50) ?hr ?_; (case hd => rfl); (case hg => rfl); (case hr => first | (go_simp; done) | (go_simp; rfl)); intro gb116 hg w27 hbox hb; have n0_ := Aa.mk (Ar (lU HB.out) hb); have n1_ := Aa.mk (hbox); have n2_ := Aa.mk ((by rw [hg]; exact (Ak (lU HB.out)) : w.heap.size ≤ gb116)); have n3_ := Aa.mk ((by rw [hg]; exact (Ak (lU HB.out)) : w.heap.size ≤ gb116)); clear HB; have HB := n0_; have BK116 := n1_; have GW116 := n2_; have GE116 := n3_; clear n0_ n1_ n2_ n3_; clear hb hbox hg) | ((with_reducible refine Bk (N := 4) rfl ?_); refine Bp ?hg (N := 4) ?hd (cs := #[.int .i64 0, .int .i64 0, .int .i64 0]) (t := 108) ?hr ?_; (case hd => rfl); (case hg => rfl); (case hr => first | (go_simp; done) | (go_simp; rfl)); intro gb117 hg w28 hbox hb; have n0_ := Aa.mk (An (g := gb116) (o := .cells #[.int .i64 a0_0, .int .i64 a0_1, .slice A0_2 l0_2.length c0_2] 50 (0, 0)) (by exact bU <| BK116.out) hb); have n1_ := Aa.mk (Ar (by repeat (first | (with_reducible first | exact HB.out | apply Ad | apply Ac | apply Ah | refine Af ?_ GE116.out) | exact HB.out)) hb); have n2_ := Aa.mk (hbox); have n3_ := Aa.mk ((by rw [hg]; exact (Ak (by repeat (first | (with_reducible first | exact HB.out | apply Ad | apply Ac | apply Ah | refine Af ?_ GE116.out) | exact HB.out))) : w.heap.size ≤ gb117)); have n4_ := Aa.mk ((by rw [hg]; exact (Ak (by repeat (first | (with_reducible first | exact HB.out | apply Ad | apply Ac | apply Ah | refine Af ?_ GE116.out) | exact HB.out))) : w.heap.size ≤ gb117)); have n5_ := Aa.mk ((by rw [hg]; exact Nat.ne_of_lt (Br (g := gb116) (o := .cells #[.int .i64 a0_0, .int .i64 a0_1, .slice A0_2 l0_2.length c0_2] 50 (0, 0)) (by exact bU <| BK116.out)) : gb116 ≠ gb117)); have n6_ := Aa.mk ((by rw [hg]; exact Nat.ne_of_gt (Br (g := gb116) (o := .cells #[.int .i64 a0_0, .int .i64 a0_1, .slice A0_2 l0_2.length c0_2] 50 (0, 0)) (by exact bU <| BK116.out)) : gb117 ≠ gb116)); clear BK116; clear HB; have BK116 := n0_; have HB := n1_; have BK117 := n2_; have GW117 := n3_; have GE117 := n4_; have NB116_117 := n5_; have NB117_116 := n6_; clear n0_ n1_ n2_ n3_ n4_ n5_ n6_; clear hb hbox hg; have hnb29 := NB116_117.out; have hnc29 := NB117_116.out; have hcz30_0 : w28.cell? ⟨gb116, 0, none⟩ = some (.int .i64 a0_0) := (Ae BK116.out 0).trans rfl; have hcz30_1 : w28.cell? ⟨gb116, 1, none⟩ = some (.int .i64 a0_1) := (Ae BK116.out 1).trans rfl; have hcz30_2 : w28.cell? ⟨gb116, 2, none⟩ = some (.slice A0_2 l0_2.length c0_2) := (Ae BK116.out 2).trans rfl; have hfz30_0 := Ag BK116.out 0; have hfz30_1 := Ag BK116.out 1; have hfz30_2 := Ag BK116.out 2) | ((with_reducible refine Bn (f := 46) rfl ?_); refine Ca (some 8) rfl rfl Try.func46 (by kernel_rfl) rfl #[.agg #[.int .i64 a0_0, .int .i64 a0_1, .slice A0_2 l0_2.length c0_2]] rfl (by (try simp only [List.map_toArray, List.map_cons, List.map_nil]); first | done | rfl | (simp only [List.length_drop, List.length_take]; rfl)) ?_; (with_reducible refine (Cp.calls a0_0 a0_1 _ _ l0_2 t118 _ ?side1 ?side2 A3.out).mono ?_); (case side1 => repeat (first | exact (Kd.Ce HR0_2.out HB.out) | (with_reducible refine Kd.Bt ?_ _) | (with_reducible refine Kd.B3 ?_ _) | (with_reducible refine Kd.B8 ?_))); (case side2 => exact HC0_2.out); rintro e w31 ⟨rfl, hb⟩; refine ⟨_, rfl, ?_⟩; have n0_ := Aa.mk (An (g := gb116) (o := .cells #[.int .i64 a0_0, .int .i64 a0_1, .slice A0_2 l0_2.length c0_2] 50 (0, 0)) (by exact bU <| BK116.out) hb); have n1_ := Aa.mk (An (g := gb117) (o := .cells #[.int .i64 0, .int .i64 0, .int .i64 0] 108 (0, 0)) (by exact bU <| BK117.out) hb); have n2_ := Aa.mk (Ar (by repeat (first | (with_reducible first | exact HB.out | apply Ad | apply Ac | apply Ah | refine Af ?_ GE116.out | refine Af ?_ GE117.out) | exact HB.out)) hb); clear BK116; clear BK117; clear HB; have BK116 := n0_; have BK117 := n1_; have HB := n2_; clear n0_ n1_ n2_; (try clear hb); (try clear hb2); (try clear hk); (try clear hi); have hcz32_0 : w31.cell? ⟨gb117, 0, none⟩ = some (.int .i64 0) := (Ae BK117.out 0).trans rfl; have hcz32_1 : w31.cell? ⟨gb117, 1, none⟩ = some (.int .i64 0) := (Ae BK117.out 1).trans rfl; have hcz32_2 : w31.cell? ⟨gb117, 2, none⟩ = some (.int .i64 0) := (Ae BK117.out 2).trans rfl; have hfz32_0 := Ag BK117.out 0; have hfz32_1 := Ag BK117.out 1; have hfz32_2 := Ag BK117.out 2))
  refine bodyPost_ret (results_ct rfl _ _ gb117 108 #[.int .i64 0, .int .i64 0, .int .i64 0] (0, 0) _ rfl (by (with_reducible repeat (first | refine As ?_ _ | refine At ?_ | refine Aj ?_ _)); refine Bd (cs := #[.int .i64 0, .int .i64 0, .int .i64 0]) ?_ 2 _ rfl; (with_reducible repeat (first | refine As ?_ _ | refine At ?_ | refine Aj ?_ _)); refine Bd (cs := #[.int .i64 0, .int .i64 0, .int .i64 0]) ?_ 1 _ rfl; (with_reducible repeat (first | refine As ?_ _ | refine At ?_ | refine Aj ?_ _)); refine Bd (cs := #[.int .i64 0, .int .i64 0, .int .i64 0]) ?_ 0 _ rfl; exact bU <| BK117.out) Try.underlying108 rfl (by kernel_rfl)) rfl ?_
  exact ⟨by first | rfl | (simp [Az, Ba] <;> rfl) | (simp [*, Az, Ba] <;> rfl), by repeat (first | (with_reducible first | exact HB.out | apply Ad | apply Ac | apply Ah | refine Af ?_ GE116.out | refine Af ?_ GE117.out) | exact HB.out)⟩

def Dd.f (a0 : Int) (a1 : Int) : Option (Int × Int × List Bool) := if 0 ≤ (wrap64 (a0 * a1)) then (if (wrap64 (a0 * a1) : Int).toNat ≤ 281474976710656 then (some (a0, a1, (List.replicate (wrap64 (a0 * a1) : Int).toNat false))) else (none)) else (none)
set_option maxHeartbeats 8000000 in
set_option maxRecDepth 100000 in
theorem Dd.calls (a0 : Int) (a1 : Int) (r1 : Int) (r2 : Int) (r3 : List Bool) (w : World) (h : Dd.f a0 a1 = some (r1, r2, r3)) :
  Calls Try.prog 74 #[.int .i64 a0, .int .i64 a1] w fun e w' => ∃ v2_ : Value, e = .returned (.agg #[.int .i64 r1, .int .i64 r2, v2_]) ∧ Kd.R Kd.bool 4 w' w.heap.size (fun _ => True) v2_ r3 ∧ Below w.heap.size w w' := by
 have hu50 := Try.underlying50
 have HB := Aa.mk (Below.refl w.heap.size w)
 have H : (if 0 ≤ (wrap64 (a0 * a1)) then (if (wrap64 (a0 * a1) : Int).toNat ≤ 281474976710656 then (some (a0, a1, (List.replicate (wrap64 (a0 * a1) : Int).toNat false))) else (none)) else (none)) = some (r1, r2, r3) := h
 clear h
 obtain ⟨ji3, hji3⟩ : ∃ j_ : Int, (wrap64 (a0 * a1)) = j_ := ⟨_, rfl⟩
 replace H : (if 0 ≤ (ji3) then (if (ji3 : Int).toNat ≤ 281474976710656 then (some (a0, a1, (List.replicate (ji3 : Int).toNat false))) else (none)) else (none)) = some (r1, r2, r3) := by first | (rw [hji3] at H; exact H) | (simp only [hji3] at H ⊢; exact H)
 have hji3w : (IntKind.i64.wrap (a0 * a1)) = ji3 := (i64_w _).trans hji3
 by_cases c4 : 0 ≤ (ji3)
 ·rw [if_pos c4] at H
  have c4b0 := eq_true c4
  have c4b1 : decide (0 ≤ (ji3)) = true := decide_eq_true c4
  clear c4
  by_cases c5 : (ji3 : Int).toNat ≤ 281474976710656
  ·rw [if_pos c5] at H
   have c5b0 := eq_true c5
   have c5b1 : decide ((ji3 : Int).toNat ≤ 281474976710656) = true := decide_eq_true c5
   clear c5
   obtain ⟨y120, hy120⟩ : ∃ y_ : List Bool, y_ = (List.replicate (ji3 : Int).toNat false) := ⟨_, rfl⟩
   replace H : (some (a0, a1, y120)) = some (r1, r2, r3) := by first | (rw [hy120]; with_reducible exact H) | (have H2_ := (Option.bind_some _ _).symm.trans H; rw [hy120]; with_reducible exact H2_) | (have H2_ := (Option.bind_some _ _).symm.trans H; with_reducible exact H2_) | with_reducible exact H | (rw [hy120]; exact H) | exact H
   have Ny120 := Aa.mk hy120
   clear hy120
   simp only [Option.some.injEq, Prod.mk.injEq] at H
   obtain ⟨rfl, rfl, rfl⟩ := H
   go_enter Try.func74, Try.ntmps74
   go_wp2_with (first | ((with_reducible refine Bk (N := 4) rfl ?_); refine Bp ?hg (N := 4) ?hd (cs := #[.int .i64 0, .int .i64 0, .slice none 0 0]) (t := 50) ?hr ?_; (case hd => rfl); (case hg => rfl); (case hr => first | (go_simp; done) | (go_simp; rfl)); intro gb119 hg w6 hbox hb; have n0_ := Aa.mk (Ar (lU HB.out) hb); have n1_ := Aa.mk (hbox); have n2_ := Aa.mk ((by rw [hg]; exact (Ak (lU HB.out)) : w.heap.size ≤ gb119)); have n3_ := Aa.mk ((by rw [hg]; exact (Ak (lU HB.out)) : w.heap.size ≤ gb119)); clear HB; have HB := n0_; have BK119 := n1_; have GW119 := n2_; have GE119 := n3_; clear n0_ n1_ n2_ n3_; clear hb hbox hg) | ((with_reducible refine Bk (N := 10) rfl ?_); refine Kd.R_make Kd.bool _ 4 rfl (N := 10) rfl 48 _ _ rfl ji3 rfl rfl Try.underlying48 (.bool false) 1 info4 rfl (by decide) (by omega) false (ok := fun _ => True) (okp := fun _ => True) rfl (fun _ hk => hk) trivial (of_decide_eq_true (by first | (with_reducible assumption) | assumption)) (Nat.le_trans (Nat.mul_le_mul_right _ (of_decide_eq_true (by first | (with_reducible assumption) | assumption) : ji3.toNat ≤ 281474976710656)) (by omega)) (Below.refl _ _) (Nat.le_refl _) ?_; intro v121 w7 ho8 hb hg_ hnew_; clear hg_ hnew_; (first | rw [← Ny120.out] at ho8 | (simp only [Int.reduceToNat] at ho8; rw [← Ny120.out] at ho8)); have n0_ := Aa.mk (Kd.B6 ho8 (Ak (by repeat (first | (with_reducible first | exact HB.out | apply Ad | apply Ac | apply Ah | refine Af ?_ GE119.out) | exact HB.out)))); have n1_ := Aa.mk (An (g := gb119) (o := .cells #[.int .i64 0, .int .i64 0, .slice none 0 0] 50 (0, 0)) (by exact bU <| BK119.out) hb); have n2_ := Aa.mk (Ar (by repeat (first | (with_reducible first | exact HB.out | apply Ad | apply Ac | apply Ah | refine Af ?_ GE119.out) | exact HB.out)) hb); clear BK119; clear HB; have HO122 := n0_; have BK119 := n1_; have HB := n2_; clear n0_ n1_ n2_; clear hb ho8; obtain ⟨Ao9, co9, eo9⟩ := Kd.Bz HO122.out; subst eo9; have hcz10_0 : w7.cell? ⟨gb119, 0, none⟩ = some (.int .i64 0) := (Ae BK119.out 0).trans rfl; have hcz10_1 : w7.cell? ⟨gb119, 1, none⟩ = some (.int .i64 0) := (Ae BK119.out 1).trans rfl; have hcz10_2 : w7.cell? ⟨gb119, 2, none⟩ = some (.slice none 0 0) := (Ae BK119.out 2).trans rfl; have hfz10_0 := Ag BK119.out 0; have hfz10_1 := Ag BK119.out 1; have hfz10_2 := Ag BK119.out 2))
   refine bodyPost_ret (results_cell_row rfl _ _ gb119 50 #[.int .i64 a0, .int .i64 a1, .slice Ao9 y120.length co9] (0, 0) _ rfl (by (with_reducible repeat (first | refine As ?_ _ | refine At ?_ | refine Aj ?_ _)); refine Bd (cs := #[.int .i64 a0, .int .i64 a1, .slice none 0 0]) ?_ 2 _ rfl; (with_reducible repeat (first | refine As ?_ _ | refine At ?_ | refine Aj ?_ _)); refine Bd (cs := #[.int .i64 a0, .int .i64 0, .slice none 0 0]) ?_ 1 _ rfl; (with_reducible repeat (first | refine As ?_ _ | refine At ?_ | refine Aj ?_ _)); refine Bd (cs := #[.int .i64 0, .int .i64 0, .slice none 0 0]) ?_ 0 _ rfl; exact bU <| BK119.out) Try.underlying50 rfl (by kernel_rfl)) rfl ?_
   exact ⟨_, by first | rfl | (simp [Az, Ba] <;> rfl) | (simp only [← hji3]; first | rfl | (simp [Az, Ba] <;> rfl)) | (simp [*, Az, Ba] <;> rfl), by exact rU <| Kd.Bj (Kd.Be (p := ⟨gb119, 2, none⟩) (Kd.Be (p := ⟨gb119, 1, none⟩) (Kd.Be (p := ⟨gb119, 0, none⟩) (Kd.B4 HO122.out BK119.out (by decide)) (fun _ hk => hk.2) (.int .i64 a0)) (fun _ hk => hk.2) (.int .i64 a1)) (fun _ hk => hk.2) (.slice Ao9 y120.length co9)) (fun _ hk => trivial), by repeat (first | (with_reducible first | exact HB.out | apply Ad | apply Ac | apply Ah | refine Af ?_ GE119.out) | exact HB.out)⟩
  ·rw [if_neg c5] at H
   exact absurd H (by simp)
 ·rw [if_neg c4] at H
  exact absurd H (by simp)

end Go.Proofs.Yteamphcehoaleaa.PFA

