import Derived.Test.YteamphcehoaleaaPFSx0
import Derived.Test.YteamphcehoaleaaPFKx1
namespace Go.Proofs.Yteamphcehoaleaa.PFS
open Go.Proofs.Yteamphcehoaleaa.PFA Go.Proofs.Yteamphcehoaleaa.PFK
open Go.RowKit Go.Proofs.YteamphcehoaleaaW.PrintWords Go.Proofs.YteamphcehoaleaaW.PrintLast Go.Proofs.YteamphcehoaleaaW.PrintMore
attribute [local go_sem] max2_int min2_int max_two min_two max_three min_three max_four min_four   -- for this text's walks alone
set_option linter.unusedVariables false
set_option linter.unusedSimpArgs false

def Co.f (a0 : Int) (a1 : Int) : Option (Bool) := if a0 ≥ 1 then (if a0 ≤ 1024 then (if a1 ≥ 1 then (if a1 ≤ 1024 then (some (decide ((wrap64 (a0 * a1)) ≤ 65536))) else (some false)) else (some false)) else (some false)) else (some false)
set_option maxHeartbeats 8000000 in
set_option maxRecDepth 100000 in
theorem Co.calls (a0 : Int) (a1 : Int) (r : Bool) (w : World) (h : Co.f a0 a1 = some r) :
  Calls Try.prog 90 #[.int .i64 a0, .int .i64 a1] w fun e w' => e = .returned (.bool r) ∧ Drawn0 w w' := by
 have H : (if a0 ≥ 1 then (if a0 ≤ 1024 then (if a1 ≥ 1 then (if a1 ≤ 1024 then (some (decide ((wrap64 (a0 * a1)) ≤ 65536))) else (some false)) else (some false)) else (some false)) else (some false)) = some r := h
 clear h
 by_cases c3 : a0 ≥ 1
 ·rw [if_pos c3] at H
  have c3b0 : decide (1 ≤ a0) = true := decide_eq_true c3
  clear c3
  by_cases c4 : a0 ≤ 1024
  ·rw [if_pos c4] at H
   have c4b0 : decide (a0 ≤ 1024) = true := decide_eq_true c4
   clear c4
   by_cases c5 : a1 ≥ 1
   ·rw [if_pos c5] at H
    have c5b0 : decide (1 ≤ a1) = true := decide_eq_true c5
    clear c5
    by_cases c6 : a1 ≤ 1024
    ·rw [if_pos c6] at H
     have c6b0 : decide (a1 ≤ 1024) = true := decide_eq_true c6
     clear c6
     obtain rfl := Option.some.inj H
     go_enter Try.func90, Try.ntmps90
     go_wp2
     go_ret
     exact ⟨by first | rfl | (simp; done) | (simp [*]; done), by repeat (first | exact Drawn0.refl _ | apply Drawn0.step)⟩
    ·rw [if_neg c6] at H
     have c6b0 : decide (a1 ≤ 1024) = false := decide_eq_false c6
     clear c6
     obtain rfl := Option.some.inj H
     go_enter Try.func90, Try.ntmps90
     go_wp2
     go_ret
     exact ⟨by first | rfl | (simp; done) | (simp [*]; done), by repeat (first | exact Drawn0.refl _ | apply Drawn0.step)⟩
   ·rw [if_neg c5] at H
    have c5b0 : decide (1 ≤ a1) = false := decide_eq_false c5
    clear c5
    obtain rfl := Option.some.inj H
    go_enter Try.func90, Try.ntmps90
    go_wp2
    go_ret
    exact ⟨by first | rfl | (simp; done) | (simp [*]; done), by repeat (first | exact Drawn0.refl _ | apply Drawn0.step)⟩
  ·rw [if_neg c4] at H
   have c4b0 : decide (a0 ≤ 1024) = false := decide_eq_false c4
   clear c4
   obtain rfl := Option.some.inj H
   go_enter Try.func90, Try.ntmps90
   go_wp2
   go_ret
   exact ⟨by first | rfl | (simp; done) | (simp [*]; done), by repeat (first | exact Drawn0.refl _ | apply Drawn0.step)⟩
 ·rw [if_neg c3] at H
  have c3b0 : decide (1 ≤ a0) = false := decide_eq_false c3
  clear c3
  obtain rfl := Option.some.inj H
  go_enter Try.func90, Try.ntmps90
  go_wp2
  go_ret
  exact ⟨by first | rfl | (simp; done) | (simp [*]; done), by repeat (first | exact Drawn0.refl _ | apply Drawn0.step)⟩

def Cj.f (a0_0 : Int) (a0_1 : Int) (l0_2 : List Bool) : Option (Int) := (Co.f a0_0 a0_1).bind fun t102 => (if t102 = true then (if (l0_2.length : Int) = (wrap64 (a0_0 * a0_1)) then (some 0) else (some 301)) else (some 300))
set_option maxHeartbeats 8000000 in
set_option maxRecDepth 100000 in
theorem Cj.calls (a0_0 : Int) (a0_1 : Int) (A0_2 : Option Addr) (c0_2 : Nat) (l0_2 : List Bool) (r : Int) (w : World) (hr0_2 : Kd.C Kd.bool w A0_2 l0_2.length l0_2) (hc0_2 : l0_2.length ≤ c0_2) (h : Cj.f a0_0 a0_1 l0_2 = some r) :
  Calls Try.prog 47 #[.agg #[.int .i64 a0_0, .int .i64 a0_1, .slice A0_2 l0_2.length c0_2]] w fun e w' => e = .returned (.int .i64 r) ∧ Below w.heap.size w w' := by
 have hu50 := Try.underlying50
 have HR0_2 := Aa.mk hr0_2
 have HC0_2 := Aa.mk hc0_2
 clear hr0_2 hc0_2
 have HB := Aa.mk (Below.refl w.heap.size w)
 have H : ((Co.f a0_0 a0_1).bind fun t102 => (if t102 = true then (if (l0_2.length : Int) = (wrap64 (a0_0 * a0_1)) then (some 0) else (some 301)) else (some 300))) = some r := h
 clear h
 replace H := Option.bind_eq_some_iff.mp H
 obtain ⟨t102, A20, H⟩ := H
 replace H : (if t102 = true then (if (l0_2.length : Int) = (wrap64 (a0_0 * a0_1)) then (some 0) else (some 301)) else (some 300)) = some r := H
 have A2 := Aa.mk A20
 clear A20
 by_cases c3 : t102 = true
 ·subst c3
  have H1 : (if (l0_2.length : Int) = (wrap64 (a0_0 * a0_1)) then (some 0) else (some 301)) = some r := by rw [if_pos rfl] at H; exact H
  clear H
  have H := H1
  clear H1
  by_cases c4 : (l0_2.length : Int) = (wrap64 (a0_0 * a0_1))
  ·rw [if_pos c4] at H
   have c4b0 : ((l0_2.length : Int) == (wrap64 (a0_0 * a0_1))) = true := beq_iff_eq.mpr c4
   have c4b1 : ((l0_2.length : Int) != (wrap64 (a0_0 * a0_1))) = false := bne_eq_false_iff_eq.mpr c4
   clear c4
   obtain rfl := Option.some.inj H
   go_enter Try.func47, Try.ntmps47
   go_wp2_with (first | ((with_reducible refine Bh (N := 1) rfl ?_); refine Be ?hg (N := 1) ?hd (cs := #[.int .i64 a0_0, .int .i64 a0_1, .slice A0_2 l0_2.length c0_2]) (t := 50) ?hr ?_; (case hd => rfl); (case hg => rfl); (case hr => first | (go_simp; done) | (go_simp; rfl)); intro gb101 hg w5 hbox hb; have n0_ := Aa.mk (Ao (lU HB.out) hb); have n1_ := Aa.mk (hbox); have n2_ := Aa.mk ((by rw [hg]; exact (Aj (lU HB.out)) : w.heap.size ≤ gb101)); have n3_ := Aa.mk ((by rw [hg]; exact (Aj (lU HB.out)) : w.heap.size ≤ gb101)); clear HB; have HB := n0_; have BK101 := n1_; have GW101 := n2_; have GE101 := n3_; clear n0_ n1_ n2_ n3_; clear hb hbox hg; have hcz6_0 : w5.cell? ⟨gb101, 0, none⟩ = some (.int .i64 a0_0) := (Ae BK101.out 0).trans rfl; have hcz6_1 : w5.cell? ⟨gb101, 1, none⟩ = some (.int .i64 a0_1) := (Ae BK101.out 1).trans rfl; have hcz6_2 : w5.cell? ⟨gb101, 2, none⟩ = some (.slice A0_2 l0_2.length c0_2) := (Ae BK101.out 2).trans rfl; have hfz6_0 := Ac BK101.out 0; have hfz6_1 := Ac BK101.out 1; have hfz6_2 := Ac BK101.out 2) | ((with_reducible refine Bj (f := 90) rfl ?_); refine B9 (some 7) rfl rfl Try.func90 (by kernel_rfl) rfl #[.int .i64 a0_0, .int .i64 a0_1] rfl (by (try simp only [List.map_toArray, List.map_cons, List.map_nil]); first | done | rfl | (simp only [List.length_drop, List.length_take]; rfl)) ?_; (with_reducible refine (Co.calls a0_0 a0_1 true _ A2.out).mono ?_); rintro e w' ⟨rfl, ⟨nd, rfl⟩⟩; refine ⟨_, rfl, ?_⟩))
   go_ret
   exact ⟨by first | rfl | (simp [Ba, Bb] <;> rfl) | (simp [*, Ba, Bb] <;> rfl), by repeat (first | (with_reducible first | exact HB.out | apply Af | apply Ad | apply Ag | refine Ab ?_ GE101.out) | exact HB.out)⟩
  ·rw [if_neg c4] at H
   have c4b0 : ((l0_2.length : Int) == (wrap64 (a0_0 * a0_1))) = false := beq_eq_false_iff_ne.mpr c4
   have c4b1 : ((l0_2.length : Int) != (wrap64 (a0_0 * a0_1))) = true := bne_iff_ne.mpr c4
   obtain rfl := Option.some.inj H
   go_enter Try.func47, Try.ntmps47
   go_wp2_with (first | ((with_reducible refine Bh (N := 1) rfl ?_); refine Be ?hg (N := 1) ?hd (cs := #[.int .i64 a0_0, .int .i64 a0_1, .slice A0_2 l0_2.length c0_2]) (t := 50) ?hr ?_; (case hd => rfl); (case hg => rfl); (case hr => first | (go_simp; done) | (go_simp; rfl)); intro gb101 hg w7 hbox hb; have n0_ := Aa.mk (Ao (lU HB.out) hb); have n1_ := Aa.mk (hbox); have n2_ := Aa.mk ((by rw [hg]; exact (Aj (lU HB.out)) : w.heap.size ≤ gb101)); have n3_ := Aa.mk ((by rw [hg]; exact (Aj (lU HB.out)) : w.heap.size ≤ gb101)); clear HB; have HB := n0_; have BK101 := n1_; have GW101 := n2_; have GE101 := n3_; clear n0_ n1_ n2_ n3_; clear hb hbox hg; have hcz8_0 : w7.cell? ⟨gb101, 0, none⟩ = some (.int .i64 a0_0) := (Ae BK101.out 0).trans rfl; have hcz8_1 : w7.cell? ⟨gb101, 1, none⟩ = some (.int .i64 a0_1) := (Ae BK101.out 1).trans rfl; have hcz8_2 : w7.cell? ⟨gb101, 2, none⟩ = some (.slice A0_2 l0_2.length c0_2) := (Ae BK101.out 2).trans rfl; have hfz8_0 := Ac BK101.out 0; have hfz8_1 := Ac BK101.out 1; have hfz8_2 := Ac BK101.out 2) | ((with_reducible refine Bj (f := 90) rfl ?_); refine B9 (some 7) rfl rfl Try.func90 (by kernel_rfl) rfl #[.int .i64 a0_0, .int .i64 a0_1] rfl (by (try simp only [List.map_toArray, List.map_cons, List.map_nil]); first | done | rfl | (simp only [List.length_drop, List.length_take]; rfl)) ?_; (with_reducible refine (Co.calls a0_0 a0_1 true _ A2.out).mono ?_); rintro e w' ⟨rfl, ⟨nd, rfl⟩⟩; refine ⟨_, rfl, ?_⟩))
   go_ret
   exact ⟨by first | rfl | (simp [Ba, Bb] <;> rfl) | (simp [*, Ba, Bb] <;> rfl), by repeat (first | (with_reducible first | exact HB.out | apply Af | apply Ad | apply Ag | refine Ab ?_ GE101.out) | exact HB.out)⟩
 ·replace c3 := Bool.eq_false_iff.mpr c3
  subst c3
  have H1 : (some 300) = some r := by rw [if_neg (show ¬ (false = true) by decide)] at H; exact H
  clear H
  have H := H1
  clear H1
  obtain rfl := Option.some.inj H
  go_enter Try.func47, Try.ntmps47
  go_wp2_with (first | ((with_reducible refine Bh (N := 1) rfl ?_); refine Be ?hg (N := 1) ?hd (cs := #[.int .i64 a0_0, .int .i64 a0_1, .slice A0_2 l0_2.length c0_2]) (t := 50) ?hr ?_; (case hd => rfl); (case hg => rfl); (case hr => first | (go_simp; done) | (go_simp; rfl)); intro gb101 hg w9 hbox hb; have n0_ := Aa.mk (Ao (lU HB.out) hb); have n1_ := Aa.mk (hbox); have n2_ := Aa.mk ((by rw [hg]; exact (Aj (lU HB.out)) : w.heap.size ≤ gb101)); have n3_ := Aa.mk ((by rw [hg]; exact (Aj (lU HB.out)) : w.heap.size ≤ gb101)); clear HB; have HB := n0_; have BK101 := n1_; have GW101 := n2_; have GE101 := n3_; clear n0_ n1_ n2_ n3_; clear hb hbox hg; have hcz10_0 : w9.cell? ⟨gb101, 0, none⟩ = some (.int .i64 a0_0) := (Ae BK101.out 0).trans rfl; have hcz10_1 : w9.cell? ⟨gb101, 1, none⟩ = some (.int .i64 a0_1) := (Ae BK101.out 1).trans rfl; have hcz10_2 : w9.cell? ⟨gb101, 2, none⟩ = some (.slice A0_2 l0_2.length c0_2) := (Ae BK101.out 2).trans rfl; have hfz10_0 := Ac BK101.out 0; have hfz10_1 := Ac BK101.out 1; have hfz10_2 := Ac BK101.out 2) | ((with_reducible refine Bj (f := 90) rfl ?_); refine B9 (some 7) rfl rfl Try.func90 (by kernel_rfl) rfl #[.int .i64 a0_0, .int .i64 a0_1] rfl (by (try simp only [List.map_toArray, List.map_cons, List.map_nil]); first | done | rfl | (simp only [List.length_drop, List.length_take]; rfl)) ?_; (with_reducible refine (Co.calls a0_0 a0_1 false _ A2.out).mono ?_); rintro e w' ⟨rfl, ⟨nd, rfl⟩⟩; refine ⟨_, rfl, ?_⟩))
  go_ret
  exact ⟨by first | rfl | (simp [Ba, Bb] <;> rfl) | (simp [*, Ba, Bb] <;> rfl), by repeat (first | (with_reducible first | exact HB.out | apply Af | apply Ad | apply Ag | refine Ab ?_ GE101.out) | exact HB.out)⟩

def Cb.f (a0_0 : Int) (a0_1 : Int) (l0_2 : List Bool) (a1 : Int) : Option (Bool) := (Cj.f a0_0 a0_1 l0_2).bind fun t104 => (if t104 = 0 then (if a1 = 4 then (some true) else (some (a1 == 8))) else (some false))
set_option maxHeartbeats 8000000 in
set_option maxRecDepth 100000 in
theorem Cb.calls (a0_0 : Int) (a0_1 : Int) (A0_2 : Option Addr) (c0_2 : Nat) (l0_2 : List Bool) (a1 : Int) (r : Bool) (w : World) (hr0_2 : Kd.C Kd.bool w A0_2 l0_2.length l0_2) (hc0_2 : l0_2.length ≤ c0_2) (h : Cb.f a0_0 a0_1 l0_2 a1 = some r) :
  Calls Try.prog 36 #[.agg #[.int .i64 a0_0, .int .i64 a0_1, .slice A0_2 l0_2.length c0_2], .int .i64 a1] w fun e w' => e = .returned (.bool r) ∧ Below w.heap.size w w' := by
 have hu50 := Try.underlying50
 have HR0_2 := Aa.mk hr0_2
 have HC0_2 := Aa.mk hc0_2
 clear hr0_2 hc0_2
 have HB := Aa.mk (Below.refl w.heap.size w)
 have H : ((Cj.f a0_0 a0_1 l0_2).bind fun t104 => (if t104 = 0 then (if a1 = 4 then (some true) else (some (a1 == 8))) else (some false))) = some r := h
 clear h
 replace H := Option.bind_eq_some_iff.mp H
 obtain ⟨t104, A30, H⟩ := H
 replace H : (if t104 = 0 then (if a1 = 4 then (some true) else (some (a1 == 8))) else (some false)) = some r := H
 have A3 := Aa.mk A30
 clear A30
 by_cases c4 : t104 = 0
 ·rw [if_pos c4] at H
  have c4b0 : (t104 == 0) = true := beq_iff_eq.mpr c4
  have c4b1 : (t104 != 0) = false := bne_eq_false_iff_eq.mpr c4
  clear c4
  by_cases c5 : a1 = 4
  ·rw [if_pos c5] at H
   have c5b0 : (a1 == 4) = true := beq_iff_eq.mpr c5
   have c5b1 : (a1 != 4) = false := bne_eq_false_iff_eq.mpr c5
   clear c5
   obtain rfl := Option.some.inj H
   go_enter Try.func36, Try.ntmps36
   go_wp2_with (first | ((with_reducible refine Bh (N := 2) rfl ?_); refine Be ?hg (N := 2) ?hd (cs := #[.int .i64 a0_0, .int .i64 a0_1, .slice A0_2 l0_2.length c0_2]) (t := 50) ?hr ?_; (case hd => rfl); (case hg => rfl); (case hr => first | (go_simp; done) | (go_simp; rfl)); intro gb103 hg w6 hbox hb; have n0_ := Aa.mk (Ao (lU HB.out) hb); have n1_ := Aa.mk (hbox); have n2_ := Aa.mk ((by rw [hg]; exact (Aj (lU HB.out)) : w.heap.size ≤ gb103)); have n3_ := Aa.mk ((by rw [hg]; exact (Aj (lU HB.out)) : w.heap.size ≤ gb103)); clear HB; have HB := n0_; have BK103 := n1_; have GW103 := n2_; have GE103 := n3_; clear n0_ n1_ n2_ n3_; clear hb hbox hg; have hcz7_0 : w6.cell? ⟨gb103, 0, none⟩ = some (.int .i64 a0_0) := (Ae BK103.out 0).trans rfl; have hcz7_1 : w6.cell? ⟨gb103, 1, none⟩ = some (.int .i64 a0_1) := (Ae BK103.out 1).trans rfl; have hcz7_2 : w6.cell? ⟨gb103, 2, none⟩ = some (.slice A0_2 l0_2.length c0_2) := (Ae BK103.out 2).trans rfl; have hfz7_0 := Ac BK103.out 0; have hfz7_1 := Ac BK103.out 1; have hfz7_2 := Ac BK103.out 2) | ((with_reducible refine Bj (f := 47) rfl ?_); refine B9 (some 6) rfl rfl Try.func47 (by kernel_rfl) rfl #[.agg #[.int .i64 a0_0, .int .i64 a0_1, .slice A0_2 l0_2.length c0_2]] rfl (by (try simp only [List.map_toArray, List.map_cons, List.map_nil]); first | done | rfl | (simp only [List.length_drop, List.length_take]; rfl)) ?_; (with_reducible refine (Cj.calls a0_0 a0_1 _ _ l0_2 t104 _ ?side1 ?side2 A3.out).mono ?_); (case side1 => repeat (first | exact (Kd.B7 HR0_2.out HB.out) | (with_reducible refine Kd.Bo ?_ _) | (with_reducible refine Kd.Bt ?_ _) | (with_reducible refine Kd.B3 ?_))); (case side2 => exact HC0_2.out); rintro e w8 ⟨rfl, hb⟩; refine ⟨_, rfl, ?_⟩; have n0_ := Aa.mk (Ai (g := gb103) (o := .cells #[.int .i64 a0_0, .int .i64 a0_1, .slice A0_2 l0_2.length c0_2] 50 (0, 0)) (by exact bU <| BK103.out) hb); have n1_ := Aa.mk (Ao (by repeat (first | (with_reducible first | exact HB.out | apply Af | apply Ad | apply Ag | refine Ab ?_ GE103.out) | exact HB.out)) hb); clear BK103; clear HB; have BK103 := n0_; have HB := n1_; clear n0_ n1_; (try clear hb); (try clear hb2); (try clear hk); (try clear hi)))
   go_ret
   exact ⟨by first | rfl | (simp [Ba, Bb] <;> rfl) | (simp [*, Ba, Bb] <;> rfl), by repeat (first | (with_reducible first | exact HB.out | apply Af | apply Ad | apply Ag | refine Ab ?_ GE103.out) | exact HB.out)⟩
  ·rw [if_neg c5] at H
   have c5b0 : (a1 == 4) = false := beq_eq_false_iff_ne.mpr c5
   have c5b1 : (a1 != 4) = true := bne_iff_ne.mpr c5
   obtain rfl := Option.some.inj H
   go_enter Try.func36, Try.ntmps36
   go_wp2_with (first | ((with_reducible refine Bh (N := 2) rfl ?_); refine Be ?hg (N := 2) ?hd (cs := #[.int .i64 a0_0, .int .i64 a0_1, .slice A0_2 l0_2.length c0_2]) (t := 50) ?hr ?_; (case hd => rfl); (case hg => rfl); (case hr => first | (go_simp; done) | (go_simp; rfl)); intro gb103 hg w9 hbox hb; have n0_ := Aa.mk (Ao (lU HB.out) hb); have n1_ := Aa.mk (hbox); have n2_ := Aa.mk ((by rw [hg]; exact (Aj (lU HB.out)) : w.heap.size ≤ gb103)); have n3_ := Aa.mk ((by rw [hg]; exact (Aj (lU HB.out)) : w.heap.size ≤ gb103)); clear HB; have HB := n0_; have BK103 := n1_; have GW103 := n2_; have GE103 := n3_; clear n0_ n1_ n2_ n3_; clear hb hbox hg; have hcz10_0 : w9.cell? ⟨gb103, 0, none⟩ = some (.int .i64 a0_0) := (Ae BK103.out 0).trans rfl; have hcz10_1 : w9.cell? ⟨gb103, 1, none⟩ = some (.int .i64 a0_1) := (Ae BK103.out 1).trans rfl; have hcz10_2 : w9.cell? ⟨gb103, 2, none⟩ = some (.slice A0_2 l0_2.length c0_2) := (Ae BK103.out 2).trans rfl; have hfz10_0 := Ac BK103.out 0; have hfz10_1 := Ac BK103.out 1; have hfz10_2 := Ac BK103.out 2) | ((with_reducible refine Bj (f := 47) rfl ?_); refine B9 (some 6) rfl rfl Try.func47 (by kernel_rfl) rfl #[.agg #[.int .i64 a0_0, .int .i64 a0_1, .slice A0_2 l0_2.length c0_2]] rfl (by (try simp only [List.map_toArray, List.map_cons, List.map_nil]); first | done | rfl | (simp only [List.length_drop, List.length_take]; rfl)) ?_; (with_reducible refine (Cj.calls a0_0 a0_1 _ _ l0_2 t104 _ ?side1 ?side2 A3.out).mono ?_); (case side1 => repeat (first | exact (Kd.B7 HR0_2.out HB.out) | (with_reducible refine Kd.Bo ?_ _) | (with_reducible refine Kd.Bt ?_ _) | (with_reducible refine Kd.B3 ?_))); (case side2 => exact HC0_2.out); rintro e w11 ⟨rfl, hb⟩; refine ⟨_, rfl, ?_⟩; have n0_ := Aa.mk (Ai (g := gb103) (o := .cells #[.int .i64 a0_0, .int .i64 a0_1, .slice A0_2 l0_2.length c0_2] 50 (0, 0)) (by exact bU <| BK103.out) hb); have n1_ := Aa.mk (Ao (by repeat (first | (with_reducible first | exact HB.out | apply Af | apply Ad | apply Ag | refine Ab ?_ GE103.out) | exact HB.out)) hb); clear BK103; clear HB; have BK103 := n0_; have HB := n1_; clear n0_ n1_; (try clear hb); (try clear hb2); (try clear hk); (try clear hi)))
   go_ret
   exact ⟨by first | rfl | (simp [Ba, Bb] <;> rfl) | (simp [*, Ba, Bb] <;> rfl), by repeat (first | (with_reducible first | exact HB.out | apply Af | apply Ad | apply Ag | refine Ab ?_ GE103.out) | exact HB.out)⟩
 ·rw [if_neg c4] at H
  have c4b0 : (t104 == 0) = false := beq_eq_false_iff_ne.mpr c4
  have c4b1 : (t104 != 0) = true := bne_iff_ne.mpr c4
  obtain rfl := Option.some.inj H
  go_enter Try.func36, Try.ntmps36
  go_wp2_with (first | ((with_reducible refine Bh (N := 2) rfl ?_); refine Be ?hg (N := 2) ?hd (cs := #[.int .i64 a0_0, .int .i64 a0_1, .slice A0_2 l0_2.length c0_2]) (t := 50) ?hr ?_; (case hd => rfl); (case hg => rfl); (case hr => first | (go_simp; done) | (go_simp; rfl)); intro gb103 hg w12 hbox hb; have n0_ := Aa.mk (Ao (lU HB.out) hb); have n1_ := Aa.mk (hbox); have n2_ := Aa.mk ((by rw [hg]; exact (Aj (lU HB.out)) : w.heap.size ≤ gb103)); have n3_ := Aa.mk ((by rw [hg]; exact (Aj (lU HB.out)) : w.heap.size ≤ gb103)); clear HB; have HB := n0_; have BK103 := n1_; have GW103 := n2_; have GE103 := n3_; clear n0_ n1_ n2_ n3_; clear hb hbox hg; have hcz13_0 : w12.cell? ⟨gb103, 0, none⟩ = some (.int .i64 a0_0) := (Ae BK103.out 0).trans rfl; have hcz13_1 : w12.cell? ⟨gb103, 1, none⟩ = some (.int .i64 a0_1) := (Ae BK103.out 1).trans rfl; have hcz13_2 : w12.cell? ⟨gb103, 2, none⟩ = some (.slice A0_2 l0_2.length c0_2) := (Ae BK103.out 2).trans rfl; have hfz13_0 := Ac BK103.out 0; have hfz13_1 := Ac BK103.out 1; have hfz13_2 := Ac BK103.out 2) | ((with_reducible refine Bj (f := 47) rfl ?_); refine B9 (some 6) rfl rfl Try.func47 (by kernel_rfl) rfl #[.agg #[.int .i64 a0_0, .int .i64 a0_1, .slice A0_2 l0_2.length c0_2]] rfl (by (try simp only [List.map_toArray, List.map_cons, List.map_nil]); first | done | rfl | (simp only [List.length_drop, List.length_take]; rfl)) ?_; (with_reducible refine (Cj.calls a0_0 a0_1 _ _ l0_2 t104 _ ?side1 ?side2 A3.out).mono ?_); (case side1 => repeat (first | exact (Kd.B7 HR0_2.out HB.out) | (with_reducible refine Kd.Bo ?_ _) | (with_reducible refine Kd.Bt ?_ _) | (with_reducible refine Kd.B3 ?_))); (case side2 => exact HC0_2.out); rintro e w14 ⟨rfl, hb⟩; refine ⟨_, rfl, ?_⟩; have n0_ := Aa.mk (Ai (g := gb103) (o := .cells #[.int .i64 a0_0, .int .i64 a0_1, .slice A0_2 l0_2.length c0_2] 50 (0, 0)) (by exact bU <| BK103.out) hb); have n1_ := Aa.mk (Ao (by repeat (first | (with_reducible first | exact HB.out | apply Af | apply Ad | apply Ag | refine Ab ?_ GE103.out) | exact HB.out)) hb); clear BK103; clear HB; have BK103 := n0_; have HB := n1_; clear n0_ n1_; (try clear hb); (try clear hb2); (try clear hk); (try clear hi)))
  go_ret
  exact ⟨by first | rfl | (simp [Ba, Bb] <;> rfl) | (simp [*, Ba, Bb] <;> rfl), by repeat (first | (with_reducible first | exact HB.out | apply Af | apply Ad | apply Ag | refine Ab ?_ GE103.out) | exact HB.out)⟩

def Cd.f (k : Nat) (a0_0 : Int) (a0_1 : Int) (l0_2 : List Bool) (a1 : Int) (a2 : Int) : Option (Int × Int × List Bool × Int) := (B4.f k a0_0 a0_1 l0_2 a1 a2).bind fun bt107 => (some (bt107.1, bt107.2.1, bt107.2.2.1, bt107.2.2.2))
set_option maxHeartbeats 8000000 in
set_option maxRecDepth 100000 in
theorem Cd.calls (k : Nat) (a0_0 : Int) (a0_1 : Int) (A0_2 : Option Addr) (c0_2 : Nat) (l0_2 : List Bool) (a1 : Int) (a2 : Int) (r1 : Int) (r2 : Int) (r3 : List Bool) (r4 : Int) (w : World) (hr0_2 : Kd.C Kd.bool w A0_2 l0_2.length l0_2) (hc0_2 : l0_2.length ≤ c0_2) (h : Cd.f k a0_0 a0_1 l0_2 a1 a2 = some (r1, r2, r3, r4)) :
  Calls Try.prog 37 #[.agg #[.int .i64 a0_0, .int .i64 a0_1, .slice A0_2 l0_2.length c0_2], .int .i64 a1, .int .i64 a2] w fun e w' => ∃ v2_ : Value, e = .returned (.tuple #[.agg #[.int .i64 r1, .int .i64 r2, v2_], .int .i64 r4]) ∧ Kd.R Kd.bool 4 w' w.heap.size (fun _ => True) v2_ r3 ∧ Below w.heap.size w w' := by
 have hu50 := Try.underlying50
 have HR0_2 := Aa.mk hr0_2
 have HC0_2 := Aa.mk hc0_2
 clear hr0_2 hc0_2
 have HB := Aa.mk (Below.refl w.heap.size w)
 have H : ((B4.f k a0_0 a0_1 l0_2 a1 a2).bind fun bt107 => (some (bt107.1, bt107.2.1, bt107.2.2.1, bt107.2.2.2))) = some (r1, r2, r3, r4) := h
 clear h
 replace H := Option.bind_eq_some_iff.mp H
 obtain ⟨⟨t107, t108, t109, t112⟩, A40, H⟩ := H
 replace H : (some (t107, t108, t109, t112)) = some (r1, r2, r3, r4) := H
 have A4 := Aa.mk A40
 clear A40
 simp only [Option.some.injEq, Prod.mk.injEq] at H
 obtain ⟨rfl, rfl, rfl, rfl⟩ := H
 go_enter Try.func37, Try.ntmps37
 go_wp2_with (first | ((with_reducible refine Bh (N := 3) rfl ?_); refine Be ?hg (N := 3) ?hd (cs := #[.int .i64 a0_0, .int .i64 a0_1, .slice A0_2 l0_2.length c0_2]) (t := 50) ?hr ?_; (case hd => rfl); (case hg => rfl); (case hr => first | (go_simp; done) | (go_simp; rfl)); intro gb105 hg w5 hbox hb; have n0_ := Aa.mk (Ao (lU HB.out) hb); have n1_ := Aa.mk (hbox); have n2_ := Aa.mk ((by rw [hg]; exact (Aj (lU HB.out)) : w.heap.size ≤ gb105)); have n3_ := Aa.mk ((by rw [hg]; exact (Aj (lU HB.out)) : w.heap.size ≤ gb105)); clear HB; have HB := n0_; have BK105 := n1_; have GW105 := n2_; have GE105 := n3_; clear n0_ n1_ n2_ n3_; clear hb hbox hg) | ((with_reducible refine Bh (N := 6) rfl ?_); refine Be ?hg (N := 6) ?hd (cs := #[.int .i64 0, .int .i64 0, .slice none 0 0]) (t := 50) ?hr ?_; (case hd => rfl); (case hg => rfl); (case hr => first | (go_simp; done) | (go_simp; rfl)); intro gb106 hg w6 hbox hb; have n0_ := Aa.mk (Ai (g := gb105) (o := .cells #[.int .i64 a0_0, .int .i64 a0_1, .slice A0_2 l0_2.length c0_2] 50 (0, 0)) (by exact bU <| BK105.out) hb); have n1_ := Aa.mk (Ao (by repeat (first | (with_reducible first | exact HB.out | apply Af | apply Ad | apply Ag | refine Ab ?_ GE105.out) | exact HB.out)) hb); have n2_ := Aa.mk (hbox); have n3_ := Aa.mk ((by rw [hg]; exact (Aj (by repeat (first | (with_reducible first | exact HB.out | apply Af | apply Ad | apply Ag | refine Ab ?_ GE105.out) | exact HB.out))) : w.heap.size ≤ gb106)); have n4_ := Aa.mk ((by rw [hg]; exact (Aj (by repeat (first | (with_reducible first | exact HB.out | apply Af | apply Ad | apply Ag | refine Ab ?_ GE105.out) | exact HB.out))) : w.heap.size ≤ gb106)); have n5_ := Aa.mk ((by rw [hg]; exact Nat.ne_of_lt (Az (g := gb105) (o := .cells #[.int .i64 a0_0, .int .i64 a0_1, .slice A0_2 l0_2.length c0_2] 50 (0, 0)) (by exact bU <| BK105.out)) : gb105 ≠ gb106)); have n6_ := Aa.mk ((by rw [hg]; exact Nat.ne_of_gt (Az (g := gb105) (o := .cells #[.int .i64 a0_0, .int .i64 a0_1, .slice A0_2 l0_2.length c0_2] 50 (0, 0)) (by exact bU <| BK105.out)) : gb106 ≠ gb105)); clear BK105; clear HB; have BK105 := n0_; have HB := n1_; have BK106 := n2_; have GW106 := n3_; have GE106 := n4_; have NB105_106 := n5_; have NB106_105 := n6_; clear n0_ n1_ n2_ n3_ n4_ n5_ n6_; clear hb hbox hg; have hnb7 := NB105_106.out; have hnc7 := NB106_105.out; have hcz8_0 : w6.cell? ⟨gb105, 0, none⟩ = some (.int .i64 a0_0) := (Ae BK105.out 0).trans rfl; have hcz8_1 : w6.cell? ⟨gb105, 1, none⟩ = some (.int .i64 a0_1) := (Ae BK105.out 1).trans rfl; have hcz8_2 : w6.cell? ⟨gb105, 2, none⟩ = some (.slice A0_2 l0_2.length c0_2) := (Ae BK105.out 2).trans rfl; have hfz8_0 := Ac BK105.out 0; have hfz8_1 := Ac BK105.out 1; have hfz8_2 := Ac BK105.out 2) | ((with_reducible refine Bj (f := 82) rfl ?_); refine B9 (some 11) rfl rfl Try.func82 (by kernel_rfl) rfl #[.agg #[.int .i64 a0_0, .int .i64 a0_1, .slice A0_2 l0_2.length c0_2], .int .i64 a1, .int .i64 a2] rfl (by (try simp only [List.map_toArray, List.map_cons, List.map_nil]); first | done | rfl | (simp only [List.length_drop, List.length_take]; rfl)) ?_; (with_reducible refine (B4.calls k a0_0 a0_1 _ _ l0_2 a1 a2 t107 t108 t109 t112 _ ?side1 ?side2 A4.out).mono ?_); (case side1 => repeat (first | exact (Kd.B7 HR0_2.out HB.out) | (with_reducible refine Kd.Bo ?_ _) | (with_reducible refine Kd.Bt ?_ _) | (with_reducible refine Kd.B3 ?_))); (case side2 => exact HC0_2.out); rintro e w9 ⟨v110, rfl, ho0, hb⟩; refine ⟨_, rfl, ?_⟩; have n0_ := Aa.mk (Kd.B8 ho0 (Aj (by repeat (first | (with_reducible first | exact HB.out | apply Af | apply Ad | apply Ag | refine Ab ?_ GE105.out | refine Ab ?_ GE106.out) | exact HB.out)))); have n1_ := Aa.mk (Ai (g := gb105) (o := .cells #[.int .i64 a0_0, .int .i64 a0_1, .slice A0_2 l0_2.length c0_2] 50 (0, 0)) (by exact bU <| BK105.out) hb); have n2_ := Aa.mk (Ai (g := gb106) (o := .cells #[.int .i64 0, .int .i64 0, .slice none 0 0] 50 (0, 0)) (by exact bU <| BK106.out) hb); have n3_ := Aa.mk (Ao (by repeat (first | (with_reducible first | exact HB.out | apply Af | apply Ad | apply Ag | refine Ab ?_ GE105.out | refine Ab ?_ GE106.out) | exact HB.out)) hb); clear BK105; clear BK106; clear HB; have HO111 := n0_; have BK105 := n1_; have BK106 := n2_; have HB := n3_; clear n0_ n1_ n2_ n3_; (try clear hb); (try clear hb2); (try clear hk); (try clear hi); (try clear ho0); have hcz10_0 : w9.cell? ⟨gb106, 0, none⟩ = some (.int .i64 0) := (Ae BK106.out 0).trans rfl; have hcz10_1 : w9.cell? ⟨gb106, 1, none⟩ = some (.int .i64 0) := (Ae BK106.out 1).trans rfl; have hcz10_2 : w9.cell? ⟨gb106, 2, none⟩ = some (.slice none 0 0) := (Ae BK106.out 2).trans rfl; have hfz10_0 := Ac BK106.out 0; have hfz10_1 := Ac BK106.out 1; have hfz10_2 := Ac BK106.out 2; obtain ⟨Ao11, co11, eo11⟩ := Kd.B6 HO111.out; subst eo11))
 refine bodyPost_ret (results_ct rfl _ _ gb106 50 #[.int .i64 t107, .int .i64 t108, .slice Ao11 t109.length co11] (0, 0) _ rfl (by (with_reducible repeat (first | refine Am ?_ _ | refine An ?_ | refine Ah ?_ _)); refine Bk (cs := #[.int .i64 t107, .int .i64 t108, .slice none 0 0]) ?_ 2 _ rfl; (with_reducible repeat (first | refine Am ?_ _ | refine An ?_ | refine Ah ?_ _)); refine Bk (cs := #[.int .i64 t107, .int .i64 0, .slice none 0 0]) ?_ 1 _ rfl; (with_reducible repeat (first | refine Am ?_ _ | refine An ?_ | refine Ah ?_ _)); refine Bk (cs := #[.int .i64 0, .int .i64 0, .slice none 0 0]) ?_ 0 _ rfl; exact bU <| BK106.out) Try.underlying50 rfl (by kernel_rfl)) rfl ?_
 exact ⟨_, by first | rfl | (simp [Ba, Bb] <;> rfl) | (simp [*, Ba, Bb] <;> rfl), by exact rU <| Kd.Ay (Kd.At (p := ⟨gb106, 2, none⟩) (Kd.At (p := ⟨gb106, 1, none⟩) (Kd.At (p := ⟨gb106, 0, none⟩) (Kd.Bf HO111.out BK106.out (by decide)) (fun _ hk => hk.2) (.int .i64 t107)) (fun _ hk => hk.2) (.int .i64 t108)) (fun _ hk => hk.2) (.slice Ao11 t109.length co11)) (fun _ hk => trivial), by repeat (first | (with_reducible first | exact HB.out | apply Af | apply Ad | apply Ag | refine Ab ?_ GE105.out | refine Ab ?_ GE106.out) | exact HB.out)⟩

def Aq.l0 : Nat → Int → Int → Int → List Bool → Int → Int → List Bool → Option (Bool)
 | 0, _, _, _, _, _, _, _ => none
 | k + 1, x5, x114000, x114001, x114002, x115000, x115001, x115002 => if x5 < (x114002.length : Int) then (if 0 ≤ x5 then (if rdOf false x114002 x5 = true then (if x5 < (x115002.length : Int) then (if rdOf false x115002 x5 = true then (Aq.l0 k (wrap64 (x5 + 1)) x114000 x114001 x114002 x115000 x115001 x115002) else (some false)) else (none)) else (Aq.l0 k (wrap64 (x5 + 1)) x114000 x114001 x114002 x115000 x115001 x115002)) else (none)) else (some true)
def Aq.f (k : Nat) (a0_0 : Int) (a0_1 : Int) (l0_2 : List Bool) (a1_0 : Int) (a1_1 : Int) (l1_2 : List Bool) : Option (Bool) := if (l0_2.length : Int) = (l1_2.length : Int) then (Aq.l0 k 0 a0_0 a0_1 l0_2 a1_0 a1_1 l1_2) else (some false)
set_option maxHeartbeats 8000000 in
set_option maxRecDepth 100000 in
theorem Aq.calls (k : Nat) (a0_0 : Int) (a0_1 : Int) (A0_2 : Option Addr) (c0_2 : Nat) (l0_2 : List Bool) (a1_0 : Int) (a1_1 : Int) (A1_2 : Option Addr) (c1_2 : Nat) (l1_2 : List Bool) (r : Bool) (w : World) (hr0_2 : Kd.C Kd.bool w A0_2 l0_2.length l0_2) (hc0_2 : l0_2.length ≤ c0_2) (hr1_2 : Kd.C Kd.bool w A1_2 l1_2.length l1_2) (hc1_2 : l1_2.length ≤ c1_2) (h : Aq.f k a0_0 a0_1 l0_2 a1_0 a1_1 l1_2 = some r) :
  Calls Try.prog 39 #[.agg #[.int .i64 a0_0, .int .i64 a0_1, .slice A0_2 l0_2.length c0_2], .agg #[.int .i64 a1_0, .int .i64 a1_1, .slice A1_2 l1_2.length c1_2]] w fun e w' => e = .returned (.bool r) ∧ Below w.heap.size w w' := by
 have hu50 := Try.underlying50
 have HR0_2 := Aa.mk hr0_2
 have HC0_2 := Aa.mk hc0_2
 clear hr0_2 hc0_2
 have HR1_2 := Aa.mk hr1_2
 have HC1_2 := Aa.mk hc1_2
 clear hr1_2 hc1_2
 have HB := Aa.mk (Below.refl w.heap.size w)
 have H : (if (l0_2.length : Int) = (l1_2.length : Int) then (Aq.l0 k 0 a0_0 a0_1 l0_2 a1_0 a1_1 l1_2) else (some false)) = some r := h
 clear h
 by_cases c3 : (l0_2.length : Int) = (l1_2.length : Int)
 ·rw [if_pos c3] at H
  have c3b0 : ((l0_2.length : Int) == (l1_2.length : Int)) = true := beq_iff_eq.mpr c3
  have c3b1 : ((l0_2.length : Int) != (l1_2.length : Int)) = false := bne_eq_false_iff_eq.mpr c3
  have c3b2 : (l0_2.length == l1_2.length) = true := by first | simpa using c3 | (simp at c3 ⊢; omega)
  clear c3
  have H' := Aa.mk H
  clear H
  go_enter Try.func39, Try.ntmps39
  go_wp2_with (first | ((with_reducible refine Bh (N := 2) rfl ?_); refine Be ?hg (N := 2) ?hd (cs := #[.int .i64 a0_0, .int .i64 a0_1, .slice A0_2 l0_2.length c0_2]) (t := 50) ?hr ?_; (case hd => rfl); (case hg => rfl); (case hr => first | (go_simp; done) | (go_simp; rfl)); intro gb113 hg w4 hbox hb; have n0_ := Aa.mk (Ao (lU HB.out) hb); have n1_ := Aa.mk (hbox); have n2_ := Aa.mk ((by rw [hg]; exact (Aj (lU HB.out)) : w.heap.size ≤ gb113)); have n3_ := Aa.mk ((by rw [hg]; exact (Aj (lU HB.out)) : w.heap.size ≤ gb113)); clear HB; have HB := n0_; have BK113 := n1_; have GW113 := n2_; have GE113 := n3_; clear n0_ n1_ n2_ n3_; clear hb hbox hg) | ((with_reducible refine Bh (N := 3) rfl ?_); refine Be ?hg (N := 3) ?hd (cs := #[.int .i64 a1_0, .int .i64 a1_1, .slice A1_2 l1_2.length c1_2]) (t := 50) ?hr ?_; (case hd => rfl); (case hg => rfl); (case hr => first | (go_simp; done) | (go_simp; rfl)); intro gb114 hg w5 hbox hb; have n0_ := Aa.mk (Ai (g := gb113) (o := .cells #[.int .i64 a0_0, .int .i64 a0_1, .slice A0_2 l0_2.length c0_2] 50 (0, 0)) (by exact bU <| BK113.out) hb); have n1_ := Aa.mk (Ao (by repeat (first | (with_reducible first | exact HB.out | apply Af | apply Ad | apply Ag | refine Ab ?_ GE113.out) | exact HB.out)) hb); have n2_ := Aa.mk (hbox); have n3_ := Aa.mk ((by rw [hg]; exact (Aj (by repeat (first | (with_reducible first | exact HB.out | apply Af | apply Ad | apply Ag | refine Ab ?_ GE113.out) | exact HB.out))) : w.heap.size ≤ gb114)); have n4_ := Aa.mk ((by rw [hg]; exact (Aj (by repeat (first | (with_reducible first | exact HB.out | apply Af | apply Ad | apply Ag | refine Ab ?_ GE113.out) | exact HB.out))) : w.heap.size ≤ gb114)); have n5_ := Aa.mk ((by rw [hg]; exact Nat.ne_of_lt (Az (g := gb113) (o := .cells #[.int .i64 a0_0, .int .i64 a0_1, .slice A0_2 l0_2.length c0_2] 50 (0, 0)) (by exact bU <| BK113.out)) : gb113 ≠ gb114)); have n6_ := Aa.mk ((by rw [hg]; exact Nat.ne_of_gt (Az (g := gb113) (o := .cells #[.int .i64 a0_0, .int .i64 a0_1, .slice A0_2 l0_2.length c0_2] 50 (0, 0)) (by exact bU <| BK113.out)) : gb114 ≠ gb113)); clear BK113; clear HB; have BK113 := n0_; have HB := n1_; have BK114 := n2_; have GW114 := n3_; have GE114 := n4_; have NB113_114 := n5_; have NB114_113 := n6_; clear n0_ n1_ n2_ n3_ n4_ n5_ n6_; clear hb hbox hg; have hnb6 := NB113_114.out; have hnc6 := NB114_113.out; have hcz7_0 : w5.cell? ⟨gb113, 0, none⟩ = some (.int .i64 a0_0) := (Ae BK113.out 0).trans rfl; have hcz7_1 : w5.cell? ⟨gb113, 1, none⟩ = some (.int .i64 a0_1) := (Ae BK113.out 1).trans rfl; have hcz7_2 : w5.cell? ⟨gb113, 2, none⟩ = some (.slice A0_2 l0_2.length c0_2) := (Ae BK113.out 2).trans rfl; have hfz7_0 := Ac BK113.out 0; have hfz7_1 := Ac BK113.out 1; have hfz7_2 := Ac BK113.out 2; have hcz8_0 : w5.cell? ⟨gb114, 0, none⟩ = some (.int .i64 a1_0) := (Ae BK114.out 0).trans rfl; have hcz8_1 : w5.cell? ⟨gb114, 1, none⟩ = some (.int .i64 a1_1) := (Ae BK114.out 1).trans rfl; have hcz8_2 : w5.cell? ⟨gb114, 2, none⟩ = some (.slice A1_2 l1_2.length c1_2) := (Ae BK114.out 2).trans rfl; have hfz8_0 := Ac BK114.out 0; have hfz8_1 := Ac BK114.out 1; have hfz8_2 := Ac BK114.out 2))
  go_loopg [5] k (fun kq v5 w' => ∃ (x5_1 : Int), v5 = .int .i64 x5_1 ∧ Aa (Aq.l0 kq x5_1 a0_0 a0_1 l0_2 a1_0 a1_1 l1_2 = some r) ∧ Aa (kq ≤ k) ∧ Aa (w'.heap[gb113]? = some (.cells #[.int .i64 a0_0, .int .i64 a0_1, (.slice A0_2 l0_2.length c0_2)] 50 (0, 0))) ∧ Aa (w'.heap[gb114]? = some (.cells #[.int .i64 a1_0, .int .i64 a1_1, (.slice A1_2 l1_2.length c1_2)] 50 (0, 0))) ∧ Aa (Below w.heap.size w w'))
  case atStart => exact ⟨(0), (by first | rfl | (simp; done) | (simp [*]; done)), H', ⟨Nat.le_refl _⟩, ⟨by exact bU <| BK113.out⟩, ⟨by exact bU <| BK114.out⟩, ⟨by repeat (first | (with_reducible first | exact HB.out | apply Af | apply Ad | apply Ag | refine Ab ?_ GE113.out | refine Ab ?_ GE114.out) | exact HB.out)⟩⟩
  case round =>
   clear H'
   try clear c1
   try clear p2
   try clear c3
   try clear c3b0
   try clear c3b1
   try clear c3b2
   try clear c6
   try clear hcz7_0
   try clear hcz7_1
   try clear hcz7_2
   try clear hcz8_0
   try clear hcz8_1
   try clear hcz8_2
   try clear hfz7_0
   try clear hfz7_1
   try clear hfz7_2
   try clear hfz8_0
   try clear hfz8_1
   try clear hfz8_2
   obtain ⟨x5_1, rfl, HA, HK1, BK113, BK114, HB⟩ := hrel
   cases gk with
   | zero => exact absurd HA.out (by simp [Aq.l0])
   | succ k1 =>
    have H := HA.out
    clear HA
    simp only [Aq.l0] at H
    by_cases c9 : x5_1 < (l0_2.length : Int)
    ·rw [if_pos c9] at H
     have c9b0 : decide (x5_1 < (l0_2.length : Int)) = true := decide_eq_true c9
     clear c9
     by_cases c10 : 0 ≤ x5_1
     ·rw [if_pos c10] at H
      have c10b0 : decide (0 ≤ x5_1) = true := decide_eq_true c10
      clear c10
      obtain ⟨bq11, hbq11⟩ : ∃ b_ : Bool, b_ = (rdOf false l0_2 x5_1) := ⟨_, rfl⟩
      replace H : (if bq11 = true then (if x5_1 < (l1_2.length : Int) then (if rdOf false l1_2 x5_1 = true then (Aq.l0 k1 (wrap64 (x5_1 + 1)) a0_0 a0_1 l0_2 a1_0 a1_1 l1_2) else (some false)) else (none)) else (Aq.l0 k1 (wrap64 (x5_1 + 1)) a0_0 a0_1 l0_2 a1_0 a1_1 l1_2)) = some r := by rw [← hbq11] at H; exact H
      have Nbq11 := Aa.mk hbq11
      clear hbq11
      by_cases c12 : bq11 = true
      ·subst c12
       have H1 : (if x5_1 < (l1_2.length : Int) then (if rdOf false l1_2 x5_1 = true then (Aq.l0 k1 (wrap64 (x5_1 + 1)) a0_0 a0_1 l0_2 a1_0 a1_1 l1_2) else (some false)) else (none)) = some r := by rw [if_pos rfl] at H; exact H
       clear H
       have H := H1
       clear H1
       by_cases c13 : x5_1 < (l1_2.length : Int)
       ·rw [if_pos c13] at H
        have c13b0 : decide (x5_1 < (l1_2.length : Int)) = true := decide_eq_true c13
        clear c13
        obtain ⟨bq14, hbq14⟩ : ∃ b_ : Bool, b_ = (rdOf false l1_2 x5_1) := ⟨_, rfl⟩
        replace H : (if bq14 = true then (Aq.l0 k1 (wrap64 (x5_1 + 1)) a0_0 a0_1 l0_2 a1_0 a1_1 l1_2) else (some false)) = some r := by rw [← hbq14] at H; exact H
        have Nbq14 := Aa.mk hbq14
        clear hbq14
        by_cases c15 : bq14 = true
        ·subst c15
         have H1 : (Aq.l0 k1 (wrap64 (x5_1 + 1)) a0_0 a0_1 l0_2 a1_0 a1_1 l1_2) = some r := by rw [if_pos rfl] at H; exact H
         clear H
         have H := H1
         clear H1
         have H' := Aa.mk H
         clear H
         have hnb16 := NB113_114.out
         have hnc16 := NB114_113.out
         have hcz17_0 : wr.cell? ⟨gb113, 0, none⟩ = some (.int .i64 a0_0) := (Ae BK113.out 0).trans rfl
         have hcz17_1 : wr.cell? ⟨gb113, 1, none⟩ = some (.int .i64 a0_1) := (Ae BK113.out 1).trans rfl
         have hcz17_2 : wr.cell? ⟨gb113, 2, none⟩ = some (.slice A0_2 l0_2.length c0_2) := (Ae BK113.out 2).trans rfl
         have hfz17_0 := Ac BK113.out 0
         have hfz17_1 := Ac BK113.out 1
         have hfz17_2 := Ac BK113.out 2
         have p115 : 0 ≤ (x5_1 : Int) := of_decide_eq_true (by first | (with_reducible assumption) | assumption)
         have q115 : x5_1 < (l0_2.length : Int) := of_decide_eq_true (by first | (with_reducible assumption) | assumption)
         obtain ⟨ad115, e115, hx115_0⟩ := Kd.at_bool HR0_2.out x5_1 p115 q115
         (try rw [← Nbq11.out] at hx115_0)
         (try rw [← Nbq14.out] at hx115_0)
         cases e115
         replace hx115_0 := (HB.out.cell (World.block_lt_of_cell? w _ hx115_0)).trans hx115_0
         replace p115 := eq_true p115
         replace q115 := eq_true q115
         have hcz18_0 : wr.cell? ⟨gb114, 0, none⟩ = some (.int .i64 a1_0) := (Ae BK114.out 0).trans rfl
         have hcz18_1 : wr.cell? ⟨gb114, 1, none⟩ = some (.int .i64 a1_1) := (Ae BK114.out 1).trans rfl
         have hcz18_2 : wr.cell? ⟨gb114, 2, none⟩ = some (.slice A1_2 l1_2.length c1_2) := (Ae BK114.out 2).trans rfl
         have hfz18_0 := Ac BK114.out 0
         have hfz18_1 := Ac BK114.out 1
         have hfz18_2 := Ac BK114.out 2
         have p116 : 0 ≤ (x5_1 : Int) := of_decide_eq_true (by first | (with_reducible assumption) | assumption)
         have q116 : x5_1 < (l1_2.length : Int) := of_decide_eq_true (by first | (with_reducible assumption) | assumption)
         obtain ⟨ad116, e116, hx116_0⟩ := Kd.at_bool HR1_2.out x5_1 p116 q116
         (try rw [← Nbq11.out] at hx116_0)
         (try rw [← Nbq14.out] at hx116_0)
         cases e116
         replace hx116_0 := (HB.out.cell (World.block_lt_of_cell? w _ hx116_0)).trans hx116_0
         replace p116 := eq_true p116
         replace q116 := eq_true q116
         go_wp2
         go_roundg k1
         case measure => have := HK1.out; omega
         case rel => exact ⟨(wrap64 (x5_1 + 1)), (by first | rfl | (simp; done) | (simp [*]; done)), H', ⟨by have := HK1.out; omega⟩, ⟨by exact bU <| BK113.out⟩, ⟨by exact bU <| BK114.out⟩, ⟨by repeat (first | (with_reducible first | exact HB.out | apply Af | apply Ad | apply Ag | refine Ab ?_ GE113.out | refine Ab ?_ GE114.out) | exact HB.out)⟩⟩
        ·replace c15 := Bool.eq_false_iff.mpr c15
         subst c15
         have H1 : (some false) = some r := by rw [if_neg (show ¬ (false = true) by decide)] at H; exact H
         clear H
         have H := H1
         clear H1
         obtain rfl := Option.some.inj H
         have hnb19 := NB113_114.out
         have hnc19 := NB114_113.out
         have hcz20_0 : wr.cell? ⟨gb113, 0, none⟩ = some (.int .i64 a0_0) := (Ae BK113.out 0).trans rfl
         have hcz20_1 : wr.cell? ⟨gb113, 1, none⟩ = some (.int .i64 a0_1) := (Ae BK113.out 1).trans rfl
         have hcz20_2 : wr.cell? ⟨gb113, 2, none⟩ = some (.slice A0_2 l0_2.length c0_2) := (Ae BK113.out 2).trans rfl
         have hfz20_0 := Ac BK113.out 0
         have hfz20_1 := Ac BK113.out 1
         have hfz20_2 := Ac BK113.out 2
         have p115 : 0 ≤ (x5_1 : Int) := of_decide_eq_true (by first | (with_reducible assumption) | assumption)
         have q115 : x5_1 < (l0_2.length : Int) := of_decide_eq_true (by first | (with_reducible assumption) | assumption)
         obtain ⟨ad115, e115, hx115_0⟩ := Kd.at_bool HR0_2.out x5_1 p115 q115
         (try rw [← Nbq11.out] at hx115_0)
         (try rw [← Nbq14.out] at hx115_0)
         cases e115
         replace hx115_0 := (HB.out.cell (World.block_lt_of_cell? w _ hx115_0)).trans hx115_0
         replace p115 := eq_true p115
         replace q115 := eq_true q115
         have hcz21_0 : wr.cell? ⟨gb114, 0, none⟩ = some (.int .i64 a1_0) := (Ae BK114.out 0).trans rfl
         have hcz21_1 : wr.cell? ⟨gb114, 1, none⟩ = some (.int .i64 a1_1) := (Ae BK114.out 1).trans rfl
         have hcz21_2 : wr.cell? ⟨gb114, 2, none⟩ = some (.slice A1_2 l1_2.length c1_2) := (Ae BK114.out 2).trans rfl
         have hfz21_0 := Ac BK114.out 0
         have hfz21_1 := Ac BK114.out 1
         have hfz21_2 := Ac BK114.out 2
         have p116 : 0 ≤ (x5_1 : Int) := of_decide_eq_true (by first | (with_reducible assumption) | assumption)
         have q116 : x5_1 < (l1_2.length : Int) := of_decide_eq_true (by first | (with_reducible assumption) | assumption)
         obtain ⟨ad116, e116, hx116_0⟩ := Kd.at_bool HR1_2.out x5_1 p116 q116
         (try rw [← Nbq11.out] at hx116_0)
         (try rw [← Nbq14.out] at hx116_0)
         cases e116
         replace hx116_0 := (HB.out.cell (World.block_lt_of_cell? w _ hx116_0)).trans hx116_0
         replace p116 := eq_true p116
         replace q116 := eq_true q116
         go_wp2
         go_ret
         exact ⟨by first | rfl | (simp [Ba, Bb] <;> rfl) | (simp [*, Ba, Bb] <;> rfl), by repeat (first | (with_reducible first | exact HB.out | apply Af | apply Ad | apply Ag | refine Ab ?_ GE113.out | refine Ab ?_ GE114.out) | exact HB.out)⟩
       ·rw [if_neg c13] at H
        exact absurd H (by simp)
      ·replace c12 := Bool.eq_false_iff.mpr c12
       subst c12
       have H1 : (Aq.l0 k1 (wrap64 (x5_1 + 1)) a0_0 a0_1 l0_2 a1_0 a1_1 l1_2) = some r := by rw [if_neg (show ¬ (false = true) by decide)] at H; exact H
       clear H
       have H := H1
       clear H1
       have H' := Aa.mk H
       clear H
       have hnb22 := NB113_114.out
       have hnc22 := NB114_113.out
       have hcz23_0 : wr.cell? ⟨gb113, 0, none⟩ = some (.int .i64 a0_0) := (Ae BK113.out 0).trans rfl
       have hcz23_1 : wr.cell? ⟨gb113, 1, none⟩ = some (.int .i64 a0_1) := (Ae BK113.out 1).trans rfl
       have hcz23_2 : wr.cell? ⟨gb113, 2, none⟩ = some (.slice A0_2 l0_2.length c0_2) := (Ae BK113.out 2).trans rfl
       have hfz23_0 := Ac BK113.out 0
       have hfz23_1 := Ac BK113.out 1
       have hfz23_2 := Ac BK113.out 2
       have p115 : 0 ≤ (x5_1 : Int) := of_decide_eq_true (by first | (with_reducible assumption) | assumption)
       have q115 : x5_1 < (l0_2.length : Int) := of_decide_eq_true (by first | (with_reducible assumption) | assumption)
       obtain ⟨ad115, e115, hx115_0⟩ := Kd.at_bool HR0_2.out x5_1 p115 q115
       (try rw [← Nbq11.out] at hx115_0)
       cases e115
       replace hx115_0 := (HB.out.cell (World.block_lt_of_cell? w _ hx115_0)).trans hx115_0
       replace p115 := eq_true p115
       replace q115 := eq_true q115
       go_wp2
       go_roundg k1
       case measure => have := HK1.out; omega
       case rel => exact ⟨(wrap64 (x5_1 + 1)), (by first | rfl | (simp; done) | (simp [*]; done)), H', ⟨by have := HK1.out; omega⟩, ⟨by exact bU <| BK113.out⟩, ⟨by exact bU <| BK114.out⟩, ⟨by repeat (first | (with_reducible first | exact HB.out | apply Af | apply Ad | apply Ag | refine Ab ?_ GE113.out | refine Ab ?_ GE114.out) | exact HB.out)⟩⟩
     ·rw [if_neg c10] at H
      exact absurd H (by simp)
    ·rw [if_neg c9] at H
     have c9b0 : decide (x5_1 < (l0_2.length : Int)) = false := decide_eq_false c9
     clear c9
     obtain rfl := Option.some.inj H
     have hnb24 := NB113_114.out
     have hnc24 := NB114_113.out
     have hcz25_0 : wr.cell? ⟨gb113, 0, none⟩ = some (.int .i64 a0_0) := (Ae BK113.out 0).trans rfl
     have hcz25_1 : wr.cell? ⟨gb113, 1, none⟩ = some (.int .i64 a0_1) := (Ae BK113.out 1).trans rfl
     have hcz25_2 : wr.cell? ⟨gb113, 2, none⟩ = some (.slice A0_2 l0_2.length c0_2) := (Ae BK113.out 2).trans rfl
     have hfz25_0 := Ac BK113.out 0
     have hfz25_1 := Ac BK113.out 1
     have hfz25_2 := Ac BK113.out 2
     go_wp2
     go_ret
     exact ⟨by first | rfl | (simp [Ba, Bb] <;> rfl) | (simp [*, Ba, Bb] <;> rfl), by repeat (first | (with_reducible first | exact HB.out | apply Af | apply Ad | apply Ag | refine Ab ?_ GE113.out | refine Ab ?_ GE114.out) | exact HB.out)⟩
 ·rw [if_neg c3] at H
  have c3b0 : ((l0_2.length : Int) == (l1_2.length : Int)) = false := beq_eq_false_iff_ne.mpr c3
  have c3b1 : ((l0_2.length : Int) != (l1_2.length : Int)) = true := bne_iff_ne.mpr c3
  have c3b2 : (l0_2.length == l1_2.length) = false := by first | simpa using c3 | (simp at c3 ⊢; omega)
  obtain rfl := Option.some.inj H
  go_enter Try.func39, Try.ntmps39
  go_wp2_with (first | ((with_reducible refine Bh (N := 2) rfl ?_); refine Be ?hg (N := 2) ?hd (cs := #[.int .i64 a0_0, .int .i64 a0_1, .slice A0_2 l0_2.length c0_2]) (t := 50) ?hr ?_; (case hd => rfl); (case hg => rfl); (case hr => first | (go_simp; done) | (go_simp; rfl)); intro gb113 hg w26 hbox hb; have n0_ := Aa.mk (Ao (lU HB.out) hb); have n1_ := Aa.mk (hbox); have n2_ := Aa.mk ((by rw [hg]; exact (Aj (lU HB.out)) : w.heap.size ≤ gb113)); have n3_ := Aa.mk ((by rw [hg]; exact (Aj (lU HB.out)) : w.heap.size ≤ gb113)); clear HB; have HB := n0_; have BK113 := n1_; have GW113 := n2_; have GE113 := n3_; clear n0_ n1_ n2_ n3_; clear hb hbox hg) | ((with_reducible refine Bh (N := 3) rfl ?_); refine Be ?hg (N := 3) ?hd (cs := #[.int .i64 a1_0, .int .i64 a1_1, .slice A1_2 l1_2.length c1_2]) (t := 50) ?hr ?_; (case hd => rfl); (case hg => rfl); (case hr => first | (go_simp; done) | (go_simp; rfl)); intro gb114 hg w27 hbox hb; have n0_ := Aa.mk (Ai (g := gb113) (o := .cells #[.int .i64 a0_0, .int .i64 a0_1, .slice A0_2 l0_2.length c0_2] 50 (0, 0)) (by exact bU <| BK113.out) hb); have n1_ := Aa.mk (Ao (by repeat (first | (with_reducible first | exact HB.out | apply Af | apply Ad | apply Ag | refine Ab ?_ GE113.out) | exact HB.out)) hb); have n2_ := Aa.mk (hbox); have n3_ := Aa.mk ((by rw [hg]; exact (Aj (by repeat (first | (with_reducible first | exact HB.out | apply Af | apply Ad | apply Ag | refine Ab ?_ GE113.out) | exact HB.out))) : w.heap.size ≤ gb114)); have n4_ := Aa.mk ((by rw [hg]; exact (Aj (by repeat (first | (with_reducible first | exact HB.out | apply Af | apply Ad | apply Ag | refine Ab ?_ GE113.out) | exact HB.out))) : w.heap.size ≤ gb114)); have n5_ := Aa.mk ((by rw [hg]; exact Nat.ne_of_lt (Az (g := gb113) (o := .cells #[.int .i64 a0_0, .int .i64 a0_1, .slice A0_2 l0_2.length c0_2] 50 (0, 0)) (by exact bU <| BK113.out)) : gb113 ≠ gb114)); have n6_ := Aa.mk ((by rw [hg]; exact Nat.ne_of_gt (Az (g := gb113) (o := .cells #[.int .i64 a0_0, .int .i64 a0_1, .slice A0_2 l0_2.length c0_2] 50 (0, 0)) (by exact bU <| BK113.out)) : gb114 ≠ gb113)); clear BK113; clear HB; have BK113 := n0_; have HB := n1_; have BK114 := n2_; have GW114 := n3_; have GE114 := n4_; have NB113_114 := n5_; have NB114_113 := n6_; clear n0_ n1_ n2_ n3_ n4_ n5_ n6_; clear hb hbox hg; have hnb28 := NB113_114.out; have hnc28 := NB114_113.out; have hcz29_0 : w27.cell? ⟨gb113, 0, none⟩ = some (.int .i64 a0_0) := (Ae BK113.out 0).trans rfl; have hcz29_1 : w27.cell? ⟨gb113, 1, none⟩ = some (.int .i64 a0_1) := (Ae BK113.out 1).trans rfl; have hcz29_2 : w27.cell? ⟨gb113, 2, none⟩ = some (.slice A0_2 l0_2.length c0_2) := (Ae BK113.out 2).trans rfl; have hfz29_0 := Ac BK113.out 0; have hfz29_1 := Ac BK113.out 1; have hfz29_2 := Ac BK113.out 2; have hcz30_0 : w27.cell? ⟨gb114, 0, none⟩ = some (.int .i64 a1_0) := (Ae BK114.out 0).trans rfl; have hcz30_1 : w27.cell? ⟨gb114, 1, none⟩ = some (.int .i64 a1_1) := (Ae BK114.out 1).trans rfl; have hcz30_2 : w27.cell? ⟨gb114, 2, none⟩ = some (.slice A1_2 l1_2.length c1_2) := (Ae BK114.out 2).trans rfl; have hfz30_0 := Ac BK114.out 0; have hfz30_1 := Ac BK114.out 1; have hfz30_2 := Ac BK114.out 2))
  go_ret
  exact ⟨by first | rfl | (simp [Ba, Bb] <;> rfl) | (simp [*, Ba, Bb] <;> rfl), by repeat (first | (with_reducible first | exact HB.out | apply Af | apply Ad | apply Ag | refine Ab ?_ GE113.out | refine Ab ?_ GE114.out) | exact HB.out)⟩

end Go.Proofs.Yteamphcehoaleaa.PFS

