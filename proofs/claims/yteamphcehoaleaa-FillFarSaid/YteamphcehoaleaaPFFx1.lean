import Derived.Test.YteamphcehoaleaaPFFx0
namespace Go.Proofs.Yteamphcehoaleaa.PFF
open Go.Proofs.Yteamphcehoaleaa.PFA Go.Proofs.Yteamphcehoaleaa.PFK
open Go.RowKit Go.Proofs.YteamphcehoaleaaW.PrintWords Go.Proofs.YteamphcehoaleaaW.PrintLast Go.Proofs.YteamphcehoaleaaW.PrintMore
attribute [local go_sem] max2_int min2_int max_two min_two max_three min_three max_four min_four   -- for this text's walks alone
set_option linter.unusedVariables false
set_option linter.unusedSimpArgs false

def Cq.f (a0 : Int) (a1 : Int) : Option (Bool) := if a0 ≥ 1 then (if a0 ≤ 1024 then (if a1 ≥ 1 then (if a1 ≤ 1024 then (some (decide ((wrap64 (a0 * a1)) ≤ 65536))) else (some false)) else (some false)) else (some false)) else (some false)
set_option maxHeartbeats 8000000 in
set_option maxRecDepth 100000 in
theorem Cq.calls (a0 : Int) (a1 : Int) (r : Bool) (w : World) (h : Cq.f a0 a1 = some r) :
  Calls Try.prog 90 #[.int .i64 a0, .int .i64 a1] w fun e w' => e = .returned (.bool r) ∧ Drawn0 w w' := by
 have H : (if a0 ≥ 1 then (if a0 ≤ 1024 then (if a1 ≥ 1 then (if a1 ≤ 1024 then (some (decide ((wrap64 (a0 * a1)) ≤ 65536))) else (some false)) else (some false)) else (some false)) else (some false)) = some r := h
 clear h
 by_cases c3 : a0 ≥ 1
 ·rw [if_pos c3] at H
  have c3b0 : decide (1 ≤ a0) = true := decide_eq_true c3
  clear c3
  by_cases c4 : a0 ≤ 1024
  ·rw [if_pos c4] at H
   have c4b0 : decide (a0 ≤ 1024) = true := decide_eq_true c4
   clear c4
   by_cases c5 : a1 ≥ 1
   ·rw [if_pos c5] at H
    have c5b0 : decide (1 ≤ a1) = true := decide_eq_true c5
    clear c5
    by_cases c6 : a1 ≤ 1024
    ·rw [if_pos c6] at H
     have c6b0 : decide (a1 ≤ 1024) = true := decide_eq_true c6
     clear c6
     obtain rfl := Option.some.inj H
     go_enter Try.func90, Try.ntmps90
     go_wp2
     go_ret
     exact ⟨by first | rfl | (simp; done) | (simp [*]; done), by repeat (first | exact Drawn0.refl _ | apply Drawn0.step)⟩
    ·rw [if_neg c6] at H
     have c6b0 : decide (a1 ≤ 1024) = false := decide_eq_false c6
     clear c6
     obtain rfl := Option.some.inj H
     go_enter Try.func90, Try.ntmps90
     go_wp2
     go_ret
     exact ⟨by first | rfl | (simp; done) | (simp [*]; done), by repeat (first | exact Drawn0.refl _ | apply Drawn0.step)⟩
   ·rw [if_neg c5] at H
    have c5b0 : decide (1 ≤ a1) = false := decide_eq_false c5
    clear c5
    obtain rfl := Option.some.inj H
    go_enter Try.func90, Try.ntmps90
    go_wp2
    go_ret
    exact ⟨by first | rfl | (simp; done) | (simp [*]; done), by repeat (first | exact Drawn0.refl _ | apply Drawn0.step)⟩
  ·rw [if_neg c4] at H
   have c4b0 : decide (a0 ≤ 1024) = false := decide_eq_false c4
   clear c4
   obtain rfl := Option.some.inj H
   go_enter Try.func90, Try.ntmps90
   go_wp2
   go_ret
   exact ⟨by first | rfl | (simp; done) | (simp [*]; done), by repeat (first | exact Drawn0.refl _ | apply Drawn0.step)⟩
 ·rw [if_neg c3] at H
  have c3b0 : decide (1 ≤ a0) = false := decide_eq_false c3
  clear c3
  obtain rfl := Option.some.inj H
  go_enter Try.func90, Try.ntmps90
  go_wp2
  go_ret
  exact ⟨by first | rfl | (simp; done) | (simp [*]; done), by repeat (first | exact Drawn0.refl _ | apply Drawn0.step)⟩

def Cm.f (a0_0 : Int) (a0_1 : Int) (l0_2 : List Bool) : Option (Int) := (Cq.f a0_0 a0_1).bind fun t102 => (if t102 = true then (if (l0_2.length : Int) = (wrap64 (a0_0 * a0_1)) then (some 0) else (some 301)) else (some 300))
set_option maxHeartbeats 8000000 in
set_option maxRecDepth 100000 in
theorem Cm.calls (a0_0 : Int) (a0_1 : Int) (A0_2 : Option Addr) (c0_2 : Nat) (l0_2 : List Bool) (r : Int) (w : World) (hr0_2 : Kd.C Kd.bool w A0_2 l0_2.length l0_2) (hc0_2 : l0_2.length ≤ c0_2) (h : Cm.f a0_0 a0_1 l0_2 = some r) :
  Calls Try.prog 47 #[.agg #[.int .i64 a0_0, .int .i64 a0_1, .slice A0_2 l0_2.length c0_2]] w fun e w' => e = .returned (.int .i64 r) ∧ Below w.heap.size w w' := by
 have hu50 := Try.underlying50
 have HR0_2 := Aa.mk hr0_2
 have HC0_2 := Aa.mk hc0_2
 clear hr0_2 hc0_2
 have HB := Aa.mk (Below.refl w.heap.size w)
 have H : ((Cq.f a0_0 a0_1).bind fun t102 => (if t102 = true then (if (l0_2.length : Int) = (wrap64 (a0_0 * a0_1)) then (some 0) else (some 301)) else (some 300))) = some r := h
 clear h
 replace H := Option.bind_eq_some_iff.mp H
 obtain ⟨t102, A20, H⟩ := H
 replace H : (if t102 = true then (if (l0_2.length : Int) = (wrap64 (a0_0 * a0_1)) then (some 0) else (some 301)) else (some 300)) = some r := H
 have A2 := Aa.mk A20
 clear A20
 by_cases c3 : t102 = true
 ·subst c3
  have H1 : (if (l0_2.length : Int) = (wrap64 (a0_0 * a0_1)) then (some 0) else (some 301)) = some r := by rw [if_pos rfl] at H; exact H
  clear H
  have H := H1
  clear H1
  by_cases c4 : (l0_2.length : Int) = (wrap64 (a0_0 * a0_1))
  ·rw [if_pos c4] at H
   have c4b0 : ((l0_2.length : Int) == (wrap64 (a0_0 * a0_1))) = true := beq_iff_eq.mpr c4
   have c4b1 : ((l0_2.length : Int) != (wrap64 (a0_0 * a0_1))) = false := bne_eq_false_iff_eq.mpr c4
   clear c4
   obtain rfl := Option.some.inj H
   go_enter Try.func47, Try.ntmps47
   go_wp2_with (first | ((with_reducible refine Be (N := 1) rfl ?_); refine Bf ?hg (N := 1) ?hd (cs := #[.int .i64 a0_0, .int .i64 a0_1, .slice A0_2 l0_2.length c0_2]) (t := 50) ?hr ?_; (case hd => rfl); (case hg => rfl); (case hr => first | (go_simp; done) | (go_simp; rfl)); intro gb101 hg w5 hbox hb; have n0_ := Aa.mk (As (by repeat (first | (with_reducible first | exact HB.out | apply Ac | apply Ab | apply Ad) | exact HB.out)) hb); have n1_ := Aa.mk (hbox); have n2_ := Aa.mk ((by rw [hg]; exact (Ap (by repeat (first | (with_reducible first | exact HB.out | apply Ac | apply Ab | apply Ad) | exact HB.out))) : w.heap.size ≤ gb101)); have n3_ := Aa.mk ((by rw [hg]; exact (Ap (by repeat (first | (with_reducible first | exact HB.out | apply Ac | apply Ab | apply Ad) | exact HB.out))) : w.heap.size ≤ gb101)); clear HB; have HB := n0_; have BK101 := n1_; have GW101 := n2_; have GE101 := n3_; clear n0_ n1_ n2_ n3_; clear hb hbox hg; have hcz6_0 : w5.cell? ⟨gb101, 0, none⟩ = some (.int .i64 a0_0) := (Ag BK101.out 0).trans rfl; have hcz6_1 : w5.cell? ⟨gb101, 1, none⟩ = some (.int .i64 a0_1) := (Ag BK101.out 1).trans rfl; have hcz6_2 : w5.cell? ⟨gb101, 2, none⟩ = some (.slice A0_2 l0_2.length c0_2) := (Ag BK101.out 2).trans rfl; have hfz6_0 := Ae BK101.out 0; have hfz6_1 := Ae BK101.out 1; have hfz6_2 := Ae BK101.out 2) | ((with_reducible refine Br (f := 90) rfl ?_); refine Cg (some 7) rfl rfl Try.func90 (by kernel_rfl) rfl #[.int .i64 a0_0, .int .i64 a0_1] rfl (by (try simp only [List.map_toArray, List.map_cons, List.map_nil]); first | done | rfl | (simp only [List.length_drop, List.length_take]; rfl)) ?_; (with_reducible refine (Cq.calls a0_0 a0_1 true _ A2.out).mono ?_); rintro e w' ⟨rfl, ⟨nd, rfl⟩⟩; refine ⟨_, rfl, ?_⟩))
   go_ret
   exact ⟨by first | rfl | (simp [Bd, Bc] <;> rfl) | (simp [*, Bd, Bc] <;> rfl), by repeat (first | (with_reducible first | exact HB.out | apply Ac | apply Ab | apply Ad | refine Ah ?_ GE101.out) | exact HB.out)⟩
  ·rw [if_neg c4] at H
   have c4b0 : ((l0_2.length : Int) == (wrap64 (a0_0 * a0_1))) = false := beq_eq_false_iff_ne.mpr c4
   have c4b1 : ((l0_2.length : Int) != (wrap64 (a0_0 * a0_1))) = true := bne_iff_ne.mpr c4
   obtain rfl := Option.some.inj H
   go_enter Try.func47, Try.ntmps47
   go_wp2_with (first | ((with_reducible refine Be (N := 1) rfl ?_); refine Bf ?hg (N := 1) ?hd (cs := #[.int .i64 a0_0, .int .i64 a0_1, .slice A0_2 l0_2.length c0_2]) (t := 50) ?hr ?_; (case hd => rfl); (case hg => rfl); (case hr => first | (go_simp; done) | (go_simp; rfl)); intro gb101 hg w7 hbox hb; have n0_ := Aa.mk (As (by repeat (first | (with_reducible first | exact HB.out | apply Ac | apply Ab | apply Ad) | exact HB.out)) hb); have n1_ := Aa.mk (hbox); have n2_ := Aa.mk ((by rw [hg]; exact (Ap (by repeat (first | (with_reducible first | exact HB.out | apply Ac | apply Ab | apply Ad) | exact HB.out))) : w.heap.size ≤ gb101)); have n3_ := Aa.mk ((by rw [hg]; exact (Ap (by repeat (first | (with_reducible first | exact HB.out | apply Ac | apply Ab | apply Ad) | exact HB.out))) : w.heap.size ≤ gb101)); clear HB; have HB := n0_; have BK101 := n1_; have GW101 := n2_; have GE101 := n3_; clear n0_ n1_ n2_ n3_; clear hb hbox hg; have hcz8_0 : w7.cell? ⟨gb101, 0, none⟩ = some (.int .i64 a0_0) := (Ag BK101.out 0).trans rfl; have hcz8_1 : w7.cell? ⟨gb101, 1, none⟩ = some (.int .i64 a0_1) := (Ag BK101.out 1).trans rfl; have hcz8_2 : w7.cell? ⟨gb101, 2, none⟩ = some (.slice A0_2 l0_2.length c0_2) := (Ag BK101.out 2).trans rfl; have hfz8_0 := Ae BK101.out 0; have hfz8_1 := Ae BK101.out 1; have hfz8_2 := Ae BK101.out 2) | ((with_reducible refine Br (f := 90) rfl ?_); refine Cg (some 7) rfl rfl Try.func90 (by kernel_rfl) rfl #[.int .i64 a0_0, .int .i64 a0_1] rfl (by (try simp only [List.map_toArray, List.map_cons, List.map_nil]); first | done | rfl | (simp only [List.length_drop, List.length_take]; rfl)) ?_; (with_reducible refine (Cq.calls a0_0 a0_1 true _ A2.out).mono ?_); rintro e w' ⟨rfl, ⟨nd, rfl⟩⟩; refine ⟨_, rfl, ?_⟩))
   go_ret
   exact ⟨by first | rfl | (simp [Bd, Bc] <;> rfl) | (simp [*, Bd, Bc] <;> rfl), by repeat (first | (with_reducible first | exact HB.out | apply Ac | apply Ab | apply Ad | refine Ah ?_ GE101.out) | exact HB.out)⟩
 ·replace c3 := Bool.eq_false_iff.mpr c3
  subst c3
  have H1 : (some 300) = some r := by rw [if_neg (show ¬ (false = true) by decide)] at H; exact H
  clear H
  have H := H1
  clear H1
  obtain rfl := Option.some.inj H
  go_enter Try.func47, Try.ntmps47
  go_wp2_with (first | ((with_reducible refine Be (N := 1) rfl ?_); refine Bf ?hg (N := 1) ?hd (cs := #[.int .i64 a0_0, .int .i64 a0_1, .slice A0_2 l0_2.length c0_2]) (t := 50) ?hr ?_; (case hd => rfl); (case hg => rfl); (case hr => first | (go_simp; done) | (go_simp; rfl)); intro gb101 hg w9 hbox hb; have n0_ := Aa.mk (As (by repeat (first | (with_reducible first | exact HB.out | apply Ac | apply Ab | apply Ad) | exact HB.out)) hb); have n1_ := Aa.mk (hbox); have n2_ := Aa.mk ((by rw [hg]; exact (Ap (by repeat (first | (with_reducible first | exact HB.out | apply Ac | apply Ab | apply Ad) | exact HB.out))) : w.heap.size ≤ gb101)); have n3_ := Aa.mk ((by rw [hg]; exact (Ap (by repeat (first | (with_reducible first | exact HB.out | apply Ac | apply Ab | apply Ad) | exact HB.out))) : w.heap.size ≤ gb101)); clear HB; have HB := n0_; have BK101 := n1_; have GW101 := n2_; have GE101 := n3_; clear n0_ n1_ n2_ n3_; clear hb hbox hg; have hcz10_0 : w9.cell? ⟨gb101, 0, none⟩ = some (.int .i64 a0_0) := (Ag BK101.out 0).trans rfl; have hcz10_1 : w9.cell? ⟨gb101, 1, none⟩ = some (.int .i64 a0_1) := (Ag BK101.out 1).trans rfl; have hcz10_2 : w9.cell? ⟨gb101, 2, none⟩ = some (.slice A0_2 l0_2.length c0_2) := (Ag BK101.out 2).trans rfl; have hfz10_0 := Ae BK101.out 0; have hfz10_1 := Ae BK101.out 1; have hfz10_2 := Ae BK101.out 2) | ((with_reducible refine Br (f := 90) rfl ?_); refine Cg (some 7) rfl rfl Try.func90 (by kernel_rfl) rfl #[.int .i64 a0_0, .int .i64 a0_1] rfl (by (try simp only [List.map_toArray, List.map_cons, List.map_nil]); first | done | rfl | (simp only [List.length_drop, List.length_take]; rfl)) ?_; (with_reducible refine (Cq.calls a0_0 a0_1 false _ A2.out).mono ?_); rintro e w' ⟨rfl, ⟨nd, rfl⟩⟩; refine ⟨_, rfl, ?_⟩))
  go_ret
  exact ⟨by first | rfl | (simp [Bd, Bc] <;> rfl) | (simp [*, Bd, Bc] <;> rfl), by repeat (first | (with_reducible first | exact HB.out | apply Ac | apply Ab | apply Ad | refine Ah ?_ GE101.out) | exact HB.out)⟩

def Cb.f (a0_0 : Int) (a0_1 : Int) (l0_2 : List Bool) (a1 : Int) : Option (Bool) := (Cm.f a0_0 a0_1 l0_2).bind fun t104 => (if t104 = 0 then (if a1 = 4 then (some true) else (some (a1 == 8))) else (some false))
set_option maxHeartbeats 8000000 in
set_option maxRecDepth 100000 in
theorem Cb.calls (a0_0 : Int) (a0_1 : Int) (A0_2 : Option Addr) (c0_2 : Nat) (l0_2 : List Bool) (a1 : Int) (r : Bool) (w : World) (hr0_2 : Kd.C Kd.bool w A0_2 l0_2.length l0_2) (hc0_2 : l0_2.length ≤ c0_2) (h : Cb.f a0_0 a0_1 l0_2 a1 = some r) :
  Calls Try.prog 36 #[.agg #[.int .i64 a0_0, .int .i64 a0_1, .slice A0_2 l0_2.length c0_2], .int .i64 a1] w fun e w' => e = .returned (.bool r) ∧ Below w.heap.size w w' := by
 have hu50 := Try.underlying50
 have HR0_2 := Aa.mk hr0_2
 have HC0_2 := Aa.mk hc0_2
 clear hr0_2 hc0_2
 have HB := Aa.mk (Below.refl w.heap.size w)
 have H : ((Cm.f a0_0 a0_1 l0_2).bind fun t104 => (if t104 = 0 then (if a1 = 4 then (some true) else (some (a1 == 8))) else (some false))) = some r := h
 clear h
 replace H := Option.bind_eq_some_iff.mp H
 obtain ⟨t104, A30, H⟩ := H
 replace H : (if t104 = 0 then (if a1 = 4 then (some true) else (some (a1 == 8))) else (some false)) = some r := H
 have A3 := Aa.mk A30
 clear A30
 by_cases c4 : t104 = 0
 ·rw [if_pos c4] at H
  have c4b0 : (t104 == 0) = true := beq_iff_eq.mpr c4
  have c4b1 : (t104 != 0) = false := bne_eq_false_iff_eq.mpr c4
  clear c4
  by_cases c5 : a1 = 4
  ·rw [if_pos c5] at H
   have c5b0 : (a1 == 4) = true := beq_iff_eq.mpr c5
   have c5b1 : (a1 != 4) = false := bne_eq_false_iff_eq.mpr c5
   clear c5
   obtain rfl := Option.some.inj H
   go_enter Try.func36, Try.ntmps36
   go_wp2_with (first | ((with_reducible refine Be (N := 2) rfl ?_); refine Bf ?hg (N := 2) ?hd (cs := #[.int .i64 a0_0, .int .i64 a0_1, .slice A0_2 l0_2.length c0_2]) (t := 50) ?hr ?_; (case hd => rfl); (case hg => rfl); (case hr => first | (go_simp; done) | (go_simp; rfl)); intro gb103 hg w6 hbox hb; have n0_ := Aa.mk (As (by repeat (first | (with_reducible first | exact HB.out | apply Ac | apply Ab | apply Ad) | exact HB.out)) hb); have n1_ := Aa.mk (hbox); have n2_ := Aa.mk ((by rw [hg]; exact (Ap (by repeat (first | (with_reducible first | exact HB.out | apply Ac | apply Ab | apply Ad) | exact HB.out))) : w.heap.size ≤ gb103)); have n3_ := Aa.mk ((by rw [hg]; exact (Ap (by repeat (first | (with_reducible first | exact HB.out | apply Ac | apply Ab | apply Ad) | exact HB.out))) : w.heap.size ≤ gb103)); clear HB; have HB := n0_; have BK103 := n1_; have GW103 := n2_; have GE103 := n3_; clear n0_ n1_ n2_ n3_; clear hb hbox hg; have hcz7_0 : w6.cell? ⟨gb103, 0, none⟩ = some (.int .i64 a0_0) := (Ag BK103.out 0).trans rfl; have hcz7_1 : w6.cell? ⟨gb103, 1, none⟩ = some (.int .i64 a0_1) := (Ag BK103.out 1).trans rfl; have hcz7_2 : w6.cell? ⟨gb103, 2, none⟩ = some (.slice A0_2 l0_2.length c0_2) := (Ag BK103.out 2).trans rfl; have hfz7_0 := Ae BK103.out 0; have hfz7_1 := Ae BK103.out 1; have hfz7_2 := Ae BK103.out 2) | ((with_reducible refine Br (f := 47) rfl ?_); refine Cg (some 6) rfl rfl Try.func47 (by kernel_rfl) rfl #[.agg #[.int .i64 a0_0, .int .i64 a0_1, .slice A0_2 l0_2.length c0_2]] rfl (by (try simp only [List.map_toArray, List.map_cons, List.map_nil]); first | done | rfl | (simp only [List.length_drop, List.length_take]; rfl)) ?_; (with_reducible refine (Cm.calls a0_0 a0_1 _ _ l0_2 t104 _ ?side1 ?side2 A3.out).mono ?_); (case side1 => repeat (first | exact (Kd.B4 HR0_2.out HB.out) | (with_reducible refine Kd.Bj ?_ _) | (with_reducible refine Kd.Bu ?_ _) | (with_reducible refine Kd.B3 ?_))); (case side2 => exact HC0_2.out); rintro e w8 ⟨rfl, hb⟩; refine ⟨_, rfl, ?_⟩; have n0_ := Aa.mk (Ar (g := gb103) (o := .cells #[.int .i64 a0_0, .int .i64 a0_1, .slice A0_2 l0_2.length c0_2] 50 (0, 0)) (by (with_reducible repeat (first | refine Ai ?_ _ | refine Aj ?_ | refine Af ?_ _)); exact BK103.out) hb); have n1_ := Aa.mk (As (by repeat (first | (with_reducible first | exact HB.out | apply Ac | apply Ab | apply Ad | refine Ah ?_ GE103.out) | exact HB.out)) hb); clear BK103; clear HB; have BK103 := n0_; have HB := n1_; clear n0_ n1_; (try clear hb); (try clear hb2); (try clear hk); (try clear hi)))
   go_ret
   exact ⟨by first | rfl | (simp [Bd, Bc] <;> rfl) | (simp [*, Bd, Bc] <;> rfl), by repeat (first | (with_reducible first | exact HB.out | apply Ac | apply Ab | apply Ad | refine Ah ?_ GE103.out) | exact HB.out)⟩
  ·rw [if_neg c5] at H
   have c5b0 : (a1 == 4) = false := beq_eq_false_iff_ne.mpr c5
   have c5b1 : (a1 != 4) = true := bne_iff_ne.mpr c5
   obtain rfl := Option.some.inj H
   go_enter Try.func36, Try.ntmps36
   go_wp2_with (first | ((with_reducible refine Be (N := 2) rfl ?_); refine Bf ?hg (N := 2) ?hd (cs := #[.int .i64 a0_0, .int .i64 a0_1, .slice A0_2 l0_2.length c0_2]) (t := 50) ?hr ?_; (case hd => rfl); (case hg => rfl); (case hr => first | (go_simp; done) | (go_simp; rfl)); intro gb103 hg w9 hbox hb; have n0_ := Aa.mk (As (by repeat (first | (with_reducible first | exact HB.out | apply Ac | apply Ab | apply Ad) | exact HB.out)) hb); have n1_ := Aa.mk (hbox); have n2_ := Aa.mk ((by rw [hg]; exact (Ap (by repeat (first | (with_reducible first | exact HB.out | apply Ac | apply Ab | apply Ad) | exact HB.out))) : w.heap.size ≤ gb103)); have n3_ := Aa.mk ((by rw [hg]; exact (Ap (by repeat (first | (with_reducible first | exact HB.out | apply Ac | apply Ab | apply Ad) | exact HB.out))) : w.heap.size ≤ gb103)); clear HB; have HB := n0_; have BK103 := n1_; have GW103 := n2_; have GE103 := n3_; clear n0_ n1_ n2_ n3_; clear hb hbox hg; have hcz10_0 : w9.cell? ⟨gb103, 0, none⟩ = some (.int .i64 a0_0) := (Ag BK103.out 0).trans rfl; have hcz10_1 : w9.cell? ⟨gb103, 1, none⟩ = some (.int .i64 a0_1) := (Ag BK103.out 1).trans rfl; have hcz10_2 : w9.cell? ⟨gb103, 2, none⟩ = some (.slice A0_2 l0_2.length c0_2) := (Ag BK103.out 2).trans rfl; have hfz10_0 := Ae BK103.out 0; have hfz10_1 := Ae BK103.out 1; have hfz10_2 := Ae BK103.out 2) | ((with_reducible refine Br (f := 47) rfl ?_); refine Cg (some 6) rfl rfl Try.func47 (by kernel_rfl) rfl #[.agg #[.int .i64 a0_0, .int .i64 a0_1, .slice A0_2 l0_2.length c0_2]] rfl (by (try simp only [List.map_toArray, List.map_cons, List.map_nil]); first | done | rfl | (simp only [List.length_drop, List.length_take]; rfl)) ?_; (with_reducible refine (Cm.calls a0_0 a0_1 _ _ l0_2 t104 _ ?side1 ?side2 A3.out).mono ?_); (case side1 => repeat (first | exact (Kd.B4 HR0_2.out HB.out) | (with_reducible refine Kd.Bj ?_ _) | (with_reducible refine Kd.Bu ?_ _) | (with_reducible refine Kd.B3 ?_))); (case side2 => exact HC0_2.out); rintro e w11 ⟨rfl, hb⟩; refine ⟨_, rfl, ?_⟩; have n0_ := Aa.mk (Ar (g := gb103) (o := .cells #[.int .i64 a0_0, .int .i64 a0_1, .slice A0_2 l0_2.length c0_2] 50 (0, 0)) (by (with_reducible repeat (first | refine Ai ?_ _ | refine Aj ?_ | refine Af ?_ _)); exact BK103.out) hb); have n1_ := Aa.mk (As (by repeat (first | (with_reducible first | exact HB.out | apply Ac | apply Ab | apply Ad | refine Ah ?_ GE103.out) | exact HB.out)) hb); clear BK103; clear HB; have BK103 := n0_; have HB := n1_; clear n0_ n1_; (try clear hb); (try clear hb2); (try clear hk); (try clear hi)))
   go_ret
   exact ⟨by first | rfl | (simp [Bd, Bc] <;> rfl) | (simp [*, Bd, Bc] <;> rfl), by repeat (first | (with_reducible first | exact HB.out | apply Ac | apply Ab | apply Ad | refine Ah ?_ GE103.out) | exact HB.out)⟩
 ·rw [if_neg c4] at H
  have c4b0 : (t104 == 0) = false := beq_eq_false_iff_ne.mpr c4
  have c4b1 : (t104 != 0) = true := bne_iff_ne.mpr c4
  obtain rfl := Option.some.inj H
  go_enter Try.func36, Try.ntmps36
  go_wp2_with (first | ((with_reducible refine Be (N := 2) rfl ?_); refine Bf ?hg (N := 2) ?hd (cs := #[.int .i64 a0_0, .int .i64 a0_1, .slice A0_2 l0_2.length c0_2]) (t := 50) ?hr ?_; (case hd => rfl); (case hg => rfl); (case hr => first | (go_simp; done) | (go_simp; rfl)); intro gb103 hg w12 hbox hb; have n0_ := Aa.mk (As (by repeat (first | (with_reducible first | exact HB.out | apply Ac | apply Ab | apply Ad) | exact HB.out)) hb); have n1_ := Aa.mk (hbox); have n2_ := Aa.mk ((by rw [hg]; exact (Ap (by repeat (first | (with_reducible first | exact HB.out | apply Ac | apply Ab | apply Ad) | exact HB.out))) : w.heap.size ≤ gb103)); have n3_ := Aa.mk ((by rw [hg]; exact (Ap (by repeat (first | (with_reducible first | exact HB.out | apply Ac | apply Ab | apply Ad) | exact HB.out))) : w.heap.size ≤ gb103)); clear HB; have HB := n0_; have BK103 := n1_; have GW103 := n2_; have GE103 := n3_; clear n0_ n1_ n2_ n3_; clear hb hbox hg; have hcz13_0 : w12.cell? ⟨gb103, 0, none⟩ = some (.int .i64 a0_0) := (Ag BK103.out 0).trans rfl; have hcz13_1 : w12.cell? ⟨gb103, 1, none⟩ = some (.int .i64 a0_1) := (Ag BK103.out 1).trans rfl; have hcz13_2 : w12.cell? ⟨gb103, 2, none⟩ = some (.slice A0_2 l0_2.length c0_2) := (Ag BK103.out 2).trans rfl; have hfz13_0 := Ae BK103.out 0; have hfz13_1 := Ae BK103.out 1; have hfz13_2 := Ae BK103.out 2) | ((with_reducible refine Br (f := 47) rfl ?_); refine Cg (some 6) rfl rfl Try.func47 (by kernel_rfl) rfl #[.agg #[.int .i64 a0_0, .int .i64 a0_1, .slice A0_2 l0_2.length c0_2]] rfl (by (try simp only [List.map_toArray, List.map_cons, List.map_nil]); first | done | rfl | (simp only [List.length_drop, List.length_take]; rfl)) ?_; (with_reducible refine (Cm.calls a0_0 a0_1 _ _ l0_2 t104 _ ?side1 ?side2 A3.out).mono ?_); (case side1 => repeat (first | exact (Kd.B4 HR0_2.out HB.out) | (with_reducible refine Kd.Bj ?_ _) | (with_reducible refine Kd.Bu ?_ _) | (with_reducible refine Kd.B3 ?_))); (case side2 => exact HC0_2.out); rintro e w14 ⟨rfl, hb⟩; refine ⟨_, rfl, ?_⟩; have n0_ := Aa.mk (Ar (g := gb103) (o := .cells #[.int .i64 a0_0, .int .i64 a0_1, .slice A0_2 l0_2.length c0_2] 50 (0, 0)) (by (with_reducible repeat (first | refine Ai ?_ _ | refine Aj ?_ | refine Af ?_ _)); exact BK103.out) hb); have n1_ := Aa.mk (As (by repeat (first | (with_reducible first | exact HB.out | apply Ac | apply Ab | apply Ad | refine Ah ?_ GE103.out) | exact HB.out)) hb); clear BK103; clear HB; have BK103 := n0_; have HB := n1_; clear n0_ n1_; (try clear hb); (try clear hb2); (try clear hk); (try clear hi)))
  go_ret
  exact ⟨by first | rfl | (simp [Bd, Bc] <;> rfl) | (simp [*, Bd, Bc] <;> rfl), by repeat (first | (with_reducible first | exact HB.out | apply Ac | apply Ab | apply Ad | refine Ah ?_ GE103.out) | exact HB.out)⟩

end Go.Proofs.Yteamphcehoaleaa.PFF

