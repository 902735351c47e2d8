import Derived.Test.YteamphcehoaleaaZWAt
import Derived.Test.YteamphcehoaleaaZPFWx0
import Derived.Test.YteamphcehoaleaaZPFAx6
namespace Go.Proofs.Yteamphcehoaleaa.PFW
open Go.Proofs.Yteamphcehoaleaa.PFA Go.Proofs.Yteamphcehoaleaa.PFK
open Go.RowKit Go.Proofs.YteamphcehoaleaaW.PrintWords Go.Proofs.YteamphcehoaleaaW.PrintLast Go.Proofs.YteamphcehoaleaaW.PrintMore
attribute [local go_sem] max2_int min2_int max_two min_two max_three min_three max_four min_four   -- for this text's walks alone
set_option linter.unusedVariables false
set_option linter.unusedSimpArgs false

def Cq.f (a0 : Int) (a1 : Int) : Option (Bool) := if a0 ≥ 1 then (if a1 ≥ 1 then (if a0 ≤ 1024 then (if a1 ≤ 1024 then (some (decide ((wrap64 (a0 * a1)) ≤ 65536))) else (some false)) else (some false)) else (some false)) else (some false)
set_option maxHeartbeats 8000000 in
set_option maxRecDepth 100000 in
theorem Cq.calls (a0 : Int) (a1 : Int) (r : Bool) (w : World) (h : Cq.f a0 a1 = some r) :
  Calls Try.prog 80 #[.int .i64 a0, .int .i64 a1] w fun e w' => e = .returned (.bool r) ∧ Drawn0 w w' := by
 have H : (if a0 ≥ 1 then (if a1 ≥ 1 then (if a0 ≤ 1024 then (if a1 ≤ 1024 then (some (decide ((wrap64 (a0 * a1)) ≤ 65536))) else (some false)) else (some false)) else (some false)) else (some false)) = some r := h
 clear h
 by_cases c3 : a0 ≥ 1
 ·rw [if_pos c3] at H
  have c3b0 : decide (1 ≤ a0) = true := decide_eq_true c3
  clear c3
  by_cases c4 : a1 ≥ 1
  ·rw [if_pos c4] at H
   have c4b0 : decide (1 ≤ a1) = true := decide_eq_true c4
   clear c4
   by_cases c5 : a0 ≤ 1024
   ·rw [if_pos c5] at H
    have c5b0 : decide (a0 ≤ 1024) = true := decide_eq_true c5
    clear c5
    by_cases c6 : a1 ≤ 1024
    ·rw [if_pos c6] at H
     have c6b0 : decide (a1 ≤ 1024) = true := decide_eq_true c6
     clear c6
     obtain rfl := Option.some.inj H
     go_enter Try.func80, Try.ntmps80
     go_wp2
     go_ret
     exact ⟨by first | rfl | (simp; done) | (simp [*]; done), by repeat (first | exact Drawn0.refl _ | apply Drawn0.step)⟩
    ·rw [if_neg c6] at H
     have c6b0 : decide (a1 ≤ 1024) = false := decide_eq_false c6
     clear c6
     obtain rfl := Option.some.inj H
     go_enter Try.func80, Try.ntmps80
     go_wp2
     go_ret
     exact ⟨by first | rfl | (simp; done) | (simp [*]; done), by repeat (first | exact Drawn0.refl _ | apply Drawn0.step)⟩
   ·rw [if_neg c5] at H
    have c5b0 : decide (a0 ≤ 1024) = false := decide_eq_false c5
    clear c5
    obtain rfl := Option.some.inj H
    go_enter Try.func80, Try.ntmps80
    go_wp2
    go_ret
    exact ⟨by first | rfl | (simp; done) | (simp [*]; done), by repeat (first | exact Drawn0.refl _ | apply Drawn0.step)⟩
  ·rw [if_neg c4] at H
   have c4b0 : decide (1 ≤ a1) = false := decide_eq_false c4
   clear c4
   obtain rfl := Option.some.inj H
   go_enter Try.func80, Try.ntmps80
   go_wp2
   go_ret
   exact ⟨by first | rfl | (simp; done) | (simp [*]; done), by repeat (first | exact Drawn0.refl _ | apply Drawn0.step)⟩
 ·rw [if_neg c3] at H
  have c3b0 : decide (1 ≤ a0) = false := decide_eq_false c3
  clear c3
  obtain rfl := Option.some.inj H
  go_enter Try.func80, Try.ntmps80
  go_wp2
  go_ret
  exact ⟨by first | rfl | (simp; done) | (simp [*]; done), by repeat (first | exact Drawn0.refl _ | apply Drawn0.step)⟩

def Cg.f (a0_0 : Int) (a0_1 : Int) (l0_2 : List Int) : Option (Int) := (Cq.f a0_0 a0_1).bind fun t102 => (if t102 = true then (if (l0_2.length : Int) = (wrap64 (a0_0 * a0_1)) then (some 0) else (some 51)) else (some 50))
set_option maxHeartbeats 8000000 in
set_option maxRecDepth 100000 in
theorem Cg.calls (a0_0 : Int) (a0_1 : Int) (A0_2 : Option Addr) (c0_2 : Nat) (l0_2 : List Int) (r : Int) (w : World) (hr0_2 : Kd.C (Kd.int .u32) w A0_2 l0_2.length l0_2) (hc0_2 : l0_2.length ≤ c0_2) (h : Cg.f a0_0 a0_1 l0_2 = some r) :
  Calls Try.prog 33 #[.agg #[.int .i64 a0_0, .int .i64 a0_1, .slice A0_2 l0_2.length c0_2]] w fun e w' => e = .returned (.int .i64 r) ∧ Below w.heap.size w w' := by
 have hu24 := Try.underlying24
 have HR0_2 := Aa.mk hr0_2
 have HC0_2 := Aa.mk hc0_2
 clear hr0_2 hc0_2
 have HB := Aa.mk (Below.refl w.heap.size w)
 have H : ((Cq.f a0_0 a0_1).bind fun t102 => (if t102 = true then (if (l0_2.length : Int) = (wrap64 (a0_0 * a0_1)) then (some 0) else (some 51)) else (some 50))) = some r := h
 clear h
 replace H := Option.bind_eq_some_iff.mp H
 obtain ⟨t102, A20, H⟩ := H
 replace H : (if t102 = true then (if (l0_2.length : Int) = (wrap64 (a0_0 * a0_1)) then (some 0) else (some 51)) else (some 50)) = some r := H
 have A2 := Aa.mk A20
 clear A20
 by_cases c3 : t102 = true
 ·subst c3
  have H1 : (if (l0_2.length : Int) = (wrap64 (a0_0 * a0_1)) then (some 0) else (some 51)) = some r := by rw [if_pos rfl] at H; exact H
  clear H
  have H := H1
  clear H1
  by_cases c4 : (l0_2.length : Int) = (wrap64 (a0_0 * a0_1))
  ·rw [if_pos c4] at H
   have c4b0 : ((l0_2.length : Int) == (wrap64 (a0_0 * a0_1))) = true := beq_iff_eq.mpr c4
   have c4b1 : ((l0_2.length : Int) != (wrap64 (a0_0 * a0_1))) = false := bne_eq_false_iff_eq.mpr c4
   clear c4
   obtain rfl := Option.some.inj H
   go_enter Try.func33, Try.ntmps33
   go_wp2_with (first | ((with_reducible refine Bk (N := 1) rfl ?_); refine Bn ?hg (N := 1) ?hd (cs := #[.int .i64 a0_0, .int .i64 a0_1, .slice A0_2 l0_2.length c0_2]) (t := 24) ?hr ?_; (case hd => rfl); (case hg => rfl); (case hr => first | (go_simp; done) | (go_simp; rfl)); intro gb101 hg w5 hbox hb; have n0_ := Aa.mk (Ap (lU HB.out) hb); have n1_ := Aa.mk (hbox); have n2_ := Aa.mk ((by rw [hg]; exact (Ak (lU HB.out)) : w.heap.size ≤ gb101)); have n3_ := Aa.mk ((by rw [hg]; exact (Ak (lU HB.out)) : w.heap.size ≤ gb101)); clear HB; have HB := n0_; have BK101 := n1_; have GW101 := n2_; have GE101 := n3_; clear n0_ n1_ n2_ n3_; clear hb hbox hg; have hcz6_0 : w5.cell? ⟨gb101, 0, none⟩ = some (.int .i64 a0_0) := (Af BK101.out 0).trans rfl; have hcz6_1 : w5.cell? ⟨gb101, 1, none⟩ = some (.int .i64 a0_1) := (Af BK101.out 1).trans rfl; have hcz6_2 : w5.cell? ⟨gb101, 2, none⟩ = some (.slice A0_2 l0_2.length c0_2) := (Af BK101.out 2).trans rfl; have hfz6_0 := Ag BK101.out 0; have hfz6_1 := Ag BK101.out 1; have hfz6_2 := Ag BK101.out 2) | ((with_reducible refine Bd (f := 80) rfl ?_); refine Cb (some 7) rfl rfl Try.func80 (by kernel_rfl) rfl #[.int .i64 a0_0, .int .i64 a0_1] rfl (by (try simp only [List.map_toArray, List.map_cons, List.map_nil]); first | done | rfl | (simp only [List.length_drop, List.length_take]; rfl)) ?_; (with_reducible refine (Cq.calls a0_0 a0_1 true _ A2.out).mono ?_); rintro e w' ⟨rfl, ⟨nd, rfl⟩⟩; refine ⟨_, rfl, ?_⟩))
   go_ret
   exact ⟨by first | rfl | (simp [Ay, Ax] <;> rfl) | (simp [*, Ay, Ax] <;> rfl), by repeat (first | (with_reducible first | exact HB.out | apply Ad | apply Ac | apply Ah | refine Ae ?_ GE101.out) | exact HB.out)⟩
  ·rw [if_neg c4] at H
   have c4b0 : ((l0_2.length : Int) == (wrap64 (a0_0 * a0_1))) = false := beq_eq_false_iff_ne.mpr c4
   have c4b1 : ((l0_2.length : Int) != (wrap64 (a0_0 * a0_1))) = true := bne_iff_ne.mpr c4
   obtain rfl := Option.some.inj H
   go_enter Try.func33, Try.ntmps33
   go_wp2_with (first | ((with_reducible refine Bk (N := 1) rfl ?_); refine Bn ?hg (N := 1) ?hd (cs := #[.int .i64 a0_0, .int .i64 a0_1, .slice A0_2 l0_2.length c0_2]) (t := 24) ?hr ?_; (case hd => rfl); (case hg => rfl); (case hr => first | (go_simp; done) | (go_simp; rfl)); intro gb101 hg w7 hbox hb; have n0_ := Aa.mk (Ap (lU HB.out) hb); have n1_ := Aa.mk (hbox); have n2_ := Aa.mk ((by rw [hg]; exact (Ak (lU HB.out)) : w.heap.size ≤ gb101)); have n3_ := Aa.mk ((by rw [hg]; exact (Ak (lU HB.out)) : w.heap.size ≤ gb101)); clear HB; have HB := n0_; have BK101 := n1_; have GW101 := n2_; have GE101 := n3_; clear n0_ n1_ n2_ n3_; clear hb hbox hg; have hcz8_0 : w7.cell? ⟨gb101, 0, none⟩ = some (.int .i64 a0_0) := (Af BK101.out 0).trans rfl; have hcz8_1 : w7.cell? ⟨gb101, 1, none⟩ = some (.int .i64 a0_1) := (Af BK101.out 1).trans rfl; have hcz8_2 : w7.cell? ⟨gb101, 2, none⟩ = some (.slice A0_2 l0_2.length c0_2) := (Af BK101.out 2).trans rfl; have hfz8_0 := Ag BK101.out 0; have hfz8_1 := Ag BK101.out 1; have hfz8_2 := Ag BK101.out 2) | ((with_reducible refine Bd (f := 80) rfl ?_); refine Cb (some 7) rfl rfl Try.func80 (by kernel_rfl) rfl #[.int .i64 a0_0, .int .i64 a0_1] rfl (by (try simp only [List.map_toArray, List.map_cons, List.map_nil]); first | done | rfl | (simp only [List.length_drop, List.length_take]; rfl)) ?_; (with_reducible refine (Cq.calls a0_0 a0_1 true _ A2.out).mono ?_); rintro e w' ⟨rfl, ⟨nd, rfl⟩⟩; refine ⟨_, rfl, ?_⟩))
   go_ret
   exact ⟨by first | rfl | (simp [Ay, Ax] <;> rfl) | (simp [*, Ay, Ax] <;> rfl), by repeat (first | (with_reducible first | exact HB.out | apply Ad | apply Ac | apply Ah | refine Ae ?_ GE101.out) | exact HB.out)⟩
 ·replace c3 := Bool.eq_false_iff.mpr c3
  subst c3
  have H1 : (some 50) = some r := by rw [if_neg (show ¬ (false = true) by decide)] at H; exact H
  clear H
  have H := H1
  clear H1
  obtain rfl := Option.some.inj H
  go_enter Try.func33, Try.ntmps33
  go_wp2_with (first | ((with_reducible refine Bk (N := 1) rfl ?_); refine Bn ?hg (N := 1) ?hd (cs := #[.int .i64 a0_0, .int .i64 a0_1, .slice A0_2 l0_2.length c0_2]) (t := 24) ?hr ?_; (case hd => rfl); (case hg => rfl); (case hr => first | (go_simp; done) | (go_simp; rfl)); intro gb101 hg w9 hbox hb; have n0_ := Aa.mk (Ap (lU HB.out) hb); have n1_ := Aa.mk (hbox); have n2_ := Aa.mk ((by rw [hg]; exact (Ak (lU HB.out)) : w.heap.size ≤ gb101)); have n3_ := Aa.mk ((by rw [hg]; exact (Ak (lU HB.out)) : w.heap.size ≤ gb101)); clear HB; have HB := n0_; have BK101 := n1_; have GW101 := n2_; have GE101 := n3_; clear n0_ n1_ n2_ n3_; clear hb hbox hg; have hcz10_0 : w9.cell? ⟨gb101, 0, none⟩ = some (.int .i64 a0_0) := (Af BK101.out 0).trans rfl; have hcz10_1 : w9.cell? ⟨gb101, 1, none⟩ = some (.int .i64 a0_1) := (Af BK101.out 1).trans rfl; have hcz10_2 : w9.cell? ⟨gb101, 2, none⟩ = some (.slice A0_2 l0_2.length c0_2) := (Af BK101.out 2).trans rfl; have hfz10_0 := Ag BK101.out 0; have hfz10_1 := Ag BK101.out 1; have hfz10_2 := Ag BK101.out 2) | ((with_reducible refine Bd (f := 80) rfl ?_); refine Cb (some 7) rfl rfl Try.func80 (by kernel_rfl) rfl #[.int .i64 a0_0, .int .i64 a0_1] rfl (by (try simp only [List.map_toArray, List.map_cons, List.map_nil]); first | done | rfl | (simp only [List.length_drop, List.length_take]; rfl)) ?_; (with_reducible refine (Cq.calls a0_0 a0_1 false _ A2.out).mono ?_); rintro e w' ⟨rfl, ⟨nd, rfl⟩⟩; refine ⟨_, rfl, ?_⟩))
  go_ret
  exact ⟨by first | rfl | (simp [Ay, Ax] <;> rfl) | (simp [*, Ay, Ax] <;> rfl), by repeat (first | (with_reducible first | exact HB.out | apply Ad | apply Ac | apply Ah | refine Ae ?_ GE101.out) | exact HB.out)⟩

def Ck.f (a0 : Int) : Option (Int) := if (wrap64 (a0)) < 2147483648 then (some ((wrap64 ((wrap64 (a0)) + 2147483648)) % 4294967296)) else (some ((wrap64 (4294967295 - (wrap64 (a0)))) % 4294967296))
set_option maxHeartbeats 8000000 in
set_option maxRecDepth 100000 in
theorem Ck.calls (a0 : Int) (r : Int) (w : World) (h : Ck.f a0 = some r) :
  Calls Try.prog 102 #[.int .u32 a0] w fun e w' => e = .returned (.int .u32 r) ∧ Drawn0 w w' := by
 have H : (if (wrap64 (a0)) < 2147483648 then (some ((wrap64 ((wrap64 (a0)) + 2147483648)) % 4294967296)) else (some ((wrap64 (4294967295 - (wrap64 (a0)))) % 4294967296))) = some r := h
 clear h
 by_cases c2 : (wrap64 (a0)) < 2147483648
 ·rw [if_pos c2] at H
  have c2b0 : decide ((wrap64 (a0)) < 2147483648) = true := decide_eq_true c2
  clear c2
  obtain rfl := Option.some.inj H
  go_enter Try.func102, Try.ntmps102
  go_wp2
  go_ret
  exact ⟨by first | rfl | (simp; done) | (simp [*]; done), by repeat (first | exact Drawn0.refl _ | apply Drawn0.step)⟩
 ·rw [if_neg c2] at H
  have c2b0 : decide ((wrap64 (a0)) < 2147483648) = false := decide_eq_false c2
  clear c2
  obtain rfl := Option.some.inj H
  go_enter Try.func102, Try.ntmps102
  go_wp2
  go_ret
  exact ⟨by first | rfl | (simp; done) | (simp [*]; done), by repeat (first | exact Drawn0.refl _ | apply Drawn0.step)⟩

def Cs.f (a0 : Int) (a1 : Int) : Option (Int) := (Ck.f a1).bind fun t103 => ((Ck.f a0).bind fun t104 => (some (wrap64 ((wrap64 (t103)) - (wrap64 (t104))))))
set_option maxHeartbeats 8000000 in
set_option maxRecDepth 100000 in
theorem Cs.calls (a0 : Int) (a1 : Int) (r : Int) (w : World) (h : Cs.f a0 a1 = some r) :
  Calls Try.prog 81 #[.int .u32 a0, .int .u32 a1] w fun e w' => e = .returned (.int .i64 r) ∧ Drawn0 w w' := by
 have H : ((Ck.f a1).bind fun t103 => ((Ck.f a0).bind fun t104 => (some (wrap64 ((wrap64 (t103)) - (wrap64 (t104))))))) = some r := h
 clear h
 replace H := Option.bind_eq_some_iff.mp H
 obtain ⟨t103, A30, H⟩ := H
 replace H : ((Ck.f a0).bind fun t104 => (some (wrap64 ((wrap64 (t103)) - (wrap64 (t104)))))) = some r := H
 have A3 := Aa.mk A30
 clear A30
 replace H := Option.bind_eq_some_iff.mp H
 obtain ⟨t104, A40, H⟩ := H
 replace H : (some (wrap64 ((wrap64 (t103)) - (wrap64 (t104))))) = some r := H
 have A4 := Aa.mk A40
 clear A40
 obtain rfl := Option.some.inj H
 go_enter Try.func81, Try.ntmps81
 go_wp2_with (first | ((with_reducible refine Bd (f := 102) rfl ?_); refine Cb (some 6) rfl rfl Try.func102 (by kernel_rfl) rfl #[.int .u32 a1] rfl (by (try simp only [List.map_toArray, List.map_cons, List.map_nil]); first | done | rfl | (simp only [List.length_drop, List.length_take]; rfl)) ?_; (with_reducible refine (Ck.calls a1 t103 _ A3.out).mono ?_); rintro e w' ⟨rfl, ⟨nd, rfl⟩⟩; refine ⟨_, rfl, ?_⟩) | ((with_reducible refine Bd (f := 102) rfl ?_); refine Cb (some 9) rfl rfl Try.func102 (by kernel_rfl) rfl #[.int .u32 a0] rfl (by (try simp only [List.map_toArray, List.map_cons, List.map_nil]); first | done | rfl | (simp only [List.length_drop, List.length_take]; rfl)) ?_; (with_reducible refine (Ck.calls a0 t104 _ A4.out).mono ?_); rintro e w' ⟨rfl, ⟨nd, rfl⟩⟩; refine ⟨_, rfl, ?_⟩))
 go_ret
 exact ⟨by first | rfl | (simp; done) | (simp [*]; done), by repeat (first | exact Drawn0.refl _ | apply Drawn0.step)⟩

def Bs.l0 : Nat → Int → Int → Int → Int → Int → List Int → Int → Int → List Bool → Option (Int × Int × List Bool)
 | 0, _, _, _, _, _, _, _, _, _ => none
 | k + 1, x1, x2, x8, x106000, x106001, x106002, x113000, x113001, x113002 => if x8 < (x106002.length : Int) then (if 0 ≤ x1 then (if x1 < (x106002.length : Int) then (if 0 ≤ x8 then ((Cs.f (rd x106002 x1) (rd x106002 x8)).bind fun t115 => (if x8 < (x113002.length : Int) then (Bs.l0 k x1 x2 (wrap64 (x8 + 1)) x106000 x106001 x106002 x113000 x113001 (x113002.set (x8 : Int).toNat (decide ((mx t115 (wrap64 (-t115))) ≤ x2)))) else (none))) else (none)) else (none)) else (none)) else (some (x113000, x113001, x113002))
def Bs.f (k : Nat) (a0_0 : Int) (a0_1 : Int) (l0_2 : List Int) (a1 : Int) (a2 : Int) : Option (Int × Int × List Bool) := (Bu.f a0_0 a0_1).bind fun bt107 => (Bs.l0 k a1 a2 0 a0_0 a0_1 l0_2 bt107.1 bt107.2.1 bt107.2.2)
set_option maxHeartbeats 8000000 in
set_option maxRecDepth 100000 in
theorem Bs.calls (k : Nat) (a0_0 : Int) (a0_1 : Int) (A0_2 : Option Addr) (c0_2 : Nat) (l0_2 : List Int) (a1 : Int) (a2 : Int) (r1 : Int) (r2 : Int) (r3 : List Bool) (w : World) (hr0_2 : Kd.C (Kd.int .u32) w A0_2 l0_2.length l0_2) (hc0_2 : l0_2.length ≤ c0_2) (h : Bs.f k a0_0 a0_1 l0_2 a1 a2 = some (r1, r2, r3)) :
  Calls Try.prog 34 #[.agg #[.int .i64 a0_0, .int .i64 a0_1, .slice A0_2 l0_2.length c0_2], .int .i64 a1, .int .i64 a2] w fun e w' => ∃ v2_ : Value, e = .returned (.agg #[.int .i64 r1, .int .i64 r2, v2_]) ∧ Kd.R Kd.bool 4 w' w.heap.size (fun _ => True) v2_ r3 ∧ Below w.heap.size w w' := by
 have hu24 := Try.underlying24
 have hu50 := Try.underlying50
 have HR0_2 := Aa.mk hr0_2
 have HC0_2 := Aa.mk hc0_2
 clear hr0_2 hc0_2
 have HB := Aa.mk (Below.refl w.heap.size w)
 have H : ((Bu.f a0_0 a0_1).bind fun bt107 => (Bs.l0 k a1 a2 0 a0_0 a0_1 l0_2 bt107.1 bt107.2.1 bt107.2.2)) = some (r1, r2, r3) := h
 clear h
 replace H := Option.bind_eq_some_iff.mp H
 obtain ⟨⟨t107, t108, t109⟩, A40, H⟩ := H
 replace H : (Bs.l0 k a1 a2 0 a0_0 a0_1 l0_2 t107 t108 t109) = some (r1, r2, r3) := H
 have A4 := Aa.mk A40
 clear A40
 have H' := Aa.mk H
 clear H
 go_enter Try.func34, Try.ntmps34
 go_wp2_with (first | ((with_reducible refine Bk (N := 3) rfl ?_); refine Bn ?hg (N := 3) ?hd (cs := #[.int .i64 a0_0, .int .i64 a0_1, .slice A0_2 l0_2.length c0_2]) (t := 24) ?hr ?_; (case hd => rfl); (case hg => rfl); (case hr => first | (go_simp; done) | (go_simp; rfl)); intro gb105 hg w5 hbox hb; have n0_ := Aa.mk (Ap (lU HB.out) hb); have n1_ := Aa.mk (hbox); have n2_ := Aa.mk ((by rw [hg]; exact (Ak (lU HB.out)) : w.heap.size ≤ gb105)); have n3_ := Aa.mk ((by rw [hg]; exact (Ak (lU HB.out)) : w.heap.size ≤ gb105)); clear HB; have HB := n0_; have BK105 := n1_; have GW105 := n2_; have GE105 := n3_; clear n0_ n1_ n2_ n3_; clear hb hbox hg) | ((with_reducible refine Bk (N := 6) rfl ?_); refine Bn ?hg (N := 6) ?hd (cs := #[.int .i64 0, .int .i64 0, .slice none 0 0]) (t := 50) ?hr ?_; (case hd => rfl); (case hg => rfl); (case hr => first | (go_simp; done) | (go_simp; rfl)); intro gb106 hg w6 hbox hb; have n0_ := Aa.mk (Am (g := gb105) (o := .cells #[.int .i64 a0_0, .int .i64 a0_1, .slice A0_2 l0_2.length c0_2] 24 (0, 0)) (by exact bU <| BK105.out) hb); have n1_ := Aa.mk (Ap (by repeat (first | (with_reducible first | exact HB.out | apply Ad | apply Ac | apply Ah | refine Ae ?_ GE105.out) | exact HB.out)) hb); have n2_ := Aa.mk (hbox); have n3_ := Aa.mk ((by rw [hg]; exact (Ak (by repeat (first | (with_reducible first | exact HB.out | apply Ad | apply Ac | apply Ah | refine Ae ?_ GE105.out) | exact HB.out))) : w.heap.size ≤ gb106)); have n4_ := Aa.mk ((by rw [hg]; exact (Ak (by repeat (first | (with_reducible first | exact HB.out | apply Ad | apply Ac | apply Ah | refine Ae ?_ GE105.out) | exact HB.out))) : w.heap.size ≤ gb106)); have n5_ := Aa.mk ((by rw [hg]; exact Nat.ne_of_lt (Bp (g := gb105) (o := .cells #[.int .i64 a0_0, .int .i64 a0_1, .slice A0_2 l0_2.length c0_2] 24 (0, 0)) (by exact bU <| BK105.out)) : gb105 ≠ gb106)); have n6_ := Aa.mk ((by rw [hg]; exact Nat.ne_of_gt (Bp (g := gb105) (o := .cells #[.int .i64 a0_0, .int .i64 a0_1, .slice A0_2 l0_2.length c0_2] 24 (0, 0)) (by exact bU <| BK105.out)) : gb106 ≠ gb105)); clear BK105; clear HB; have BK105 := n0_; have HB := n1_; have BK106 := n2_; have GW106 := n3_; have GE106 := n4_; have NB105_106 := n5_; have NB106_105 := n6_; clear n0_ n1_ n2_ n3_ n4_ n5_ n6_; clear hb hbox hg; have hnb7 := NB105_106.out; have hnc7 := NB106_105.out; have hcz8_0 : w6.cell? ⟨gb105, 0, none⟩ = some (.int .i64 a0_0) := (Af BK105.out 0).trans rfl; have hcz8_1 : w6.cell? ⟨gb105, 1, none⟩ = some (.int .i64 a0_1) := (Af BK105.out 1).trans rfl; have hcz8_2 : w6.cell? ⟨gb105, 2, none⟩ = some (.slice A0_2 l0_2.length c0_2) := (Af BK105.out 2).trans rfl; have hfz8_0 := Ag BK105.out 0; have hfz8_1 := Ag BK105.out 1; have hfz8_2 := Ag BK105.out 2) | (go_at_call 58; (with_reducible refine (Bu.calls a0_0 a0_1 t107 t108 t109 _ A4.out).mono ?_); rintro e w9 ⟨v110, rfl, ho0, hb⟩; have n0_ := Aa.mk (Kd.B2 ho0 (Ak (by repeat (first | (with_reducible first | exact HB.out | apply Ad | apply Ac | apply Ah | refine Ae ?_ GE105.out | refine Ae ?_ GE106.out) | exact HB.out)))); have n1_ := Aa.mk (Am (g := gb105) (o := .cells #[.int .i64 a0_0, .int .i64 a0_1, .slice A0_2 l0_2.length c0_2] 24 (0, 0)) (by exact bU <| BK105.out) hb); have n2_ := Aa.mk (Am (g := gb106) (o := .cells #[.int .i64 0, .int .i64 0, .slice none 0 0] 50 (0, 0)) (by exact bU <| BK106.out) hb); have n3_ := Aa.mk (Ap (by repeat (first | (with_reducible first | exact HB.out | apply Ad | apply Ac | apply Ah | refine Ae ?_ GE105.out | refine Ae ?_ GE106.out) | exact HB.out)) hb); clear BK105; clear BK106; clear HB; have HO111 := n0_; have BK105 := n1_; have BK106 := n2_; have HB := n3_; clear n0_ n1_ n2_ n3_; (try clear hb); (try clear hb2); (try clear hk); (try clear hi); (try clear ho0)) | ((with_reducible refine Bk (N := 7) rfl ?_); refine Bn ?hg (N := 7) ?hd (cs := #[.int .i64 0, .int .i64 0, .slice none 0 0]) (t := 50) ?hr ?_; (case hd => rfl); (case hg => rfl); (case hr => first | (go_simp; done) | (go_simp; rfl)); intro gb112 hg w10 hbox hb; have n0_ := Aa.mk (Kd.At (by exact rU <| HO111.out) hb); have n1_ := Aa.mk (Am (g := gb105) (o := .cells #[.int .i64 a0_0, .int .i64 a0_1, .slice A0_2 l0_2.length c0_2] 24 (0, 0)) (by exact bU <| BK105.out) hb); have n2_ := Aa.mk (Am (g := gb106) (o := .cells #[.int .i64 0, .int .i64 0, .slice none 0 0] 50 (0, 0)) (by exact bU <| BK106.out) hb); have n3_ := Aa.mk (Ap (by repeat (first | (with_reducible first | exact HB.out | apply Ad | apply Ac | apply Ah | refine Ae ?_ GE105.out | refine Ae ?_ GE106.out) | exact HB.out)) hb); have n4_ := Aa.mk (hbox); have n5_ := Aa.mk ((by rw [hg]; exact (Ak (by repeat (first | (with_reducible first | exact HB.out | apply Ad | apply Ac | apply Ah | refine Ae ?_ GE105.out | refine Ae ?_ GE106.out) | exact HB.out))) : w.heap.size ≤ gb112)); have n6_ := Aa.mk ((by rw [hg]; exact (Ak (by repeat (first | (with_reducible first | exact HB.out | apply Ad | apply Ac | apply Ah | refine Ae ?_ GE105.out | refine Ae ?_ GE106.out) | exact HB.out))) : w.heap.size ≤ gb112)); have n7_ := Aa.mk ((by rw [hg]; exact Nat.ne_of_lt (Bp (g := gb105) (o := .cells #[.int .i64 a0_0, .int .i64 a0_1, .slice A0_2 l0_2.length c0_2] 24 (0, 0)) (by exact bU <| BK105.out)) : gb105 ≠ gb112)); have n8_ := Aa.mk ((by rw [hg]; exact Nat.ne_of_gt (Bp (g := gb105) (o := .cells #[.int .i64 a0_0, .int .i64 a0_1, .slice A0_2 l0_2.length c0_2] 24 (0, 0)) (by exact bU <| BK105.out)) : gb112 ≠ gb105)); have n9_ := Aa.mk ((by rw [hg]; exact Nat.ne_of_lt (Bp (g := gb106) (o := .cells #[.int .i64 0, .int .i64 0, .slice none 0 0] 50 (0, 0)) (by exact bU <| BK106.out)) : gb106 ≠ gb112)); have n10_ := Aa.mk ((by rw [hg]; exact Nat.ne_of_gt (Bp (g := gb106) (o := .cells #[.int .i64 0, .int .i64 0, .slice none 0 0] 50 (0, 0)) (by exact bU <| BK106.out)) : gb112 ≠ gb106)); clear HO111; clear BK105; clear BK106; clear HB; have HO111 := n0_; have BK105 := n1_; have BK106 := n2_; have HB := n3_; have BK112 := n4_; have GW112 := n5_; have GE112 := n6_; have NB105_112 := n7_; have NB112_105 := n8_; have NB106_112 := n9_; have NB112_106 := n10_; clear n0_ n1_ n2_ n3_ n4_ n5_ n6_ n7_ n8_ n9_ n10_; clear hb hbox hg; have hnb11 := NB112_105.out; have hnc11 := NB105_112.out; have hnb12 := NB112_106.out; have hnc12 := NB106_112.out; have hcz13_0 : w10.cell? ⟨gb112, 0, none⟩ = some (.int .i64 0) := (Af BK112.out 0).trans rfl; have hcz13_1 : w10.cell? ⟨gb112, 1, none⟩ = some (.int .i64 0) := (Af BK112.out 1).trans rfl; have hcz13_2 : w10.cell? ⟨gb112, 2, none⟩ = some (.slice none 0 0) := (Af BK112.out 2).trans rfl; have hfz13_0 := Ag BK112.out 0; have hfz13_1 := Ag BK112.out 1; have hfz13_2 := Ag BK112.out 2; obtain ⟨Ao14, co14, eo14⟩ := Kd.Br HO111.out; subst eo14))
 repeat (go_quiet (fail); try go_wp2_with (fail))
 go_loopg [8] k (fun kq v8 w' => ∃ (x8_1 : Int) (x113002_1 : List Bool) (u113002 : Value), v8 = .int .i64 x8_1 ∧ Aa (Bs.l0 kq a1 a2 x8_1 a0_0 a0_1 l0_2 t107 t108 x113002_1 = some (r1, r2, r3)) ∧ Aa (kq ≤ k) ∧ Aa (Kd.R Kd.bool 4 w' w.heap.size (fun _ => True) u113002 x113002_1) ∧ Aa (w'.heap[gb105]? = some (.cells #[.int .i64 a0_0, .int .i64 a0_1, (.slice A0_2 l0_2.length c0_2)] 24 (0, 0))) ∧ Aa (w'.heap[gb106]? = some (.cells #[.int .i64 0, .int .i64 0, (.slice none 0 0)] 50 (0, 0))) ∧ Aa (w'.heap[gb112]? = some (.cells #[.int .i64 t107, .int .i64 t108, u113002] 50 (0, 0))) ∧ Aa (Below w.heap.size w w'))
 case atStart => exact ⟨(0), (t109), (.slice Ao14 t109.length co14), (by first | rfl | (simp; done) | (simp [*]; done)), H', ⟨Nat.le_refl _⟩, ⟨by exact rU <| Kd.Bj (Kd.Bb (p := ⟨gb112, 2, none⟩) (Kd.Bb (p := ⟨gb112, 1, none⟩) (Kd.Bb (p := ⟨gb112, 0, none⟩) (Kd.Bz HO111.out BK112.out (by decide)) (fun _ hk => hk.2) (.int .i64 t107)) (fun _ hk => hk.2) (.int .i64 t108)) (fun _ hk => hk.2) (.slice Ao14 t109.length co14)) (fun _ hk => trivial)⟩, ⟨by (with_reducible repeat (first | refine Ar ?_ _ | refine Aq ?_ | refine Aj ?_ _)); refine Ba ?_ NB105_112.out _; (with_reducible repeat (first | refine Ar ?_ _ | refine Aq ?_ | refine Aj ?_ _)); refine Ba ?_ NB105_112.out _; (with_reducible repeat (first | refine Ar ?_ _ | refine Aq ?_ | refine Aj ?_ _)); refine Ba ?_ NB105_112.out _; exact bU <| BK105.out⟩, ⟨by (with_reducible repeat (first | refine Ar ?_ _ | refine Aq ?_ | refine Aj ?_ _)); refine Ba ?_ NB106_112.out _; (with_reducible repeat (first | refine Ar ?_ _ | refine Aq ?_ | refine Aj ?_ _)); refine Ba ?_ NB106_112.out _; (with_reducible repeat (first | refine Ar ?_ _ | refine Aq ?_ | refine Aj ?_ _)); refine Ba ?_ NB106_112.out _; exact bU <| BK106.out⟩, ⟨by (with_reducible repeat (first | refine Ar ?_ _ | refine Aq ?_ | refine Aj ?_ _)); refine Be (cs := #[.int .i64 t107, .int .i64 t108, .slice none 0 0]) ?_ 2 _ rfl; (with_reducible repeat (first | refine Ar ?_ _ | refine Aq ?_ | refine Aj ?_ _)); refine Be (cs := #[.int .i64 t107, .int .i64 0, .slice none 0 0]) ?_ 1 _ rfl; (with_reducible repeat (first | refine Ar ?_ _ | refine Aq ?_ | refine Aj ?_ _)); refine Be (cs := #[.int .i64 0, .int .i64 0, .slice none 0 0]) ?_ 0 _ rfl; exact bU <| BK112.out⟩, ⟨by repeat (first | (with_reducible first | exact HB.out | apply Ad | apply Ac | apply Ah | refine Ae ?_ GE105.out | refine Ae ?_ GE106.out | refine Ae ?_ GE112.out) | exact HB.out)⟩⟩
 case round => as_aux_lemma =>
  clear H'
  try clear c1
  try clear p2
  try clear c3
  try clear c7
  try clear c11
  try clear c12
  try clear hcz13_0
  try clear hcz13_1
  try clear hcz13_2
  try clear hcz8_0
  try clear hcz8_1
  try clear hcz8_2
  try clear hfz13_0
  try clear hfz13_1
  try clear hfz13_2
  try clear hfz8_0
  try clear hfz8_1
  try clear hfz8_2
  obtain ⟨x8_1, x113002_1, u113002, rfl, HA, HK1, HO_113002, BK105, BK106, BK112, HB⟩ := hrel
  cases gk with
  | zero => exact absurd HA.out (by simp [Bs.l0])
  | succ k1 =>
   have H := HA.out
   clear HA
   simp only [Bs.l0] at H
   by_cases c15 : x8_1 < (l0_2.length : Int)
   ·rw [if_pos c15] at H
    have c15b0 : decide (x8_1 < (l0_2.length : Int)) = true := decide_eq_true c15
    clear c15
    by_cases c16 : 0 ≤ a1
    ·rw [if_pos c16] at H
     have c16b0 : decide (0 ≤ a1) = true := decide_eq_true c16
     clear c16
     by_cases c17 : a1 < (l0_2.length : Int)
     ·rw [if_pos c17] at H
      have c17b0 : decide (a1 < (l0_2.length : Int)) = true := decide_eq_true c17
      clear c17
      by_cases c18 : 0 ≤ x8_1
      ·rw [if_pos c18] at H
       have c18b0 : decide (0 ≤ x8_1) = true := decide_eq_true c18
       clear c18
       replace H := Option.bind_eq_some_iff.mp H
       obtain ⟨t115, A190, H⟩ := H
       replace H : (if x8_1 < (x113002_1.length : Int) then (Bs.l0 k1 a1 a2 (wrap64 (x8_1 + 1)) a0_0 a0_1 l0_2 t107 t108 (x113002_1.set (x8_1 : Int).toNat (decide ((mx t115 (wrap64 (-t115))) ≤ a2)))) else (none)) = some (r1, r2, r3) := H
       have A19 := Aa.mk A190
       clear A190
       obtain ⟨ji20, hji20⟩ : ∃ j_ : Int, (mx t115 (wrap64 (-t115))) = j_ := ⟨_, rfl⟩
       replace H : (if x8_1 < (x113002_1.length : Int) then (Bs.l0 k1 a1 a2 (wrap64 (x8_1 + 1)) a0_0 a0_1 l0_2 t107 t108 (x113002_1.set (x8_1 : Int).toNat (decide ((ji20) ≤ a2)))) else (none)) = some (r1, r2, r3) := by first | (rw [hji20] at H; exact H) | (simp only [hji20] at H ⊢; exact H)
       (try rw [hji20] at A19)
       have hji20_ : (if t115 < (wrap64 (-t115)) then (wrap64 (-t115)) else t115) = ji20 := hji20
       by_cases c21 : x8_1 < (x113002_1.length : Int)
       ·rw [if_pos c21] at H
        have c21b0 : decide (x8_1 < (x113002_1.length : Int)) = true := decide_eq_true c21
        clear c21
        obtain ⟨y116, hy116⟩ : ∃ y_ : List Bool, y_ = (x113002_1.set (x8_1 : Int).toNat (decide ((ji20) ≤ a2))) := ⟨_, rfl⟩
        replace H : (Bs.l0 k1 a1 a2 (wrap64 (x8_1 + 1)) a0_0 a0_1 l0_2 t107 t108 y116) = some (r1, r2, r3) := by first | (rw [hy116]; with_reducible exact H) | (have H2_ := (Option.bind_some _ _).symm.trans H; rw [hy116]; with_reducible exact H2_) | (have H2_ := (Option.bind_some _ _).symm.trans H; with_reducible exact H2_) | with_reducible exact H | (rw [hy116]; exact H) | exact H
        have Ny116 := Aa.mk hy116
        clear hy116
        have H' := Aa.mk H
        clear H
        have hnb23 := NB105_106.out
        have hnc23 := NB106_105.out
        have hnb24 := NB105_112.out
        have hnc24 := NB112_105.out
        have hcz25_0 : wr.cell? ⟨gb105, 0, none⟩ = some (.int .i64 a0_0) := (Af BK105.out 0).trans rfl
        have hcz25_1 : wr.cell? ⟨gb105, 1, none⟩ = some (.int .i64 a0_1) := (Af BK105.out 1).trans rfl
        have hcz25_2 : wr.cell? ⟨gb105, 2, none⟩ = some (.slice A0_2 l0_2.length c0_2) := (Af BK105.out 2).trans rfl
        have hfz25_0 := Ag BK105.out 0
        have hfz25_1 := Ag BK105.out 1
        have hfz25_2 := Ag BK105.out 2
        have p113 : 0 ≤ (a1 : Int) := of_decide_eq_true (by first | (with_reducible assumption) | assumption)
        have q113 : a1 < (l0_2.length : Int) := of_decide_eq_true (by first | (with_reducible assumption) | assumption)
        obtain ⟨ad113, e113, hx113_0⟩ := Kd.at_int HR0_2.out a1 p113 q113
        cases e113
        replace hx113_0 := (HB.out.cell (World.block_lt_of_cell? w _ hx113_0)).trans hx113_0
        replace p113 := eq_true p113
        replace q113 := eq_true q113
        have p114 : 0 ≤ (x8_1 : Int) := of_decide_eq_true (by first | (with_reducible assumption) | assumption)
        have q114 : x8_1 < (l0_2.length : Int) := of_decide_eq_true (by first | (with_reducible assumption) | assumption)
        obtain ⟨ad114, e114, hx114_0⟩ := Kd.at_int HR0_2.out x8_1 p114 q114
        obtain rfl : ad113 = ad114 := (by injection e114)
        replace hx114_0 := (HB.out.cell (World.block_lt_of_cell? w _ hx114_0)).trans hx114_0
        replace p114 := eq_true p114
        replace q114 := eq_true q114
        go_wp2_with (fail)
        repeat (go_quiet ((go_at_call 81; (with_reducible refine (Cs.calls (rd l0_2 a1) (rd l0_2 x8_1) t115 _ A19.out).mono ?_); rintro e w' ⟨rfl, ⟨nd, rfl⟩⟩; (try first | exact ⟨rfl, _, World.drewN_drewN _ _ _⟩ | exact ⟨rfl, _, Eq.trans (World.drewN_drewN _ _ _) (congrArg (World.drewN _) (Nat.add_assoc _ _ _))⟩); have hnb26 := NB112_106.out; have hnc26 := NB106_112.out; have hcz27_0 : wr.cell? ⟨gb112, 0, none⟩ = some (.int .i64 t107) := (Af BK112.out 0).trans rfl; have hcz27_1 : wr.cell? ⟨gb112, 1, none⟩ = some (.int .i64 t108) := (Af BK112.out 1).trans rfl; have hcz27_2 : wr.cell? ⟨gb112, 2, none⟩ = some (u113002) := (Af BK112.out 2).trans rfl; have hfz27_0 := Ag BK112.out 0; have hfz27_1 := Ag BK112.out 1; have hfz27_2 := Ag BK112.out 2; have p22 : 0 ≤ (x8_1 : Int) := of_decide_eq_true (by first | (with_reducible assumption) | assumption); have q22 : (x8_1 : Int) < ((x113002_1.length : Int) : Int) := of_decide_eq_true (by first | (with_reducible assumption) | assumption); obtain ⟨go22, co22, eo22, gb22, gl22, cl22, HG22⟩ := Kd.R_form HO_113002.out (by omega); (first | cases eo22 | (injection eo22 with ea_ en_ ec_; (first | subst ea_ | (injection ea_ with ea_; subst ea_)); subst ec_; clear en_)); have GB22 := Aa.mk gb22; have GG22 := Aa.mk HG22; clear gb22 gl22 HG22; obtain ⟨hx22_0, hf22_0⟩ := Kd.C6 false HO_113002.out (x8_1 : Int) p22 q22; replace p22 := eq_true p22; replace q22 := eq_true q22; obtain ⟨hy28_, hz28_⟩ := Kd.C6 false HO_113002.out (x8_1 : Int) (of_decide_eq_true (by first | (with_reducible assumption) | assumption)) (of_decide_eq_true (by first | (with_reducible assumption) | assumption)); have HP28 := Kd.Dd HO_113002.out (x8_1 : Int) (decide ((ji20) ≤ a2)))); try go_wp2_with (((with_reducible refine Cr (t := 4) (p := 42) rfl ?_); (try (rw [drewN_self wr]; generalize hq_ : World.drewN wr _ = wr; have n0_ := Aa.mk (Kd.R_at hq_ HO_113002.out); have n1_ := Aa.mk (blk_at hq_ BK105.out); have n2_ := Aa.mk (blk_at hq_ BK106.out); have n3_ := Aa.mk (blk_at hq_ BK112.out); have n4_ := Aa.mk (below_at hq_ HB.out); clear hq_ HO_113002 BK105 BK106 BK112 HB; have HO_113002 := n0_; have BK105 := n1_; have BK106 := n2_; have BK112 := n3_; have HB := n4_; clear n0_ n1_ n2_ n3_ n4_; (try (obtain ⟨hy28_, hz28_⟩ := Kd.C6 false HO_113002.out (x8_1 : Int) (of_decide_eq_true (by first | (with_reducible assumption) | assumption)) (of_decide_eq_true (by first | (with_reducible assumption) | assumption)))); (try (have HP28 := Kd.Dd HO_113002.out (x8_1 : Int) (decide ((ji20) ≤ a2)))))); refine store_event (t := 4) (p := 42) (v := ?vo_w29) (w1 := (wr.setCell ⟨go22, (x8_1 : Int).toNat, none⟩ (.bool (decide ((ji20) ≤ a2))))) ?hg ?ho ?hn ?hr ?_; (case ho => rfl); (case hg => rfl); (case hn => rfl); (case hr => first | (go_simp; done) | (go_simp; rfl)); intro w29 hw; have hg : wr.grownBy w29 (some go22) := (by rw [hw]; exact HP28.2); have hp_ : Kd.R Kd.bool 4 w29 w.heap.size (fun _ => True) (.slice (some ⟨go22, 0, none⟩) x113002_1.length co22) y116 := (by rw [hw, Ny116.out]; exact HP28.1); clear HP28; have n0_ := Aa.mk (hp_); have n1_ := Aa.mk (Bv (g := gb105) (o := .cells #[.int .i64 a0_0, .int .i64 a0_1, .slice (some ad113) l0_2.length c0_2] 24 (0, 0)) (by exact bU <| BK105.out) hg (Kd.C1 HO_113002.out BK105.out (by decide))); have n2_ := Aa.mk (Bv (g := gb106) (o := .cells #[.int .i64 0, .int .i64 0, .slice none 0 0] 50 (0, 0)) (by exact bU <| BK106.out) hg (Kd.C1 HO_113002.out BK106.out (by decide))); have n3_ := Aa.mk (Bv (g := gb112) (o := .cells #[.int .i64 t107, .int .i64 t108, .slice (some ⟨go22, 0, none⟩) x113002_1.length co22] 50 (0, 0)) (by exact bU <| BK112.out) hg (Kd.C1 HO_113002.out BK112.out (by decide))); have n4_ := Aa.mk ((by rw [hw]; exact Ae (HB.out) GB22.out : Below w.heap.size w w29)); clear HO_113002; clear BK105; clear BK106; clear BK112; clear HB; have HO_113002 := n0_; have BK105 := n1_; have BK106 := n2_; have BK112 := n3_; have HB := n4_; clear n0_ n1_ n2_ n3_ n4_; clear hg hw hp_)))
        go_roundg k1
        case measure => have := HK1.out; omega
        case rel => exact ⟨(wrap64 (x8_1 + 1)), (y116), (.slice (some ⟨go22, 0, none⟩) x113002_1.length co22), (by first | rfl | (simp; done) | (simp [*]; done)), H', ⟨by have := HK1.out; omega⟩, ⟨by exact rU <| HO_113002.out⟩, ⟨by exact bU <| BK105.out⟩, ⟨by exact bU <| BK106.out⟩, ⟨by exact bU <| BK112.out⟩, ⟨by repeat (first | (with_reducible first | exact HB.out | apply Ad | apply Ac | apply Ah | refine Ae ?_ GE105.out | refine Ae ?_ GE106.out | refine Ae ?_ GE112.out) | exact HB.out)⟩⟩
       ·rw [if_neg c21] at H
        exact absurd H (by simp)
      ·rw [if_neg c18] at H
       exact absurd H (by simp)
     ·rw [if_neg c17] at H
      exact absurd H (by simp)
    ·rw [if_neg c16] at H
     exact absurd H (by simp)
   ·rw [if_neg c15] at H
    have c15b0 : decide (x8_1 < (l0_2.length : Int)) = false := decide_eq_false c15
    clear c15
    simp only [Option.some.injEq, Prod.mk.injEq] at H
    obtain ⟨rfl, rfl, rfl⟩ := H
    have hnb30 := NB105_106.out
    have hnc30 := NB106_105.out
    have hnb31 := NB105_112.out
    have hnc31 := NB112_105.out
    have hcz32_0 : wr.cell? ⟨gb105, 0, none⟩ = some (.int .i64 a0_0) := (Af BK105.out 0).trans rfl
    have hcz32_1 : wr.cell? ⟨gb105, 1, none⟩ = some (.int .i64 a0_1) := (Af BK105.out 1).trans rfl
    have hcz32_2 : wr.cell? ⟨gb105, 2, none⟩ = some (.slice A0_2 l0_2.length c0_2) := (Af BK105.out 2).trans rfl
    have hfz32_0 := Ag BK105.out 0
    have hfz32_1 := Ag BK105.out 1
    have hfz32_2 := Ag BK105.out 2
    have hnb33 := NB112_106.out
    have hnc33 := NB106_112.out
    have hcz34_0 : wr.cell? ⟨gb112, 0, none⟩ = some (.int .i64 t107) := (Af BK112.out 0).trans rfl
    have hcz34_1 : wr.cell? ⟨gb112, 1, none⟩ = some (.int .i64 t108) := (Af BK112.out 1).trans rfl
    have hcz34_2 : wr.cell? ⟨gb112, 2, none⟩ = some (u113002) := (Af BK112.out 2).trans rfl
    have hfz34_0 := Ag BK112.out 0
    have hfz34_1 := Ag BK112.out 1
    have hfz34_2 := Ag BK112.out 2
    have hcz35_0 : wr.cell? ⟨gb106, 0, none⟩ = some (.int .i64 0) := (Af BK106.out 0).trans rfl
    have hcz35_1 : wr.cell? ⟨gb106, 1, none⟩ = some (.int .i64 0) := (Af BK106.out 1).trans rfl
    have hcz35_2 : wr.cell? ⟨gb106, 2, none⟩ = some (.slice none 0 0) := (Af BK106.out 2).trans rfl
    have hfz35_0 := Ag BK106.out 0
    have hfz35_1 := Ag BK106.out 1
    have hfz35_2 := Ag BK106.out 2
    obtain ⟨Ao36, co36, eo36⟩ := Kd.Br HO_113002.out
    subst eo36
    go_wp2
    repeat (go_quiet (fail); try go_wp2)
    refine bodyPost_ret (results_cell_row rfl _ _ gb106 50 #[.int .i64 t107, .int .i64 t108, .slice Ao36 x113002_1.length co36] (0, 0) _ rfl (by (with_reducible repeat (first | refine Ar ?_ _ | refine Aq ?_ | refine Aj ?_ _)); refine Be (cs := #[.int .i64 t107, .int .i64 t108, .slice none 0 0]) ?_ 2 _ rfl; (with_reducible repeat (first | refine Ar ?_ _ | refine Aq ?_ | refine Aj ?_ _)); refine Be (cs := #[.int .i64 t107, .int .i64 0, .slice none 0 0]) ?_ 1 _ rfl; (with_reducible repeat (first | refine Ar ?_ _ | refine Aq ?_ | refine Aj ?_ _)); refine Be (cs := #[.int .i64 0, .int .i64 0, .slice none 0 0]) ?_ 0 _ rfl; exact bU <| BK106.out) Try.underlying50 rfl (by kernel_rfl)) rfl ?_
    exact ⟨_, by first | rfl | (simp [Ay, Ax] <;> rfl) | (simp [*, Ay, Ax] <;> rfl), by exact rU <| Kd.Bj (Kd.Bb (p := ⟨gb106, 2, none⟩) (Kd.Bb (p := ⟨gb106, 1, none⟩) (Kd.Bb (p := ⟨gb106, 0, none⟩) (Kd.Bz HO_113002.out BK106.out (by decide)) (fun _ hk => hk.2) (.int .i64 t107)) (fun _ hk => hk.2) (.int .i64 t108)) (fun _ hk => hk.2) (.slice Ao36 x113002_1.length co36)) (fun _ hk => trivial), by repeat (first | (with_reducible first | exact HB.out | apply Ad | apply Ac | apply Ah | refine Ae ?_ GE105.out | refine Ae ?_ GE106.out | refine Ae ?_ GE112.out) | exact HB.out)⟩

mutual
def Ao.l0 : Nat → Int → Int → Int → Int → Int → List Int → Int → Option (List Int)
 | 0, _, _, _, _, _, _, _ => none
 | k + 1, x0, x1, x3, x9, x10, x11, x12 => if x12 ≤ 1 then (Ao.l1 k x0 x1 x3 x9 x10 x11 x12 (-1)) else (some x11)
def Ao.l1 : Nat → Int → Int → Int → Int → Int → List Int → Int → Int → Option (List Int)
 | 0, _, _, _, _, _, _, _, _ => none
 | k + 1, x0, x1, x3, x9, x10, x11, x12, x13 => if x13 ≤ 1 then (if x13 = 0 then (if x12 = 0 then (Ao.l1 k x0 x1 x3 x9 x10 x11 x12 (wrap64 (x13 + 1))) else (if x3 = 4 then (if (wrap64 (x9 + x13)) < 0 then (Ao.l1 k x0 x1 x3 x9 x10 x11 x12 (wrap64 (x13 + 1))) else (if (wrap64 (x9 + x13)) ≥ x0 then (Ao.l1 k x0 x1 x3 x9 x10 x11 x12 (wrap64 (x13 + 1))) else (if (wrap64 (x10 + x12)) < 0 then (Ao.l1 k x0 x1 x3 x9 x10 x11 x12 (wrap64 (x13 + 1))) else (if (wrap64 (x10 + x12)) ≥ x1 then (Ao.l1 k x0 x1 x3 x9 x10 x11 x12 (wrap64 (x13 + 1))) else (if x11.length < 17592186044416 then (Ao.l1 k x0 x1 x3 x9 x10 (x11 ++ [wrap64 ((wrap64 ((wrap64 ((wrap64 (x10 + x12)) * x0)) + x9)) + x13)]) x12 (wrap64 (x13 + 1))) else (none)))))) else (if (wrap64 (x9 + x13)) < 0 then (Ao.l1 k x0 x1 x3 x9 x10 x11 x12 (wrap64 (x13 + 1))) else (if (wrap64 (x9 + x13)) ≥ x0 then (Ao.l1 k x0 x1 x3 x9 x10 x11 x12 (wrap64 (x13 + 1))) else (if (wrap64 (x10 + x12)) < 0 then (Ao.l1 k x0 x1 x3 x9 x10 x11 x12 (wrap64 (x13 + 1))) else (if (wrap64 (x10 + x12)) ≥ x1 then (Ao.l1 k x0 x1 x3 x9 x10 x11 x12 (wrap64 (x13 + 1))) else (if x11.length < 17592186044416 then (Ao.l1 k x0 x1 x3 x9 x10 (x11 ++ [wrap64 ((wrap64 ((wrap64 ((wrap64 (x10 + x12)) * x0)) + x9)) + x13)]) x12 (wrap64 (x13 + 1))) else (none)))))))) else (if x3 = 4 then (if x12 = 0 then (if (wrap64 (x9 + x13)) < 0 then (Ao.l1 k x0 x1 x3 x9 x10 x11 x12 (wrap64 (x13 + 1))) else (if (wrap64 (x9 + x13)) ≥ x0 then (Ao.l1 k x0 x1 x3 x9 x10 x11 x12 (wrap64 (x13 + 1))) else (if (wrap64 (x10 + x12)) < 0 then (Ao.l1 k x0 x1 x3 x9 x10 x11 x12 (wrap64 (x13 + 1))) else (if (wrap64 (x10 + x12)) ≥ x1 then (Ao.l1 k x0 x1 x3 x9 x10 x11 x12 (wrap64 (x13 + 1))) else (if x11.length < 17592186044416 then (Ao.l1 k x0 x1 x3 x9 x10 (x11 ++ [wrap64 ((wrap64 ((wrap64 ((wrap64 (x10 + x12)) * x0)) + x9)) + x13)]) x12 (wrap64 (x13 + 1))) else (none)))))) else (Ao.l1 k x0 x1 x3 x9 x10 x11 x12 (wrap64 (x13 + 1)))) else (if (wrap64 (x9 + x13)) < 0 then (Ao.l1 k x0 x1 x3 x9 x10 x11 x12 (wrap64 (x13 + 1))) else (if (wrap64 (x9 + x13)) ≥ x0 then (Ao.l1 k x0 x1 x3 x9 x10 x11 x12 (wrap64 (x13 + 1))) else (if (wrap64 (x10 + x12)) < 0 then (Ao.l1 k x0 x1 x3 x9 x10 x11 x12 (wrap64 (x13 + 1))) else (if (wrap64 (x10 + x12)) ≥ x1 then (Ao.l1 k x0 x1 x3 x9 x10 x11 x12 (wrap64 (x13 + 1))) else (if x11.length < 17592186044416 then (Ao.l1 k x0 x1 x3 x9 x10 (x11 ++ [wrap64 ((wrap64 ((wrap64 ((wrap64 (x10 + x12)) * x0)) + x9)) + x13)]) x12 (wrap64 (x13 + 1))) else (none)))))))) else (Ao.l0 k x0 x1 x3 x9 x10 x11 (wrap64 (x12 + 1)))
end
def Ao.f (k : Nat) (a0 : Int) (a1 : Int) (a2 : Int) (a3 : Int) : Option (List Int) := if a0 = 0 then (none) else (Ao.l0 k a0 a1 a3 (Int.tmod a2 a0) (wrap64 (Int.tdiv a2 a0)) ([] : List Int) (-1))
set_option maxHeartbeats 8000000 in
set_option maxRecDepth 100000 in
theorem Ao.calls (k : Nat) (a0 : Int) (a1 : Int) (a2 : Int) (a3 : Int) (r : List Int) (w : World) (h : Ao.f k a0 a1 a2 a3 = some r) :
  Calls Try.prog 35 #[.int .i64 a0, .int .i64 a1, .int .i64 a2, .int .i64 a3] w fun e w' => ∃ v0_ : Value, e = .returned (v0_) ∧ Kd.R (Kd.int .i64) 3 w' w.heap.size (fun _ => True) v0_ r ∧ Below w.heap.size w w' := by
 have HB := Aa.mk (Below.refl w.heap.size w)
 have H : (if a0 = 0 then (none) else (Ao.l0 k a0 a1 a3 (Int.tmod a2 a0) (wrap64 (Int.tdiv a2 a0)) ([] : List Int) (-1))) = some r := h
 clear h
 by_cases c5 : a0 = 0
 ·rw [if_pos c5] at H
  exact absurd H (by simp)
 ·rw [if_neg c5] at H
  have c5b0 : (a0 == 0) = false := beq_eq_false_iff_ne.mpr c5
  have c5b1 : (a0 != 0) = true := bne_iff_ne.mpr c5
  have H' := Aa.mk H
  clear H
  go_enter Try.func35, Try.ntmps35
  go_wp2
  repeat (go_quiet (fail); try go_wp2)
  go_loopg [11, 12] k (fun kq v11 v12 w' => ∃ (x11_1 : List Int) (x12_1 : Int), v12 = .int .i64 x12_1 ∧ Aa (Ao.l0 kq a0 a1 a3 (Int.tmod a2 a0) (wrap64 (Int.tdiv a2 a0)) x11_1 x12_1 = some r) ∧ Aa (kq ≤ k) ∧ Aa (Kd.R (Kd.int .i64) 3 w' w.heap.size (fun _ => True) v11 x11_1) ∧ Aa (Below w.heap.size w w'))
  case atStart => exact ⟨(([] : List Int)), ((-1)), (by first | rfl | (simp; done) | (simp [*]; done)), H', ⟨Nat.le_refl _⟩, ⟨by first | exact Kd.C8 _ _ _ _ _ | exact Kd.N_nil _ _ _ _ _ | exact Kd.V_nil _ _ _ _ _ | exact Kd.Q_nil _ _ _ _ _ | exact Kd.S_nil _ _ _ _ _⟩, ⟨by repeat (first | (with_reducible first | exact HB.out | apply Ad | apply Ac | apply Ah) | exact HB.out)⟩⟩
  case round => as_aux_lemma =>
   clear H'
   try clear p2
   try clear c3
   try clear c5
   try clear c5b0
   try clear c5b1
   obtain ⟨x11_1, x12_1, rfl, HA, HK1, HO_11, HB⟩ := hrel
   cases gk with
   | zero => exact absurd HA.out (by simp [Ao.l0])
   | succ k1 =>
    have H := HA.out
    clear HA
    simp only [Ao.l0] at H
    by_cases c6 : x12_1 ≤ 1
    ·rw [if_pos c6] at H
     have c6b0 : decide (x12_1 ≤ 1) = true := decide_eq_true c6
     clear c6
     have H' := Aa.mk H
     clear H
     go_wp2
     repeat (go_quiet (fail); try go_wp2)
     go_loopg [11, 13] k1 (fun kq v11 v13 w' => ∃ (x11_2 : List Int) (x13_2 : Int), v13 = .int .i64 x13_2 ∧ Aa (Ao.l1 kq a0 a1 a3 (Int.tmod a2 a0) (wrap64 (Int.tdiv a2 a0)) x11_2 x12_1 x13_2 = some r) ∧ Aa (kq ≤ k1) ∧ Aa (Kd.R (Kd.int .i64) 3 w' w.heap.size (fun _ => True) v11 x11_2) ∧ Aa (Below w.heap.size w w'))
     case atStart => exact ⟨(x11_1), ((-1)), (by first | rfl | (simp; done) | (simp [*]; done)), H', ⟨Nat.le_refl _⟩, ⟨by exact rU <| HO_11.out⟩, ⟨by repeat (first | (with_reducible first | exact HB.out | apply Ad | apply Ac | apply Ah) | exact HB.out)⟩⟩
     case round => as_aux_lemma =>
      clear H'
      try clear p2
      try clear c3
      try clear c5
      try clear c5b0
      try clear c5b1
      try clear c6
      try clear c6b0
      try clear p6
      try clear p2
      obtain ⟨x11_2, x13_2, rfl, HA, HK2, HO_11, HB⟩ := hrel
      cases gk with
      | zero => exact absurd HA.out (by simp [Ao.l1])
      | succ k2 =>
       have H := HA.out
       clear HA
       simp only [Ao.l1] at H
       by_cases c7 : x13_2 ≤ 1
       ·rw [if_pos c7] at H
        have c7b0 : decide (x13_2 ≤ 1) = true := decide_eq_true c7
        clear c7
        by_cases c8 : x13_2 = 0
        ·rw [if_pos c8] at H
         have c8b0 : (x13_2 == 0) = true := beq_iff_eq.mpr c8
         have c8b1 : (x13_2 != 0) = false := bne_eq_false_iff_eq.mpr c8
         clear c8
         by_cases c9 : x12_1 = 0
         ·rw [if_pos c9] at H
          have c9b0 : (x12_1 == 0) = true := beq_iff_eq.mpr c9
          have c9b1 : (x12_1 != 0) = false := bne_eq_false_iff_eq.mpr c9
          clear c9
          have H' := Aa.mk H
          clear H
          go_wp2
          repeat (go_quiet (fail); try go_wp2)
          go_roundg k2
          case measure => have := HK1.out; have := HK2.out; omega
          case rel => exact ⟨(x11_2), (wrap64 (x13_2 + 1)), (by first | rfl | (simp; done) | (simp [*]; done)), H', ⟨by have := HK1.out; have := HK2.out; omega⟩, ⟨by exact rU <| HO_11.out⟩, ⟨by repeat (first | (with_reducible first | exact HB.out | apply Ad | apply Ac | apply Ah) | exact HB.out)⟩⟩
         ·rw [if_neg c9] at H
          have c9b0 : (x12_1 == 0) = false := beq_eq_false_iff_ne.mpr c9
          have c9b1 : (x12_1 != 0) = true := bne_iff_ne.mpr c9
          by_cases c10 : a3 = 4
          ·rw [if_pos c10] at H
           have c10b0 : (a3 == 4) = true := beq_iff_eq.mpr c10
           have c10b1 : (a3 != 4) = false := bne_eq_false_iff_eq.mpr c10
           clear c10
           by_cases c11 : (wrap64 ((Int.tmod a2 a0) + x13_2)) < 0
           ·rw [if_pos c11] at H
            have c11b0 : decide ((wrap64 ((Int.tmod a2 a0) + x13_2)) < 0) = true := decide_eq_true c11
            clear c11
            have H' := Aa.mk H
            clear H
            go_wp2
            repeat (go_quiet (fail); try go_wp2)
            go_roundg k2
            case measure => have := HK1.out; have := HK2.out; omega
            case rel => exact ⟨(x11_2), (wrap64 (x13_2 + 1)), (by first | rfl | (simp; done) | (simp [*]; done)), H', ⟨by have := HK1.out; have := HK2.out; omega⟩, ⟨by exact rU <| HO_11.out⟩, ⟨by repeat (first | (with_reducible first | exact HB.out | apply Ad | apply Ac | apply Ah) | exact HB.out)⟩⟩
           ·rw [if_neg c11] at H
            have c11b0 : decide ((wrap64 ((Int.tmod a2 a0) + x13_2)) < 0) = false := decide_eq_false c11
            clear c11
            by_cases c12 : (wrap64 ((Int.tmod a2 a0) + x13_2)) ≥ a0
            ·rw [if_pos c12] at H
             have c12b0 : decide (a0 ≤ (wrap64 ((Int.tmod a2 a0) + x13_2))) = true := decide_eq_true c12
             clear c12
             have H' := Aa.mk H
             clear H
             go_wp2
             repeat (go_quiet (fail); try go_wp2)
             go_roundg k2
             case measure => have := HK1.out; have := HK2.out; omega
             case rel => exact ⟨(x11_2), (wrap64 (x13_2 + 1)), (by first | rfl | (simp; done) | (simp [*]; done)), H', ⟨by have := HK1.out; have := HK2.out; omega⟩, ⟨by exact rU <| HO_11.out⟩, ⟨by repeat (first | (with_reducible first | exact HB.out | apply Ad | apply Ac | apply Ah) | exact HB.out)⟩⟩
            ·rw [if_neg c12] at H
             have c12b0 : decide (a0 ≤ (wrap64 ((Int.tmod a2 a0) + x13_2))) = false := decide_eq_false c12
             clear c12
             by_cases c13 : (wrap64 ((wrap64 (Int.tdiv a2 a0)) + x12_1)) < 0
             ·rw [if_pos c13] at H
              have c13b0 : decide ((wrap64 ((wrap64 (Int.tdiv a2 a0)) + x12_1)) < 0) = true := decide_eq_true c13
              clear c13
              have H' := Aa.mk H
              clear H
              go_wp2
              repeat (go_quiet (fail); try go_wp2)
              go_roundg k2
              case measure => have := HK1.out; have := HK2.out; omega
              case rel => exact ⟨(x11_2), (wrap64 (x13_2 + 1)), (by first | rfl | (simp; done) | (simp [*]; done)), H', ⟨by have := HK1.out; have := HK2.out; omega⟩, ⟨by exact rU <| HO_11.out⟩, ⟨by repeat (first | (with_reducible first | exact HB.out | apply Ad | apply Ac | apply Ah) | exact HB.out)⟩⟩
             ·rw [if_neg c13] at H
              have c13b0 : decide ((wrap64 ((wrap64 (Int.tdiv a2 a0)) + x12_1)) < 0) = false := decide_eq_false c13
              clear c13
              by_cases c14 : (wrap64 ((wrap64 (Int.tdiv a2 a0)) + x12_1)) ≥ a1
              ·rw [if_pos c14] at H
               have c14b0 : decide (a1 ≤ (wrap64 ((wrap64 (Int.tdiv a2 a0)) + x12_1))) = true := decide_eq_true c14
               clear c14
               have H' := Aa.mk H
               clear H
               go_wp2
               repeat (go_quiet (fail); try go_wp2)
               go_roundg k2
               case measure => have := HK1.out; have := HK2.out; omega
               case rel => exact ⟨(x11_2), (wrap64 (x13_2 + 1)), (by first | rfl | (simp; done) | (simp [*]; done)), H', ⟨by have := HK1.out; have := HK2.out; omega⟩, ⟨by exact rU <| HO_11.out⟩, ⟨by repeat (first | (with_reducible first | exact HB.out | apply Ad | apply Ac | apply Ah) | exact HB.out)⟩⟩
              ·rw [if_neg c14] at H
               have c14b0 : decide (a1 ≤ (wrap64 ((wrap64 (Int.tdiv a2 a0)) + x12_1))) = false := decide_eq_false c14
               clear c14
               by_cases c15 : x11_2.length < 17592186044416
               ·rw [if_pos c15] at H
                have LMc15 := Aa.mk c15
                clear c15
                obtain ⟨y117, hy117⟩ : ∃ y_ : List Int, y_ = (x11_2 ++ [wrap64 ((wrap64 ((wrap64 ((wrap64 ((wrap64 (Int.tdiv a2 a0)) + x12_1)) * a0)) + (Int.tmod a2 a0))) + x13_2)]) := ⟨_, rfl⟩
                replace H : (Ao.l1 k2 a0 a1 a3 (Int.tmod a2 a0) (wrap64 (Int.tdiv a2 a0)) y117 x12_1 (wrap64 (x13_2 + 1))) = some r := by first | (rw [hy117]; with_reducible exact H) | (have H2_ := (Option.bind_some _ _).symm.trans H; rw [hy117]; with_reducible exact H2_) | (have H2_ := (Option.bind_some _ _).symm.trans H; with_reducible exact H2_) | with_reducible exact H | (rw [hy117]; exact H) | exact H
                have Ny117 := Aa.mk hy117
                clear hy117
                have H' := Aa.mk H
                clear H
                go_wp2_with (((with_reducible refine Cu (b := .append) (xs := #[.tmp 75, .tmp 85]) rfl ?_); at_builtin; refine Kd.R_append (Kd.int .i64) (w0 := w) w.heap.size rfl (.tmp 75) (.tmp 85) 31 3 (.int .i64 0) 8 rfl Try.underlying31 info3 rfl (by decide) (by omega) u11 x11_2 (wrap64 ((wrap64 ((wrap64 ((wrap64 ((wrap64 (Int.tdiv a2 a0)) + x12_1)) * a0)) + (Int.tmod a2 a0))) + x13_2)) [.int .i64 (wrap64 ((wrap64 ((wrap64 ((wrap64 ((wrap64 (Int.tdiv a2 a0)) + x12_1)) * a0)) + (Int.tmod a2 a0))) + x13_2))] (fun _ => True) (fun _ => False) rfl rfl ?aP (fun _ hk => hk.elim) ?aF ?aO ?aB ?aS ?aL ?_; (case aP => exact rfl); (case aB => exact (lU HB.out)); (case aF => exact (fun _ _ => trivial)); (case aO => exact (by exact rU <| HO_11.out)); (case aS => exact (Ak (lU HB.out))); (case aL => have := LMc15.out; omega); intro v118 w16 ho hb hg hat; rw [← Ny117.out] at ho; have n0_ := Aa.mk (hb); have n1_ := Aa.mk (ho); clear HB; clear HO_11; have HB := n0_; have HO119 := n1_; clear n0_ n1_; clear ho hb hg hat))
                repeat (go_quiet (fail); try go_wp2_with (fail))
                go_roundg k2
                case measure => have := HK1.out; have := HK2.out; omega
                case rel => exact ⟨(y117), (wrap64 (x13_2 + 1)), (by first | rfl | (simp; done) | (simp [*]; done)), H', ⟨by have := HK1.out; have := HK2.out; omega⟩, ⟨by exact rU <| HO119.out⟩, ⟨by repeat (first | (with_reducible first | exact HB.out | apply Ad | apply Ac | apply Ah) | exact HB.out)⟩⟩
               ·rw [if_neg c15] at H
                exact absurd H (by simp)
          ·rw [if_neg c10] at H
           have c10b0 : (a3 == 4) = false := beq_eq_false_iff_ne.mpr c10
           have c10b1 : (a3 != 4) = true := bne_iff_ne.mpr c10
           by_cases c17 : (wrap64 ((Int.tmod a2 a0) + x13_2)) < 0
           ·rw [if_pos c17] at H
            have c17b0 : decide ((wrap64 ((Int.tmod a2 a0) + x13_2)) < 0) = true := decide_eq_true c17
            clear c17
            have H' := Aa.mk H
            clear H
            go_wp2
            repeat (go_quiet (fail); try go_wp2)
            go_roundg k2
            case measure => have := HK1.out; have := HK2.out; omega
            case rel => exact ⟨(x11_2), (wrap64 (x13_2 + 1)), (by first | rfl | (simp; done) | (simp [*]; done)), H', ⟨by have := HK1.out; have := HK2.out; omega⟩, ⟨by exact rU <| HO_11.out⟩, ⟨by repeat (first | (with_reducible first | exact HB.out | apply Ad | apply Ac | apply Ah) | exact HB.out)⟩⟩
           ·rw [if_neg c17] at H
            have c17b0 : decide ((wrap64 ((Int.tmod a2 a0) + x13_2)) < 0) = false := decide_eq_false c17
            clear c17
            by_cases c18 : (wrap64 ((Int.tmod a2 a0) + x13_2)) ≥ a0
            ·rw [if_pos c18] at H
             have c18b0 : decide (a0 ≤ (wrap64 ((Int.tmod a2 a0) + x13_2))) = true := decide_eq_true c18
             clear c18
             have H' := Aa.mk H
             clear H
             go_wp2
             repeat (go_quiet (fail); try go_wp2)
             go_roundg k2
             case measure => have := HK1.out; have := HK2.out; omega
             case rel => exact ⟨(x11_2), (wrap64 (x13_2 + 1)), (by first | rfl | (simp; done) | (simp [*]; done)), H', ⟨by have := HK1.out; have := HK2.out; omega⟩, ⟨by exact rU <| HO_11.out⟩, ⟨by repeat (first | (with_reducible first | exact HB.out | apply Ad | apply Ac | apply Ah) | exact HB.out)⟩⟩
            ·rw [if_neg c18] at H
             have c18b0 : decide (a0 ≤ (wrap64 ((Int.tmod a2 a0) + x13_2))) = false := decide_eq_false c18
             clear c18
             by_cases c19 : (wrap64 ((wrap64 (Int.tdiv a2 a0)) + x12_1)) < 0
             ·rw [if_pos c19] at H
              have c19b0 : decide ((wrap64 ((wrap64 (Int.tdiv a2 a0)) + x12_1)) < 0) = true := decide_eq_true c19
              clear c19
              have H' := Aa.mk H
              clear H
              go_wp2
              repeat (go_quiet (fail); try go_wp2)
              go_roundg k2
              case measure => have := HK1.out; have := HK2.out; omega
              case rel => exact ⟨(x11_2), (wrap64 (x13_2 + 1)), (by first | rfl | (simp; done) | (simp [*]; done)), H', ⟨by have := HK1.out; have := HK2.out; omega⟩, ⟨by exact rU <| HO_11.out⟩, ⟨by repeat (first | (with_reducible first | exact HB.out | apply Ad | apply Ac | apply Ah) | exact HB.out)⟩⟩
             ·rw [if_neg c19] at H
              have c19b0 : decide ((wrap64 ((wrap64 (Int.tdiv a2 a0)) + x12_1)) < 0) = false := decide_eq_false c19
              clear c19
              by_cases c20 : (wrap64 ((wrap64 (Int.tdiv a2 a0)) + x12_1)) ≥ a1
              ·rw [if_pos c20] at H
               have c20b0 : decide (a1 ≤ (wrap64 ((wrap64 (Int.tdiv a2 a0)) + x12_1))) = true := decide_eq_true c20
               clear c20
               have H' := Aa.mk H
               clear H
               go_wp2
               repeat (go_quiet (fail); try go_wp2)
               go_roundg k2
               case measure => have := HK1.out; have := HK2.out; omega
               case rel => exact ⟨(x11_2), (wrap64 (x13_2 + 1)), (by first | rfl | (simp; done) | (simp [*]; done)), H', ⟨by have := HK1.out; have := HK2.out; omega⟩, ⟨by exact rU <| HO_11.out⟩, ⟨by repeat (first | (with_reducible first | exact HB.out | apply Ad | apply Ac | apply Ah) | exact HB.out)⟩⟩
              ·rw [if_neg c20] at H
               have c20b0 : decide (a1 ≤ (wrap64 ((wrap64 (Int.tdiv a2 a0)) + x12_1))) = false := decide_eq_false c20
               clear c20
               by_cases c21 : x11_2.length < 17592186044416
               ·rw [if_pos c21] at H
                have LMc21 := Aa.mk c21
                clear c21
                obtain ⟨y120, hy120⟩ : ∃ y_ : List Int, y_ = (x11_2 ++ [wrap64 ((wrap64 ((wrap64 ((wrap64 ((wrap64 (Int.tdiv a2 a0)) + x12_1)) * a0)) + (Int.tmod a2 a0))) + x13_2)]) := ⟨_, rfl⟩
                replace H : (Ao.l1 k2 a0 a1 a3 (Int.tmod a2 a0) (wrap64 (Int.tdiv a2 a0)) y120 x12_1 (wrap64 (x13_2 + 1))) = some r := by first | (rw [hy120]; with_reducible exact H) | (have H2_ := (Option.bind_some _ _).symm.trans H; rw [hy120]; with_reducible exact H2_) | (have H2_ := (Option.bind_some _ _).symm.trans H; with_reducible exact H2_) | with_reducible exact H | (rw [hy120]; exact H) | exact H
                have Ny120 := Aa.mk hy120
                clear hy120
                have H' := Aa.mk H
                clear H
                go_wp2_with (((with_reducible refine Cu (b := .append) (xs := #[.tmp 75, .tmp 85]) rfl ?_); at_builtin; refine Kd.R_append (Kd.int .i64) (w0 := w) w.heap.size rfl (.tmp 75) (.tmp 85) 31 3 (.int .i64 0) 8 rfl Try.underlying31 info3 rfl (by decide) (by omega) u11 x11_2 (wrap64 ((wrap64 ((wrap64 ((wrap64 ((wrap64 (Int.tdiv a2 a0)) + x12_1)) * a0)) + (Int.tmod a2 a0))) + x13_2)) [.int .i64 (wrap64 ((wrap64 ((wrap64 ((wrap64 ((wrap64 (Int.tdiv a2 a0)) + x12_1)) * a0)) + (Int.tmod a2 a0))) + x13_2))] (fun _ => True) (fun _ => False) rfl rfl ?aP (fun _ hk => hk.elim) ?aF ?aO ?aB ?aS ?aL ?_; (case aP => exact rfl); (case aB => exact (lU HB.out)); (case aF => exact (fun _ _ => trivial)); (case aO => exact (by exact rU <| HO_11.out)); (case aS => exact (Ak (lU HB.out))); (case aL => have := LMc21.out; omega); intro v121 w22 ho hb hg hat; rw [← Ny120.out] at ho; have n0_ := Aa.mk (hb); have n1_ := Aa.mk (ho); clear HB; clear HO_11; have HB := n0_; have HO122 := n1_; clear n0_ n1_; clear ho hb hg hat))
                repeat (go_quiet (fail); try go_wp2_with (fail))
                go_roundg k2
                case measure => have := HK1.out; have := HK2.out; omega
                case rel => exact ⟨(y120), (wrap64 (x13_2 + 1)), (by first | rfl | (simp; done) | (simp [*]; done)), H', ⟨by have := HK1.out; have := HK2.out; omega⟩, ⟨by exact rU <| HO122.out⟩, ⟨by repeat (first | (with_reducible first | exact HB.out | apply Ad | apply Ac | apply Ah) | exact HB.out)⟩⟩
               ·rw [if_neg c21] at H
                exact absurd H (by simp)
        ·rw [if_neg c8] at H
         have c8b0 : (x13_2 == 0) = false := beq_eq_false_iff_ne.mpr c8
         have c8b1 : (x13_2 != 0) = true := bne_iff_ne.mpr c8
         by_cases c23 : a3 = 4
         ·rw [if_pos c23] at H
          have c23b0 : (a3 == 4) = true := beq_iff_eq.mpr c23
          have c23b1 : (a3 != 4) = false := bne_eq_false_iff_eq.mpr c23
          clear c23
          by_cases c24 : x12_1 = 0
          ·rw [if_pos c24] at H
           have c24b0 : (x12_1 == 0) = true := beq_iff_eq.mpr c24
           have c24b1 : (x12_1 != 0) = false := bne_eq_false_iff_eq.mpr c24
           clear c24
           by_cases c25 : (wrap64 ((Int.tmod a2 a0) + x13_2)) < 0
           ·rw [if_pos c25] at H
            have c25b0 : decide ((wrap64 ((Int.tmod a2 a0) + x13_2)) < 0) = true := decide_eq_true c25
            clear c25
            have H' := Aa.mk H
            clear H
            go_wp2
            repeat (go_quiet (fail); try go_wp2)
            go_roundg k2
            case measure => have := HK1.out; have := HK2.out; omega
            case rel => exact ⟨(x11_2), (wrap64 (x13_2 + 1)), (by first | rfl | (simp; done) | (simp [*]; done)), H', ⟨by have := HK1.out; have := HK2.out; omega⟩, ⟨by exact rU <| HO_11.out⟩, ⟨by repeat (first | (with_reducible first | exact HB.out | apply Ad | apply Ac | apply Ah) | exact HB.out)⟩⟩
           ·rw [if_neg c25] at H
            have c25b0 : decide ((wrap64 ((Int.tmod a2 a0) + x13_2)) < 0) = false := decide_eq_false c25
            clear c25
            by_cases c26 : (wrap64 ((Int.tmod a2 a0) + x13_2)) ≥ a0
            ·rw [if_pos c26] at H
             have c26b0 : decide (a0 ≤ (wrap64 ((Int.tmod a2 a0) + x13_2))) = true := decide_eq_true c26
             clear c26
             have H' := Aa.mk H
             clear H
             go_wp2
             repeat (go_quiet (fail); try go_wp2)
             go_roundg k2
             case measure => have := HK1.out; have := HK2.out; omega
             case rel => exact ⟨(x11_2), (wrap64 (x13_2 + 1)), (by first | rfl | (simp; done) | (simp [*]; done)), H', ⟨by have := HK1.out; have := HK2.out; omega⟩, ⟨by exact rU <| HO_11.out⟩, ⟨by repeat (first | (with_reducible first | exact HB.out | apply Ad | apply Ac | apply Ah) | exact HB.out)⟩⟩
            ·rw [if_neg c26] at H
             have c26b0 : decide (a0 ≤ (wrap64 ((Int.tmod a2 a0) + x13_2))) = false := decide_eq_false c26
             clear c26
             by_cases c27 : (wrap64 ((wrap64 (Int.tdiv a2 a0)) + x12_1)) < 0
             ·rw [if_pos c27] at H
              have c27b0 : decide ((wrap64 ((wrap64 (Int.tdiv a2 a0)) + x12_1)) < 0) = true := decide_eq_true c27
              clear c27
              have H' := Aa.mk H
              clear H
              go_wp2
              repeat (go_quiet (fail); try go_wp2)
              go_roundg k2
              case measure => have := HK1.out; have := HK2.out; omega
              case rel => exact ⟨(x11_2), (wrap64 (x13_2 + 1)), (by first | rfl | (simp; done) | (simp [*]; done)), H', ⟨by have := HK1.out; have := HK2.out; omega⟩, ⟨by exact rU <| HO_11.out⟩, ⟨by repeat (first | (with_reducible first | exact HB.out | apply Ad | apply Ac | apply Ah) | exact HB.out)⟩⟩
             ·rw [if_neg c27] at H
              have c27b0 : decide ((wrap64 ((wrap64 (Int.tdiv a2 a0)) + x12_1)) < 0) = false := decide_eq_false c27
              clear c27
              by_cases c28 : (wrap64 ((wrap64 (Int.tdiv a2 a0)) + x12_1)) ≥ a1
              ·rw [if_pos c28] at H
               have c28b0 : decide (a1 ≤ (wrap64 ((wrap64 (Int.tdiv a2 a0)) + x12_1))) = true := decide_eq_true c28
               clear c28
               have H' := Aa.mk H
               clear H
               go_wp2
               repeat (go_quiet (fail); try go_wp2)
               go_roundg k2
               case measure => have := HK1.out; have := HK2.out; omega
               case rel => exact ⟨(x11_2), (wrap64 (x13_2 + 1)), (by first | rfl | (simp; done) | (simp [*]; done)), H', ⟨by have := HK1.out; have := HK2.out; omega⟩, ⟨by exact rU <| HO_11.out⟩, ⟨by repeat (first | (with_reducible first | exact HB.out | apply Ad | apply Ac | apply Ah) | exact HB.out)⟩⟩
              ·rw [if_neg c28] at H
               have c28b0 : decide (a1 ≤ (wrap64 ((wrap64 (Int.tdiv a2 a0)) + x12_1))) = false := decide_eq_false c28
               clear c28
               by_cases c29 : x11_2.length < 17592186044416
               ·rw [if_pos c29] at H
                have LMc29 := Aa.mk c29
                clear c29
                obtain ⟨y123, hy123⟩ : ∃ y_ : List Int, y_ = (x11_2 ++ [wrap64 ((wrap64 ((wrap64 ((wrap64 ((wrap64 (Int.tdiv a2 a0)) + x12_1)) * a0)) + (Int.tmod a2 a0))) + x13_2)]) := ⟨_, rfl⟩
                replace H : (Ao.l1 k2 a0 a1 a3 (Int.tmod a2 a0) (wrap64 (Int.tdiv a2 a0)) y123 x12_1 (wrap64 (x13_2 + 1))) = some r := by first | (rw [hy123]; with_reducible exact H) | (have H2_ := (Option.bind_some _ _).symm.trans H; rw [hy123]; with_reducible exact H2_) | (have H2_ := (Option.bind_some _ _).symm.trans H; with_reducible exact H2_) | with_reducible exact H | (rw [hy123]; exact H) | exact H
                have Ny123 := Aa.mk hy123
                clear hy123
                have H' := Aa.mk H
                clear H
                go_wp2_with (((with_reducible refine Cu (b := .append) (xs := #[.tmp 75, .tmp 85]) rfl ?_); at_builtin; refine Kd.R_append (Kd.int .i64) (w0 := w) w.heap.size rfl (.tmp 75) (.tmp 85) 31 3 (.int .i64 0) 8 rfl Try.underlying31 info3 rfl (by decide) (by omega) u11 x11_2 (wrap64 ((wrap64 ((wrap64 ((wrap64 ((wrap64 (Int.tdiv a2 a0)) + x12_1)) * a0)) + (Int.tmod a2 a0))) + x13_2)) [.int .i64 (wrap64 ((wrap64 ((wrap64 ((wrap64 ((wrap64 (Int.tdiv a2 a0)) + x12_1)) * a0)) + (Int.tmod a2 a0))) + x13_2))] (fun _ => True) (fun _ => False) rfl rfl ?aP (fun _ hk => hk.elim) ?aF ?aO ?aB ?aS ?aL ?_; (case aP => exact rfl); (case aB => exact (lU HB.out)); (case aF => exact (fun _ _ => trivial)); (case aO => exact (by exact rU <| HO_11.out)); (case aS => exact (Ak (lU HB.out))); (case aL => have := LMc29.out; omega); intro v124 w30 ho hb hg hat; rw [← Ny123.out] at ho; have n0_ := Aa.mk (hb); have n1_ := Aa.mk (ho); clear HB; clear HO_11; have HB := n0_; have HO125 := n1_; clear n0_ n1_; clear ho hb hg hat))
                repeat (go_quiet (fail); try go_wp2_with (fail))
                go_roundg k2
                case measure => have := HK1.out; have := HK2.out; omega
                case rel => exact ⟨(y123), (wrap64 (x13_2 + 1)), (by first | rfl | (simp; done) | (simp [*]; done)), H', ⟨by have := HK1.out; have := HK2.out; omega⟩, ⟨by exact rU <| HO125.out⟩, ⟨by repeat (first | (with_reducible first | exact HB.out | apply Ad | apply Ac | apply Ah) | exact HB.out)⟩⟩
               ·rw [if_neg c29] at H
                exact absurd H (by simp)
          ·rw [if_neg c24] at H
           have c24b0 : (x12_1 == 0) = false := beq_eq_false_iff_ne.mpr c24
           have c24b1 : (x12_1 != 0) = true := bne_iff_ne.mpr c24
           have H' := Aa.mk H
           clear H
           go_wp2
           repeat (go_quiet (fail); try go_wp2)
           go_roundg k2
           case measure => have := HK1.out; have := HK2.out; omega
           case rel => exact ⟨(x11_2), (wrap64 (x13_2 + 1)), (by first | rfl | (simp; done) | (simp [*]; done)), H', ⟨by have := HK1.out; have := HK2.out; omega⟩, ⟨by exact rU <| HO_11.out⟩, ⟨by repeat (first | (with_reducible first | exact HB.out | apply Ad | apply Ac | apply Ah) | exact HB.out)⟩⟩
         ·rw [if_neg c23] at H
          have c23b0 : (a3 == 4) = false := beq_eq_false_iff_ne.mpr c23
          have c23b1 : (a3 != 4) = true := bne_iff_ne.mpr c23
          by_cases c31 : (wrap64 ((Int.tmod a2 a0) + x13_2)) < 0
          ·rw [if_pos c31] at H
           have c31b0 : decide ((wrap64 ((Int.tmod a2 a0) + x13_2)) < 0) = true := decide_eq_true c31
           clear c31
           have H' := Aa.mk H
           clear H
           go_wp2
           repeat (go_quiet (fail); try go_wp2)
           go_roundg k2
           case measure => have := HK1.out; have := HK2.out; omega
           case rel => exact ⟨(x11_2), (wrap64 (x13_2 + 1)), (by first | rfl | (simp; done) | (simp [*]; done)), H', ⟨by have := HK1.out; have := HK2.out; omega⟩, ⟨by exact rU <| HO_11.out⟩, ⟨by repeat (first | (with_reducible first | exact HB.out | apply Ad | apply Ac | apply Ah) | exact HB.out)⟩⟩
          ·rw [if_neg c31] at H
           have c31b0 : decide ((wrap64 ((Int.tmod a2 a0) + x13_2)) < 0) = false := decide_eq_false c31
           clear c31
           by_cases c32 : (wrap64 ((Int.tmod a2 a0) + x13_2)) ≥ a0
           ·rw [if_pos c32] at H
            have c32b0 : decide (a0 ≤ (wrap64 ((Int.tmod a2 a0) + x13_2))) = true := decide_eq_true c32
            clear c32
            have H' := Aa.mk H
            clear H
            go_wp2
            repeat (go_quiet (fail); try go_wp2)
            go_roundg k2
            case measure => have := HK1.out; have := HK2.out; omega
            case rel => exact ⟨(x11_2), (wrap64 (x13_2 + 1)), (by first | rfl | (simp; done) | (simp [*]; done)), H', ⟨by have := HK1.out; have := HK2.out; omega⟩, ⟨by exact rU <| HO_11.out⟩, ⟨by repeat (first | (with_reducible first | exact HB.out | apply Ad | apply Ac | apply Ah) | exact HB.out)⟩⟩
           ·rw [if_neg c32] at H
            have c32b0 : decide (a0 ≤ (wrap64 ((Int.tmod a2 a0) + x13_2))) = false := decide_eq_false c32
            clear c32
            by_cases c33 : (wrap64 ((wrap64 (Int.tdiv a2 a0)) + x12_1)) < 0
            ·rw [if_pos c33] at H
             have c33b0 : decide ((wrap64 ((wrap64 (Int.tdiv a2 a0)) + x12_1)) < 0) = true := decide_eq_true c33
             clear c33
             have H' := Aa.mk H
             clear H
             go_wp2
             repeat (go_quiet (fail); try go_wp2)
             go_roundg k2
             case measure => have := HK1.out; have := HK2.out; omega
             case rel => exact ⟨(x11_2), (wrap64 (x13_2 + 1)), (by first | rfl | (simp; done) | (simp [*]; done)), H', ⟨by have := HK1.out; have := HK2.out; omega⟩, ⟨by exact rU <| HO_11.out⟩, ⟨by repeat (first | (with_reducible first | exact HB.out | apply Ad | apply Ac | apply Ah) | exact HB.out)⟩⟩
            ·rw [if_neg c33] at H
             have c33b0 : decide ((wrap64 ((wrap64 (Int.tdiv a2 a0)) + x12_1)) < 0) = false := decide_eq_false c33
             clear c33
             by_cases c34 : (wrap64 ((wrap64 (Int.tdiv a2 a0)) + x12_1)) ≥ a1
             ·rw [if_pos c34] at H
              have c34b0 : decide (a1 ≤ (wrap64 ((wrap64 (Int.tdiv a2 a0)) + x12_1))) = true := decide_eq_true c34
              clear c34
              have H' := Aa.mk H
              clear H
              go_wp2
              repeat (go_quiet (fail); try go_wp2)
              go_roundg k2
              case measure => have := HK1.out; have := HK2.out; omega
              case rel => exact ⟨(x11_2), (wrap64 (x13_2 + 1)), (by first | rfl | (simp; done) | (simp [*]; done)), H', ⟨by have := HK1.out; have := HK2.out; omega⟩, ⟨by exact rU <| HO_11.out⟩, ⟨by repeat (first | (with_reducible first | exact HB.out | apply Ad | apply Ac | apply Ah) | exact HB.out)⟩⟩
             ·rw [if_neg c34] at H
              have c34b0 : decide (a1 ≤ (wrap64 ((wrap64 (Int.tdiv a2 a0)) + x12_1))) = false := decide_eq_false c34
              clear c34
              by_cases c35 : x11_2.length < 17592186044416
              ·rw [if_pos c35] at H
               have LMc35 := Aa.mk c35
               clear c35
               obtain ⟨y126, hy126⟩ : ∃ y_ : List Int, y_ = (x11_2 ++ [wrap64 ((wrap64 ((wrap64 ((wrap64 ((wrap64 (Int.tdiv a2 a0)) + x12_1)) * a0)) + (Int.tmod a2 a0))) + x13_2)]) := ⟨_, rfl⟩
               replace H : (Ao.l1 k2 a0 a1 a3 (Int.tmod a2 a0) (wrap64 (Int.tdiv a2 a0)) y126 x12_1 (wrap64 (x13_2 + 1))) = some r := by first | (rw [hy126]; with_reducible exact H) | (have H2_ := (Option.bind_some _ _).symm.trans H; rw [hy126]; with_reducible exact H2_) | (have H2_ := (Option.bind_some _ _).symm.trans H; with_reducible exact H2_) | with_reducible exact H | (rw [hy126]; exact H) | exact H
               have Ny126 := Aa.mk hy126
               clear hy126
               have H' := Aa.mk H
               clear H
               go_wp2_with (((with_reducible refine Cu (b := .append) (xs := #[.tmp 75, .tmp 85]) rfl ?_); at_builtin; refine Kd.R_append (Kd.int .i64) (w0 := w) w.heap.size rfl (.tmp 75) (.tmp 85) 31 3 (.int .i64 0) 8 rfl Try.underlying31 info3 rfl (by decide) (by omega) u11 x11_2 (wrap64 ((wrap64 ((wrap64 ((wrap64 ((wrap64 (Int.tdiv a2 a0)) + x12_1)) * a0)) + (Int.tmod a2 a0))) + x13_2)) [.int .i64 (wrap64 ((wrap64 ((wrap64 ((wrap64 ((wrap64 (Int.tdiv a2 a0)) + x12_1)) * a0)) + (Int.tmod a2 a0))) + x13_2))] (fun _ => True) (fun _ => False) rfl rfl ?aP (fun _ hk => hk.elim) ?aF ?aO ?aB ?aS ?aL ?_; (case aP => exact rfl); (case aB => exact (lU HB.out)); (case aF => exact (fun _ _ => trivial)); (case aO => exact (by exact rU <| HO_11.out)); (case aS => exact (Ak (lU HB.out))); (case aL => have := LMc35.out; omega); intro v127 w36 ho hb hg hat; rw [← Ny126.out] at ho; have n0_ := Aa.mk (hb); have n1_ := Aa.mk (ho); clear HB; clear HO_11; have HB := n0_; have HO128 := n1_; clear n0_ n1_; clear ho hb hg hat))
               repeat (go_quiet (fail); try go_wp2_with (fail))
               go_roundg k2
               case measure => have := HK1.out; have := HK2.out; omega
               case rel => exact ⟨(y126), (wrap64 (x13_2 + 1)), (by first | rfl | (simp; done) | (simp [*]; done)), H', ⟨by have := HK1.out; have := HK2.out; omega⟩, ⟨by exact rU <| HO128.out⟩, ⟨by repeat (first | (with_reducible first | exact HB.out | apply Ad | apply Ac | apply Ah) | exact HB.out)⟩⟩
              ·rw [if_neg c35] at H
               exact absurd H (by simp)
       ·rw [if_neg c7] at H
        have c7b0 : decide (x13_2 ≤ 1) = false := decide_eq_false c7
        clear c7
        have H' := Aa.mk H
        clear H
        go_wp2
        repeat (go_quiet (fail); try go_wp2)
        go_roundg k2
        case measure => have := HK1.out; have := HK2.out; omega
        case rel => exact ⟨(x11_2), (wrap64 (x12_1 + 1)), (by first | rfl | (simp; done) | (simp [*]; done)), H', ⟨by have := HK1.out; have := HK2.out; omega⟩, ⟨by exact rU <| HO_11.out⟩, ⟨by repeat (first | (with_reducible first | exact HB.out | apply Ad | apply Ac | apply Ah) | exact HB.out)⟩⟩
    ·rw [if_neg c6] at H
     have c6b0 : decide (x12_1 ≤ 1) = false := decide_eq_false c6
     clear c6
     obtain rfl := Option.some.inj H
     go_wp2
     repeat (go_quiet (fail); try go_wp2)
     go_ret
     exact ⟨_, by first | rfl | (simp [Ay, Ax] <;> rfl) | (simp [*, Ay, Ax] <;> rfl), by exact rU <| HO_11.out, by repeat (first | (with_reducible first | exact HB.out | apply Ad | apply Ac | apply Ah) | exact HB.out)⟩

end Go.Proofs.Yteamphcehoaleaa.PFW

