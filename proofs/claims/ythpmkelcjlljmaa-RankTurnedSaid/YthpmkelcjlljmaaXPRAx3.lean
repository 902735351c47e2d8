import Derived.Test.YthpmkelcjlljmaaXPRAx0
import Derived.Test.YthpmkelcjlljmaaXPRAx2
namespace Go.Proofs.Ythpmkelcjlljmaa.PRA
open Go.RowKit Go.Proofs.YthpmkelcjlljmaaW.PrintWords Go.Proofs.YthpmkelcjlljmaaW.PrintLast Go.Proofs.YthpmkelcjlljmaaW.PrintMore
attribute [local go_sem] max2_int min2_int max_two min_two max_three min_three max_four min_four
set_option linter.unusedVariables false
set_option linter.unusedSimpArgs false

def B2.f (ag : Int) (ah : Int) (af : List Int) : Option (Bool) := if (af.length : Int) ≤ 2000 then (if ag ≤ 4000 then (some (decide (ah ≤ 4000))) else (some false)) else (some false)
set_option maxHeartbeats 8000000 in
set_option maxRecDepth 100000 in
theorem B2.calls (ag : Int) (ah : Int) (am : Option Addr) (an : Nat) (af : List Int) (r : Bool) (w : World) (aH : Kd.C (Kd.int .u32) w am af.length af) (aI : af.length ≤ an) (h : B2.f ag ah af = some r) :
  Calls Try.prog 11 #[.agg #[.int .i64 ag, .int .i64 ah, .slice am af.length an]] w fun e w' => e = .returned (.bool r) ∧ Below w.heap.size w w' := by
 have hu25 := Try.underlying25
 have bq := Ac.mk aH
 have br := Ac.mk aI
 clear aH aI
 have HB := Ac.mk (Below.refl w.heap.size w)
 have H : (if (af.length : Int) ≤ 2000 then (if ag ≤ 4000 then (some (decide (ah ≤ 4000))) else (some false)) else (some false)) = some r := h
 clear h
 by_cases c2 : (af.length : Int) ≤ 2000
 ·rw [if_pos c2] at H
  have aX : decide ((af.length : Int) ≤ 2000) = true := decide_eq_true c2
  have aY : decide (af.length ≤ 2000) = true := decide_eq_true (by omega)
  clear c2
  by_cases c3 : ag ≤ 4000
  ·rw [if_pos c3] at H
   have bi : decide (ag ≤ 4000) = true := decide_eq_true c3
   clear c3
   obtain rfl := Option.some.inj H
   go_enter Try.func11, Try.ntmps11
   go_wp2_with (first | ((with_reducible refine Bd (N := 1) rfl ?_); refine Bc ?hg (N := 1) ?hd (cs := #[.int .i64 ag, .int .i64 ah, .slice am af.length an]) (t := 25) ?hr ?_; (case hd => rfl); (case hg => rfl); (case hr => first | (go_simp; done) | (go_simp; rfl)); intro ao hg w4 hbox hb; have n0_ := Ac.mk (At (by repeat (first | (with_reducible first | exact HB.out | apply Ai | apply Af | apply Aj) | exact HB.out)) hb); have n1_ := Ac.mk (hbox); have n2_ := Ac.mk ((by rw [hg]; exact (Ap (by repeat (first | (with_reducible first | exact HB.out | apply Ai | apply Af | apply Aj) | exact HB.out))) : w.heap.size ≤ ao)); have n3_ := Ac.mk ((by rw [hg]; exact (Ap (by repeat (first | (with_reducible first | exact HB.out | apply Ai | apply Af | apply Aj) | exact HB.out))) : w.heap.size ≤ ao)); clear HB; have HB := n0_; have aj := n1_; have bd := n2_; have aJ := n3_; clear n0_ n1_ n2_ n3_; clear hb hbox hg; have bR : w4.cell? ⟨ao, 0, none⟩ = some (.int .i64 ag) := (Ag aj.out 0).trans rfl; have bS : w4.cell? ⟨ao, 1, none⟩ = some (.int .i64 ah) := (Ag aj.out 1).trans rfl; have bT : w4.cell? ⟨ao, 2, none⟩ = some (.slice am af.length an) := (Ag aj.out 2).trans rfl; have bU := Ah aj.out 0; have bV := Ah aj.out 1; have bW := Ah aj.out 2))
   go_ret
   exact ⟨by first | rfl | (simp [Bb, Ba] <;> rfl) | (simp [*, Bb, Ba] <;> rfl), by repeat (first | (with_reducible first | exact HB.out | apply Ai | apply Af | apply Aj | refine Ae ?_ aJ.out) | exact HB.out)⟩
  ·rw [if_neg c3] at H
   have bi : decide (ag ≤ 4000) = false := decide_eq_false c3
   clear c3
   obtain rfl := Option.some.inj H
   go_enter Try.func11, Try.ntmps11
   go_wp2_with (first | ((with_reducible refine Bd (N := 1) rfl ?_); refine Bc ?hg (N := 1) ?hd (cs := #[.int .i64 ag, .int .i64 ah, .slice am af.length an]) (t := 25) ?hr ?_; (case hd => rfl); (case hg => rfl); (case hr => first | (go_simp; done) | (go_simp; rfl)); intro ao hg w6 hbox hb; have n0_ := Ac.mk (At (by repeat (first | (with_reducible first | exact HB.out | apply Ai | apply Af | apply Aj) | exact HB.out)) hb); have n1_ := Ac.mk (hbox); have n2_ := Ac.mk ((by rw [hg]; exact (Ap (by repeat (first | (with_reducible first | exact HB.out | apply Ai | apply Af | apply Aj) | exact HB.out))) : w.heap.size ≤ ao)); have n3_ := Ac.mk ((by rw [hg]; exact (Ap (by repeat (first | (with_reducible first | exact HB.out | apply Ai | apply Af | apply Aj) | exact HB.out))) : w.heap.size ≤ ao)); clear HB; have HB := n0_; have aj := n1_; have bd := n2_; have aJ := n3_; clear n0_ n1_ n2_ n3_; clear hb hbox hg; have bX : w6.cell? ⟨ao, 0, none⟩ = some (.int .i64 ag) := (Ag aj.out 0).trans rfl; have bY : w6.cell? ⟨ao, 1, none⟩ = some (.int .i64 ah) := (Ag aj.out 1).trans rfl; have bZ : w6.cell? ⟨ao, 2, none⟩ = some (.slice am af.length an) := (Ag aj.out 2).trans rfl; have b6 := Ah aj.out 0; have b7 := Ah aj.out 1; have b8 := Ah aj.out 2))
   go_ret
   exact ⟨by first | rfl | (simp [Bb, Ba] <;> rfl) | (simp [*, Bb, Ba] <;> rfl), by repeat (first | (with_reducible first | exact HB.out | apply Ai | apply Af | apply Aj | refine Ae ?_ aJ.out) | exact HB.out)⟩
 ·rw [if_neg c2] at H
  have aX : decide ((af.length : Int) ≤ 2000) = false := decide_eq_false c2
  have aY : decide (af.length ≤ 2000) = false := decide_eq_false (by omega)
  clear c2
  obtain rfl := Option.some.inj H
  go_enter Try.func11, Try.ntmps11
  go_wp2_with (first | ((with_reducible refine Bd (N := 1) rfl ?_); refine Bc ?hg (N := 1) ?hd (cs := #[.int .i64 ag, .int .i64 ah, .slice am af.length an]) (t := 25) ?hr ?_; (case hd => rfl); (case hg => rfl); (case hr => first | (go_simp; done) | (go_simp; rfl)); intro ao hg w8 hbox hb; have n0_ := Ac.mk (At (by repeat (first | (with_reducible first | exact HB.out | apply Ai | apply Af | apply Aj) | exact HB.out)) hb); have n1_ := Ac.mk (hbox); have n2_ := Ac.mk ((by rw [hg]; exact (Ap (by repeat (first | (with_reducible first | exact HB.out | apply Ai | apply Af | apply Aj) | exact HB.out))) : w.heap.size ≤ ao)); have n3_ := Ac.mk ((by rw [hg]; exact (Ap (by repeat (first | (with_reducible first | exact HB.out | apply Ai | apply Af | apply Aj) | exact HB.out))) : w.heap.size ≤ ao)); clear HB; have HB := n0_; have aj := n1_; have bd := n2_; have aJ := n3_; clear n0_ n1_ n2_ n3_; clear hb hbox hg; have bj : w8.cell? ⟨ao, 0, none⟩ = some (.int .i64 ag) := (Ag aj.out 0).trans rfl; have bl : w8.cell? ⟨ao, 1, none⟩ = some (.int .i64 ah) := (Ag aj.out 1).trans rfl; have bm : w8.cell? ⟨ao, 2, none⟩ = some (.slice am af.length an) := (Ag aj.out 2).trans rfl; have bn := Ah aj.out 0; have bo := Ah aj.out 1; have bp := Ah aj.out 2))
  go_ret
  exact ⟨by first | rfl | (simp [Bb, Ba] <;> rfl) | (simp [*, Bb, Ba] <;> rfl), by repeat (first | (with_reducible first | exact HB.out | apply Ai | apply Af | apply Aj | refine Ae ?_ aJ.out) | exact HB.out)⟩

def Bj.f (a0 : Int) : Option (Int) := if (a0 / 2147483648) = 0 then (some ((a0 + 2147483648) % 4294967296)) else (some ((4294967295 - a0) % 4294967296))
set_option maxHeartbeats 8000000 in
set_option maxRecDepth 100000 in
theorem Bj.calls (a0 : Int) (r : Int) (w : World) (h : Bj.f a0 = some r) :
  Calls Try.prog 27 #[.int .u32 a0] w fun e w' => e = .returned (.int .u32 r) ∧ Drawn0 w w' := by
 have H : (if (a0 / 2147483648) = 0 then (some ((a0 + 2147483648) % 4294967296)) else (some ((4294967295 - a0) % 4294967296))) = some r := h
 clear h
 by_cases c2 : (a0 / 2147483648) = 0
 ·rw [if_pos c2] at H
  have aX : ((a0 / 2147483648) == 0) = true := beq_iff_eq.mpr c2
  have aY : ((a0 / 2147483648) != 0) = false := bne_eq_false_iff_eq.mpr c2
  clear c2
  obtain rfl := Option.some.inj H
  go_enter Try.func27, Try.ntmps27
  go_wp2
  go_ret
  exact ⟨by first | rfl | (simp; done) | (simp [*]; done), by repeat (first | exact Drawn0.refl _ | apply Drawn0.step)⟩
 ·rw [if_neg c2] at H
  have aX : ((a0 / 2147483648) == 0) = false := beq_eq_false_iff_ne.mpr c2
  have aY : ((a0 / 2147483648) != 0) = true := bne_iff_ne.mpr c2
  obtain rfl := Option.some.inj H
  go_enter Try.func27, Try.ntmps27
  go_wp2
  go_ret
  exact ⟨by first | rfl | (simp; done) | (simp [*]; done), by repeat (first | exact Drawn0.refl _ | apply Drawn0.step)⟩

def Cb.f (ag : Int) (ah : Int) (af : List Int) (aw : Int) (ax : Int) (az : List Int) : Option (Bool) := if ag = aw then (if ah = ax then (some ((af.length : Int) == (az.length : Int))) else (some false)) else (some false)
set_option maxHeartbeats 8000000 in
set_option maxRecDepth 100000 in
theorem Cb.calls (ag : Int) (ah : Int) (am : Option Addr) (an : Nat) (af : List Int) (aw : Int) (ax : Int) (aK : Option Addr) (aM : Nat) (az : List Int) (r : Bool) (w : World) (aH : Kd.C (Kd.int .u32) w am af.length af) (aI : af.length ≤ an) (be : Kd.C (Kd.int .u32) w aK az.length az) (bf : az.length ≤ aM) (h : Cb.f ag ah af aw ax az = some r) :
  Calls Try.prog 28 #[.agg #[.int .i64 ag, .int .i64 ah, .slice am af.length an], .agg #[.int .i64 aw, .int .i64 ax, .slice aK az.length aM]] w fun e w' => e = .returned (.bool r) ∧ Below w.heap.size w w' := by
 have hu25 := Try.underlying25
 have bq := Ac.mk aH
 have br := Ac.mk aI
 clear aH aI
 have cj := Ac.mk be
 have cl := Ac.mk bf
 clear be bf
 have HB := Ac.mk (Below.refl w.heap.size w)
 have H : (if ag = aw then (if ah = ax then (some ((af.length : Int) == (az.length : Int))) else (some false)) else (some false)) = some r := h
 clear h
 by_cases c3 : ag = aw
 ·rw [if_pos c3] at H
  have bi : (ag == aw) = true := beq_iff_eq.mpr c3
  have b9 : (ag != aw) = false := bne_eq_false_iff_eq.mpr c3
  clear c3
  by_cases c4 : ah = ax
  ·rw [if_pos c4] at H
   have ca : (ah == ax) = true := beq_iff_eq.mpr c4
   have cb : (ah != ax) = false := bne_eq_false_iff_eq.mpr c4
   clear c4
   obtain rfl := Option.some.inj H
   go_enter Try.func28, Try.ntmps28
   go_wp2_with (first | ((with_reducible refine Bd (N := 2) rfl ?_); (try (refine Bz (by rfl) ?_; dsimp only)); refine Bc ?hg (N := 2) ?hd (cs := #[.int .i64 ag, .int .i64 ah, .slice am af.length an]) (t := 25) ?hr ?_; (case hd => rfl); (case hg => rfl); (case hr => first | (go_simp; done) | (go_simp; rfl)); intro ac hg w5 hbox hb; have n0_ := Ac.mk (At (by repeat (first | (with_reducible first | exact HB.out | apply Ai | apply Af | apply Aj) | exact HB.out)) hb); have n1_ := Ac.mk (hbox); have n2_ := Ac.mk ((by rw [hg]; exact (Ap (by repeat (first | (with_reducible first | exact HB.out | apply Ai | apply Af | apply Aj) | exact HB.out))) : w.heap.size ≤ ac)); have n3_ := Ac.mk ((by rw [hg]; exact (Ap (by repeat (first | (with_reducible first | exact HB.out | apply Ai | apply Af | apply Aj) | exact HB.out))) : w.heap.size ≤ ac)); clear HB; have HB := n0_; have aa := n1_; have bg := n2_; have ap := n3_; clear n0_ n1_ n2_ n3_; clear hb hbox hg) | ((with_reducible refine Bd (N := 3) rfl ?_); (try (refine Bz (by rfl) ?_; dsimp only)); refine Bc ?hg (N := 3) ?hd (cs := #[.int .i64 aw, .int .i64 ax, .slice aK az.length aM]) (t := 25) ?hr ?_; (case hd => rfl); (case hg => rfl); (case hr => first | (go_simp; done) | (go_simp; rfl)); intro ai hg w6 hbox hb; have n0_ := Ac.mk (Ak (g := ac) (o := .cells #[.int .i64 ag, .int .i64 ah, .slice am af.length an] 25 (0, 0)) (by (with_reducible repeat (first | refine Ab ?_ _ | refine Ad ?_ | refine Aa ?_ _)); exact aa.out) hb); have n1_ := Ac.mk (At (by repeat (first | (with_reducible first | exact HB.out | apply Ai | apply Af | apply Aj | refine Ae ?_ ap.out) | exact HB.out)) hb); have n2_ := Ac.mk (hbox); have n3_ := Ac.mk ((by rw [hg]; exact (Ap (by repeat (first | (with_reducible first | exact HB.out | apply Ai | apply Af | apply Aj | refine Ae ?_ ap.out) | exact HB.out))) : w.heap.size ≤ ai)); have n4_ := Ac.mk ((by rw [hg]; exact (Ap (by repeat (first | (with_reducible first | exact HB.out | apply Ai | apply Af | apply Aj | refine Ae ?_ ap.out) | exact HB.out))) : w.heap.size ≤ ai)); have n5_ := Ac.mk ((by rw [hg]; exact Nat.ne_of_lt (Av (g := ac) (o := .cells #[.int .i64 ag, .int .i64 ah, .slice am af.length an] 25 (0, 0)) (by (with_reducible repeat (first | refine Ab ?_ _ | refine Ad ?_ | refine Aa ?_ _)); exact aa.out)) : ac ≠ ai)); have n6_ := Ac.mk ((by rw [hg]; exact Nat.ne_of_gt (Av (g := ac) (o := .cells #[.int .i64 ag, .int .i64 ah, .slice am af.length an] 25 (0, 0)) (by (with_reducible repeat (first | refine Ab ?_ _ | refine Ad ?_ | refine Aa ?_ _)); exact aa.out)) : ai ≠ ac)); clear aa; clear HB; have aa := n0_; have HB := n1_; have ak := n2_; have bh := n3_; have aN := n4_; have aq := n5_; have ar := n6_; clear n0_ n1_ n2_ n3_ n4_ n5_ n6_; clear hb hbox hg; have cv := aq.out; have cw := ar.out; have cd : w6.cell? ⟨ac, 0, none⟩ = some (.int .i64 ag) := (Ag aa.out 0).trans rfl; have ce : w6.cell? ⟨ac, 1, none⟩ = some (.int .i64 ah) := (Ag aa.out 1).trans rfl; have cf : w6.cell? ⟨ac, 2, none⟩ = some (.slice am af.length an) := (Ag aa.out 2).trans rfl; have cg := Ah aa.out 0; have ch := Ah aa.out 1; have ci := Ah aa.out 2; have bj : w6.cell? ⟨ai, 0, none⟩ = some (.int .i64 aw) := (Ag ak.out 0).trans rfl; have bl : w6.cell? ⟨ai, 1, none⟩ = some (.int .i64 ax) := (Ag ak.out 1).trans rfl; have bm : w6.cell? ⟨ai, 2, none⟩ = some (.slice aK az.length aM) := (Ag ak.out 2).trans rfl; have bn := Ah ak.out 0; have bo := Ah ak.out 1; have bp := Ah ak.out 2))
   go_ret
   exact ⟨by first | rfl | (simp [Bb, Ba] <;> rfl) | (simp [*, Bb, Ba] <;> rfl), by repeat (first | (with_reducible first | exact HB.out | apply Ai | apply Af | apply Aj | refine Ae ?_ ap.out | refine Ae ?_ aN.out) | exact HB.out)⟩
  ·rw [if_neg c4] at H
   have ca : (ah == ax) = false := beq_eq_false_iff_ne.mpr c4
   have cb : (ah != ax) = true := bne_iff_ne.mpr c4
   obtain rfl := Option.some.inj H
   go_enter Try.func28, Try.ntmps28
   go_wp2_with (first | ((with_reducible refine Bd (N := 2) rfl ?_); (try (refine Bz (by rfl) ?_; dsimp only)); refine Bc ?hg (N := 2) ?hd (cs := #[.int .i64 ag, .int .i64 ah, .slice am af.length an]) (t := 25) ?hr ?_; (case hd => rfl); (case hg => rfl); (case hr => first | (go_simp; done) | (go_simp; rfl)); intro ac hg w10 hbox hb; have n0_ := Ac.mk (At (by repeat (first | (with_reducible first | exact HB.out | apply Ai | apply Af | apply Aj) | exact HB.out)) hb); have n1_ := Ac.mk (hbox); have n2_ := Ac.mk ((by rw [hg]; exact (Ap (by repeat (first | (with_reducible first | exact HB.out | apply Ai | apply Af | apply Aj) | exact HB.out))) : w.heap.size ≤ ac)); have n3_ := Ac.mk ((by rw [hg]; exact (Ap (by repeat (first | (with_reducible first | exact HB.out | apply Ai | apply Af | apply Aj) | exact HB.out))) : w.heap.size ≤ ac)); clear HB; have HB := n0_; have aa := n1_; have bg := n2_; have ap := n3_; clear n0_ n1_ n2_ n3_; clear hb hbox hg) | ((with_reducible refine Bd (N := 3) rfl ?_); (try (refine Bz (by rfl) ?_; dsimp only)); refine Bc ?hg (N := 3) ?hd (cs := #[.int .i64 aw, .int .i64 ax, .slice aK az.length aM]) (t := 25) ?hr ?_; (case hd => rfl); (case hg => rfl); (case hr => first | (go_simp; done) | (go_simp; rfl)); intro ai hg w11 hbox hb; have n0_ := Ac.mk (Ak (g := ac) (o := .cells #[.int .i64 ag, .int .i64 ah, .slice am af.length an] 25 (0, 0)) (by (with_reducible repeat (first | refine Ab ?_ _ | refine Ad ?_ | refine Aa ?_ _)); exact aa.out) hb); have n1_ := Ac.mk (At (by repeat (first | (with_reducible first | exact HB.out | apply Ai | apply Af | apply Aj | refine Ae ?_ ap.out) | exact HB.out)) hb); have n2_ := Ac.mk (hbox); have n3_ := Ac.mk ((by rw [hg]; exact (Ap (by repeat (first | (with_reducible first | exact HB.out | apply Ai | apply Af | apply Aj | refine Ae ?_ ap.out) | exact HB.out))) : w.heap.size ≤ ai)); have n4_ := Ac.mk ((by rw [hg]; exact (Ap (by repeat (first | (with_reducible first | exact HB.out | apply Ai | apply Af | apply Aj | refine Ae ?_ ap.out) | exact HB.out))) : w.heap.size ≤ ai)); have n5_ := Ac.mk ((by rw [hg]; exact Nat.ne_of_lt (Av (g := ac) (o := .cells #[.int .i64 ag, .int .i64 ah, .slice am af.length an] 25 (0, 0)) (by (with_reducible repeat (first | refine Ab ?_ _ | refine Ad ?_ | refine Aa ?_ _)); exact aa.out)) : ac ≠ ai)); have n6_ := Ac.mk ((by rw [hg]; exact Nat.ne_of_gt (Av (g := ac) (o := .cells #[.int .i64 ag, .int .i64 ah, .slice am af.length an] 25 (0, 0)) (by (with_reducible repeat (first | refine Ab ?_ _ | refine Ad ?_ | refine Aa ?_ _)); exact aa.out)) : ai ≠ ac)); clear aa; clear HB; have aa := n0_; have HB := n1_; have ak := n2_; have bh := n3_; have aN := n4_; have aq := n5_; have ar := n6_; clear n0_ n1_ n2_ n3_ n4_ n5_ n6_; clear hb hbox hg; have cm := aq.out; have co := ar.out; have bs : w11.cell? ⟨ac, 0, none⟩ = some (.int .i64 ag) := (Ag aa.out 0).trans rfl; have bt : w11.cell? ⟨ac, 1, none⟩ = some (.int .i64 ah) := (Ag aa.out 1).trans rfl; have bu : w11.cell? ⟨ac, 2, none⟩ = some (.slice am af.length an) := (Ag aa.out 2).trans rfl; have bv := Ah aa.out 0; have bw := Ah aa.out 1; have bx := Ah aa.out 2; have bz : w11.cell? ⟨ai, 0, none⟩ = some (.int .i64 aw) := (Ag ak.out 0).trans rfl; have bA : w11.cell? ⟨ai, 1, none⟩ = some (.int .i64 ax) := (Ag ak.out 1).trans rfl; have bB : w11.cell? ⟨ai, 2, none⟩ = some (.slice aK az.length aM) := (Ag ak.out 2).trans rfl; have bC := Ah ak.out 0; have bD := Ah ak.out 1; have bE := Ah ak.out 2))
   go_ret
   exact ⟨by first | rfl | (simp [Bb, Ba] <;> rfl) | (simp [*, Bb, Ba] <;> rfl), by repeat (first | (with_reducible first | exact HB.out | apply Ai | apply Af | apply Aj | refine Ae ?_ ap.out | refine Ae ?_ aN.out) | exact HB.out)⟩
 ·rw [if_neg c3] at H
  have bi : (ag == aw) = false := beq_eq_false_iff_ne.mpr c3
  have b9 : (ag != aw) = true := bne_iff_ne.mpr c3
  obtain rfl := Option.some.inj H
  go_enter Try.func28, Try.ntmps28
  go_wp2_with (first | ((with_reducible refine Bd (N := 2) rfl ?_); (try (refine Bz (by rfl) ?_; dsimp only)); refine Bc ?hg (N := 2) ?hd (cs := #[.int .i64 ag, .int .i64 ah, .slice am af.length an]) (t := 25) ?hr ?_; (case hd => rfl); (case hg => rfl); (case hr => first | (go_simp; done) | (go_simp; rfl)); intro ac hg w15 hbox hb; have n0_ := Ac.mk (At (by repeat (first | (with_reducible first | exact HB.out | apply Ai | apply Af | apply Aj) | exact HB.out)) hb); have n1_ := Ac.mk (hbox); have n2_ := Ac.mk ((by rw [hg]; exact (Ap (by repeat (first | (with_reducible first | exact HB.out | apply Ai | apply Af | apply Aj) | exact HB.out))) : w.heap.size ≤ ac)); have n3_ := Ac.mk ((by rw [hg]; exact (Ap (by repeat (first | (with_reducible first | exact HB.out | apply Ai | apply Af | apply Aj) | exact HB.out))) : w.heap.size ≤ ac)); clear HB; have HB := n0_; have aa := n1_; have bg := n2_; have ap := n3_; clear n0_ n1_ n2_ n3_; clear hb hbox hg) | ((with_reducible refine Bd (N := 3) rfl ?_); (try (refine Bz (by rfl) ?_; dsimp only)); refine Bc ?hg (N := 3) ?hd (cs := #[.int .i64 aw, .int .i64 ax, .slice aK az.length aM]) (t := 25) ?hr ?_; (case hd => rfl); (case hg => rfl); (case hr => first | (go_simp; done) | (go_simp; rfl)); intro ai hg w16 hbox hb; have n0_ := Ac.mk (Ak (g := ac) (o := .cells #[.int .i64 ag, .int .i64 ah, .slice am af.length an] 25 (0, 0)) (by (with_reducible repeat (first | refine Ab ?_ _ | refine Ad ?_ | refine Aa ?_ _)); exact aa.out) hb); have n1_ := Ac.mk (At (by repeat (first | (with_reducible first | exact HB.out | apply Ai | apply Af | apply Aj | refine Ae ?_ ap.out) | exact HB.out)) hb); have n2_ := Ac.mk (hbox); have n3_ := Ac.mk ((by rw [hg]; exact (Ap (by repeat (first | (with_reducible first | exact HB.out | apply Ai | apply Af | apply Aj | refine Ae ?_ ap.out) | exact HB.out))) : w.heap.size ≤ ai)); have n4_ := Ac.mk ((by rw [hg]; exact (Ap (by repeat (first | (with_reducible first | exact HB.out | apply Ai | apply Af | apply Aj | refine Ae ?_ ap.out) | exact HB.out))) : w.heap.size ≤ ai)); have n5_ := Ac.mk ((by rw [hg]; exact Nat.ne_of_lt (Av (g := ac) (o := .cells #[.int .i64 ag, .int .i64 ah, .slice am af.length an] 25 (0, 0)) (by (with_reducible repeat (first | refine Ab ?_ _ | refine Ad ?_ | refine Aa ?_ _)); exact aa.out)) : ac ≠ ai)); have n6_ := Ac.mk ((by rw [hg]; exact Nat.ne_of_gt (Av (g := ac) (o := .cells #[.int .i64 ag, .int .i64 ah, .slice am af.length an] 25 (0, 0)) (by (with_reducible repeat (first | refine Ab ?_ _ | refine Ad ?_ | refine Aa ?_ _)); exact aa.out)) : ai ≠ ac)); clear aa; clear HB; have aa := n0_; have HB := n1_; have ak := n2_; have bh := n3_; have aN := n4_; have aq := n5_; have ar := n6_; clear n0_ n1_ n2_ n3_ n4_ n5_ n6_; clear hb hbox hg; have cp := aq.out; have cq := ar.out; have bF : w16.cell? ⟨ac, 0, none⟩ = some (.int .i64 ag) := (Ag aa.out 0).trans rfl; have bG : w16.cell? ⟨ac, 1, none⟩ = some (.int .i64 ah) := (Ag aa.out 1).trans rfl; have bH : w16.cell? ⟨ac, 2, none⟩ = some (.slice am af.length an) := (Ag aa.out 2).trans rfl; have bI := Ah aa.out 0; have bJ := Ah aa.out 1; have bK := Ah aa.out 2; have bL : w16.cell? ⟨ai, 0, none⟩ = some (.int .i64 aw) := (Ag ak.out 0).trans rfl; have bM : w16.cell? ⟨ai, 1, none⟩ = some (.int .i64 ax) := (Ag ak.out 1).trans rfl; have bN : w16.cell? ⟨ai, 2, none⟩ = some (.slice aK az.length aM) := (Ag ak.out 2).trans rfl; have bO := Ah ak.out 0; have bP := Ah ak.out 1; have bQ := Ah ak.out 2))
  go_ret
  exact ⟨by first | rfl | (simp [Bb, Ba] <;> rfl) | (simp [*, Bb, Ba] <;> rfl), by repeat (first | (with_reducible first | exact HB.out | apply Ai | apply Af | apply Aj | refine Ae ?_ ap.out | refine Ae ?_ aN.out) | exact HB.out)⟩

def Bq.f (a0 : Int) : Option (Int) := if (a0 / 2147483648) = 1 then (some ((a0 - 2147483648) % 4294967296)) else (some ((4294967295 - a0) % 4294967296))
set_option maxHeartbeats 8000000 in
set_option maxRecDepth 100000 in
theorem Bq.calls (a0 : Int) (r : Int) (w : World) (h : Bq.f a0 = some r) :
  Calls Try.prog 42 #[.int .u32 a0] w fun e w' => e = .returned (.int .u32 r) ∧ Drawn0 w w' := by
 have H : (if (a0 / 2147483648) = 1 then (some ((a0 - 2147483648) % 4294967296)) else (some ((4294967295 - a0) % 4294967296))) = some r := h
 clear h
 by_cases c2 : (a0 / 2147483648) = 1
 ·rw [if_pos c2] at H
  have aX : ((a0 / 2147483648) == 1) = true := beq_iff_eq.mpr c2
  have aY : ((a0 / 2147483648) != 1) = false := bne_eq_false_iff_eq.mpr c2
  clear c2
  obtain rfl := Option.some.inj H
  go_enter Try.func42, Try.ntmps42
  go_wp2
  go_ret
  exact ⟨by first | rfl | (simp; done) | (simp [*]; done), by repeat (first | exact Drawn0.refl _ | apply Drawn0.step)⟩
 ·rw [if_neg c2] at H
  have aX : ((a0 / 2147483648) == 1) = false := beq_eq_false_iff_ne.mpr c2
  have aY : ((a0 / 2147483648) != 1) = true := bne_iff_ne.mpr c2
  obtain rfl := Option.some.inj H
  go_enter Try.func42, Try.ntmps42
  go_wp2
  go_ret
  exact ⟨by first | rfl | (simp; done) | (simp [*]; done), by repeat (first | exact Drawn0.refl _ | apply Drawn0.step)⟩

def B4.f (a0 : Int) (a1 : Int) (a2 : Int) (a3 : Int) : Option (Int) := (Bj.f a0).bind fun aG => ((Bj.f a1).bind fun aQ => ((Bj.f a2).bind fun aT => ((Bj.f a1).bind fun aD => ((Bj.f a2).bind fun aE => (if 0 ≤ a3 then ((Bq.f (shl .u32 (shr .u32 (mn (mx aG (mn aQ aT)) (mx aD aE)) a3) a3)).bind fun au => (some au)) else (none))))))
set_option maxHeartbeats 8000000 in
set_option maxRecDepth 100000 in
theorem B4.calls (a0 : Int) (a1 : Int) (a2 : Int) (a3 : Int) (r : Int) (w : World) (h : B4.f a0 a1 a2 a3 = some r) :
  Calls Try.prog 29 #[.int .u32 a0, .int .u32 a1, .int .u32 a2, .int .i64 a3] w fun e w' => e = .returned (.int .u32 r) ∧ Below w.heap.size w w' := by
 have HB := Ac.mk (Below.refl w.heap.size w)
 have H : ((Bj.f a0).bind fun aG => ((Bj.f a1).bind fun aQ => ((Bj.f a2).bind fun aT => ((Bj.f a1).bind fun aD => ((Bj.f a2).bind fun aE => (if 0 ≤ a3 then ((Bq.f (shl .u32 (shr .u32 (mn (mx aG (mn aQ aT)) (mx aD aE)) a3) a3)).bind fun au => (some au)) else (none))))))) = some r := h
 clear h
 replace H := Option.bind_eq_some_iff.mp H
 obtain ⟨aG, A50, H⟩ := H
 try dsimp only at H
 have A5 := Ac.mk A50
 clear A50
 replace H := Option.bind_eq_some_iff.mp H
 obtain ⟨aQ, A60, H⟩ := H
 try dsimp only at H
 have A6 := Ac.mk A60
 clear A60
 replace H := Option.bind_eq_some_iff.mp H
 obtain ⟨aT, A70, H⟩ := H
 try dsimp only at H
 have A7 := Ac.mk A70
 clear A70
 obtain ⟨ji8, aU⟩ : ∃ j_ : Int, (mn aQ aT) = j_ := ⟨_, rfl⟩
 replace H : ((Bj.f a1).bind fun aD => ((Bj.f a2).bind fun aE => (if 0 ≤ a3 then ((Bq.f (shl .u32 (shr .u32 (mn (mx aG (ji8)) (mx aD aE)) a3) a3)).bind fun au => (some au)) else (none)))) = some r := by first | (rw [aU] at H; exact H) | (simp only [aU] at H ⊢; exact H)
 (try rw [aU] at A5)
 (try rw [aU] at A6)
 (try rw [aU] at A7)
 have hji8_ : (if aT < aQ then aT else aQ) = ji8 := aU
 obtain ⟨ji9, aV⟩ : ∃ j_ : Int, (mx aG (ji8)) = j_ := ⟨_, rfl⟩
 replace H : ((Bj.f a1).bind fun aD => ((Bj.f a2).bind fun aE => (if 0 ≤ a3 then ((Bq.f (shl .u32 (shr .u32 (mn (ji9) (mx aD aE)) a3) a3)).bind fun au => (some au)) else (none)))) = some r := by first | (rw [aV] at H; exact H) | (simp only [aV] at H ⊢; exact H)
 (try rw [aV] at A5)
 (try rw [aV] at A6)
 (try rw [aV] at A7)
 have hji9_ : (if aG < (ji8) then (ji8) else aG) = ji9 := aV
 replace H := Option.bind_eq_some_iff.mp H
 obtain ⟨aD, A100, H⟩ := H
 try dsimp only at H
 have A10 := Ac.mk A100
 clear A100
 replace H := Option.bind_eq_some_iff.mp H
 obtain ⟨aE, A110, H⟩ := H
 try dsimp only at H
 have A11 := Ac.mk A110
 clear A110
 obtain ⟨aZ, aA⟩ : ∃ j_ : Int, (mx aD aE) = j_ := ⟨_, rfl⟩
 replace H : (if 0 ≤ a3 then ((Bq.f (shl .u32 (shr .u32 (mn (ji9) (aZ)) a3) a3)).bind fun au => (some au)) else (none)) = some r := by first | (rw [aA] at H; exact H) | (simp only [aA] at H ⊢; exact H)
 (try rw [aA] at A5)
 (try rw [aA] at A6)
 (try rw [aA] at A7)
 (try rw [aA] at A10)
 (try rw [aA] at A11)
 have hji12_ : (if aD < aE then aE else aD) = aZ := aA
 obtain ⟨ba, aC⟩ : ∃ j_ : Int, (mn (ji9) (aZ)) = j_ := ⟨_, rfl⟩
 replace H : (if 0 ≤ a3 then ((Bq.f (shl .u32 (shr .u32 (ba) a3) a3)).bind fun au => (some au)) else (none)) = some r := by first | (rw [aC] at H; exact H) | (simp only [aC] at H ⊢; exact H)
 (try rw [aC] at A5)
 (try rw [aC] at A6)
 (try rw [aC] at A7)
 (try rw [aC] at A10)
 (try rw [aC] at A11)
 have hji13_ : (if (aZ) < (ji9) then (aZ) else (ji9)) = ba := aC
 by_cases c14 : 0 ≤ a3
 ·rw [if_pos c14] at H
  have cr := eq_true c14
  have ct : decide (0 ≤ a3) = true := decide_eq_true c14
  clear c14
  obtain ⟨aW, ay⟩ : ∃ j_ : Int, (shr .u32 (ba) a3) = j_ := ⟨_, rfl⟩
  replace H : ((Bq.f (shl .u32 (aW) a3)).bind fun au => (some au)) = some r := by first | (rw [ay] at H; exact H) | (simp only [ay] at H ⊢; exact H)
  (try rw [ay] at A5)
  (try rw [ay] at A6)
  (try rw [ay] at A7)
  (try rw [ay] at A10)
  (try rw [ay] at A11)
  have hji15_ : ((ba) / 2 ^ min a3.toNat 32) = aW := ay
  have hji15z : a3 ≤ 32 → ((ba) / 2 ^ a3.toNat) = aW := shr_small ay
  have cu := eq_true (of_decide_eq_true (by with_reducible assumption) : 0 ≤ a3)
  obtain ⟨bc, av⟩ : ∃ j_ : Int, (shl .u32 (aW) a3) = j_ := ⟨_, rfl⟩
  replace H : ((Bq.f (bc)).bind fun au => (some au)) = some r := by first | (rw [av] at H; exact H) | (simp only [av] at H ⊢; exact H)
  (try rw [av] at A5)
  (try rw [av] at A6)
  (try rw [av] at A7)
  (try rw [av] at A10)
  (try rw [av] at A11)
  have hji17_ : (IntKind.u32.wrap ((aW) * 2 ^ min a3.toNat 32)) = bc := av
  have hji17z : a3 ≤ 32 → (IntKind.u32.wrap ((aW) * 2 ^ a3.toNat)) = bc := shl_small av
  replace H := Option.bind_eq_some_iff.mp H
  obtain ⟨au, A180, H⟩ := H
  try dsimp only at H
  have A18 := Ac.mk A180
  clear A180
  obtain rfl := Option.some.inj H
  go_enter Try.func29, Try.ntmps29
  go_wp2_with (first | ((with_reducible refine Be (f := 27) rfl ?_); refine Bv (some 11) rfl rfl Try.func27 (by kernel_rfl) rfl #[.int .u32 a0] rfl (by (try simp only [List.map_toArray, List.map_cons, List.map_nil]); first | done | rfl | (simp only [List.length_drop, List.length_take]; rfl)) ?_; (with_reducible refine (Bj.calls a0 aG _ A5.out).mono ?_); rintro e w' ⟨rfl, ⟨nd, rfl⟩⟩; refine ⟨_, rfl, ?_⟩) | ((with_reducible refine Be (f := 27) rfl ?_); refine Bv (some 13) rfl rfl Try.func27 (by kernel_rfl) rfl #[.int .u32 a1] rfl (by (try simp only [List.map_toArray, List.map_cons, List.map_nil]); first | done | rfl | (simp only [List.length_drop, List.length_take]; rfl)) ?_; (with_reducible refine (Bj.calls a1 aQ _ A6.out).mono ?_); rintro e w' ⟨rfl, ⟨nd, rfl⟩⟩; refine ⟨_, rfl, ?_⟩) | ((with_reducible refine Be (f := 27) rfl ?_); refine Bv (some 15) rfl rfl Try.func27 (by kernel_rfl) rfl #[.int .u32 a2] rfl (by (try simp only [List.map_toArray, List.map_cons, List.map_nil]); first | done | rfl | (simp only [List.length_drop, List.length_take]; rfl)) ?_; (with_reducible refine (Bj.calls a2 aT _ A7.out).mono ?_); rintro e w' ⟨rfl, ⟨nd, rfl⟩⟩; refine ⟨_, rfl, ?_⟩) | ((with_reducible refine Be (f := 27) rfl ?_); refine Bv (some 19) rfl rfl Try.func27 (by kernel_rfl) rfl #[.int .u32 a1] rfl (by (try simp only [List.map_toArray, List.map_cons, List.map_nil]); first | done | rfl | (simp only [List.length_drop, List.length_take]; rfl)) ?_; (with_reducible refine (Bj.calls a1 aD _ A10.out).mono ?_); rintro e w' ⟨rfl, ⟨nd, rfl⟩⟩; refine ⟨_, rfl, ?_⟩) | ((with_reducible refine Be (f := 27) rfl ?_); refine Bv (some 21) rfl rfl Try.func27 (by kernel_rfl) rfl #[.int .u32 a2] rfl (by (try simp only [List.map_toArray, List.map_cons, List.map_nil]); first | done | rfl | (simp only [List.length_drop, List.length_take]; rfl)) ?_; (with_reducible refine (Bj.calls a2 aE _ A11.out).mono ?_); rintro e w' ⟨rfl, ⟨nd, rfl⟩⟩; refine ⟨_, rfl, ?_⟩) | ((with_reducible refine Be (f := 42) rfl ?_); refine Bv (some 29) rfl rfl Try.func42 (by kernel_rfl) rfl #[.int .u32 bc] rfl (by (try simp only [List.map_toArray, List.map_cons, List.map_nil]); first | done | (simp only [av]; rfl) | rfl | (simp only [List.length_drop, List.length_take]; rfl)) ?_; (with_reducible refine (Bq.calls bc au _ A18.out).mono ?_); rintro e w' ⟨rfl, ⟨nd, rfl⟩⟩; refine ⟨_, rfl, ?_⟩))
  go_ret
  exact ⟨by first | rfl | (simp [Bb, Ba] <;> rfl) | (simp only [← aU, ← aV, ← aA, ← aC, ← ay, ← av]; first | rfl | (simp [Bb, Ba] <;> rfl)) | (simp [*, Bb, Ba] <;> rfl), by repeat (first | (with_reducible first | exact HB.out | apply Ai | apply Af | apply Aj) | exact HB.out)⟩
 ·rw [if_neg c14] at H
  exact absurd H (by simp)

end Go.Proofs.Ythpmkelcjlljmaa.PRA

