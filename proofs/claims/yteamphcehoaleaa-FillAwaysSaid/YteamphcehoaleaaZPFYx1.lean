import Derived.Test.YteamphcehoaleaaZPFYx0
import Derived.Test.YteamphcehoaleaaZPFAx6
import Derived.Test.YteamphcehoaleaaZPFEx2
namespace Go.Proofs.Yteamphcehoaleaa.PFY
open Go.Proofs.Yteamphcehoaleaa.PFA Go.Proofs.Yteamphcehoaleaa.PFE Go.Proofs.Yteamphcehoaleaa.PFK
open Go.RowKit Go.Proofs.YteamphcehoaleaaW.PrintWords Go.Proofs.YteamphcehoaleaaW.PrintLast Go.Proofs.YteamphcehoaleaaW.PrintMore
attribute [local go_sem] max2_int min2_int max_two min_two max_three min_three max_four min_four
set_option linter.unusedVariables false
set_option linter.unusedSimpArgs false

def Co.f (a0 : Int) (a1 : Int) : Option (Bool) := if a0 ≥ 1 then (if a0 ≤ 1024 then (if a1 ≥ 1 then (if a1 ≤ 1024 then (some (decide ((wrap64 (a0 * a1)) ≤ 65536))) else (some false)) else (some false)) else (some false)) else (some false)
set_option maxHeartbeats 8000000 in
set_option maxRecDepth 100000 in
theorem Co.calls (a0 : Int) (a1 : Int) (r : Bool) (w : World) (h : Co.f a0 a1 = some r) :
  Calls Try.prog 90 #[.int .i64 a0, .int .i64 a1] w fun e w' => e = .returned (.bool r) ∧ Drawn0 w w' := by
 have H : (if a0 ≥ 1 then (if a0 ≤ 1024 then (if a1 ≥ 1 then (if a1 ≤ 1024 then (some (decide ((wrap64 (a0 * a1)) ≤ 65536))) else (some false)) else (some false)) else (some false)) else (some false)) = some r := h
 clear h
 by_cases c3 : a0 ≥ 1
 ·rw [if_pos c3] at H
  have b6 : decide (1 ≤ a0) = true := decide_eq_true c3
  clear c3
  by_cases c4 : a0 ≤ 1024
  ·rw [if_pos c4] at H
   have bh : decide (a0 ≤ 1024) = true := decide_eq_true c4
   clear c4
   by_cases c5 : a1 ≥ 1
   ·rw [if_pos c5] at H
    have cZ : decide (1 ≤ a1) = true := decide_eq_true c5
    clear c5
    by_cases c6 : a1 ≤ 1024
    ·rw [if_pos c6] at H
     have da : decide (a1 ≤ 1024) = true := decide_eq_true c6
     clear c6
     obtain rfl := Option.some.inj H
     go_enter Try.func90, Try.ntmps90
     go_wp2
     go_ret
     exact ⟨by first | rfl | (simp; done) | (simp [*]; done), by repeat (first | exact Drawn0.refl _ | apply Drawn0.step)⟩
    ·rw [if_neg c6] at H
     have da : decide (a1 ≤ 1024) = false := decide_eq_false c6
     clear c6
     obtain rfl := Option.some.inj H
     go_enter Try.func90, Try.ntmps90
     go_wp2
     go_ret
     exact ⟨by first | rfl | (simp; done) | (simp [*]; done), by repeat (first | exact Drawn0.refl _ | apply Drawn0.step)⟩
   ·rw [if_neg c5] at H
    have cZ : decide (1 ≤ a1) = false := decide_eq_false c5
    clear c5
    obtain rfl := Option.some.inj H
    go_enter Try.func90, Try.ntmps90
    go_wp2
    go_ret
    exact ⟨by first | rfl | (simp; done) | (simp [*]; done), by repeat (first | exact Drawn0.refl _ | apply Drawn0.step)⟩
  ·rw [if_neg c4] at H
   have bh : decide (a0 ≤ 1024) = false := decide_eq_false c4
   clear c4
   obtain rfl := Option.some.inj H
   go_enter Try.func90, Try.ntmps90
   go_wp2
   go_ret
   exact ⟨by first | rfl | (simp; done) | (simp [*]; done), by repeat (first | exact Drawn0.refl _ | apply Drawn0.step)⟩
 ·rw [if_neg c3] at H
  have b6 : decide (1 ≤ a0) = false := decide_eq_false c3
  clear c3
  obtain rfl := Option.some.inj H
  go_enter Try.func90, Try.ntmps90
  go_wp2
  go_ret
  exact ⟨by first | rfl | (simp; done) | (simp [*]; done), by repeat (first | exact Drawn0.refl _ | apply Drawn0.step)⟩

def Ca.f (ab : Int) (ac : Int) (aa : List Bool) : Option (Int) := (Co.f ab ac).bind fun bt => (if bt = true then (if (aa.length : Int) = (wrap64 (ab * ac)) then (some 0) else (some 301)) else (some 300))
set_option maxHeartbeats 8000000 in
set_option maxRecDepth 100000 in
theorem Ca.calls (ab : Int) (ac : Int) (ah : Option Addr) (af : Nat) (aa : List Bool) (r : Int) (w : World) (aA : Kd.C Kd.bool w ah aa.length aa) (aC : aa.length ≤ af) (h : Ca.f ab ac aa = some r) :
  Calls Try.prog 47 #[.agg #[.int .i64 ab, .int .i64 ac, .slice ah aa.length af]] w fun e w' => e = .returned (.int .i64 r) ∧ Below w.heap.size w w' := by
 have hu50 := Try.underlying50
 have aD := Aa.mk aA
 have aH := Aa.mk aC
 clear aA aC
 have HB := Aa.mk (Below.refl w.heap.size w)
 have H : ((Co.f ab ac).bind fun bt => (if bt = true then (if (aa.length : Int) = (wrap64 (ab * ac)) then (some 0) else (some 301)) else (some 300))) = some r := h
 clear h
 replace H := Option.bind_eq_some_iff.mp H
 obtain ⟨bt, A20, H⟩ := H
 try dsimp only at H
 have A2 := Aa.mk A20
 clear A20
 by_cases c3 : bt = true
 ·subst c3
  have H1 := H
  rw [if_pos rfl] at H1
  clear H
  have H := H1
  clear H1
  by_cases c4 : (aa.length : Int) = (wrap64 (ab * ac))
  ·rw [if_pos c4] at H
   have bh : ((aa.length : Int) == (wrap64 (ab * ac))) = true := beq_iff_eq.mpr c4
   have bu : ((aa.length : Int) != (wrap64 (ab * ac))) = false := bne_eq_false_iff_eq.mpr c4
   clear c4
   obtain rfl := Option.some.inj H
   go_enter Try.func47, Try.ntmps47
   go_wp2_with (first | ((with_reducible refine Bq (N := 1) rfl ?_); refine Bt ?hg (N := 1) ?hd (cs := #[.int .i64 ab, .int .i64 ac, .slice ah aa.length af]) (t := 50) ?hr ?_; (case hd => rfl); (case hg => rfl); (case hr => first | (go_simp; done) | (go_simp; rfl)); intro ar hg w5 hbox hb; have n0_ := Aa.mk (Au (lU HB.out) hb); have n1_ := Aa.mk (hbox); have n2_ := Aa.mk ((by rw [hg]; exact (An (lU HB.out)) : w.heap.size ≤ ar)); have n3_ := Aa.mk ((by rw [hg]; exact (An (lU HB.out)) : w.heap.size ≤ ar)); clear HB; have HB := n0_; have an := n1_; have b3 := n2_; have bj := n3_; clear n0_ n1_ n2_ n3_; clear hb hbox hg; have db : w5.cell? ⟨ar, 0, none⟩ = some (.int .i64 ab) := (Ad an.out 0).trans rfl; have dc : w5.cell? ⟨ar, 1, none⟩ = some (.int .i64 ac) := (Ad an.out 1).trans rfl; have dd : w5.cell? ⟨ar, 2, none⟩ = some (.slice ah aa.length af) := (Ad an.out 2).trans rfl; have de := Af an.out 0; have df := Af an.out 1; have dg := Af an.out 2) | ((with_reducible refine Br (f := 90) rfl ?_); refine Cm (some 7) rfl rfl Try.func90 (by kernel_rfl) rfl #[.int .i64 ab, .int .i64 ac] rfl (by (try simp only [List.map_toArray, List.map_cons, List.map_nil]); first | done | rfl | (simp only [List.length_drop, List.length_take]; rfl)) ?_; (with_reducible refine (Co.calls ab ac true _ A2.out).mono ?_); rintro e w' ⟨rfl, ⟨nd, rfl⟩⟩; refine ⟨_, rfl, ?_⟩))
   go_ret
   exact ⟨by first | rfl | (simp [Be, Bd] <;> rfl) | (simp [*, Be, Bd] <;> rfl), by repeat (first | (with_reducible first | exact HB.out | apply Ae | apply Ac | apply Ah | refine Ag ?_ bj.out) | exact HB.out)⟩
  ·rw [if_neg c4] at H
   have bh : ((aa.length : Int) == (wrap64 (ab * ac))) = false := beq_eq_false_iff_ne.mpr c4
   have bu : ((aa.length : Int) != (wrap64 (ab * ac))) = true := bne_iff_ne.mpr c4
   obtain rfl := Option.some.inj H
   go_enter Try.func47, Try.ntmps47
   go_wp2_with (first | ((with_reducible refine Bq (N := 1) rfl ?_); refine Bt ?hg (N := 1) ?hd (cs := #[.int .i64 ab, .int .i64 ac, .slice ah aa.length af]) (t := 50) ?hr ?_; (case hd => rfl); (case hg => rfl); (case hr => first | (go_simp; done) | (go_simp; rfl)); intro ar hg w7 hbox hb; have n0_ := Aa.mk (Au (lU HB.out) hb); have n1_ := Aa.mk (hbox); have n2_ := Aa.mk ((by rw [hg]; exact (An (lU HB.out)) : w.heap.size ≤ ar)); have n3_ := Aa.mk ((by rw [hg]; exact (An (lU HB.out)) : w.heap.size ≤ ar)); clear HB; have HB := n0_; have an := n1_; have b3 := n2_; have bj := n3_; clear n0_ n1_ n2_ n3_; clear hb hbox hg; have ba : w7.cell? ⟨ar, 0, none⟩ = some (.int .i64 ab) := (Ad an.out 0).trans rfl; have bb : w7.cell? ⟨ar, 1, none⟩ = some (.int .i64 ac) := (Ad an.out 1).trans rfl; have bc : w7.cell? ⟨ar, 2, none⟩ = some (.slice ah aa.length af) := (Ad an.out 2).trans rfl; have bd := Af an.out 0; have be := Af an.out 1; have bf := Af an.out 2) | ((with_reducible refine Br (f := 90) rfl ?_); refine Cm (some 7) rfl rfl Try.func90 (by kernel_rfl) rfl #[.int .i64 ab, .int .i64 ac] rfl (by (try simp only [List.map_toArray, List.map_cons, List.map_nil]); first | done | rfl | (simp only [List.length_drop, List.length_take]; rfl)) ?_; (with_reducible refine (Co.calls ab ac true _ A2.out).mono ?_); rintro e w' ⟨rfl, ⟨nd, rfl⟩⟩; refine ⟨_, rfl, ?_⟩))
   go_ret
   exact ⟨by first | rfl | (simp [Be, Bd] <;> rfl) | (simp [*, Be, Bd] <;> rfl), by repeat (first | (with_reducible first | exact HB.out | apply Ae | apply Ac | apply Ah | refine Ag ?_ bj.out) | exact HB.out)⟩
 ·replace c3 := Bool.eq_false_iff.mpr c3
  subst c3
  have H1 := H
  rw [if_neg (show ¬ (false = true) by decide)] at H1
  clear H
  have H := H1
  clear H1
  obtain rfl := Option.some.inj H
  go_enter Try.func47, Try.ntmps47
  go_wp2_with (first | ((with_reducible refine Bq (N := 1) rfl ?_); refine Bt ?hg (N := 1) ?hd (cs := #[.int .i64 ab, .int .i64 ac, .slice ah aa.length af]) (t := 50) ?hr ?_; (case hd => rfl); (case hg => rfl); (case hr => first | (go_simp; done) | (go_simp; rfl)); intro ar hg w9 hbox hb; have n0_ := Aa.mk (Au (lU HB.out) hb); have n1_ := Aa.mk (hbox); have n2_ := Aa.mk ((by rw [hg]; exact (An (lU HB.out)) : w.heap.size ≤ ar)); have n3_ := Aa.mk ((by rw [hg]; exact (An (lU HB.out)) : w.heap.size ≤ ar)); clear HB; have HB := n0_; have an := n1_; have b3 := n2_; have bj := n3_; clear n0_ n1_ n2_ n3_; clear hb hbox hg; have bF : w9.cell? ⟨ar, 0, none⟩ = some (.int .i64 ab) := (Ad an.out 0).trans rfl; have bG : w9.cell? ⟨ar, 1, none⟩ = some (.int .i64 ac) := (Ad an.out 1).trans rfl; have bH : w9.cell? ⟨ar, 2, none⟩ = some (.slice ah aa.length af) := (Ad an.out 2).trans rfl; have bI := Af an.out 0; have bJ := Af an.out 1; have bK := Af an.out 2) | ((with_reducible refine Br (f := 90) rfl ?_); refine Cm (some 7) rfl rfl Try.func90 (by kernel_rfl) rfl #[.int .i64 ab, .int .i64 ac] rfl (by (try simp only [List.map_toArray, List.map_cons, List.map_nil]); first | done | rfl | (simp only [List.length_drop, List.length_take]; rfl)) ?_; (with_reducible refine (Co.calls ab ac false _ A2.out).mono ?_); rintro e w' ⟨rfl, ⟨nd, rfl⟩⟩; refine ⟨_, rfl, ?_⟩))
  go_ret
  exact ⟨by first | rfl | (simp [Be, Bd] <;> rfl) | (simp [*, Be, Bd] <;> rfl), by repeat (first | (with_reducible first | exact HB.out | apply Ae | apply Ac | apply Ah | refine Ag ?_ bj.out) | exact HB.out)⟩

def Cs.f (a0 : Int) : Option (Bool) := if a0 = 4 then (some true) else (some (a0 == 8))
set_option maxHeartbeats 8000000 in
set_option maxRecDepth 100000 in
theorem Cs.calls (a0 : Int) (r : Bool) (w : World) (h : Cs.f a0 = some r) :
  Calls Try.prog 63 #[.int .i64 a0] w fun e w' => e = .returned (.bool r) ∧ Drawn0 w w' := by
 have H : (if a0 = 4 then (some true) else (some (a0 == 8))) = some r := h
 clear h
 by_cases c2 : a0 = 4
 ·rw [if_pos c2] at H
  have dh : (a0 == 4) = true := beq_iff_eq.mpr c2
  have di : (a0 != 4) = false := bne_eq_false_iff_eq.mpr c2
  clear c2
  obtain rfl := Option.some.inj H
  go_enter Try.func63, Try.ntmps63
  go_wp2
  go_ret
  exact ⟨by first | rfl | (simp; done) | (simp [*]; done), by repeat (first | exact Drawn0.refl _ | apply Drawn0.step)⟩
 ·rw [if_neg c2] at H
  have dh : (a0 == 4) = false := beq_eq_false_iff_ne.mpr c2
  have di : (a0 != 4) = true := bne_iff_ne.mpr c2
  obtain rfl := Option.some.inj H
  go_enter Try.func63, Try.ntmps63
  go_wp2
  go_ret
  exact ⟨by first | rfl | (simp; done) | (simp [*]; done), by repeat (first | exact Drawn0.refl _ | apply Drawn0.step)⟩

def Cr.f (ab : Int) (ac : Int) (aa : List Bool) (a1 : Int) : Option (Int) := (Ca.f ab ac aa).bind fun aE => (if aE = 0 then ((Cs.f a1).bind fun bv => (if bv = true then (some aE) else (some 302))) else (some aE))
set_option maxHeartbeats 8000000 in
set_option maxRecDepth 100000 in
theorem Cr.calls (ab : Int) (ac : Int) (ah : Option Addr) (af : Nat) (aa : List Bool) (a1 : Int) (r : Int) (w : World) (aA : Kd.C Kd.bool w ah aa.length aa) (aC : aa.length ≤ af) (h : Cr.f ab ac aa a1 = some r) :
  Calls Try.prog 70 #[.agg #[.int .i64 ab, .int .i64 ac, .slice ah aa.length af], .int .i64 a1] w fun e w' => e = .returned (.int .i64 r) ∧ Below w.heap.size w w' := by
 have hu50 := Try.underlying50
 have aD := Aa.mk aA
 have aH := Aa.mk aC
 clear aA aC
 have HB := Aa.mk (Below.refl w.heap.size w)
 have H : ((Ca.f ab ac aa).bind fun aE => (if aE = 0 then ((Cs.f a1).bind fun bv => (if bv = true then (some aE) else (some 302))) else (some aE))) = some r := h
 clear h
 replace H := Option.bind_eq_some_iff.mp H
 obtain ⟨aE, A30, H⟩ := H
 try dsimp only at H
 have A3 := Aa.mk A30
 clear A30
 by_cases c4 : aE = 0
 ·rw [if_pos c4] at H
  have bh : (aE == 0) = true := beq_iff_eq.mpr c4
  have bu : (aE != 0) = false := bne_eq_false_iff_eq.mpr c4
  clear c4
  replace H := Option.bind_eq_some_iff.mp H
  obtain ⟨bv, A50, H⟩ := H
  try dsimp only at H
  have A5 := Aa.mk A50
  clear A50
  by_cases c6 : bv = true
  ·subst c6
   have H1 := H
   rw [if_pos rfl] at H1
   clear H
   have H := H1
   clear H1
   obtain rfl := Option.some.inj H
   go_enter Try.func70, Try.ntmps70
   go_wp2_with (first | ((with_reducible refine Bq (N := 2) rfl ?_); refine Bt ?hg (N := 2) ?hd (cs := #[.int .i64 ab, .int .i64 ac, .slice ah aa.length af]) (t := 50) ?hr ?_; (case hd => rfl); (case hg => rfl); (case hr => first | (go_simp; done) | (go_simp; rfl)); intro ao hg w7 hbox hb; have n0_ := Aa.mk (Au (lU HB.out) hb); have n1_ := Aa.mk (hbox); have n2_ := Aa.mk ((by rw [hg]; exact (An (lU HB.out)) : w.heap.size ≤ ao)); have n3_ := Aa.mk ((by rw [hg]; exact (An (lU HB.out)) : w.heap.size ≤ ao)); clear HB; have HB := n0_; have ai := n1_; have b4 := n2_; have aN := n3_; clear n0_ n1_ n2_ n3_; clear hb hbox hg; have ba : w7.cell? ⟨ao, 0, none⟩ = some (.int .i64 ab) := (Ad ai.out 0).trans rfl; have bb : w7.cell? ⟨ao, 1, none⟩ = some (.int .i64 ac) := (Ad ai.out 1).trans rfl; have bc : w7.cell? ⟨ao, 2, none⟩ = some (.slice ah aa.length af) := (Ad ai.out 2).trans rfl; have bd := Af ai.out 0; have be := Af ai.out 1; have bf := Af ai.out 2) | ((with_reducible refine Br (f := 47) rfl ?_); refine Cm (some 7) rfl rfl Try.func47 (by kernel_rfl) rfl #[.agg #[.int .i64 ab, .int .i64 ac, .slice ah aa.length af]] rfl (by (try simp only [List.map_toArray, List.map_cons, List.map_nil]); first | done | rfl | (simp only [List.length_drop, List.length_take]; rfl)) ?_; (with_reducible refine (Ca.calls ab ac _ _ aa aE _ ?side1 ?side2 A3.out).mono ?_); (case side1 => repeat (first | exact (Kd.Ce aD.out HB.out) | (with_reducible refine Kd.Bw ?_ _) | (with_reducible refine Kd.B6 ?_ _) | (with_reducible refine Kd.Cf ?_))); (case side2 => exact aH.out); rintro e w9 ⟨rfl, hb⟩; refine ⟨_, rfl, ?_⟩; have n0_ := Aa.mk (Ao (g := ao) (o := .cells #[.int .i64 ab, .int .i64 ac, .slice ah aa.length af] 50 (0, 0)) (by exact bU <| ai.out) hb); have n1_ := Aa.mk (Au (by repeat (first | (with_reducible first | exact HB.out | apply Ae | apply Ac | apply Ah | refine Ag ?_ aN.out) | exact HB.out)) hb); clear ai; clear HB; have ai := n0_; have HB := n1_; clear n0_ n1_; (try clear hb); (try clear hb2); (try clear hk); (try clear hi)) | (go_at_call 63; (with_reducible refine (Cs.calls a1 true _ A5.out).mono ?_); rintro e w' ⟨rfl, ⟨nd, rfl⟩⟩))
   go_ret
   exact ⟨by first | rfl | (simp [Be, Bd] <;> rfl) | (simp [*, Be, Bd] <;> rfl), by repeat (first | (with_reducible first | exact HB.out | apply Ae | apply Ac | apply Ah | refine Ag ?_ aN.out) | exact HB.out)⟩
  ·replace c6 := Bool.eq_false_iff.mpr c6
   subst c6
   have H1 := H
   rw [if_neg (show ¬ (false = true) by decide)] at H1
   clear H
   have H := H1
   clear H1
   obtain rfl := Option.some.inj H
   go_enter Try.func70, Try.ntmps70
   go_wp2_with (first | ((with_reducible refine Bq (N := 2) rfl ?_); refine Bt ?hg (N := 2) ?hd (cs := #[.int .i64 ab, .int .i64 ac, .slice ah aa.length af]) (t := 50) ?hr ?_; (case hd => rfl); (case hg => rfl); (case hr => first | (go_simp; done) | (go_simp; rfl)); intro ao hg w10 hbox hb; have n0_ := Aa.mk (Au (lU HB.out) hb); have n1_ := Aa.mk (hbox); have n2_ := Aa.mk ((by rw [hg]; exact (An (lU HB.out)) : w.heap.size ≤ ao)); have n3_ := Aa.mk ((by rw [hg]; exact (An (lU HB.out)) : w.heap.size ≤ ao)); clear HB; have HB := n0_; have ai := n1_; have b4 := n2_; have aN := n3_; clear n0_ n1_ n2_ n3_; clear hb hbox hg; have bL : w10.cell? ⟨ao, 0, none⟩ = some (.int .i64 ab) := (Ad ai.out 0).trans rfl; have bM : w10.cell? ⟨ao, 1, none⟩ = some (.int .i64 ac) := (Ad ai.out 1).trans rfl; have bN : w10.cell? ⟨ao, 2, none⟩ = some (.slice ah aa.length af) := (Ad ai.out 2).trans rfl; have bO := Af ai.out 0; have bP := Af ai.out 1; have bQ := Af ai.out 2) | ((with_reducible refine Br (f := 47) rfl ?_); refine Cm (some 7) rfl rfl Try.func47 (by kernel_rfl) rfl #[.agg #[.int .i64 ab, .int .i64 ac, .slice ah aa.length af]] rfl (by (try simp only [List.map_toArray, List.map_cons, List.map_nil]); first | done | rfl | (simp only [List.length_drop, List.length_take]; rfl)) ?_; (with_reducible refine (Ca.calls ab ac _ _ aa aE _ ?side1 ?side2 A3.out).mono ?_); (case side1 => repeat (first | exact (Kd.Ce aD.out HB.out) | (with_reducible refine Kd.Bw ?_ _) | (with_reducible refine Kd.B6 ?_ _) | (with_reducible refine Kd.Cf ?_))); (case side2 => exact aH.out); rintro e w12 ⟨rfl, hb⟩; refine ⟨_, rfl, ?_⟩; have n0_ := Aa.mk (Ao (g := ao) (o := .cells #[.int .i64 ab, .int .i64 ac, .slice ah aa.length af] 50 (0, 0)) (by exact bU <| ai.out) hb); have n1_ := Aa.mk (Au (by repeat (first | (with_reducible first | exact HB.out | apply Ae | apply Ac | apply Ah | refine Ag ?_ aN.out) | exact HB.out)) hb); clear ai; clear HB; have ai := n0_; have HB := n1_; clear n0_ n1_; (try clear hb); (try clear hb2); (try clear hk); (try clear hi)) | (go_at_call 63; (with_reducible refine (Cs.calls a1 false _ A5.out).mono ?_); rintro e w' ⟨rfl, ⟨nd, rfl⟩⟩))
   go_ret
   exact ⟨by first | rfl | (simp [Be, Bd] <;> rfl) | (simp [*, Be, Bd] <;> rfl), by repeat (first | (with_reducible first | exact HB.out | apply Ae | apply Ac | apply Ah | refine Ag ?_ aN.out) | exact HB.out)⟩
 ·rw [if_neg c4] at H
  have bh : (aE == 0) = false := beq_eq_false_iff_ne.mpr c4
  have bu : (aE != 0) = true := bne_iff_ne.mpr c4
  obtain rfl := Option.some.inj H
  go_enter Try.func70, Try.ntmps70
  go_wp2_with (first | ((with_reducible refine Bq (N := 2) rfl ?_); refine Bt ?hg (N := 2) ?hd (cs := #[.int .i64 ab, .int .i64 ac, .slice ah aa.length af]) (t := 50) ?hr ?_; (case hd => rfl); (case hg => rfl); (case hr => first | (go_simp; done) | (go_simp; rfl)); intro ao hg w13 hbox hb; have n0_ := Aa.mk (Au (lU HB.out) hb); have n1_ := Aa.mk (hbox); have n2_ := Aa.mk ((by rw [hg]; exact (An (lU HB.out)) : w.heap.size ≤ ao)); have n3_ := Aa.mk ((by rw [hg]; exact (An (lU HB.out)) : w.heap.size ≤ ao)); clear HB; have HB := n0_; have ai := n1_; have b4 := n2_; have aN := n3_; clear n0_ n1_ n2_ n3_; clear hb hbox hg; have bR : w13.cell? ⟨ao, 0, none⟩ = some (.int .i64 ab) := (Ad ai.out 0).trans rfl; have bS : w13.cell? ⟨ao, 1, none⟩ = some (.int .i64 ac) := (Ad ai.out 1).trans rfl; have bT : w13.cell? ⟨ao, 2, none⟩ = some (.slice ah aa.length af) := (Ad ai.out 2).trans rfl; have bV := Af ai.out 0; have bW := Af ai.out 1; have bX := Af ai.out 2) | ((with_reducible refine Br (f := 47) rfl ?_); refine Cm (some 7) rfl rfl Try.func47 (by kernel_rfl) rfl #[.agg #[.int .i64 ab, .int .i64 ac, .slice ah aa.length af]] rfl (by (try simp only [List.map_toArray, List.map_cons, List.map_nil]); first | done | rfl | (simp only [List.length_drop, List.length_take]; rfl)) ?_; (with_reducible refine (Ca.calls ab ac _ _ aa aE _ ?side1 ?side2 A3.out).mono ?_); (case side1 => repeat (first | exact (Kd.Ce aD.out HB.out) | (with_reducible refine Kd.Bw ?_ _) | (with_reducible refine Kd.B6 ?_ _) | (with_reducible refine Kd.Cf ?_))); (case side2 => exact aH.out); rintro e w15 ⟨rfl, hb⟩; refine ⟨_, rfl, ?_⟩; have n0_ := Aa.mk (Ao (g := ao) (o := .cells #[.int .i64 ab, .int .i64 ac, .slice ah aa.length af] 50 (0, 0)) (by exact bU <| ai.out) hb); have n1_ := Aa.mk (Au (by repeat (first | (with_reducible first | exact HB.out | apply Ae | apply Ac | apply Ah | refine Ag ?_ aN.out) | exact HB.out)) hb); clear ai; clear HB; have ai := n0_; have HB := n1_; clear n0_ n1_; (try clear hb); (try clear hb2); (try clear hk); (try clear hi)))
  go_ret
  exact ⟨by first | rfl | (simp [Be, Bd] <;> rfl) | (simp [*, Be, Bd] <;> rfl), by repeat (first | (with_reducible first | exact HB.out | apply Ae | apply Ac | apply Ah | refine Ag ?_ aN.out) | exact HB.out)⟩

def B9.l0 : Nat → Int → Int → Int → List Bool → Option (Int × Int × List Bool)
 | 0, _, _, _, _ => none
 | k + 1, x6, bp, bq, bg => if x6 < (bg.length : Int) then (if 0 ≤ x6 then (B9.l0 k (wrap64 (x6 + 1)) bp bq (bg.set (x6 : Int).toNat true)) else (none)) else (some (bp, bq, bg))
def B9.f (k : Nat) (a0 : Int) (a1 : Int) : Option (Int × Int × List Bool) := (B3.f a0 a1).bind fun aV => (B9.l0 k 0 aV.1 aV.2.1 aV.2.2)
set_option maxHeartbeats 8000000 in
set_option maxRecDepth 100000 in
theorem B9.calls (k : Nat) (a0 : Int) (a1 : Int) (r1 : Int) (r2 : Int) (r3 : List Bool) (w : World) (h : B9.f k a0 a1 = some (r1, r2, r3)) :
  Calls Try.prog 76 #[.int .i64 a0, .int .i64 a1] w fun e w' => ∃ v2_ : Value, e = .returned (.agg #[.int .i64 r1, .int .i64 r2, v2_]) ∧ Kd.R Kd.bool 4 w' w.heap.size (fun _ => True) v2_ r3 ∧ Below w.heap.size w w' := by
 have hu50 := Try.underlying50
 have HB := Aa.mk (Below.refl w.heap.size w)
 have H : ((B3.f a0 a1).bind fun aV => (B9.l0 k 0 aV.1 aV.2.1 aV.2.2)) = some (r1, r2, r3) := h
 clear h
 replace H := Option.bind_eq_some_iff.mp H
 obtain ⟨⟨aJ, aW, bY⟩, A30, H⟩ := H
 try dsimp only at H
 have A3 := Aa.mk A30
 clear A30
 have H' := Aa.mk H
 clear H
 go_enter Try.func76, Try.ntmps76
 go_wp2_with (first | ((with_reducible refine Bq (N := 4) rfl ?_); refine Bt ?hg (N := 4) ?hd (cs := #[.int .i64 0, .int .i64 0, .slice none 0 0]) (t := 50) ?hr ?_; (case hd => rfl); (case hg => rfl); (case hr => first | (go_simp; done) | (go_simp; rfl)); intro au hg w4 hbox hb; have n0_ := Aa.mk (Au (lU HB.out) hb); have n1_ := Aa.mk (hbox); have n2_ := Aa.mk ((by rw [hg]; exact (An (lU HB.out)) : w.heap.size ≤ au)); have n3_ := Aa.mk ((by rw [hg]; exact (An (lU HB.out)) : w.heap.size ≤ au)); clear HB; have HB := n0_; have am := n1_; have dC := n2_; have aQ := n3_; clear n0_ n1_ n2_ n3_; clear hb hbox hg) | ((with_reducible refine Br (f := 58) rfl ?_); refine Cm (some 9) rfl rfl Try.func58 (by kernel_rfl) rfl #[.int .i64 a0, .int .i64 a1] rfl (by (try simp only [List.map_toArray, List.map_cons, List.map_nil]); first | done | rfl | (simp only [List.length_drop, List.length_take]; rfl)) ?_; (with_reducible refine (B3.calls a0 a1 aJ aW bY _ A3.out).mono ?_); rintro e w5 ⟨v110, rfl, ho0, hb⟩; refine ⟨_, rfl, ?_⟩; have n0_ := Aa.mk (Kd.Cc ho0 (An (by repeat (first | (with_reducible first | exact HB.out | apply Ae | apply Ac | apply Ah | refine Ag ?_ aQ.out) | exact HB.out)))); have n1_ := Aa.mk (Ao (g := au) (o := .cells #[.int .i64 0, .int .i64 0, .slice none 0 0] 50 (0, 0)) (by exact bU <| am.out) hb); have n2_ := Aa.mk (Au (by repeat (first | (with_reducible first | exact HB.out | apply Ae | apply Ac | apply Ah | refine Ag ?_ aQ.out) | exact HB.out)) hb); clear am; clear HB; have bk := n0_; have am := n1_; have HB := n2_; clear n0_ n1_ n2_; (try clear hb); (try clear hb2); (try clear hk); (try clear hi); (try clear ho0)) | ((with_reducible refine Bq (N := 5) rfl ?_); refine Bt ?hg (N := 5) ?hd (cs := #[.int .i64 0, .int .i64 0, .slice none 0 0]) (t := 50) ?hr ?_; (case hd => rfl); (case hg => rfl); (case hr => first | (go_simp; done) | (go_simp; rfl)); intro aq hg w6 hbox hb; have n0_ := Aa.mk (Kd.Bc (by exact rU <| bk.out) hb); have n1_ := Aa.mk (Ao (g := au) (o := .cells #[.int .i64 0, .int .i64 0, .slice none 0 0] 50 (0, 0)) (by exact bU <| am.out) hb); have n2_ := Aa.mk (Au (by repeat (first | (with_reducible first | exact HB.out | apply Ae | apply Ac | apply Ah | refine Ag ?_ aQ.out) | exact HB.out)) hb); have n3_ := Aa.mk (hbox); have n4_ := Aa.mk ((by rw [hg]; exact (An (by repeat (first | (with_reducible first | exact HB.out | apply Ae | apply Ac | apply Ah | refine Ag ?_ aQ.out) | exact HB.out))) : w.heap.size ≤ aq)); have n5_ := Aa.mk ((by rw [hg]; exact (An (by repeat (first | (with_reducible first | exact HB.out | apply Ae | apply Ac | apply Ah | refine Ag ?_ aQ.out) | exact HB.out))) : w.heap.size ≤ aq)); have n6_ := Aa.mk ((by rw [hg]; exact Nat.ne_of_lt (Bz (g := au) (o := .cells #[.int .i64 0, .int .i64 0, .slice none 0 0] 50 (0, 0)) (by exact bU <| am.out)) : au ≠ aq)); have n7_ := Aa.mk ((by rw [hg]; exact Nat.ne_of_gt (Bz (g := au) (o := .cells #[.int .i64 0, .int .i64 0, .slice none 0 0] 50 (0, 0)) (by exact bU <| am.out)) : aq ≠ au)); clear bk; clear am; clear HB; have bk := n0_; have am := n1_; have HB := n2_; have ak := n3_; have dD := n4_; have bw := n5_; have aw := n6_; have aK := n7_; clear n0_ n1_ n2_ n3_ n4_ n5_ n6_ n7_; clear hb hbox hg; have dL := aK.out; have dM := aw.out; have ba : w6.cell? ⟨aq, 0, none⟩ = some (.int .i64 0) := (Ad ak.out 0).trans rfl; have bb : w6.cell? ⟨aq, 1, none⟩ = some (.int .i64 0) := (Ad ak.out 1).trans rfl; have bc : w6.cell? ⟨aq, 2, none⟩ = some (.slice none 0 0) := (Ad ak.out 2).trans rfl; have bd := Af ak.out 0; have be := Af ak.out 1; have bf := Af ak.out 2; obtain ⟨Ao9, co9, eo9⟩ := Kd.B0 bk.out; subst eo9))
 go_loopg [6] k (fun kq v6 w' => ∃ (aG : Int) (ag : List Bool) (u113002 : Value), v6 = .int .i64 aG ∧ Aa (B9.l0 kq aG aJ aW ag = some (r1, r2, r3)) ∧ Aa (kq ≤ k) ∧ Aa (Kd.R Kd.bool 4 w' w.heap.size (fun _ => True) u113002 ag) ∧ Aa (w'.heap[au]? = some (.cells #[.int .i64 0, .int .i64 0, (.slice none 0 0)] 50 (0, 0))) ∧ Aa (w'.heap[aq]? = some (.cells #[.int .i64 aJ, .int .i64 aW, u113002] 50 (0, 0))) ∧ Aa (Below w.heap.size w w'))
 case atStart => exact ⟨(0), (bY), (.slice Ao9 bY.length co9), (by first | rfl | (simp; done) | (simp [*]; done)), H', ⟨Nat.le_refl _⟩, ⟨by exact rU <| Kd.Bj (Kd.Bn (p := ⟨aq, 2, none⟩) (Kd.Bn (p := ⟨aq, 1, none⟩) (Kd.Bn (p := ⟨aq, 0, none⟩) (Kd.Cb bk.out ak.out (by decide)) (fun _ hk => hk.2) (.int .i64 aJ)) (fun _ hk => hk.2) (.int .i64 aW)) (fun _ hk => hk.2) (.slice Ao9 bY.length co9)) (fun _ hk => trivial)⟩, ⟨by (with_reducible repeat (first | refine Ax ?_ _ | refine Ay ?_ | refine Ak ?_ _)); refine Bk ?_ aw.out _; (with_reducible repeat (first | refine Ax ?_ _ | refine Ay ?_ | refine Ak ?_ _)); refine Bk ?_ aw.out _; (with_reducible repeat (first | refine Ax ?_ _ | refine Ay ?_ | refine Ak ?_ _)); refine Bk ?_ aw.out _; exact bU <| am.out⟩, ⟨by (with_reducible repeat (first | refine Ax ?_ _ | refine Ay ?_ | refine Ak ?_ _)); refine Bo (cs := #[.int .i64 aJ, .int .i64 aW, .slice none 0 0]) ?_ 2 _ rfl; (with_reducible repeat (first | refine Ax ?_ _ | refine Ay ?_ | refine Ak ?_ _)); refine Bo (cs := #[.int .i64 aJ, .int .i64 0, .slice none 0 0]) ?_ 1 _ rfl; (with_reducible repeat (first | refine Ax ?_ _ | refine Ay ?_ | refine Ak ?_ _)); refine Bo (cs := #[.int .i64 0, .int .i64 0, .slice none 0 0]) ?_ 0 _ rfl; exact bU <| ak.out⟩, ⟨by repeat (first | (with_reducible first | exact HB.out | apply Ae | apply Ac | apply Ah | refine Ag ?_ aQ.out | refine Ag ?_ bw.out) | exact HB.out)⟩⟩
 case round =>
  clear H'
  try clear p2
  try clear c5
  try clear c7
  try clear ba
  try clear bb
  try clear bc
  try clear bd
  try clear be
  try clear bf
  obtain ⟨aG, ag, u113002, rfl, HA, HK1, aj, am, ak, HB⟩ := hrel
  cases gk with
  | zero => exact absurd HA.out (by simp [B9.l0])
  | succ k1 =>
   have H := HA.out
   clear HA
   simp only [B9.l0] at H
   by_cases c10 : aG < (ag.length : Int)
   ·rw [if_pos c10] at H
    have cg : decide (aG < (ag.length : Int)) = true := decide_eq_true c10
    clear c10
    by_cases c11 : 0 ≤ aG
    ·rw [if_pos c11] at H
     have dE : decide (0 ≤ aG) = true := decide_eq_true c11
     clear c11
     obtain ⟨ck, bz⟩ : ∃ y_ : List Bool, y_ = (ag.set (aG : Int).toNat true) := ⟨_, rfl⟩
     (try rw [Option.bind_some] at H); try rw [← bz] at H
     have cp := Aa.mk bz
     clear bz
     have H' := Aa.mk H
     clear H
     have dF := aK.out
     have dG := aw.out
     have bR : wr.cell? ⟨aq, 0, none⟩ = some (.int .i64 aJ) := (Ad ak.out 0).trans rfl
     have bS : wr.cell? ⟨aq, 1, none⟩ = some (.int .i64 aW) := (Ad ak.out 1).trans rfl
     have bT : wr.cell? ⟨aq, 2, none⟩ = some (u113002) := (Ad ak.out 2).trans rfl
     have bV := Af ak.out 0
     have bW := Af ak.out 1
     have bX := Af ak.out 2
     obtain ⟨cr, bB, bZ⟩ := Kd.B0 aj.out
     subst bZ
     have p12 : 0 ≤ (aG : Int) := of_decide_eq_true (by with_reducible assumption)
     have q12 : (aG : Int) < ((ag.length : Int) : Int) := of_decide_eq_true (by with_reducible assumption)
     obtain ⟨go12, dN, ct, cu, gl12, cl12, HG12⟩ := Kd.Dd aj.out (by omega)
     (first | cases ct | (injection ct with ea_ en_ ec_; (first | subst ea_ | (injection ea_ with ea_; subst ea_)); subst ec_; clear en_))
     have GB12 := Aa.mk cu
     have GG12 := Aa.mk HG12
     clear cu gl12 HG12
     obtain ⟨dj, dk⟩ := Kd.Cx false aj.out (aG : Int) p12 q12
     replace p12 := eq_true p12
     replace q12 := eq_true q12
     have b7 := Kd.Db aj.out (aG : Int) true
     go_wp2_with (((with_reducible refine Cq (t := 4) (p := 20) rfl ?_); refine store_event (t := 4) (p := 20) (v := ?vo_w17) (w1 := (wr.setCell ⟨go12, (aG : Int).toNat, none⟩ (.bool true))) ?hg ?ho ?hn ?hr ?_; (case ho => rfl); (case hg => rfl); (case hn => rfl); (case hr => first | (go_simp; done) | (go_simp; rfl)); intro w17 hw; have hg : wr.grownBy w17 (some go12) := (by rw [hw]; exact b7.2); have hp_ : Kd.R Kd.bool 4 w17 w.heap.size (fun _ => True) (.slice (some ⟨go12, 0, none⟩) ag.length bB) ck := (by rw [hw, cp.out]; exact b7.1); clear b7; have n0_ := Aa.mk (hp_); have n1_ := Aa.mk (Bu (g := au) (o := .cells #[.int .i64 0, .int .i64 0, .slice none 0 0] 50 (0, 0)) (by exact bU <| am.out) hg (Kd.De aj.out am.out (by decide))); have n2_ := Aa.mk (Bu (g := aq) (o := .cells #[.int .i64 aJ, .int .i64 aW, .slice (some ⟨go12, 0, none⟩) ag.length bB] 50 (0, 0)) (by exact bU <| ak.out) hg (Kd.De aj.out ak.out (by decide))); have n3_ := Aa.mk ((by rw [hw]; exact Ag (HB.out) GB12.out : Below w.heap.size w w17)); clear aj; clear am; clear ak; clear HB; have aj := n0_; have am := n1_; have ak := n2_; have HB := n3_; clear n0_ n1_ n2_ n3_; clear hg hw hp_))
     go_roundg k1
     case measure => have := HK1.out; omega
     case rel => exact ⟨(wrap64 (aG + 1)), (ck), (.slice (some ⟨go12, 0, none⟩) ag.length bB), (by first | rfl | (simp; done) | (simp [*]; done)), H', ⟨by have := HK1.out; omega⟩, ⟨by exact rU <| aj.out⟩, ⟨by exact bU <| am.out⟩, ⟨by exact bU <| ak.out⟩, ⟨by repeat (first | (with_reducible first | exact HB.out | apply Ae | apply Ac | apply Ah | refine Ag ?_ aQ.out | refine Ag ?_ bw.out) | exact HB.out)⟩⟩
    ·rw [if_neg c11] at H
     exact absurd H (by simp)
   ·rw [if_neg c10] at H
    have cg : decide (aG < (ag.length : Int)) = false := decide_eq_false c10
    clear c10
    simp only [Option.some.injEq, Prod.mk.injEq] at H
    obtain ⟨rfl, rfl, rfl⟩ := H
    have dH := aK.out
    have dI := aw.out
    have cF : wr.cell? ⟨aq, 0, none⟩ = some (.int .i64 aJ) := (Ad ak.out 0).trans rfl
    have cG : wr.cell? ⟨aq, 1, none⟩ = some (.int .i64 aW) := (Ad ak.out 1).trans rfl
    have cH : wr.cell? ⟨aq, 2, none⟩ = some (u113002) := (Ad ak.out 2).trans rfl
    have cI := Af ak.out 0
    have cJ := Af ak.out 1
    have cK := Af ak.out 2
    obtain ⟨cx, cy, dl⟩ := Kd.B0 aj.out
    subst dl
    have cL : wr.cell? ⟨au, 0, none⟩ = some (.int .i64 0) := (Ad am.out 0).trans rfl
    have cM : wr.cell? ⟨au, 1, none⟩ = some (.int .i64 0) := (Ad am.out 1).trans rfl
    have cO : wr.cell? ⟨au, 2, none⟩ = some (.slice none 0 0) := (Ad am.out 2).trans rfl
    have cP := Af am.out 0
    have cQ := Af am.out 1
    have cR := Af am.out 2
    go_wp2
    refine bodyPost_ret (results_cell_row rfl _ _ au 50 #[.int .i64 aJ, .int .i64 aW, .slice cx ag.length cy] (0, 0) _ rfl (by (with_reducible repeat (first | refine Ax ?_ _ | refine Ay ?_ | refine Ak ?_ _)); refine Bo (cs := #[.int .i64 aJ, .int .i64 aW, .slice none 0 0]) ?_ 2 _ rfl; (with_reducible repeat (first | refine Ax ?_ _ | refine Ay ?_ | refine Ak ?_ _)); refine Bo (cs := #[.int .i64 aJ, .int .i64 0, .slice none 0 0]) ?_ 1 _ rfl; (with_reducible repeat (first | refine Ax ?_ _ | refine Ay ?_ | refine Ak ?_ _)); refine Bo (cs := #[.int .i64 0, .int .i64 0, .slice none 0 0]) ?_ 0 _ rfl; exact bU <| am.out) Try.underlying50 rfl (by kernel_rfl)) rfl ?_
    exact ⟨_, by first | rfl | (simp [Be, Bd] <;> rfl) | (simp [*, Be, Bd] <;> rfl), by exact rU <| Kd.Bj (Kd.Bn (p := ⟨au, 2, none⟩) (Kd.Bn (p := ⟨au, 1, none⟩) (Kd.Bn (p := ⟨au, 0, none⟩) (Kd.Cb aj.out am.out (by decide)) (fun _ hk => hk.2) (.int .i64 aJ)) (fun _ hk => hk.2) (.int .i64 aW)) (fun _ hk => hk.2) (.slice cx ag.length cy)) (fun _ hk => trivial), by repeat (first | (with_reducible first | exact HB.out | apply Ae | apply Ac | apply Ah | refine Ag ?_ aQ.out | refine Ag ?_ bw.out) | exact HB.out)⟩

def Bv.l0 : Nat → List Int → Int → Int → Int → List Bool → Option (List Int)
 | 0, _, _, _, _, _ => none
 | k + 1, x3, x4, br, bs, aU => if x4 < (aU.length : Int) then (if 0 ≤ x4 then (if rdOf false aU x4 = true then (if x3.length < 17592186044416 then (Bv.l0 k (x3 ++ [x4]) (wrap64 (x4 + 1)) br bs aU) else (none)) else (Bv.l0 k x3 (wrap64 (x4 + 1)) br bs aU)) else (none)) else (some x3)
def Bv.f (k : Nat) (ab : Int) (ac : Int) (aa : List Bool) : Option (List Int) := Bv.l0 k ([] : List Int) 0 ab ac aa
set_option maxHeartbeats 8000000 in
set_option maxRecDepth 100000 in
theorem Bv.calls (k : Nat) (ab : Int) (ac : Int) (ah : Option Addr) (af : Nat) (aa : List Bool) (r : List Int) (w : World) (aA : Kd.C Kd.bool w ah aa.length aa) (aC : aa.length ≤ af) (h : Bv.f k ab ac aa = some r) :
  Calls Try.prog 77 #[.agg #[.int .i64 ab, .int .i64 ac, .slice ah aa.length af]] w fun e w' => ∃ v0_ : Value, e = .returned (v0_) ∧ Kd.R (Kd.int .i64) 3 w' w.heap.size (fun _ => True) v0_ r ∧ Below w.heap.size w w' := by
 have hu50 := Try.underlying50
 have aD := Aa.mk aA
 have aH := Aa.mk aC
 clear aA aC
 have HB := Aa.mk (Below.refl w.heap.size w)
 have H : (Bv.l0 k ([] : List Int) 0 ab ac aa) = some r := h
 clear h
 have H' := Aa.mk H
 clear H
 go_enter Try.func77, Try.ntmps77
 go_wp2_with (((with_reducible refine Bq (N := 1) rfl ?_); refine Bt ?hg (N := 1) ?hd (cs := #[.int .i64 ab, .int .i64 ac, .slice ah aa.length af]) (t := 50) ?hr ?_; (case hd => rfl); (case hg => rfl); (case hr => first | (go_simp; done) | (go_simp; rfl)); intro ay hg w2 hbox hb; have n0_ := Aa.mk (Au (lU HB.out) hb); have n1_ := Aa.mk (hbox); have n2_ := Aa.mk ((by rw [hg]; exact (An (lU HB.out)) : w.heap.size ≤ ay)); have n3_ := Aa.mk ((by rw [hg]; exact (An (lU HB.out)) : w.heap.size ≤ ay)); clear HB; have HB := n0_; have al := n1_; have dJ := n2_; have aZ := n3_; clear n0_ n1_ n2_ n3_; clear hb hbox hg))
 go_loopg [3, 4] k (fun kq v3 v4 w' => ∃ (aY : List Int) (ax : Int), v4 = .int .i64 ax ∧ Aa (Bv.l0 kq aY ax ab ac aa = some r) ∧ Aa (kq ≤ k) ∧ Aa (Kd.R (Kd.int .i64) 3 w' w.heap.size (fun _ => True) v3 aY) ∧ Aa (w'.heap[ay]? = some (.cells #[.int .i64 ab, .int .i64 ac, (.slice ah aa.length af)] 50 (0, 0))) ∧ Aa (Below w.heap.size w w'))
 case atStart => exact ⟨(([] : List Int)), (0), (by first | rfl | (simp; done) | (simp [*]; done)), H', ⟨Nat.le_refl _⟩, ⟨by first | exact Kd.C8 _ _ _ _ _ | exact Kd.N_nil _ _ _ _ _ | exact Kd.V_nil _ _ _ _ _ | exact Kd.Q_nil _ _ _ _ _ | exact Kd.S_nil _ _ _ _ _⟩, ⟨by exact bU <| al.out⟩, ⟨by repeat (first | (with_reducible first | exact HB.out | apply Ae | apply Ac | apply Ah | refine Ag ?_ aZ.out) | exact HB.out)⟩⟩
 case round =>
  clear H'
  try clear p2
  obtain ⟨aY, ax, rfl, HA, HK1, bC, al, HB⟩ := hrel
  cases gk with
  | zero => exact absurd HA.out (by simp [Bv.l0])
  | succ k1 =>
   have H := HA.out
   clear HA
   simp only [Bv.l0] at H
   by_cases c3 : ax < (aa.length : Int)
   ·rw [if_pos c3] at H
    have b6 : decide (ax < (aa.length : Int)) = true := decide_eq_true c3
    clear c3
    by_cases c4 : 0 ≤ ax
    ·rw [if_pos c4] at H
     have bh : decide (0 ≤ ax) = true := decide_eq_true c4
     clear c4
     obtain ⟨bq5, b8⟩ : ∃ b_ : Bool, b_ = (rdOf false aa ax) := ⟨_, rfl⟩
     replace H : (if bq5 = true then (if aY.length < 17592186044416 then (Bv.l0 k1 (aY ++ [ax]) (wrap64 (ax + 1)) ab ac aa) else (none)) else (Bv.l0 k1 aY (wrap64 (ax + 1)) ab ac aa)) = some r := by rw [← b8] at H; exact H
     have cz := Aa.mk b8
     clear b8
     by_cases c6 : bq5 = true
     ·subst c6
      have H1 := H
      rw [if_pos rfl] at H1
      clear H
      have H := H1
      clear H1
      by_cases c7 : aY.length < 17592186044416
      ·rw [if_pos c7] at H
       have LMc7 := Aa.mk c7
       clear c7
       obtain ⟨dn, bD⟩ : ∃ y_ : List Int, y_ = (aY ++ [ax]) := ⟨_, rfl⟩
       (try rw [Option.bind_some] at H); try rw [← bD] at H
       have cA := Aa.mk bD
       clear bD
       have H' := Aa.mk H
       clear H
       have ba : wr.cell? ⟨ay, 0, none⟩ = some (.int .i64 ab) := (Ad al.out 0).trans rfl
       have bb : wr.cell? ⟨ay, 1, none⟩ = some (.int .i64 ac) := (Ad al.out 1).trans rfl
       have bc : wr.cell? ⟨ay, 2, none⟩ = some (.slice ah aa.length af) := (Ad al.out 2).trans rfl
       have bd := Af al.out 0
       have be := Af al.out 1
       have bf := Af al.out 2
       have bl : 0 ≤ (ax : Int) := of_decide_eq_true (by with_reducible assumption)
       have bm : ax < (aa.length : Int) := of_decide_eq_true (by with_reducible assumption)
       obtain ⟨b5, e115, av⟩ := Kd.at_bool aD.out ax bl bm
       (try rw [← cz.out] at av)
       cases e115
       replace av := (HB.out.cell (World.block_lt_of_cell? w _ av)).trans av
       replace bl := eq_true bl
       replace bm := eq_true bm
       go_wp2_with (((with_reducible refine Cu (b := .append) (xs := #[.tmp 17, .tmp 19]) rfl ?_); at_builtin; refine Kd.Dk (Kd.int .i64) (w0 := w) w.heap.size rfl (.tmp 17) (.tmp 19) 31 3 (.int .i64 0) 8 rfl Try.underlying31 info3 rfl (by decide) (by omega) u3 aY ax [.int .i64 ax] (fun _ => True) (fun _ => False) rfl rfl ?aP (fun _ hk => hk.elim) ?aF ?aO ?aB ?aS ?aL ?_; (case aP => exact rfl); (case aB => exact (by repeat (first | (with_reducible first | exact HB.out | apply Ae | apply Ac | apply Ah | refine Ag ?_ aZ.out) | exact HB.out))); (case aF => exact (fun _ _ => trivial)); (case aO => exact (by exact rU <| bC.out)); (case aS => exact (An (by repeat (first | (with_reducible first | exact HB.out | apply Ae | apply Ac | apply Ah | refine Ag ?_ aZ.out) | exact HB.out)))); (case aL => have := LMc7.out; omega); intro v117 w9 ho hb hg hat; rw [← cA.out] at ho; have n0_ := Aa.mk (Bu (g := ay) (o := .cells #[.int .i64 ab, .int .i64 ac, .slice (some b5) aa.length af] 50 (0, 0)) (by exact bU <| al.out) hg (Kd.De bC.out al.out (by decide))); have n1_ := Aa.mk (hb); have n2_ := Aa.mk (ho); clear al; clear HB; clear bC; have al := n0_; have HB := n1_; have cB := n2_; clear n0_ n1_ n2_; clear ho hb hg hat))
       go_roundg k1
       case measure => have := HK1.out; omega
       case rel => exact ⟨(dn), (wrap64 (ax + 1)), (by first | rfl | (simp; done) | (simp [*]; done)), H', ⟨by have := HK1.out; omega⟩, ⟨by exact rU <| cB.out⟩, ⟨by exact bU <| al.out⟩, ⟨by repeat (first | (with_reducible first | exact HB.out | apply Ae | apply Ac | apply Ah | refine Ag ?_ aZ.out) | exact HB.out)⟩⟩
      ·rw [if_neg c7] at H
       exact absurd H (by simp)
     ·replace c6 := Bool.eq_false_iff.mpr c6
      subst c6
      have H1 := H
      rw [if_neg (show ¬ (false = true) by decide)] at H1
      clear H
      have H := H1
      clear H1
      have H' := Aa.mk H
      clear H
      have bF : wr.cell? ⟨ay, 0, none⟩ = some (.int .i64 ab) := (Ad al.out 0).trans rfl
      have bG : wr.cell? ⟨ay, 1, none⟩ = some (.int .i64 ac) := (Ad al.out 1).trans rfl
      have bH : wr.cell? ⟨ay, 2, none⟩ = some (.slice ah aa.length af) := (Ad al.out 2).trans rfl
      have bI := Af al.out 0
      have bJ := Af al.out 1
      have bK := Af al.out 2
      have bl : 0 ≤ (ax : Int) := of_decide_eq_true (by with_reducible assumption)
      have bm : ax < (aa.length : Int) := of_decide_eq_true (by with_reducible assumption)
      obtain ⟨b5, e115, av⟩ := Kd.at_bool aD.out ax bl bm
      (try rw [← cz.out] at av)
      cases e115
      replace av := (HB.out.cell (World.block_lt_of_cell? w _ av)).trans av
      replace bl := eq_true bl
      replace bm := eq_true bm
      go_wp2
      go_roundg k1
      case measure => have := HK1.out; omega
      case rel => exact ⟨(aY), (wrap64 (ax + 1)), (by first | rfl | (simp; done) | (simp [*]; done)), H', ⟨by have := HK1.out; omega⟩, ⟨by exact rU <| bC.out⟩, ⟨by exact bU <| al.out⟩, ⟨by repeat (first | (with_reducible first | exact HB.out | apply Ae | apply Ac | apply Ah | refine Ag ?_ aZ.out) | exact HB.out)⟩⟩
    ·rw [if_neg c4] at H
     exact absurd H (by simp)
   ·rw [if_neg c3] at H
    have b6 : decide (ax < (aa.length : Int)) = false := decide_eq_false c3
    clear c3
    obtain rfl := Option.some.inj H
    have bL : wr.cell? ⟨ay, 0, none⟩ = some (.int .i64 ab) := (Ad al.out 0).trans rfl
    have bM : wr.cell? ⟨ay, 1, none⟩ = some (.int .i64 ac) := (Ad al.out 1).trans rfl
    have bN : wr.cell? ⟨ay, 2, none⟩ = some (.slice ah aa.length af) := (Ad al.out 2).trans rfl
    have bO := Af al.out 0
    have bP := Af al.out 1
    have bQ := Af al.out 2
    go_wp2
    go_ret
    exact ⟨_, by first | rfl | (simp [Be, Bd] <;> rfl) | (simp [*, Be, Bd] <;> rfl), by exact rU <| bC.out, by repeat (first | (with_reducible first | exact HB.out | apply Ae | apply Ac | apply Ah | refine Ag ?_ aZ.out) | exact HB.out)⟩

def Cd.f (k : Nat) (ab : Int) (ac : Int) (aa : List Bool) (a1 : Int) : Option (List Int × Int) := (Cr.f ab ac aa a1).bind fun aM => (if aM = 0 then ((B9.f k ab ac).bind fun aX => ((Bv.f k ab ac aa).bind fun bo => ((Ap.f k aX.1 aX.2.1 aX.2.2 bo a1).bind fun bE => (some (bE.2, 0))))) else (some (([] : List Int), aM)))
def Cd.T4 : Bool × List (List Nat × List Nat) := (true, [([], []), ([0], [0]), ([], []), ([2], [2]), ([1, 3], [1, 3]), ([], []), ([5, 4], [5]), ([], []), ([4, 6, 7, 6], [4, 6, 7]), ([8], [8]), ([9], [9]), ([9], [9]), ([10, 8, 0, 1, 2, 3, 4, 5, 6, 7, 8, 9, 10], [10]), ([11, 12, 0, 1, 2, 3, 4, 5, 6, 7, 8, 9, 10, 11, 12], [11])])
def Cd.B4 : List Nat := [0, 1, 0, 4, 15, 0, 63, 0, 255, 511, 1023, 1023, 2047, 8191]
theorem Cd.tab4 : rtab .any (opsOf Try.f29 4) = Cd.T4 := by kernel_rfl
theorem Cd.bits4 : waitsOk Cd.T4.2 Cd.B4 = true := by kernel_rfl
set_option maxHeartbeats 8000000 in
set_option maxRecDepth 100000 in
theorem Cd.calls (k : Nat) (ab : Int) (ac : Int) (ah : Option Addr) (af : Nat) (aa : List Bool) (a1 : Int) (r1 : List Int) (r2 : Int) (w : World) (aA : Kd.C Kd.bool w ah aa.length aa) (aC : aa.length ≤ af) (h : Cd.f k ab ac aa a1 = some (r1, r2)) :
  Calls Try.prog 29 #[.agg #[.int .i64 ab, .int .i64 ac, .slice ah aa.length af], .int .i64 a1] w fun e w' => ∃ v0_ : Value, e = .returned (.tuple #[v0_, .int .i64 r2]) ∧ Kd.R (Kd.int .i64) 3 w' w.heap.size (fun _ => True) v0_ r1 ∧ Below w.heap.size w w' := by
 have hu50 := Try.underlying50
 have aD := Aa.mk aA
 have aH := Aa.mk aC
 clear aA aC
 have HB := Aa.mk (Below.refl w.heap.size w)
 have H : ((Cr.f ab ac aa a1).bind fun aM => (if aM = 0 then ((B9.f k ab ac).bind fun aX => ((Bv.f k ab ac aa).bind fun bo => ((Ap.f k aX.1 aX.2.1 aX.2.2 bo a1).bind fun bE => (some (bE.2, 0))))) else (some (([] : List Int), aM)))) = some (r1, r2) := h
 clear h
 replace H := Option.bind_eq_some_iff.mp H
 obtain ⟨aM, A30, H⟩ := H
 try dsimp only at H
 have A3 := Aa.mk A30
 clear A30
 by_cases c4 : aM = 0
 ·rw [if_pos c4] at H
  have bh : (aM == 0) = true := beq_iff_eq.mpr c4
  have bu : (aM != 0) = false := bne_eq_false_iff_eq.mpr c4
  clear c4
  replace H := Option.bind_eq_some_iff.mp H
  obtain ⟨⟨b9, cd, ce⟩, A50, H⟩ := H
  try dsimp only at H
  have A5 := Aa.mk A50
  clear A50
  replace H := Option.bind_eq_some_iff.mp H
  obtain ⟨bo, A60, H⟩ := H
  try dsimp only at H
  have A6 := Aa.mk A60
  clear A60
  replace H := Option.bind_eq_some_iff.mp H
  obtain ⟨⟨dp, dq⟩, A70, H⟩ := H
  try dsimp only at H
  have A7 := Aa.mk A70
  clear A70
  simp only [Option.some.injEq, Prod.mk.injEq] at H
  obtain ⟨rfl, rfl⟩ := H
  go_enter Try.func29, Try.ntmps29
  try go_wp2_with (first | ((with_reducible refine Bq (N := 2) rfl ?_); refine Bt ?hg (N := 2) ?hd (cs := #[.int .i64 ab, .int .i64 ac, .slice ah aa.length af]) (t := 50) ?hr ?_; (case hd => rfl); (case hg => rfl); (case hr => first | (go_simp; done) | (go_simp; rfl)); intro ap hg w8 hbox hb; have n0_ := Aa.mk (Au (lU HB.out) hb); have n1_ := Aa.mk (hbox); have n2_ := Aa.mk ((by rw [hg]; exact (An (lU HB.out)) : w.heap.size ≤ ap)); have n3_ := Aa.mk ((by rw [hg]; exact (An (lU HB.out)) : w.heap.size ≤ ap)); clear HB; have HB := n0_; have ae := n1_; have cC := n2_; have az := n3_; clear n0_ n1_ n2_ n3_; clear hb hbox hg; have dr : w8.cell? ⟨ap, 0, none⟩ = some (.int .i64 ab) := (Ad ae.out 0).trans rfl; have dt : w8.cell? ⟨ap, 1, none⟩ = some (.int .i64 ac) := (Ad ae.out 1).trans rfl; have du : w8.cell? ⟨ap, 2, none⟩ = some (.slice ah aa.length af) := (Ad ae.out 2).trans rfl; have dv := Af ae.out 0; have dw := Af ae.out 1; have dz := Af ae.out 2) | ((with_reducible refine Br (f := 70) rfl ?_); refine Cm (some 11) rfl rfl Try.func70 (by kernel_rfl) rfl #[.agg #[.int .i64 ab, .int .i64 ac, .slice ah aa.length af], .int .i64 a1] rfl (by (try simp only [List.map_toArray, List.map_cons, List.map_nil]); first | done | rfl | (simp only [List.length_drop, List.length_take]; rfl)) ?_; (with_reducible refine (Cr.calls ab ac _ _ aa a1 aM _ ?side1 ?side2 A3.out).mono ?_); (case side1 => repeat (first | exact (Kd.Ce aD.out HB.out) | (with_reducible refine Kd.Bw ?_ _) | (with_reducible refine Kd.B6 ?_ _) | (with_reducible refine Kd.Cf ?_))); (case side2 => exact aH.out); rintro e w10 ⟨rfl, hb⟩; refine ⟨_, rfl, ?_⟩; have n0_ := Aa.mk (Ao (g := ap) (o := .cells #[.int .i64 ab, .int .i64 ac, .slice ah aa.length af] 50 (0, 0)) (by exact bU <| ae.out) hb); have n1_ := Aa.mk (Au (by repeat (first | (with_reducible first | exact HB.out | apply Ae | apply Ac | apply Ah | refine Ag ?_ az.out) | exact HB.out)) hb); clear ae; clear HB; have ae := n0_; have HB := n1_; clear n0_ n1_; (try clear hb); (try clear hb2); (try clear hk); (try clear hi)))
  have n0_ := Aa.mk (Ay ae.out)
  have n1_ := Aa.mk (Ah HB.out)
  clear ae
  clear HB
  have ae := n0_
  have HB := n1_
  clear n0_ n1_
  refine start_ (n := 14) (S := fun w' => w'.cell? ⟨ap, 0, none⟩ = some (.int .i64 ab) ∧ w'.cell? ⟨ap, 1, none⟩ = some (.int .i64 ac) ∧ w'.cell? ⟨ap, 2, none⟩ = some (.slice ah aa.length af)) (ds := []) #[false, false, false, false, false, false, false, false, false, false, false, false, false, false] (by kernel_rfl) rfl rfl ⟨(Ad ae.out 0).trans rfl, (Ad ae.out 1).trans rfl, (Ad ae.out 2).trans rfl⟩ (fun hHeld => ?_); refine with_tabW Cd.tab4 Cd.bits4 (fun HT_ HW_ => ?_)
  generalize w10.drew = w11 at ae HB hHeld ⊢
  refine pure_ (i := 0) (N := some 16) (v := ?_) (a' := ?_) (bA 14 1) rfl rfl (any_of HT_.out (by kernel_rfl)) (fun _ _ _ h => h) (Or.inl ⟨by rfl, ?_⟩) ?_ ?_
  rotate_left; (intro w'; go_simp; with_reducible rfl); rotate_left; (simp only [Act.put, sA, sB, sC, i64_w, i32_w]; rfl)
  refine pure_ (i := 2) (N := some 18) (v := ?_) (a' := ?_) (bA 14 5) rfl rfl (any_of HT_.out (by kernel_rfl)) (fun _ _ _ h => h) (Or.inl ⟨by rfl, ?_⟩) ?_ ?_
  rotate_left; (intro w'; go_simp; with_reducible rfl); rotate_left; (simp only [Act.put, sA, sB, sC, i64_w, i32_w]; rfl)
  refine pure_ (i := 7) (N := some 23) (v := ?_) (a' := ?_) (bA 14 133) rfl rfl (any_of HT_.out (by kernel_rfl)) (fun _ _ _ h => h) (Or.inl ⟨by rfl, ?_⟩) ?_ ?_
  rotate_left; (intro w'; go_simp; with_reducible rfl); rotate_left; (simp only [Act.put, sA, sB, sC, i64_w, i32_w]; rfl)
  refine take_ (i := 1) (N := some 17) (v := ?_) (a' := ?_) (bA 14 135) rfl rfl (take_ofW HT_.out HW_.out (by kernel_rfl)) (fun _ _ _ h => h) (Or.inl ⟨by rfl, ?_⟩) hHeld ?_ ?_
  rotate_left; (rintro w' ⟨s0, s1, s2⟩; go_simp; with_reducible rfl); rotate_left; (simp only [Act.put, sA, sB, sC, i64_w, i32_w]; rfl)
  refine take_ (i := 3) (N := some 19) (v := ?_) (a' := ?_) (bA 14 143) rfl rfl (take_ofW HT_.out HW_.out (by kernel_rfl)) (fun _ _ _ h => h) (Or.inl ⟨by rfl, ?_⟩) hHeld ?_ ?_
  rotate_left; (rintro w' ⟨s0, s1, s2⟩; go_simp; with_reducible rfl); rotate_left; (simp only [Act.put, sA, sB, sC, i64_w, i32_w]; rfl)
  refine take_ (i := 5) (N := some 21) (v := ?_) (a' := ?_) (bA 14 175) rfl rfl (take_ofW HT_.out HW_.out (by kernel_rfl)) (fun _ _ _ h => h) (Or.inl ⟨by rfl, ?_⟩) hHeld ?_ ?_
  rotate_left; (rintro w' ⟨s0, s1, s2⟩; go_simp; with_reducible rfl); rotate_left; (simp only [Act.put, sA, sB, sC, i64_w, i32_w]; rfl)
  refine one_ (i := 4) (N := some 20) (bA 14 191) rfl rfl (one_of HT_.out (by kernel_rfl)) (by decide) (fun K hK => ?_)
  refine goes_ Try.func76 (by kernel_rfl) rfl #[.int .i64 ab, .int .i64 ac] (by rfl) rfl rfl (by (try simp only [List.map_toArray, List.map_cons, List.map_nil]); first | done | rfl | (simp only [List.length_drop, List.length_take]; rfl)) ?_
  with_reducible refine (B9.calls k ab ac b9 cd ce _ A5.out).mono ?_
  rintro e w12 ⟨v124, rfl, ho0, hb⟩
  refine ⟨_, rfl, ?_⟩
  have n0_ := Aa.mk (Kd.Cc ho0 (An (by repeat (first | (with_reducible first | exact HB.out | apply Ae | apply Ac | apply Ah | refine Ag ?_ az.out) | exact HB.out))))
  have n1_ := Aa.mk (Ao (g := ap) (o := .cells #[.int .i64 ab, .int .i64 ac, .slice ah aa.length af] 50 (0, 0)) (by exact bU <| ae.out) hb)
  have n2_ := Aa.mk (Au (by repeat (first | (with_reducible first | exact HB.out | apply Ae | apply Ac | apply Ah | refine Ag ?_ az.out) | exact HB.out)) hb)
  clear ae
  clear HB
  have aI := n0_
  have ae := n1_
  have HB := n2_
  clear n0_ n1_ n2_
  (try clear hb)
  (try clear hb2)
  (try clear hk)
  (try clear hi)
  (try clear ho0)
  refine hK.out _ _ ⟨(Ad ae.out 0).trans rfl, (Ad ae.out 1).trans rfl, (Ad ae.out 2).trans rfl⟩ (fun hHeld => ?_)
  clear hK K
  refine norm_ (a' := ?_) ?_ ?_
  rotate_left
  ·show Act.put _ (some 20) _ = _
   simp only [Act.put, sA, sB, sC, i64_w, i32_w]
   rfl
  refine one_ (i := 6) (N := some 22) (bA 14 255) rfl rfl (one_of HT_.out (by kernel_rfl)) (by decide) (fun K hK => ?_)
  refine goes_ Try.func77 (by kernel_rfl) rfl #[.agg #[.int .i64 ab, .int .i64 ac, .slice ah aa.length af]] (by rfl) rfl rfl (by (try simp only [List.map_toArray, List.map_cons, List.map_nil]); first | done | rfl | (simp only [List.length_drop, List.length_take]; rfl)) ?_
  with_reducible refine (Bv.calls k ab ac _ _ aa bo _ ?side1 ?side2 A6.out).mono ?_
  (case side1 => repeat (first | exact (Kd.Ce aD.out HB.out) | (with_reducible refine Kd.Bw ?_ _) | (with_reducible refine Kd.B6 ?_ _) | (with_reducible refine Kd.Cf ?_)))
  (case side2 => exact aH.out)
  rintro e w13 ⟨v127, rfl, ho0, hb⟩
  refine ⟨_, rfl, ?_⟩
  have n0_ := Aa.mk (Kd.Bc (by exact rU <| aI.out) hb)
  have n1_ := Aa.mk (Kd.Cc ho0 (An (by repeat (first | (with_reducible first | exact HB.out | apply Ae | apply Ac | apply Ah | refine Ag ?_ az.out) | exact HB.out))))
  have n2_ := Aa.mk (Ao (g := ap) (o := .cells #[.int .i64 ab, .int .i64 ac, .slice ah aa.length af] 50 (0, 0)) (by exact bU <| ae.out) hb)
  have n3_ := Aa.mk (Au (by repeat (first | (with_reducible first | exact HB.out | apply Ae | apply Ac | apply Ah | refine Ag ?_ az.out) | exact HB.out)) hb)
  clear aI
  clear ae
  clear HB
  have aI := n0_
  have aT := n1_
  have ae := n2_
  have HB := n3_
  clear n0_ n1_ n2_ n3_
  (try clear hb)
  (try clear hb2)
  (try clear hk)
  (try clear hi)
  (try clear ho0)
  obtain ⟨dA, dB, cD⟩ := Kd.B0 aI.out
  (first | subst cD | (injection cD with f1_ f2_ f3_; have f4_ := f1_.symm; have f5_ := f3_.symm; clear f1_ f2_ f3_; subst f4_; subst f5_))
  obtain ⟨cr, bB, bZ⟩ := Kd.B0 aT.out
  (first | subst bZ | (injection bZ with f1_ f2_ f3_; have f4_ := f1_.symm; have f5_ := f3_.symm; clear f1_ f2_ f3_; subst f4_; subst f5_))
  refine hK.out _ _ ⟨(Ad ae.out 0).trans rfl, (Ad ae.out 1).trans rfl, (Ad ae.out 2).trans rfl⟩ (fun hHeld => ?_)
  clear hK K
  refine norm_ (a' := ?_) ?_ ?_
  rotate_left
  ·show Act.put _ (some 22) _ = _
   simp only [Act.put, sA, sB, sC, i64_w, i32_w]
   rfl
  refine one_ (i := 8) (N := some 24) (bA 14 511) rfl rfl (one_of HT_.out (by kernel_rfl)) (by decide) (fun K hK => ?_)
  refine goes_ Try.func64 (by kernel_rfl) rfl #[.agg #[.int .i64 b9, .int .i64 cd, .slice dA ce.length dB], .slice cr bo.length bB, .int .i64 a1] (by rfl) rfl rfl (by (try simp only [List.map_toArray, List.map_cons, List.map_nil]); first | done | rfl | (simp only [List.length_drop, List.length_take]; rfl)) ?_
  with_reducible refine (Ap.calls k b9 cd _ _ ce _ _ bo a1 dp dq _ ?side1 ?side2 ?side3 ?side4 A7.out).mono ?_
  (case side1 => repeat (first | exact (Kd.Ba aI.out).2.2 | (with_reducible refine Kd.Bw ?_ _) | (with_reducible refine Kd.B6 ?_ _) | (with_reducible refine Kd.Cf ?_)))
  (case side2 => exact (Kd.Ba aI.out).2.1)
  (case side3 => repeat (first | exact (Kd.Ba aT.out).2.2 | (with_reducible refine Kd.Bw ?_ _) | (with_reducible refine Kd.B6 ?_ _) | (with_reducible refine Kd.Cf ?_)))
  (case side4 => exact (Kd.Ba aT.out).2.1)
  rintro e w16 ⟨v130, v133, rfl, ho0, ho1, hb⟩
  refine ⟨_, rfl, ?_⟩
  have n0_ := Aa.mk (Kd.Bc (by exact rU <| aI.out) hb)
  have n1_ := Aa.mk (Kd.Bj (Kd.R_told (Kd.R_told (Kd.R_old (by exact rU <| aT.out) hb) (Kd.Ch ho0)) (Kd.Ch ho1)) (fun _ h_ => h_.1))
  have n2_ := Aa.mk (Kd.Cc (Kd.Ci ho0 (Kd.Cy (by exact rU <| aT.out))) (An (by repeat (first | (with_reducible first | exact HB.out | apply Ae | apply Ac | apply Ah | refine Ag ?_ az.out) | exact HB.out))))
  have n3_ := Aa.mk (Kd.Cc (Kd.Ci ho1 (Kd.Cy (by exact rU <| aT.out))) (An (by repeat (first | (with_reducible first | exact HB.out | apply Ae | apply Ac | apply Ah | refine Ag ?_ az.out) | exact HB.out))))
  have n4_ := Aa.mk (Ao (g := ap) (o := .cells #[.int .i64 ab, .int .i64 ac, .slice ah aa.length af] 50 (0, 0)) (by exact bU <| ae.out) hb)
  have n5_ := Aa.mk (Au (by repeat (first | (with_reducible first | exact HB.out | apply Ae | apply Ac | apply Ah | refine Ag ?_ az.out) | exact HB.out)) hb)
  clear aI
  clear aT
  clear ae
  clear HB
  have aI := n0_
  have aT := n1_
  have dK := n2_
  have cE := n3_
  have ae := n4_
  have HB := n5_
  clear n0_ n1_ n2_ n3_ n4_ n5_
  (try clear hb)
  (try clear hb2)
  (try clear hk)
  (try clear hi)
  (try clear ho0)
  (try clear ho1)
  refine hK.out _ _ ⟨(Ad ae.out 0).trans rfl, (Ad ae.out 1).trans rfl, (Ad ae.out 2).trans rfl⟩ (fun hHeld => ?_)
  clear hK K
  refine norm_ (a' := ?_) ?_ ?_
  rotate_left
  ·show Act.put _ (some 24) _ = _
   simp only [Act.put, sA, sB, sC, i64_w, i32_w]
   rfl
  refine pure_ (i := 9) (N := some 15) (v := ?_) (a' := ?_) (bA 14 1023) rfl rfl (any_of HT_.out (by kernel_rfl)) (fun _ _ _ h => h) (Or.inl ⟨by rfl, ?_⟩) ?_ ?_
  rotate_left; (intro w'; go_simp; with_reducible rfl); rotate_left; (simp only [Act.put, sA, sB, sC, i64_w, i32_w]; rfl)
  refine pure_ (i := 10) (N := some 25) (v := ?_) (a' := ?_) (bA 14 2047) rfl rfl (any_of HT_.out (by kernel_rfl)) (fun _ _ _ h => h) (Or.inl ⟨by rfl, ?_⟩) ?_ ?_
  rotate_left; (intro w'; go_simp; with_reducible rfl); rotate_left; (simp only [Act.put, sA, sB, sC, i64_w, i32_w]; rfl)
  refine pure_ (i := 11) (N := some 26) (v := ?_) (a' := ?_) (bA 14 4095) rfl rfl (any_of HT_.out (by kernel_rfl)) (fun _ _ _ h => h) (Or.inl ⟨by rfl, ?_⟩) ?_ ?_
  rotate_left; (intro w'; go_simp; with_reducible rfl); rotate_left; (simp only [Act.put, sA, sB, sC, i64_w, i32_w]; rfl)
  refine pure_ (i := 12) (N := some 7) (v := ?_) (a' := ?_) (bA 14 8191) rfl rfl (any_of HT_.out (by kernel_rfl)) (fun _ _ _ h => h) (Or.inl ⟨by rfl, ?_⟩) ?_ ?_
  rotate_left; (intro w'; go_simp; with_reducible rfl); rotate_left; (simp only [Act.put, sA, sB, sC, i64_w, i32_w]; rfl)
  refine pure_ (i := 13) (N := some 8) (v := ?_) (a' := ?_) (bA 14 16383) rfl rfl (any_of HT_.out (by kernel_rfl)) (fun _ _ _ h => h) (Or.inl ⟨by rfl, ?_⟩) ?_ ?_
  rotate_left; (intro w'; go_simp; with_reducible rfl); rotate_left; (simp only [Act.put, sA, sB, sC, i64_w, i32_w]; rfl)
  refine done_ (done_of HT_.out (by kernel_rfl)) ?_
  try go_wp2
  go_ret2
  exact ⟨_, by first | rfl | (simp [Be, Bd] <;> rfl) | (simp [*, Be, Bd] <;> rfl), by exact rU <| Kd.Bj cE.out (fun _ hk => trivial), by repeat (first | (with_reducible first | exact HB.out | apply Ae | apply Ac | apply Ah | refine Ag ?_ az.out) | exact HB.out)⟩
 ·rw [if_neg c4] at H
  have bh : (aM == 0) = false := beq_eq_false_iff_ne.mpr c4
  have bu : (aM != 0) = true := bne_iff_ne.mpr c4
  simp only [Option.some.injEq, Prod.mk.injEq] at H
  obtain ⟨rfl, rfl⟩ := H
  go_enter Try.func29, Try.ntmps29
  go_wp2_with (first | ((with_reducible refine Bq (N := 2) rfl ?_); refine Bt ?hg (N := 2) ?hd (cs := #[.int .i64 ab, .int .i64 ac, .slice ah aa.length af]) (t := 50) ?hr ?_; (case hd => rfl); (case hg => rfl); (case hr => first | (go_simp; done) | (go_simp; rfl)); intro ap hg w17 hbox hb; have n0_ := Aa.mk (Au (lU HB.out) hb); have n1_ := Aa.mk (hbox); have n2_ := Aa.mk ((by rw [hg]; exact (An (lU HB.out)) : w.heap.size ≤ ap)); have n3_ := Aa.mk ((by rw [hg]; exact (An (lU HB.out)) : w.heap.size ≤ ap)); clear HB; have HB := n0_; have ae := n1_; have cC := n2_; have az := n3_; clear n0_ n1_ n2_ n3_; clear hb hbox hg; have cS : w17.cell? ⟨ap, 0, none⟩ = some (.int .i64 ab) := (Ad ae.out 0).trans rfl; have cU : w17.cell? ⟨ap, 1, none⟩ = some (.int .i64 ac) := (Ad ae.out 1).trans rfl; have cV : w17.cell? ⟨ap, 2, none⟩ = some (.slice ah aa.length af) := (Ad ae.out 2).trans rfl; have cW := Af ae.out 0; have cX := Af ae.out 1; have cY := Af ae.out 2) | ((with_reducible refine Br (f := 70) rfl ?_); refine Cm (some 11) rfl rfl Try.func70 (by kernel_rfl) rfl #[.agg #[.int .i64 ab, .int .i64 ac, .slice ah aa.length af], .int .i64 a1] rfl (by (try simp only [List.map_toArray, List.map_cons, List.map_nil]); first | done | rfl | (simp only [List.length_drop, List.length_take]; rfl)) ?_; (with_reducible refine (Cr.calls ab ac _ _ aa a1 aM _ ?side1 ?side2 A3.out).mono ?_); (case side1 => repeat (first | exact (Kd.Ce aD.out HB.out) | (with_reducible refine Kd.Bw ?_ _) | (with_reducible refine Kd.B6 ?_ _) | (with_reducible refine Kd.Cf ?_))); (case side2 => exact aH.out); rintro e w19 ⟨rfl, hb⟩; refine ⟨_, rfl, ?_⟩; have n0_ := Aa.mk (Ao (g := ap) (o := .cells #[.int .i64 ab, .int .i64 ac, .slice ah aa.length af] 50 (0, 0)) (by exact bU <| ae.out) hb); have n1_ := Aa.mk (Au (by repeat (first | (with_reducible first | exact HB.out | apply Ae | apply Ac | apply Ah | refine Ag ?_ az.out) | exact HB.out)) hb); clear ae; clear HB; have ae := n0_; have HB := n1_; clear n0_ n1_; (try clear hb); (try clear hb2); (try clear hk); (try clear hi)))
  go_ret2
  exact ⟨_, by first | rfl | (simp [Be, Bd] <;> rfl) | (simp [*, Be, Bd] <;> rfl), by first | exact Kd.C8 _ _ _ _ _ | exact Kd.N_nil _ _ _ _ _ | exact Kd.V_nil _ _ _ _ _ | exact Kd.Q_nil _ _ _ _ _ | exact Kd.S_nil _ _ _ _ _, by repeat (first | (with_reducible first | exact HB.out | apply Ae | apply Ac | apply Ah | refine Ag ?_ az.out) | exact HB.out)⟩

end Go.Proofs.Yteamphcehoaleaa.PFY

