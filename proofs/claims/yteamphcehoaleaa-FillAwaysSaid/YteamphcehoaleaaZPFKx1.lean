import Derived.Test.YteamphcehoaleaaZWAt
import Derived.Test.YteamphcehoaleaaZPFKx0
import Derived.Test.YteamphcehoaleaaZAW
import Derived.Test.YteamphcehoaleaaZPFAx2
import Derived.Test.YteamphcehoaleaaZPFAx4
namespace Go.Proofs.Yteamphcehoaleaa.PFK
open Go.Proofs.Yteamphcehoaleaa.PFA
open Go.RowKit Go.Proofs.YteamphcehoaleaaW.PrintWords Go.Proofs.YteamphcehoaleaaW.PrintLast Go.Proofs.YteamphcehoaleaaW.PrintMore
attribute [local go_sem] max2_int min2_int max_two min_two max_three min_three max_four min_four
set_option linter.unusedVariables false
set_option linter.unusedSimpArgs false

def Cg.l0 : Nat → Int → List Int → Int → Int → Int → Int → List Bool → Option (Int × Int × List Bool × Int)
 | 0, _, _, _, _, _, _, _ => none
 | k + 1, x1, x31, x32, x33, bo, bp, aX => if x33 < x32 then (if 0 ≤ x33 then (if x33 < (x31.length : Int) then (if (rd x31 x33) ≥ 0 then (if x33 < (aX.length : Int) then (Cg.l0 k x1 x31 x32 (wrap64 (x33 + 1)) bo bp (aX.set (x33 : Int).toNat (decide ((rd x31 x33) ≤ x1)))) else (none)) else (if x33 < (aX.length : Int) then (Cg.l0 k x1 x31 x32 (wrap64 (x33 + 1)) bo bp (aX.set (x33 : Int).toNat false)) else (none))) else (none)) else (none)) else (some (bo, bp, aX, 0))
def Cg.f (k : Nat) (ah : Int) (ai : Int) (af : List Bool) (a1 : Int) (a2 : Int) : Option (Int × Int × List Bool × Int) := (Ct.f ah ai af a2).bind fun aY => (if aY.2 = 0 then (if a1 < 0 then (some (0, 0, ([] : List Bool), 304)) else ((Dh.f ah ai).bind fun bf => (Cg.l0 k a1 aY.1 (aY.1.length : Int) 0 bf.1 bf.2.1 bf.2.2))) else (some (0, 0, ([] : List Bool), aY.2)))
theorem Cg.mono_l : ∀ k, (∀ y0 y1 y2 y3 y4 y5 y6, LeO (Cg.l0 k y0 y1 y2 y3 y4 y5 y6) (Cg.l0 (k + 1) y0 y1 y2 y3 y4 y5 y6))
 | 0 => fun _ _ _ _ _ _ _ r h => by simp [Cg.l0] at h
 | k + 1 => by
  have ih0 := Cg.mono_l k
  ·intro y0 y1 y2 y3 y4 y5 y6
   unfold Cg.l0
   repeat' first
   | (with_reducible exact ih0 _ _ _ _ _ _ _)
   | (with_reducible exact LeO.refl _)
   | (with_reducible exact LeO.none _)
   | (with_reducible refine LeO.ite ?_ ?_)
   | (with_reducible refine LeO.bind ?_ (fun _ => ?_))
   | exact ih0 _ _ _ _ _ _ _
   | exact LeO.none _
   | refine LeO.ite ?_ ?_
   | refine LeO.bind ?_ (fun _ => ?_)
theorem Cg.mono : ∀ a0 a1 a2 a3 a4 k, LeO (Cg.f k a0 a1 a2 a3 a4) (Cg.f (k + 1) a0 a1 a2 a3 a4) := by
 intro a0 a1 a2 a3 a4 k
 have ih0 := Cg.mono_l k
 unfold Cg.f
 repeat' first
   | (with_reducible exact ih0 _ _ _ _ _ _ _)
   | (with_reducible exact LeO.refl _)
   | (with_reducible exact LeO.none _)
   | (with_reducible refine LeO.ite ?_ ?_)
   | (with_reducible refine LeO.bind ?_ (fun _ => ?_))
   | exact ih0 _ _ _ _ _ _ _
   | exact LeO.none _
   | refine LeO.ite ?_ ?_
   | refine LeO.bind ?_ (fun _ => ?_)
set_option maxHeartbeats 8000000 in
set_option maxRecDepth 100000 in
theorem Cg.calls (k : Nat) (ah : Int) (ai : Int) (ao : Option Addr) (ap : Nat) (af : List Bool) (a1 : Int) (a2 : Int) (r1 : Int) (r2 : Int) (r3 : List Bool) (r4 : Int) (w : World) (bq : Kd.C Kd.bool w ao af.length af) (br : af.length ≤ ap) (h : Cg.f k ah ai af a1 a2 = some (r1, r2, r3, r4)) :
  Calls Try.prog 82 #[.agg #[.int .i64 ah, .int .i64 ai, .slice ao af.length ap], .int .i64 a1, .int .i64 a2] w fun e w' => ∃ v2_ : Value, e = .returned (.tuple #[.agg #[.int .i64 r1, .int .i64 r2, v2_], .int .i64 r4]) ∧ Kd.R Kd.bool 4 w' w.heap.size (fun _ => True) v2_ r3 ∧ Below w.heap.size w w' := by
 have hu50 := Try.underlying50
 have bl := Aa.mk bq
 have bm := Aa.mk br
 clear bq br
 have HB := Aa.mk (Below.refl w.heap.size w)
 have H : ((Ct.f ah ai af a2).bind fun aY => (if aY.2 = 0 then (if a1 < 0 then (some (0, 0, ([] : List Bool), 304)) else ((Dh.f ah ai).bind fun bf => (Cg.l0 k a1 aY.1 (aY.1.length : Int) 0 bf.1 bf.2.1 bf.2.2))) else (some (0, 0, ([] : List Bool), aY.2)))) = some (r1, r2, r3, r4) := h
 clear h
 replace H := Option.bind_eq_some_iff.mp H
 obtain ⟨⟨aM, bs⟩, A40, H⟩ := H
 try dsimp only at H
 have A4 := Aa.mk A40
 clear A40
 by_cases c5 : bs = 0
 ·rw [if_pos c5] at H
  have cV : (bs == 0) = true := beq_iff_eq.mpr c5
  have cW : (bs != 0) = false := bne_eq_false_iff_eq.mpr c5
  clear c5
  by_cases c6 : a1 < 0
  ·rw [if_pos c6] at H
   have bN : decide (a1 < 0) = true := decide_eq_true c6
   clear c6
   simp only [Option.some.injEq, Prod.mk.injEq] at H
   obtain ⟨rfl, rfl, rfl, rfl⟩ := H
   go_enter Try.func82, Try.ntmps82
   go_wp2_with (first | ((with_reducible refine Bq (N := 3) rfl ?_); refine Bt ?hg (N := 3) ?hd (cs := #[.int .i64 ah, .int .i64 ai, .slice ao af.length ap]) (t := 50) ?hr ?_; (case hd => rfl); (case hg => rfl); (case hr => first | (go_simp; done) | (go_simp; rfl)); intro aj hg w7 hbox hb; have n0_ := Aa.mk (Au (lU HB.out) hb); have n1_ := Aa.mk (hbox); have n2_ := Aa.mk ((by rw [hg]; exact (An (lU HB.out)) : w.heap.size ≤ aj)); have n3_ := Aa.mk ((by rw [hg]; exact (An (lU HB.out)) : w.heap.size ≤ aj)); clear HB; have HB := n0_; have aa := n1_; have cL := n2_; have av := n3_; clear n0_ n1_ n2_ n3_; clear hb hbox hg) | ((with_reducible refine Bq (N := 6) rfl ?_); refine Bt ?hg (N := 6) ?hd (cs := #[.int .i64 0, .int .i64 0, .slice none 0 0]) (t := 50) ?hr ?_; (case hd => rfl); (case hg => rfl); (case hr => first | (go_simp; done) | (go_simp; rfl)); intro ak hg w8 hbox hb; have n0_ := Aa.mk (Ao (g := aj) (o := .cells #[.int .i64 ah, .int .i64 ai, .slice ao af.length ap] 50 (0, 0)) (by exact bU <| aa.out) hb); have n1_ := Aa.mk (Au (by repeat (first | (with_reducible first | exact HB.out | apply Ae | apply Ac | apply Ah | refine Ag ?_ av.out) | exact HB.out)) hb); have n2_ := Aa.mk (hbox); have n3_ := Aa.mk ((by rw [hg]; exact (An (by repeat (first | (with_reducible first | exact HB.out | apply Ae | apply Ac | apply Ah | refine Ag ?_ av.out) | exact HB.out))) : w.heap.size ≤ ak)); have n4_ := Aa.mk ((by rw [hg]; exact (An (by repeat (first | (with_reducible first | exact HB.out | apply Ae | apply Ac | apply Ah | refine Ag ?_ av.out) | exact HB.out))) : w.heap.size ≤ ak)); have n5_ := Aa.mk ((by rw [hg]; exact Nat.ne_of_lt (Bz (g := aj) (o := .cells #[.int .i64 ah, .int .i64 ai, .slice ao af.length ap] 50 (0, 0)) (by exact bU <| aa.out)) : aj ≠ ak)); have n6_ := Aa.mk ((by rw [hg]; exact Nat.ne_of_gt (Bz (g := aj) (o := .cells #[.int .i64 ah, .int .i64 ai, .slice ao af.length ap] 50 (0, 0)) (by exact bU <| aa.out)) : ak ≠ aj)); clear aa; clear HB; have aa := n0_; have HB := n1_; have ab := n2_; have cM := n3_; have aC := n4_; have aH := n5_; have aI := n6_; clear n0_ n1_ n2_ n3_ n4_ n5_ n6_; clear hb hbox hg; have fS := aH.out; have fU := aI.out; have bO : w8.cell? ⟨aj, 0, none⟩ = some (.int .i64 ah) := (Ad aa.out 0).trans rfl; have bP : w8.cell? ⟨aj, 1, none⟩ = some (.int .i64 ai) := (Ad aa.out 1).trans rfl; have bQ : w8.cell? ⟨aj, 2, none⟩ = some (.slice ao af.length ap) := (Ad aa.out 2).trans rfl; have bR := Af aa.out 0; have bS := Af aa.out 1; have bT := Af aa.out 2) | ((with_reducible refine Br (f := 31) rfl ?_); refine Cm (some 16) rfl rfl Try.func31 (by kernel_rfl) rfl #[.agg #[.int .i64 ah, .int .i64 ai, .slice ao af.length ap], .int .i64 a2] rfl (by (try simp only [List.map_toArray, List.map_cons, List.map_nil]); first | done | rfl | (simp only [List.length_drop, List.length_take]; rfl)) ?_; (with_reducible refine (Ct.calls ah ai _ _ af a2 aM bs _ ?side1 ?side2 A4.out).mono ?_); (case side1 => repeat (first | exact (Kd.Ce bl.out HB.out) | (with_reducible refine Kd.Bw ?_ _) | (with_reducible refine Kd.B6 ?_ _) | (with_reducible refine Kd.Cf ?_))); (case side2 => exact bm.out); rintro e w11 ⟨v104, rfl, ho0, hb⟩; refine ⟨_, rfl, ?_⟩; have n0_ := Aa.mk (Kd.Cc ho0 (An (by repeat (first | (with_reducible first | exact HB.out | apply Ae | apply Ac | apply Ah | refine Ag ?_ av.out | refine Ag ?_ aC.out) | exact HB.out)))); have n1_ := Aa.mk (Ao (g := aj) (o := .cells #[.int .i64 ah, .int .i64 ai, .slice ao af.length ap] 50 (0, 0)) (by exact bU <| aa.out) hb); have n2_ := Aa.mk (Ao (g := ak) (o := .cells #[.int .i64 0, .int .i64 0, .slice none 0 0] 50 (0, 0)) (by exact bU <| ab.out) hb); have n3_ := Aa.mk (Au (by repeat (first | (with_reducible first | exact HB.out | apply Ae | apply Ac | apply Ah | refine Ag ?_ av.out | refine Ag ?_ aC.out) | exact HB.out)) hb); clear aa; clear ab; clear HB; have aV := n0_; have aa := n1_; have ab := n2_; have HB := n3_; clear n0_ n1_ n2_ n3_; (try clear hb); (try clear hb2); (try clear hk); (try clear hi); (try clear ho0); have bV : w11.cell? ⟨ak, 0, none⟩ = some (.int .i64 0) := (Ad ab.out 0).trans rfl; have bW : w11.cell? ⟨ak, 1, none⟩ = some (.int .i64 0) := (Ad ab.out 1).trans rfl; have bX : w11.cell? ⟨ak, 2, none⟩ = some (.slice none 0 0) := (Ad ab.out 2).trans rfl; have bY := Af ab.out 0; have bZ := Af ab.out 1; have b3 := Af ab.out 2))
   refine bodyPost_ret (results_ct rfl _ _ ak 50 #[.int .i64 0, .int .i64 0, .slice none 0 0] (0, 0) _ rfl (by (with_reducible repeat (first | refine Ax ?_ _ | refine Ay ?_ | refine Ak ?_ _)); refine Bo (cs := #[.int .i64 0, .int .i64 0, .slice none 0 0]) ?_ 2 _ rfl; (with_reducible repeat (first | refine Ax ?_ _ | refine Ay ?_ | refine Ak ?_ _)); refine Bo (cs := #[.int .i64 0, .int .i64 0, .slice none 0 0]) ?_ 1 _ rfl; (with_reducible repeat (first | refine Ax ?_ _ | refine Ay ?_ | refine Ak ?_ _)); refine Bo (cs := #[.int .i64 0, .int .i64 0, .slice none 0 0]) ?_ 0 _ rfl; exact bU <| ab.out) Try.underlying50 rfl (by kernel_rfl)) rfl ?_
   exact ⟨_, by first | rfl | (simp [Be, Bd] <;> rfl) | (simp [*, Be, Bd] <;> rfl), by first | exact Kd.C8 _ _ _ _ _ | exact Kd.N_nil _ _ _ _ _ | exact Kd.V_nil _ _ _ _ _ | exact Kd.Q_nil _ _ _ _ _ | exact Kd.S_nil _ _ _ _ _, by repeat (first | (with_reducible first | exact HB.out | apply Ae | apply Ac | apply Ah | refine Ag ?_ av.out | refine Ag ?_ aC.out) | exact HB.out)⟩
  ·rw [if_neg c6] at H
   have bN : decide (a1 < 0) = false := decide_eq_false c6
   clear c6
   replace H := Option.bind_eq_some_iff.mp H
   obtain ⟨⟨aU, aZ, bJ⟩, A130, H⟩ := H
   try dsimp only at H
   have A13 := Aa.mk A130
   clear A130
   have H' := Aa.mk H
   clear H
   go_enter Try.func82, Try.ntmps82
   go_wp2_with (first | ((with_reducible refine Bq (N := 3) rfl ?_); refine Bt ?hg (N := 3) ?hd (cs := #[.int .i64 ah, .int .i64 ai, .slice ao af.length ap]) (t := 50) ?hr ?_; (case hd => rfl); (case hg => rfl); (case hr => first | (go_simp; done) | (go_simp; rfl)); intro aj hg w14 hbox hb; have n0_ := Aa.mk (Au (lU HB.out) hb); have n1_ := Aa.mk (hbox); have n2_ := Aa.mk ((by rw [hg]; exact (An (lU HB.out)) : w.heap.size ≤ aj)); have n3_ := Aa.mk ((by rw [hg]; exact (An (lU HB.out)) : w.heap.size ≤ aj)); clear HB; have HB := n0_; have aa := n1_; have cL := n2_; have av := n3_; clear n0_ n1_ n2_ n3_; clear hb hbox hg) | ((with_reducible refine Bq (N := 6) rfl ?_); refine Bt ?hg (N := 6) ?hd (cs := #[.int .i64 0, .int .i64 0, .slice none 0 0]) (t := 50) ?hr ?_; (case hd => rfl); (case hg => rfl); (case hr => first | (go_simp; done) | (go_simp; rfl)); intro ak hg w15 hbox hb; have n0_ := Aa.mk (Ao (g := aj) (o := .cells #[.int .i64 ah, .int .i64 ai, .slice ao af.length ap] 50 (0, 0)) (by exact bU <| aa.out) hb); have n1_ := Aa.mk (Au (by repeat (first | (with_reducible first | exact HB.out | apply Ae | apply Ac | apply Ah | refine Ag ?_ av.out) | exact HB.out)) hb); have n2_ := Aa.mk (hbox); have n3_ := Aa.mk ((by rw [hg]; exact (An (by repeat (first | (with_reducible first | exact HB.out | apply Ae | apply Ac | apply Ah | refine Ag ?_ av.out) | exact HB.out))) : w.heap.size ≤ ak)); have n4_ := Aa.mk ((by rw [hg]; exact (An (by repeat (first | (with_reducible first | exact HB.out | apply Ae | apply Ac | apply Ah | refine Ag ?_ av.out) | exact HB.out))) : w.heap.size ≤ ak)); have n5_ := Aa.mk ((by rw [hg]; exact Nat.ne_of_lt (Bz (g := aj) (o := .cells #[.int .i64 ah, .int .i64 ai, .slice ao af.length ap] 50 (0, 0)) (by exact bU <| aa.out)) : aj ≠ ak)); have n6_ := Aa.mk ((by rw [hg]; exact Nat.ne_of_gt (Bz (g := aj) (o := .cells #[.int .i64 ah, .int .i64 ai, .slice ao af.length ap] 50 (0, 0)) (by exact bU <| aa.out)) : ak ≠ aj)); clear aa; clear HB; have aa := n0_; have HB := n1_; have ab := n2_; have cM := n3_; have aC := n4_; have aH := n5_; have aI := n6_; clear n0_ n1_ n2_ n3_ n4_ n5_ n6_; clear hb hbox hg; have cX := aH.out; have cY := aI.out; have b4 : w15.cell? ⟨aj, 0, none⟩ = some (.int .i64 ah) := (Ad aa.out 0).trans rfl; have b5 : w15.cell? ⟨aj, 1, none⟩ = some (.int .i64 ai) := (Ad aa.out 1).trans rfl; have b6 : w15.cell? ⟨aj, 2, none⟩ = some (.slice ao af.length ap) := (Ad aa.out 2).trans rfl; have b7 := Af aa.out 0; have b8 := Af aa.out 1; have b9 := Af aa.out 2) | ((with_reducible refine Br (f := 31) rfl ?_); refine Cm (some 16) rfl rfl Try.func31 (by kernel_rfl) rfl #[.agg #[.int .i64 ah, .int .i64 ai, .slice ao af.length ap], .int .i64 a2] rfl (by (try simp only [List.map_toArray, List.map_cons, List.map_nil]); first | done | rfl | (simp only [List.length_drop, List.length_take]; rfl)) ?_; (with_reducible refine (Ct.calls ah ai _ _ af a2 aM bs _ ?side1 ?side2 A4.out).mono ?_); (case side1 => repeat (first | exact (Kd.Ce bl.out HB.out) | (with_reducible refine Kd.Bw ?_ _) | (with_reducible refine Kd.B6 ?_ _) | (with_reducible refine Kd.Cf ?_))); (case side2 => exact bm.out); rintro e w18 ⟨v104, rfl, ho0, hb⟩; refine ⟨_, rfl, ?_⟩; have n0_ := Aa.mk (Kd.Cc ho0 (An (by repeat (first | (with_reducible first | exact HB.out | apply Ae | apply Ac | apply Ah | refine Ag ?_ av.out | refine Ag ?_ aC.out) | exact HB.out)))); have n1_ := Aa.mk (Ao (g := aj) (o := .cells #[.int .i64 ah, .int .i64 ai, .slice ao af.length ap] 50 (0, 0)) (by exact bU <| aa.out) hb); have n2_ := Aa.mk (Ao (g := ak) (o := .cells #[.int .i64 0, .int .i64 0, .slice none 0 0] 50 (0, 0)) (by exact bU <| ab.out) hb); have n3_ := Aa.mk (Au (by repeat (first | (with_reducible first | exact HB.out | apply Ae | apply Ac | apply Ah | refine Ag ?_ av.out | refine Ag ?_ aC.out) | exact HB.out)) hb); clear aa; clear ab; clear HB; have aV := n0_; have aa := n1_; have ab := n2_; have HB := n3_; clear n0_ n1_ n2_ n3_; (try clear hb); (try clear hb2); (try clear hk); (try clear hi); (try clear ho0); have cd : w18.cell? ⟨aj, 0, none⟩ = some (.int .i64 ah) := (Ad aa.out 0).trans rfl; have ce : w18.cell? ⟨aj, 1, none⟩ = some (.int .i64 ai) := (Ad aa.out 1).trans rfl; have cg : w18.cell? ⟨aj, 2, none⟩ = some (.slice ao af.length ap) := (Ad aa.out 2).trans rfl; have ck := Af aa.out 0; have cp := Af aa.out 1; have cr := Af aa.out 2) | ((with_reducible refine Br (f := 74) rfl ?_); refine Cm (some 30) rfl rfl Try.func74 (by kernel_rfl) rfl #[.int .i64 ah, .int .i64 ai] rfl (by (try simp only [List.map_toArray, List.map_cons, List.map_nil]); first | done | rfl | (simp only [List.length_drop, List.length_take]; rfl)) ?_; (with_reducible refine (Dh.calls ah ai aU aZ bJ _ A13.out).mono ?_); rintro e w20 ⟨v110, rfl, ho0, hb⟩; refine ⟨_, rfl, ?_⟩; have n0_ := Aa.mk (Kd.Bc (by exact rU <| aV.out) hb); have n1_ := Aa.mk (Kd.Cc ho0 (An (by repeat (first | (with_reducible first | exact HB.out | apply Ae | apply Ac | apply Ah | refine Ag ?_ av.out | refine Ag ?_ aC.out) | exact HB.out)))); have n2_ := Aa.mk (Ao (g := aj) (o := .cells #[.int .i64 ah, .int .i64 ai, .slice ao af.length ap] 50 (0, 0)) (by exact bU <| aa.out) hb); have n3_ := Aa.mk (Ao (g := ak) (o := .cells #[.int .i64 0, .int .i64 0, .slice none 0 0] 50 (0, 0)) (by exact bU <| ab.out) hb); have n4_ := Aa.mk (Au (by repeat (first | (with_reducible first | exact HB.out | apply Ae | apply Ac | apply Ah | refine Ag ?_ av.out | refine Ag ?_ aC.out) | exact HB.out)) hb); clear aV; clear aa; clear ab; clear HB; have aV := n0_; have bt := n1_; have aa := n2_; have ab := n3_; have HB := n4_; clear n0_ n1_ n2_ n3_ n4_; (try clear hb); (try clear hb2); (try clear hk); (try clear hi); (try clear ho0)) | ((with_reducible refine Bq (N := 10) rfl ?_); refine Bt ?hg (N := 10) ?hd (cs := #[.int .i64 0, .int .i64 0, .slice none 0 0]) (t := 50) ?hr ?_; (case hd => rfl); (case hg => rfl); (case hr => first | (go_simp; done) | (go_simp; rfl)); intro aw hg w21 hbox hb; have n0_ := Aa.mk (Kd.Bc (by exact rU <| aV.out) hb); have n1_ := Aa.mk (Kd.Bc (by exact rU <| bt.out) hb); have n2_ := Aa.mk (Ao (g := aj) (o := .cells #[.int .i64 ah, .int .i64 ai, .slice ao af.length ap] 50 (0, 0)) (by exact bU <| aa.out) hb); have n3_ := Aa.mk (Ao (g := ak) (o := .cells #[.int .i64 0, .int .i64 0, .slice none 0 0] 50 (0, 0)) (by exact bU <| ab.out) hb); have n4_ := Aa.mk (Au (by repeat (first | (with_reducible first | exact HB.out | apply Ae | apply Ac | apply Ah | refine Ag ?_ av.out | refine Ag ?_ aC.out) | exact HB.out)) hb); have n5_ := Aa.mk (hbox); have n6_ := Aa.mk ((by rw [hg]; exact (An (by repeat (first | (with_reducible first | exact HB.out | apply Ae | apply Ac | apply Ah | refine Ag ?_ av.out | refine Ag ?_ aC.out) | exact HB.out))) : w.heap.size ≤ aw)); have n7_ := Aa.mk ((by rw [hg]; exact (An (by repeat (first | (with_reducible first | exact HB.out | apply Ae | apply Ac | apply Ah | refine Ag ?_ av.out | refine Ag ?_ aC.out) | exact HB.out))) : w.heap.size ≤ aw)); have n8_ := Aa.mk ((by rw [hg]; exact Nat.ne_of_lt (Bz (g := aj) (o := .cells #[.int .i64 ah, .int .i64 ai, .slice ao af.length ap] 50 (0, 0)) (by exact bU <| aa.out)) : aj ≠ aw)); have n9_ := Aa.mk ((by rw [hg]; exact Nat.ne_of_gt (Bz (g := aj) (o := .cells #[.int .i64 ah, .int .i64 ai, .slice ao af.length ap] 50 (0, 0)) (by exact bU <| aa.out)) : aw ≠ aj)); have bu := Aa.mk ((by rw [hg]; exact Nat.ne_of_lt (Bz (g := ak) (o := .cells #[.int .i64 0, .int .i64 0, .slice none 0 0] 50 (0, 0)) (by exact bU <| ab.out)) : ak ≠ aw)); have bv := Aa.mk ((by rw [hg]; exact Nat.ne_of_gt (Bz (g := ak) (o := .cells #[.int .i64 0, .int .i64 0, .slice none 0 0] 50 (0, 0)) (by exact bU <| ab.out)) : aw ≠ ak)); clear aV; clear bt; clear aa; clear ab; clear HB; have aV := n0_; have bt := n1_; have aa := n2_; have ab := n3_; have HB := n4_; have an := n5_; have ff := n6_; have bG := n7_; have aE := n8_; have aQ := n9_; have aG := bu; have aT := bv; clear n0_ n1_ n2_ n3_ n4_ n5_ n6_ n7_ n8_ n9_ bu bv; clear hb hbox hg; have fg := aQ.out; have fh := aE.out; have fi := aT.out; have fj := aG.out; have ct : w21.cell? ⟨aw, 0, none⟩ = some (.int .i64 0) := (Ad an.out 0).trans rfl; have cu : w21.cell? ⟨aw, 1, none⟩ = some (.int .i64 0) := (Ad an.out 1).trans rfl; have cx : w21.cell? ⟨aw, 2, none⟩ = some (.slice none 0 0) := (Ad an.out 2).trans rfl; have cy := Af an.out 0; have cz := Af an.out 1; have cA := Af an.out 2; obtain ⟨cP, cQ, eP⟩ := Kd.B0 bt.out; subst eP; obtain ⟨eQ, eR, eS⟩ := Kd.B0 aV.out; subst eS))
   go_loopg [33] k (fun kq v33 w' => ∃ (am : Int) (ae : List Bool) (u113002 : Value), v33 = .int .i64 am ∧ Aa (Cg.l0 kq a1 aM (aM.length : Int) am aU aZ ae = some (r1, r2, r3, r4)) ∧ Aa (kq ≤ k) ∧ Aa (Kd.R (Kd.int .i64) 3 w' w.heap.size (fun _ => True) (.slice eQ aM.length eR) aM) ∧ Aa (Kd.R Kd.bool 4 w' w.heap.size (fun _ => True) u113002 ae) ∧ Aa (w'.heap[aj]? = some (.cells #[.int .i64 ah, .int .i64 ai, (.slice ao af.length ap)] 50 (0, 0))) ∧ Aa (w'.heap[ak]? = some (.cells #[.int .i64 0, .int .i64 0, (.slice none 0 0)] 50 (0, 0))) ∧ Aa (w'.heap[aw]? = some (.cells #[.int .i64 aU, .int .i64 aZ, u113002] 50 (0, 0))) ∧ Aa (Below w.heap.size w w'))
   case atStart => exact ⟨(0), (bJ), (.slice cP bJ.length cQ), (by first | rfl | (simp; done) | (simp [*]; done)), H', ⟨Nat.le_refl _⟩, ⟨by exact rU <| Kd.Bj (Kd.Bn (p := ⟨aw, 2, none⟩) (Kd.Bn (p := ⟨aw, 1, none⟩) (Kd.Bn (p := ⟨aw, 0, none⟩) (Kd.Cb aV.out an.out (by decide)) (fun _ hk => hk.2) (.int .i64 aU)) (fun _ hk => hk.2) (.int .i64 aZ)) (fun _ hk => hk.2) (.slice cP bJ.length cQ)) (fun _ hk => trivial)⟩, ⟨by exact rU <| Kd.Bj (Kd.Bn (p := ⟨aw, 2, none⟩) (Kd.Bn (p := ⟨aw, 1, none⟩) (Kd.Bn (p := ⟨aw, 0, none⟩) (Kd.Cb bt.out an.out (by decide)) (fun _ hk => hk.2) (.int .i64 aU)) (fun _ hk => hk.2) (.int .i64 aZ)) (fun _ hk => hk.2) (.slice cP bJ.length cQ)) (fun _ hk => trivial)⟩, ⟨by (with_reducible repeat (first | refine Ax ?_ _ | refine Ay ?_ | refine Ak ?_ _)); refine Bk ?_ aE.out _; (with_reducible repeat (first | refine Ax ?_ _ | refine Ay ?_ | refine Ak ?_ _)); refine Bk ?_ aE.out _; (with_reducible repeat (first | refine Ax ?_ _ | refine Ay ?_ | refine Ak ?_ _)); refine Bk ?_ aE.out _; exact bU <| aa.out⟩, ⟨by (with_reducible repeat (first | refine Ax ?_ _ | refine Ay ?_ | refine Ak ?_ _)); refine Bk ?_ aG.out _; (with_reducible repeat (first | refine Ax ?_ _ | refine Ay ?_ | refine Ak ?_ _)); refine Bk ?_ aG.out _; (with_reducible repeat (first | refine Ax ?_ _ | refine Ay ?_ | refine Ak ?_ _)); refine Bk ?_ aG.out _; exact bU <| ab.out⟩, ⟨by (with_reducible repeat (first | refine Ax ?_ _ | refine Ay ?_ | refine Ak ?_ _)); refine Bo (cs := #[.int .i64 aU, .int .i64 aZ, .slice none 0 0]) ?_ 2 _ rfl; (with_reducible repeat (first | refine Ax ?_ _ | refine Ay ?_ | refine Ak ?_ _)); refine Bo (cs := #[.int .i64 aU, .int .i64 0, .slice none 0 0]) ?_ 1 _ rfl; (with_reducible repeat (first | refine Ax ?_ _ | refine Ay ?_ | refine Ak ?_ _)); refine Bo (cs := #[.int .i64 0, .int .i64 0, .slice none 0 0]) ?_ 0 _ rfl; exact bU <| an.out⟩, ⟨by repeat (first | (with_reducible first | exact HB.out | apply Ae | apply Ac | apply Ah | refine Ag ?_ av.out | refine Ag ?_ aC.out | refine Ag ?_ bG.out) | exact HB.out)⟩⟩
   case round =>
    clear H'
    try clear c1
    try clear c2
    try clear p2
    try clear c3
    try clear c5
    try clear cV
    try clear cW
    try clear c6
    try clear bN
    try clear c7
    try clear c8
    try clear c9
    try clear c16
    try clear c22
    try clear c23
    try clear bO
    try clear bP
    try clear bQ
    try clear bV
    try clear bW
    try clear bX
    try clear b4
    try clear b5
    try clear b6
    try clear cd
    try clear ce
    try clear cg
    try clear ct
    try clear cu
    try clear cx
    try clear bR
    try clear bS
    try clear bT
    try clear bY
    try clear bZ
    try clear b3
    try clear b7
    try clear b8
    try clear b9
    try clear ck
    try clear cp
    try clear cr
    try clear cy
    try clear cz
    try clear cA
    obtain ⟨am, ae, u113002, rfl, HA, HK1, aW, ac, aa, ab, an, HB⟩ := hrel
    cases gk with
    | zero => exact absurd HA.out (by simp [Cg.l0])
    | succ k1 =>
     have H := HA.out
     clear HA
     simp only [Cg.l0] at H
     by_cases c27 : am < (aM.length : Int)
     ·rw [if_pos c27] at H
      have cZ : decide (am < (aM.length : Int)) = true := decide_eq_true c27
      clear c27
      by_cases c28 : 0 ≤ am
      ·rw [if_pos c28] at H
       have fk : decide (0 ≤ am) = true := decide_eq_true c28
       clear c28
       by_cases c29 : am < (aM.length : Int)
       ·rw [if_pos c29] at H
        have fl : decide (am < (aM.length : Int)) = true := decide_eq_true c29
        clear c29
        by_cases c30 : (rd aM am) ≥ 0
        ·rw [if_pos c30] at H
         have da : decide (0 ≤ (rd aM am)) = true := decide_eq_true c30
         clear c30
         by_cases c31 : am < (ae.length : Int)
         ·rw [if_pos c31] at H
          have fm : decide (am < (ae.length : Int)) = true := decide_eq_true c31
          clear c31
          obtain ⟨db, bK⟩ : ∃ y_ : List Bool, y_ = (ae.set (am : Int).toNat (decide ((rd aM am) ≤ a1))) := ⟨_, rfl⟩
          (try rw [Option.bind_some] at H); try rw [← bK] at H
          have dc := Aa.mk bK
          clear bK
          have H' := Aa.mk H
          clear H
          have bB : 0 ≤ (am : Int) := of_decide_eq_true (by with_reducible assumption)
          have bC : am < (aM.length : Int) := of_decide_eq_true (by with_reducible assumption)
          obtain ⟨dd, e113, cB⟩ := Kd.at_int (Kd.Ba aW.out).2.2 am bB bC
          cases e113
          replace bB := eq_true bB
          replace bC := eq_true bC
          have fo := aQ.out
          have fp := aE.out
          have fq := aT.out
          have ft := aG.out
          have cC : wr.cell? ⟨aw, 0, none⟩ = some (.int .i64 aU) := (Ad an.out 0).trans rfl
          have cD : wr.cell? ⟨aw, 1, none⟩ = some (.int .i64 aZ) := (Ad an.out 1).trans rfl
          have cE : wr.cell? ⟨aw, 2, none⟩ = some (u113002) := (Ad an.out 2).trans rfl
          have cF := Af an.out 0
          have cG := Af an.out 1
          have cH := Af an.out 2
          have p32 : 0 ≤ (am : Int) := of_decide_eq_true (by with_reducible assumption)
          have q32 : (am : Int) < ((ae.length : Int) : Int) := of_decide_eq_true (by with_reducible assumption)
          obtain ⟨go32, cI, de, df, gl32, cl32, HG32⟩ := Kd.Dd ac.out (by omega)
          (first | cases de | (injection de with ea_ en_ ec_; (first | subst ea_ | (injection ea_ with ea_; subst ea_)); subst ec_; clear en_))
          have GB32 := Aa.mk df
          have GG32 := Aa.mk HG32
          clear df gl32 HG32
          obtain ⟨eT, eU⟩ := Kd.Cx false ac.out (am : Int) p32 q32
          replace p32 := eq_true p32
          replace q32 := eq_true q32
          have cR := Kd.Db ac.out (am : Int) (decide ((rd aM am) ≤ a1))
          go_wp2_with (((with_reducible refine Cq (t := 4) (p := 48) rfl ?_); refine store_event (t := 4) (p := 48) (v := ?vo_w37) (w1 := (wr.setCell ⟨go32, (am : Int).toNat, none⟩ (.bool (decide ((rd aM am) ≤ a1))))) ?hg ?ho ?hn ?hr ?_; (case ho => rfl); (case hg => rfl); (case hn => rfl); (case hr => first | (go_simp; done) | (go_simp; rfl)); intro w37 hw; have hg : wr.grownBy w37 (some go32) := (by rw [hw]; exact cR.2); have hp_ : Kd.R Kd.bool 4 w37 w.heap.size (fun _ => True) (.slice (some ⟨go32, 0, none⟩) ae.length cI) db := (by rw [hw, dc.out]; exact cR.1); clear cR; have n0_ := Aa.mk (Kd.R_over' (v := (.slice (some ⟨go32, 0, none⟩) ae.length cI)) (by exact rU <| aW.out) (Kd.R_typed ac.out) (by decide) hg); have n1_ := Aa.mk (hp_); have n2_ := Aa.mk (Bu (g := aj) (o := .cells #[.int .i64 ah, .int .i64 ai, .slice ao af.length ap] 50 (0, 0)) (by exact bU <| aa.out) hg (Kd.De ac.out aa.out (by decide))); have n3_ := Aa.mk (Bu (g := ak) (o := .cells #[.int .i64 0, .int .i64 0, .slice none 0 0] 50 (0, 0)) (by exact bU <| ab.out) hg (Kd.De ac.out ab.out (by decide))); have n4_ := Aa.mk (Bu (g := aw) (o := .cells #[.int .i64 aU, .int .i64 aZ, .slice (some ⟨go32, 0, none⟩) ae.length cI] 50 (0, 0)) (by exact bU <| an.out) hg (Kd.De ac.out an.out (by decide))); have n5_ := Aa.mk ((by rw [hw]; exact Ag (HB.out) GB32.out : Below w.heap.size w w37)); clear aW; clear ac; clear aa; clear ab; clear an; clear HB; have aW := n0_; have ac := n1_; have aa := n2_; have ab := n3_; have an := n4_; have HB := n5_; clear n0_ n1_ n2_ n3_ n4_ n5_; clear hg hw hp_))
          go_roundg k1
          case measure => have := HK1.out; omega
          case rel => exact ⟨(wrap64 (am + 1)), (db), (.slice (some ⟨go32, 0, none⟩) ae.length cI), (by first | rfl | (simp; done) | (simp [*]; done)), H', ⟨by have := HK1.out; omega⟩, ⟨by exact rU <| aW.out⟩, ⟨by exact rU <| ac.out⟩, ⟨by exact bU <| aa.out⟩, ⟨by exact bU <| ab.out⟩, ⟨by exact bU <| an.out⟩, ⟨by repeat (first | (with_reducible first | exact HB.out | apply Ae | apply Ac | apply Ah | refine Ag ?_ av.out | refine Ag ?_ aC.out | refine Ag ?_ bG.out) | exact HB.out)⟩⟩
         ·rw [if_neg c31] at H
          exact absurd H (by simp)
        ·rw [if_neg c30] at H
         have da : decide (0 ≤ (rd aM am)) = false := decide_eq_false c30
         clear c30
         by_cases c38 : am < (ae.length : Int)
         ·rw [if_pos c38] at H
          have fu : decide (am < (ae.length : Int)) = true := decide_eq_true c38
          clear c38
          obtain ⟨dg, bL⟩ : ∃ y_ : List Bool, y_ = (ae.set (am : Int).toNat false) := ⟨_, rfl⟩
          (try rw [Option.bind_some] at H); try rw [← bL] at H
          have dh := Aa.mk bL
          clear bL
          have H' := Aa.mk H
          clear H
          have bB : 0 ≤ (am : Int) := of_decide_eq_true (by with_reducible assumption)
          have bC : am < (aM.length : Int) := of_decide_eq_true (by with_reducible assumption)
          obtain ⟨dd, e113, cB⟩ := Kd.at_int (Kd.Ba aW.out).2.2 am bB bC
          cases e113
          replace bB := eq_true bB
          replace bC := eq_true bC
          have fw := aQ.out
          have fx := aE.out
          have fy := aT.out
          have fz := aG.out
          have dw : wr.cell? ⟨aw, 0, none⟩ = some (.int .i64 aU) := (Ad an.out 0).trans rfl
          have dz : wr.cell? ⟨aw, 1, none⟩ = some (.int .i64 aZ) := (Ad an.out 1).trans rfl
          have dA : wr.cell? ⟨aw, 2, none⟩ = some (u113002) := (Ad an.out 2).trans rfl
          have dB := Af an.out 0
          have dC := Af an.out 1
          have dD := Af an.out 2
          have p39 : 0 ≤ (am : Int) := of_decide_eq_true (by with_reducible assumption)
          have q39 : (am : Int) < ((ae.length : Int) : Int) := of_decide_eq_true (by with_reducible assumption)
          obtain ⟨go39, cJ, di, dj, gl39, cl39, HG39⟩ := Kd.Dd ac.out (by omega)
          (first | cases di | (injection di with ea_ en_ ec_; (first | subst ea_ | (injection ea_ with ea_; subst ea_)); subst ec_; clear en_))
          have GB39 := Aa.mk dj
          have GG39 := Aa.mk HG39
          clear dj gl39 HG39
          obtain ⟨eV, eW⟩ := Kd.Cx false ac.out (am : Int) p39 q39
          replace p39 := eq_true p39
          replace q39 := eq_true q39
          have cS := Kd.Db ac.out (am : Int) false
          go_wp2_with (((with_reducible refine Cq (t := 4) (p := 48) rfl ?_); refine store_event (t := 4) (p := 48) (v := ?vo_w44) (w1 := (wr.setCell ⟨go39, (am : Int).toNat, none⟩ (.bool false))) ?hg ?ho ?hn ?hr ?_; (case ho => rfl); (case hg => rfl); (case hn => rfl); (case hr => first | (go_simp; done) | (go_simp; rfl)); intro w44 hw; have hg : wr.grownBy w44 (some go39) := (by rw [hw]; exact cS.2); have hp_ : Kd.R Kd.bool 4 w44 w.heap.size (fun _ => True) (.slice (some ⟨go39, 0, none⟩) ae.length cJ) dg := (by rw [hw, dh.out]; exact cS.1); clear cS; have n0_ := Aa.mk (Kd.R_over' (v := (.slice (some ⟨go39, 0, none⟩) ae.length cJ)) (by exact rU <| aW.out) (Kd.R_typed ac.out) (by decide) hg); have n1_ := Aa.mk (hp_); have n2_ := Aa.mk (Bu (g := aj) (o := .cells #[.int .i64 ah, .int .i64 ai, .slice ao af.length ap] 50 (0, 0)) (by exact bU <| aa.out) hg (Kd.De ac.out aa.out (by decide))); have n3_ := Aa.mk (Bu (g := ak) (o := .cells #[.int .i64 0, .int .i64 0, .slice none 0 0] 50 (0, 0)) (by exact bU <| ab.out) hg (Kd.De ac.out ab.out (by decide))); have n4_ := Aa.mk (Bu (g := aw) (o := .cells #[.int .i64 aU, .int .i64 aZ, .slice (some ⟨go39, 0, none⟩) ae.length cJ] 50 (0, 0)) (by exact bU <| an.out) hg (Kd.De ac.out an.out (by decide))); have n5_ := Aa.mk ((by rw [hw]; exact Ag (HB.out) GB39.out : Below w.heap.size w w44)); clear aW; clear ac; clear aa; clear ab; clear an; clear HB; have aW := n0_; have ac := n1_; have aa := n2_; have ab := n3_; have an := n4_; have HB := n5_; clear n0_ n1_ n2_ n3_ n4_ n5_; clear hg hw hp_))
          go_roundg k1
          case measure => have := HK1.out; omega
          case rel => exact ⟨(wrap64 (am + 1)), (dg), (.slice (some ⟨go39, 0, none⟩) ae.length cJ), (by first | rfl | (simp; done) | (simp [*]; done)), H', ⟨by have := HK1.out; omega⟩, ⟨by exact rU <| aW.out⟩, ⟨by exact rU <| ac.out⟩, ⟨by exact bU <| aa.out⟩, ⟨by exact bU <| ab.out⟩, ⟨by exact bU <| an.out⟩, ⟨by repeat (first | (with_reducible first | exact HB.out | apply Ae | apply Ac | apply Ah | refine Ag ?_ av.out | refine Ag ?_ aC.out | refine Ag ?_ bG.out) | exact HB.out)⟩⟩
         ·rw [if_neg c38] at H
          exact absurd H (by simp)
       ·rw [if_neg c29] at H
        exact absurd H (by simp)
      ·rw [if_neg c28] at H
       exact absurd H (by simp)
     ·rw [if_neg c27] at H
      have cZ : decide (am < (aM.length : Int)) = false := decide_eq_false c27
      clear c27
      simp only [Option.some.injEq, Prod.mk.injEq] at H
      obtain ⟨rfl, rfl, rfl, rfl⟩ := H
      have fA := aQ.out
      have fB := aE.out
      have fC := aT.out
      have fD := aG.out
      have dE : wr.cell? ⟨aw, 0, none⟩ = some (.int .i64 aU) := (Ad an.out 0).trans rfl
      have dF : wr.cell? ⟨aw, 1, none⟩ = some (.int .i64 aZ) := (Ad an.out 1).trans rfl
      have dG : wr.cell? ⟨aw, 2, none⟩ = some (u113002) := (Ad an.out 2).trans rfl
      have dH := Af an.out 0
      have dI := Af an.out 1
      have dJ := Af an.out 2
      have fE := aI.out
      have fF := aH.out
      have dK : wr.cell? ⟨ak, 0, none⟩ = some (.int .i64 0) := (Ad ab.out 0).trans rfl
      have dL : wr.cell? ⟨ak, 1, none⟩ = some (.int .i64 0) := (Ad ab.out 1).trans rfl
      have dM : wr.cell? ⟨ak, 2, none⟩ = some (.slice none 0 0) := (Ad ab.out 2).trans rfl
      have dN := Af ab.out 0
      have dO := Af ab.out 1
      have dP := Af ab.out 2
      obtain ⟨dk, dl, eX⟩ := Kd.B0 ac.out
      subst eX
      go_wp2
      refine bodyPost_ret (results_ct rfl _ _ ak 50 #[.int .i64 aU, .int .i64 aZ, .slice dk ae.length dl] (0, 0) _ rfl (by (with_reducible repeat (first | refine Ax ?_ _ | refine Ay ?_ | refine Ak ?_ _)); refine Bo (cs := #[.int .i64 aU, .int .i64 aZ, .slice none 0 0]) ?_ 2 _ rfl; (with_reducible repeat (first | refine Ax ?_ _ | refine Ay ?_ | refine Ak ?_ _)); refine Bo (cs := #[.int .i64 aU, .int .i64 0, .slice none 0 0]) ?_ 1 _ rfl; (with_reducible repeat (first | refine Ax ?_ _ | refine Ay ?_ | refine Ak ?_ _)); refine Bo (cs := #[.int .i64 0, .int .i64 0, .slice none 0 0]) ?_ 0 _ rfl; exact bU <| ab.out) Try.underlying50 rfl (by kernel_rfl)) rfl ?_
      exact ⟨_, by first | rfl | (simp [Be, Bd] <;> rfl) | (simp [*, Be, Bd] <;> rfl), by exact rU <| Kd.Bj (Kd.Bn (p := ⟨ak, 2, none⟩) (Kd.Bn (p := ⟨ak, 1, none⟩) (Kd.Bn (p := ⟨ak, 0, none⟩) (Kd.Cb ac.out ab.out (by decide)) (fun _ hk => hk.2) (.int .i64 aU)) (fun _ hk => hk.2) (.int .i64 aZ)) (fun _ hk => hk.2) (.slice dk ae.length dl)) (fun _ hk => trivial), by repeat (first | (with_reducible first | exact HB.out | apply Ae | apply Ac | apply Ah | refine Ag ?_ av.out | refine Ag ?_ aC.out | refine Ag ?_ bG.out) | exact HB.out)⟩
 ·rw [if_neg c5] at H
  have cV : (bs == 0) = false := beq_eq_false_iff_ne.mpr c5
  have cW : (bs != 0) = true := bne_iff_ne.mpr c5
  simp only [Option.some.injEq, Prod.mk.injEq] at H
  obtain ⟨rfl, rfl, rfl, rfl⟩ := H
  go_enter Try.func82, Try.ntmps82
  go_wp2_with (first | ((with_reducible refine Bq (N := 3) rfl ?_); refine Bt ?hg (N := 3) ?hd (cs := #[.int .i64 ah, .int .i64 ai, .slice ao af.length ap]) (t := 50) ?hr ?_; (case hd => rfl); (case hg => rfl); (case hr => first | (go_simp; done) | (go_simp; rfl)); intro aj hg w51 hbox hb; have n0_ := Aa.mk (Au (lU HB.out) hb); have n1_ := Aa.mk (hbox); have n2_ := Aa.mk ((by rw [hg]; exact (An (lU HB.out)) : w.heap.size ≤ aj)); have n3_ := Aa.mk ((by rw [hg]; exact (An (lU HB.out)) : w.heap.size ≤ aj)); clear HB; have HB := n0_; have aa := n1_; have cL := n2_; have av := n3_; clear n0_ n1_ n2_ n3_; clear hb hbox hg) | ((with_reducible refine Bq (N := 6) rfl ?_); refine Bt ?hg (N := 6) ?hd (cs := #[.int .i64 0, .int .i64 0, .slice none 0 0]) (t := 50) ?hr ?_; (case hd => rfl); (case hg => rfl); (case hr => first | (go_simp; done) | (go_simp; rfl)); intro ak hg w52 hbox hb; have n0_ := Aa.mk (Ao (g := aj) (o := .cells #[.int .i64 ah, .int .i64 ai, .slice ao af.length ap] 50 (0, 0)) (by exact bU <| aa.out) hb); have n1_ := Aa.mk (Au (by repeat (first | (with_reducible first | exact HB.out | apply Ae | apply Ac | apply Ah | refine Ag ?_ av.out) | exact HB.out)) hb); have n2_ := Aa.mk (hbox); have n3_ := Aa.mk ((by rw [hg]; exact (An (by repeat (first | (with_reducible first | exact HB.out | apply Ae | apply Ac | apply Ah | refine Ag ?_ av.out) | exact HB.out))) : w.heap.size ≤ ak)); have n4_ := Aa.mk ((by rw [hg]; exact (An (by repeat (first | (with_reducible first | exact HB.out | apply Ae | apply Ac | apply Ah | refine Ag ?_ av.out) | exact HB.out))) : w.heap.size ≤ ak)); have n5_ := Aa.mk ((by rw [hg]; exact Nat.ne_of_lt (Bz (g := aj) (o := .cells #[.int .i64 ah, .int .i64 ai, .slice ao af.length ap] 50 (0, 0)) (by exact bU <| aa.out)) : aj ≠ ak)); have n6_ := Aa.mk ((by rw [hg]; exact Nat.ne_of_gt (Bz (g := aj) (o := .cells #[.int .i64 ah, .int .i64 ai, .slice ao af.length ap] 50 (0, 0)) (by exact bU <| aa.out)) : ak ≠ aj)); clear aa; clear HB; have aa := n0_; have HB := n1_; have ab := n2_; have cM := n3_; have aC := n4_; have aH := n5_; have aI := n6_; clear n0_ n1_ n2_ n3_ n4_ n5_ n6_; clear hb hbox hg; have fG := aH.out; have fH := aI.out; have dQ : w52.cell? ⟨aj, 0, none⟩ = some (.int .i64 ah) := (Ad aa.out 0).trans rfl; have dR : w52.cell? ⟨aj, 1, none⟩ = some (.int .i64 ai) := (Ad aa.out 1).trans rfl; have dS : w52.cell? ⟨aj, 2, none⟩ = some (.slice ao af.length ap) := (Ad aa.out 2).trans rfl; have dT := Af aa.out 0; have dU := Af aa.out 1; have dV := Af aa.out 2) | ((with_reducible refine Br (f := 31) rfl ?_); refine Cm (some 16) rfl rfl Try.func31 (by kernel_rfl) rfl #[.agg #[.int .i64 ah, .int .i64 ai, .slice ao af.length ap], .int .i64 a2] rfl (by (try simp only [List.map_toArray, List.map_cons, List.map_nil]); first | done | rfl | (simp only [List.length_drop, List.length_take]; rfl)) ?_; (with_reducible refine (Ct.calls ah ai _ _ af a2 aM bs _ ?side1 ?side2 A4.out).mono ?_); (case side1 => repeat (first | exact (Kd.Ce bl.out HB.out) | (with_reducible refine Kd.Bw ?_ _) | (with_reducible refine Kd.B6 ?_ _) | (with_reducible refine Kd.Cf ?_))); (case side2 => exact bm.out); rintro e w55 ⟨v104, rfl, ho0, hb⟩; refine ⟨_, rfl, ?_⟩; have n0_ := Aa.mk (Kd.Cc ho0 (An (by repeat (first | (with_reducible first | exact HB.out | apply Ae | apply Ac | apply Ah | refine Ag ?_ av.out | refine Ag ?_ aC.out) | exact HB.out)))); have n1_ := Aa.mk (Ao (g := aj) (o := .cells #[.int .i64 ah, .int .i64 ai, .slice ao af.length ap] 50 (0, 0)) (by exact bU <| aa.out) hb); have n2_ := Aa.mk (Ao (g := ak) (o := .cells #[.int .i64 0, .int .i64 0, .slice none 0 0] 50 (0, 0)) (by exact bU <| ab.out) hb); have n3_ := Aa.mk (Au (by repeat (first | (with_reducible first | exact HB.out | apply Ae | apply Ac | apply Ah | refine Ag ?_ av.out | refine Ag ?_ aC.out) | exact HB.out)) hb); clear aa; clear ab; clear HB; have aV := n0_; have aa := n1_; have ab := n2_; have HB := n3_; clear n0_ n1_ n2_ n3_; (try clear hb); (try clear hb2); (try clear hk); (try clear hi); (try clear ho0); have dW : w55.cell? ⟨ak, 0, none⟩ = some (.int .i64 0) := (Ad ab.out 0).trans rfl; have dX : w55.cell? ⟨ak, 1, none⟩ = some (.int .i64 0) := (Ad ab.out 1).trans rfl; have dY : w55.cell? ⟨ak, 2, none⟩ = some (.slice none 0 0) := (Ad ab.out 2).trans rfl; have dZ := Af ab.out 0; have d5 := Af ab.out 1; have d6 := Af ab.out 2))
  refine bodyPost_ret (results_ct rfl _ _ ak 50 #[.int .i64 0, .int .i64 0, .slice none 0 0] (0, 0) _ rfl (by (with_reducible repeat (first | refine Ax ?_ _ | refine Ay ?_ | refine Ak ?_ _)); refine Bo (cs := #[.int .i64 0, .int .i64 0, .slice none 0 0]) ?_ 2 _ rfl; (with_reducible repeat (first | refine Ax ?_ _ | refine Ay ?_ | refine Ak ?_ _)); refine Bo (cs := #[.int .i64 0, .int .i64 0, .slice none 0 0]) ?_ 1 _ rfl; (with_reducible repeat (first | refine Ax ?_ _ | refine Ay ?_ | refine Ak ?_ _)); refine Bo (cs := #[.int .i64 0, .int .i64 0, .slice none 0 0]) ?_ 0 _ rfl; exact bU <| ab.out) Try.underlying50 rfl (by kernel_rfl)) rfl ?_
  exact ⟨_, by first | rfl | (simp [Be, Bd] <;> rfl) | (simp [*, Be, Bd] <;> rfl), by first | exact Kd.C8 _ _ _ _ _ | exact Kd.N_nil _ _ _ _ _ | exact Kd.V_nil _ _ _ _ _ | exact Kd.Q_nil _ _ _ _ _ | exact Kd.S_nil _ _ _ _ _, by repeat (first | (with_reducible first | exact HB.out | apply Ae | apply Ac | apply Ah | refine Ag ?_ av.out | refine Ag ?_ aC.out) | exact HB.out)⟩

def Ck.f (k : Nat) (ah : Int) (ai : Int) (af : List Bool) (a1 : Int) (a2 : Int) : Option (Int × Int × List Bool × Int) := (B8.f k ah ai af).bind fun bg => ((Cg.f k bg.1 bg.2.1 bg.2.2 a1 a2).bind fun aN => (if aN.2.2.2 = 0 then ((B8.f k aN.1 aN.2.1 aN.2.2.1).bind fun bh => (some (bh.1, bh.2.1, bh.2.2, 0))) else (some (0, 0, ([] : List Bool), aN.2.2.2))))
theorem Ck.mono : ∀ a0 a1 a2 a3 a4 k, LeO (Ck.f k a0 a1 a2 a3 a4) (Ck.f (k + 1) a0 a1 a2 a3 a4) := by
 intro a0 a1 a2 a3 a4 k
 unfold Ck.f
 repeat' first
   | (with_reducible exact Cg.mono _ _ _ _ _ _)
   | (with_reducible exact B8.mono _ _ _ _)
   | (with_reducible exact LeO.refl _)
   | (with_reducible exact LeO.none _)
   | (with_reducible refine LeO.ite ?_ ?_)
   | (with_reducible refine LeO.bind ?_ (fun _ => ?_))
   | exact Cg.mono _ _ _ _ _ _
   | exact B8.mono _ _ _ _
   | exact LeO.none _
   | refine LeO.ite ?_ ?_
   | refine LeO.bind ?_ (fun _ => ?_)
set_option maxHeartbeats 8000000 in
set_option maxRecDepth 100000 in
theorem Ck.calls (k : Nat) (ah : Int) (ai : Int) (ao : Option Addr) (ap : Nat) (af : List Bool) (a1 : Int) (a2 : Int) (r1 : Int) (r2 : Int) (r3 : List Bool) (r4 : Int) (w : World) (bq : Kd.C Kd.bool w ao af.length af) (br : af.length ≤ ap) (h : Ck.f k ah ai af a1 a2 = some (r1, r2, r3, r4)) :
  Calls Try.prog 38 #[.agg #[.int .i64 ah, .int .i64 ai, .slice ao af.length ap], .int .i64 a1, .int .i64 a2] w fun e w' => ∃ v2_ : Value, e = .returned (.tuple #[.agg #[.int .i64 r1, .int .i64 r2, v2_], .int .i64 r4]) ∧ Kd.R Kd.bool 4 w' w.heap.size (fun _ => True) v2_ r3 ∧ Below w.heap.size w w' := by
 have hu50 := Try.underlying50
 have bl := Aa.mk bq
 have bm := Aa.mk br
 clear bq br
 have HB := Aa.mk (Below.refl w.heap.size w)
 have H : ((B8.f k ah ai af).bind fun bg => ((Cg.f k bg.1 bg.2.1 bg.2.2 a1 a2).bind fun aN => (if aN.2.2.2 = 0 then ((B8.f k aN.1 aN.2.1 aN.2.2.1).bind fun bh => (some (bh.1, bh.2.1, bh.2.2, 0))) else (some (0, 0, ([] : List Bool), aN.2.2.2))))) = some (r1, r2, r3, r4) := h
 clear h
 replace H := Option.bind_eq_some_iff.mp H
 obtain ⟨⟨bH, bI, bD⟩, A40, H⟩ := H
 try dsimp only at H
 have A4 := Aa.mk A40
 clear A40
 replace H := Option.bind_eq_some_iff.mp H
 obtain ⟨⟨be, bj, bk, bE⟩, A50, H⟩ := H
 try dsimp only at H
 have A5 := Aa.mk A50
 clear A50
 by_cases c6 : bE = 0
 ·rw [if_pos c6] at H
  have bN : (bE == 0) = true := beq_iff_eq.mpr c6
  have eY : (bE != 0) = false := bne_eq_false_iff_eq.mpr c6
  clear c6
  replace H := Option.bind_eq_some_iff.mp H
  obtain ⟨⟨bM, cK, cU⟩, A70, H⟩ := H
  try dsimp only at H
  have A7 := Aa.mk A70
  clear A70
  simp only [Option.some.injEq, Prod.mk.injEq] at H
  obtain ⟨rfl, rfl, rfl, rfl⟩ := H
  go_enter Try.func38, Try.ntmps38
  go_wp2_with (first | ((with_reducible refine Bq (N := 3) rfl ?_); refine Bt ?hg (N := 3) ?hd (cs := #[.int .i64 ah, .int .i64 ai, .slice ao af.length ap]) (t := 50) ?hr ?_; (case hd => rfl); (case hg => rfl); (case hr => first | (go_simp; done) | (go_simp; rfl)); intro aq hg w8 hbox hb; have n0_ := Aa.mk (Au (lU HB.out) hb); have n1_ := Aa.mk (hbox); have n2_ := Aa.mk ((by rw [hg]; exact (An (lU HB.out)) : w.heap.size ≤ aq)); have n3_ := Aa.mk ((by rw [hg]; exact (An (lU HB.out)) : w.heap.size ≤ aq)); clear HB; have HB := n0_; have ag := n1_; have dn := n2_; have ax := n3_; clear n0_ n1_ n2_ n3_; clear hb hbox hg) | ((with_reducible refine Bq (N := 6) rfl ?_); refine Bt ?hg (N := 6) ?hd (cs := #[.int .i64 0, .int .i64 0, .slice none 0 0]) (t := 50) ?hr ?_; (case hd => rfl); (case hg => rfl); (case hr => first | (go_simp; done) | (go_simp; rfl)); intro ar hg w9 hbox hb; have n0_ := Aa.mk (Ao (g := aq) (o := .cells #[.int .i64 ah, .int .i64 ai, .slice ao af.length ap] 50 (0, 0)) (by exact bU <| ag.out) hb); have n1_ := Aa.mk (Au (by repeat (first | (with_reducible first | exact HB.out | apply Ae | apply Ac | apply Ah | refine Ag ?_ ax.out) | exact HB.out)) hb); have n2_ := Aa.mk (hbox); have n3_ := Aa.mk ((by rw [hg]; exact (An (by repeat (first | (with_reducible first | exact HB.out | apply Ae | apply Ac | apply Ah | refine Ag ?_ ax.out) | exact HB.out))) : w.heap.size ≤ ar)); have n4_ := Aa.mk ((by rw [hg]; exact (An (by repeat (first | (with_reducible first | exact HB.out | apply Ae | apply Ac | apply Ah | refine Ag ?_ ax.out) | exact HB.out))) : w.heap.size ≤ ar)); have n5_ := Aa.mk ((by rw [hg]; exact Nat.ne_of_lt (Bz (g := aq) (o := .cells #[.int .i64 ah, .int .i64 ai, .slice ao af.length ap] 50 (0, 0)) (by exact bU <| ag.out)) : aq ≠ ar)); have n6_ := Aa.mk ((by rw [hg]; exact Nat.ne_of_gt (Bz (g := aq) (o := .cells #[.int .i64 ah, .int .i64 ai, .slice ao af.length ap] 50 (0, 0)) (by exact bU <| ag.out)) : ar ≠ aq)); clear ag; clear HB; have ag := n0_; have HB := n1_; have al := n2_; have dp := n3_; have aD := n4_; have ba := n5_; have bb := n6_; clear n0_ n1_ n2_ n3_ n4_ n5_ n6_; clear hb hbox hg; have fI := ba.out; have fJ := bb.out; have d7 : w9.cell? ⟨aq, 0, none⟩ = some (.int .i64 ah) := (Ad ag.out 0).trans rfl; have d8 : w9.cell? ⟨aq, 1, none⟩ = some (.int .i64 ai) := (Ad ag.out 1).trans rfl; have d9 : w9.cell? ⟨aq, 2, none⟩ = some (.slice ao af.length ap) := (Ad ag.out 2).trans rfl; have ec := Af ag.out 0; have ed := Af ag.out 1; have ee := Af ag.out 2) | ((with_reducible refine Br (f := 83) rfl ?_); refine Cm (some 12) rfl rfl Try.func83 (by kernel_rfl) rfl #[.agg #[.int .i64 ah, .int .i64 ai, .slice ao af.length ap]] rfl (by (try simp only [List.map_toArray, List.map_cons, List.map_nil]); first | done | rfl | (simp only [List.length_drop, List.length_take]; rfl)) ?_; (with_reducible refine (B8.calls k ah ai _ _ af bH bI bD _ ?side1 ?side2 A4.out).mono ?_); (case side1 => repeat (first | exact (Kd.Ce bl.out HB.out) | (with_reducible refine Kd.Bw ?_ _) | (with_reducible refine Kd.B6 ?_ _) | (with_reducible refine Kd.Cf ?_))); (case side2 => exact bm.out); rintro e w12 ⟨v121, rfl, ho0, hb⟩; refine ⟨_, rfl, ?_⟩; have n0_ := Aa.mk (Kd.Cc ho0 (An (by repeat (first | (with_reducible first | exact HB.out | apply Ae | apply Ac | apply Ah | refine Ag ?_ ax.out | refine Ag ?_ aD.out) | exact HB.out)))); have n1_ := Aa.mk (Ao (g := aq) (o := .cells #[.int .i64 ah, .int .i64 ai, .slice ao af.length ap] 50 (0, 0)) (by exact bU <| ag.out) hb); have n2_ := Aa.mk (Ao (g := ar) (o := .cells #[.int .i64 0, .int .i64 0, .slice none 0 0] 50 (0, 0)) (by exact bU <| al.out) hb); have n3_ := Aa.mk (Au (by repeat (first | (with_reducible first | exact HB.out | apply Ae | apply Ac | apply Ah | refine Ag ?_ ax.out | refine Ag ?_ aD.out) | exact HB.out)) hb); clear ag; clear al; clear HB; have ay := n0_; have ag := n1_; have al := n2_; have HB := n3_; clear n0_ n1_ n2_ n3_; (try clear hb); (try clear hb2); (try clear hk); (try clear hi); (try clear ho0); obtain ⟨dq, dr, eZ⟩ := Kd.B0 ay.out; subst eZ) | ((with_reducible refine Br (f := 82) rfl ?_); refine Cm (some 15) rfl rfl Try.func82 (by kernel_rfl) rfl #[.agg #[.int .i64 bH, .int .i64 bI, .slice dq bD.length dr], .int .i64 a1, .int .i64 a2] rfl (by (try simp only [List.map_toArray, List.map_cons, List.map_nil]); first | done | rfl | (simp only [List.length_drop, List.length_take]; rfl)) ?_; (with_reducible refine (Cg.calls k bH bI _ _ bD a1 a2 be bj bk bE _ ?side1 ?side2 A5.out).mono ?_); (case side1 => repeat (first | exact (Kd.Ba ay.out).2.2 | (with_reducible refine Kd.Bw ?_ _) | (with_reducible refine Kd.B6 ?_ _) | (with_reducible refine Kd.Cf ?_))); (case side2 => exact (Kd.Ba ay.out).2.1); rintro e w14 ⟨v126, rfl, ho0, hb⟩; refine ⟨_, rfl, ?_⟩; have n0_ := Aa.mk (Kd.B7 (by exact rU <| ay.out) (Kd.Ch ho0) hb); have n1_ := Aa.mk (Kd.Cc (Kd.Ci ho0 (Kd.Cy (by exact rU <| ay.out))) (An (by repeat (first | (with_reducible first | exact HB.out | apply Ae | apply Ac | apply Ah | refine Ag ?_ ax.out | refine Ag ?_ aD.out) | exact HB.out)))); have n2_ := Aa.mk (Ao (g := aq) (o := .cells #[.int .i64 ah, .int .i64 ai, .slice ao af.length ap] 50 (0, 0)) (by exact bU <| ag.out) hb); have n3_ := Aa.mk (Ao (g := ar) (o := .cells #[.int .i64 0, .int .i64 0, .slice none 0 0] 50 (0, 0)) (by exact bU <| al.out) hb); have n4_ := Aa.mk (Au (by repeat (first | (with_reducible first | exact HB.out | apply Ae | apply Ac | apply Ah | refine Ag ?_ ax.out | refine Ag ?_ aD.out) | exact HB.out)) hb); clear ay; clear ag; clear al; clear HB; have ay := n0_; have aK := n1_; have ag := n2_; have al := n3_; have HB := n4_; clear n0_ n1_ n2_ n3_ n4_; (try clear hb); (try clear hb2); (try clear hk); (try clear hi); (try clear ho0)) | ((with_reducible refine Bq (N := 8) rfl ?_); refine Bt ?hg (N := 8) ?hd (cs := #[.int .i64 0, .int .i64 0, .slice none 0 0]) (t := 50) ?hr ?_; (case hd => rfl); (case hg => rfl); (case hr => first | (go_simp; done) | (go_simp; rfl)); intro au hg w15 hbox hb; have n0_ := Aa.mk (Kd.Bc (by exact rU <| ay.out) hb); have n1_ := Aa.mk (Kd.Bc (by exact rU <| aK.out) hb); have n2_ := Aa.mk (Ao (g := aq) (o := .cells #[.int .i64 ah, .int .i64 ai, .slice ao af.length ap] 50 (0, 0)) (by exact bU <| ag.out) hb); have n3_ := Aa.mk (Ao (g := ar) (o := .cells #[.int .i64 0, .int .i64 0, .slice none 0 0] 50 (0, 0)) (by exact bU <| al.out) hb); have n4_ := Aa.mk (Au (by repeat (first | (with_reducible first | exact HB.out | apply Ae | apply Ac | apply Ah | refine Ag ?_ ax.out | refine Ag ?_ aD.out) | exact HB.out)) hb); have n5_ := Aa.mk (hbox); have n6_ := Aa.mk ((by rw [hg]; exact (An (by repeat (first | (with_reducible first | exact HB.out | apply Ae | apply Ac | apply Ah | refine Ag ?_ ax.out | refine Ag ?_ aD.out) | exact HB.out))) : w.heap.size ≤ au)); have n7_ := Aa.mk ((by rw [hg]; exact (An (by repeat (first | (with_reducible first | exact HB.out | apply Ae | apply Ac | apply Ah | refine Ag ?_ ax.out | refine Ag ?_ aD.out) | exact HB.out))) : w.heap.size ≤ au)); have n8_ := Aa.mk ((by rw [hg]; exact Nat.ne_of_lt (Bz (g := aq) (o := .cells #[.int .i64 ah, .int .i64 ai, .slice ao af.length ap] 50 (0, 0)) (by exact bU <| ag.out)) : aq ≠ au)); have n9_ := Aa.mk ((by rw [hg]; exact Nat.ne_of_gt (Bz (g := aq) (o := .cells #[.int .i64 ah, .int .i64 ai, .slice ao af.length ap] 50 (0, 0)) (by exact bU <| ag.out)) : au ≠ aq)); have bu := Aa.mk ((by rw [hg]; exact Nat.ne_of_lt (Bz (g := ar) (o := .cells #[.int .i64 0, .int .i64 0, .slice none 0 0] 50 (0, 0)) (by exact bU <| al.out)) : ar ≠ au)); have bv := Aa.mk ((by rw [hg]; exact Nat.ne_of_gt (Bz (g := ar) (o := .cells #[.int .i64 0, .int .i64 0, .slice none 0 0] 50 (0, 0)) (by exact bU <| al.out)) : au ≠ ar)); clear ay; clear aK; clear ag; clear al; clear HB; have ay := n0_; have aK := n1_; have ag := n2_; have al := n3_; have HB := n4_; have aA := n5_; have dt := n6_; have bw := n7_; have aJ := n8_; have bc := n9_; have az := bu; have bd := bv; clear n0_ n1_ n2_ n3_ n4_ n5_ n6_ n7_ n8_ n9_ bu bv; clear hb hbox hg; have cX := bc.out; have cY := aJ.out; have fK := bd.out; have fL := az.out; have ef : w15.cell? ⟨au, 0, none⟩ = some (.int .i64 0) := (Ad aA.out 0).trans rfl; have eh : w15.cell? ⟨au, 1, none⟩ = some (.int .i64 0) := (Ad aA.out 1).trans rfl; have ei : w15.cell? ⟨au, 2, none⟩ = some (.slice none 0 0) := (Ad aA.out 2).trans rfl; have ek := Af aA.out 0; have el := Af aA.out 1; have eo := Af aA.out 2; obtain ⟨bF, bz, e7⟩ := Kd.B0 aK.out; subst e7) | ((with_reducible refine Br (f := 83) rfl ?_); refine Cm (some 23) rfl rfl Try.func83 (by kernel_rfl) rfl #[.agg #[.int .i64 be, .int .i64 bj, .slice bF bk.length bz]] rfl (by (try simp only [List.map_toArray, List.map_cons, List.map_nil]); first | done | rfl | (simp only [List.length_drop, List.length_take]; rfl)) ?_; (with_reducible refine (B8.calls k be bj _ _ bk bM cK cU _ ?side1 ?side2 A7.out).mono ?_); (case side1 => refine (Kd.Ba (e := 4) (base := w.heap.size) (ok := fun k_ => (True ∧ some k_ ≠ (.slice dq bD.length dr : Value).ownBlock)) (n := bk.length) (c := bz) ?_).2.2; exact (by exact rU <| (Kd.Bj (Kd.Bn (p := ⟨au, 2, none⟩) (Kd.Bn (p := ⟨au, 1, none⟩) (Kd.Bn (p := ⟨au, 0, none⟩) (Kd.Cb aK.out aA.out (by decide)) (fun _ hk => hk.2) (.int .i64 be)) (fun _ hk => hk.2) (.int .i64 bj)) (fun _ hk => hk.2) (.slice bF bk.length bz)) (fun _ h_ => h_.1)))); (case side2 => exact (Kd.Ba aK.out).2.1); rintro e w20 ⟨v133, rfl, ho0, hb⟩; refine ⟨_, rfl, ?_⟩; have n0_ := Aa.mk (Kd.B7 (by exact rU <| (Kd.Bj (Kd.Bn (p := ⟨au, 2, none⟩) (Kd.Bn (p := ⟨au, 1, none⟩) (Kd.Bn (p := ⟨au, 0, none⟩) (Kd.Cb ay.out aA.out (by decide)) (fun _ hk => hk.2) (.int .i64 be)) (fun _ hk => hk.2) (.int .i64 bj)) (fun _ hk => hk.2) (.slice bF bk.length bz)) (fun _ h_ => h_.1))) (Kd.Ch ho0) hb); have n1_ := Aa.mk (Kd.B7 (by exact rU <| (Kd.Bj (Kd.Bn (p := ⟨au, 2, none⟩) (Kd.Bn (p := ⟨au, 1, none⟩) (Kd.Bn (p := ⟨au, 0, none⟩) (Kd.Cb aK.out aA.out (by decide)) (fun _ hk => hk.2) (.int .i64 be)) (fun _ hk => hk.2) (.int .i64 bj)) (fun _ hk => hk.2) (.slice bF bk.length bz)) (fun _ h_ => h_.1))) (Kd.Ch ho0) hb); have n2_ := Aa.mk (Kd.Cc (Kd.Ci (Kd.Ci ho0 (Kd.Cy (by exact rU <| (Kd.Bj (Kd.Bn (p := ⟨au, 2, none⟩) (Kd.Bn (p := ⟨au, 1, none⟩) (Kd.Bn (p := ⟨au, 0, none⟩) (Kd.Cb ay.out aA.out (by decide)) (fun _ hk => hk.2) (.int .i64 be)) (fun _ hk => hk.2) (.int .i64 bj)) (fun _ hk => hk.2) (.slice bF bk.length bz)) (fun _ h_ => h_.1))))) (Kd.Cy (by exact rU <| (Kd.Bj (Kd.Bn (p := ⟨au, 2, none⟩) (Kd.Bn (p := ⟨au, 1, none⟩) (Kd.Bn (p := ⟨au, 0, none⟩) (Kd.Cb aK.out aA.out (by decide)) (fun _ hk => hk.2) (.int .i64 be)) (fun _ hk => hk.2) (.int .i64 bj)) (fun _ hk => hk.2) (.slice bF bk.length bz)) (fun _ h_ => h_.1))))) (An (by repeat (first | (with_reducible first | exact HB.out | apply Ae | apply Ac | apply Ah | refine Ag ?_ ax.out | refine Ag ?_ aD.out | refine Ag ?_ bw.out) | exact HB.out)))); have n3_ := Aa.mk (Ao (g := aq) (o := .cells #[.int .i64 ah, .int .i64 ai, .slice ao af.length ap] 50 (0, 0)) (by (with_reducible repeat (first | refine Ax ?_ _ | refine Ay ?_ | refine Ak ?_ _)); refine Bk ?_ aJ.out _; (with_reducible repeat (first | refine Ax ?_ _ | refine Ay ?_ | refine Ak ?_ _)); refine Bk ?_ aJ.out _; (with_reducible repeat (first | refine Ax ?_ _ | refine Ay ?_ | refine Ak ?_ _)); refine Bk ?_ aJ.out _; exact bU <| ag.out) hb); have n4_ := Aa.mk (Ao (g := ar) (o := .cells #[.int .i64 0, .int .i64 0, .slice none 0 0] 50 (0, 0)) (by (with_reducible repeat (first | refine Ax ?_ _ | refine Ay ?_ | refine Ak ?_ _)); refine Bk ?_ az.out _; (with_reducible repeat (first | refine Ax ?_ _ | refine Ay ?_ | refine Ak ?_ _)); refine Bk ?_ az.out _; (with_reducible repeat (first | refine Ax ?_ _ | refine Ay ?_ | refine Ak ?_ _)); refine Bk ?_ az.out _; exact bU <| al.out) hb); have n5_ := Aa.mk (Ao (g := au) (o := .cells #[.int .i64 be, .int .i64 bj, .slice bF bk.length bz] 50 (0, 0)) (by (with_reducible repeat (first | refine Ax ?_ _ | refine Ay ?_ | refine Ak ?_ _)); refine Bo (cs := #[.int .i64 be, .int .i64 bj, .slice none 0 0]) ?_ 2 _ rfl; (with_reducible repeat (first | refine Ax ?_ _ | refine Ay ?_ | refine Ak ?_ _)); refine Bo (cs := #[.int .i64 be, .int .i64 0, .slice none 0 0]) ?_ 1 _ rfl; (with_reducible repeat (first | refine Ax ?_ _ | refine Ay ?_ | refine Ak ?_ _)); refine Bo (cs := #[.int .i64 0, .int .i64 0, .slice none 0 0]) ?_ 0 _ rfl; exact bU <| aA.out) hb); have n6_ := Aa.mk (Au (by repeat (first | (with_reducible first | exact HB.out | apply Ae | apply Ac | apply Ah | refine Ag ?_ ax.out | refine Ag ?_ aD.out | refine Ag ?_ bw.out) | exact HB.out)) hb); clear ay; clear aK; clear ag; clear al; clear aA; clear HB; have ay := n0_; have aK := n1_; have cO := n2_; have ag := n3_; have al := n4_; have aA := n5_; have HB := n6_; clear n0_ n1_ n2_ n3_ n4_ n5_ n6_; (try clear hb); (try clear hb2); (try clear hk); (try clear hi); (try clear ho0); have ep : w20.cell? ⟨ar, 0, none⟩ = some (.int .i64 0) := (Ad al.out 0).trans rfl; have er : w20.cell? ⟨ar, 1, none⟩ = some (.int .i64 0) := (Ad al.out 1).trans rfl; have et : w20.cell? ⟨ar, 2, none⟩ = some (.slice none 0 0) := (Ad al.out 2).trans rfl; have ew := Af al.out 0; have ez := Af al.out 1; have eC := Af al.out 2; obtain ⟨du, dv, e8⟩ := Kd.B0 cO.out; subst e8))
  refine bodyPost_ret (results_ct rfl _ _ ar 50 #[.int .i64 bM, .int .i64 cK, .slice du cU.length dv] (0, 0) _ rfl (by (with_reducible repeat (first | refine Ax ?_ _ | refine Ay ?_ | refine Ak ?_ _)); refine Bo (cs := #[.int .i64 bM, .int .i64 cK, .slice none 0 0]) ?_ 2 _ rfl; (with_reducible repeat (first | refine Ax ?_ _ | refine Ay ?_ | refine Ak ?_ _)); refine Bo (cs := #[.int .i64 bM, .int .i64 0, .slice none 0 0]) ?_ 1 _ rfl; (with_reducible repeat (first | refine Ax ?_ _ | refine Ay ?_ | refine Ak ?_ _)); refine Bo (cs := #[.int .i64 0, .int .i64 0, .slice none 0 0]) ?_ 0 _ rfl; exact bU <| al.out) Try.underlying50 rfl (by kernel_rfl)) rfl ?_
  exact ⟨_, by first | rfl | (simp [Be, Bd] <;> rfl) | (simp [*, Be, Bd] <;> rfl), by exact rU <| Kd.Bj (Kd.Bn (p := ⟨ar, 2, none⟩) (Kd.Bn (p := ⟨ar, 1, none⟩) (Kd.Bn (p := ⟨ar, 0, none⟩) (Kd.Cb cO.out al.out (by decide)) (fun _ hk => hk.2) (.int .i64 bM)) (fun _ hk => hk.2) (.int .i64 cK)) (fun _ hk => hk.2) (.slice du cU.length dv)) (fun _ hk => trivial), by repeat (first | (with_reducible first | exact HB.out | apply Ae | apply Ac | apply Ah | refine Ag ?_ ax.out | refine Ag ?_ aD.out | refine Ag ?_ bw.out) | exact HB.out)⟩
 ·rw [if_neg c6] at H
  have bN : (bE == 0) = false := beq_eq_false_iff_ne.mpr c6
  have eY : (bE != 0) = true := bne_iff_ne.mpr c6
  simp only [Option.some.injEq, Prod.mk.injEq] at H
  obtain ⟨rfl, rfl, rfl, rfl⟩ := H
  go_enter Try.func38, Try.ntmps38
  go_wp2_with (first | ((with_reducible refine Bq (N := 3) rfl ?_); refine Bt ?hg (N := 3) ?hd (cs := #[.int .i64 ah, .int .i64 ai, .slice ao af.length ap]) (t := 50) ?hr ?_; (case hd => rfl); (case hg => rfl); (case hr => first | (go_simp; done) | (go_simp; rfl)); intro aq hg w23 hbox hb; have n0_ := Aa.mk (Au (lU HB.out) hb); have n1_ := Aa.mk (hbox); have n2_ := Aa.mk ((by rw [hg]; exact (An (lU HB.out)) : w.heap.size ≤ aq)); have n3_ := Aa.mk ((by rw [hg]; exact (An (lU HB.out)) : w.heap.size ≤ aq)); clear HB; have HB := n0_; have ag := n1_; have dn := n2_; have ax := n3_; clear n0_ n1_ n2_ n3_; clear hb hbox hg) | ((with_reducible refine Bq (N := 6) rfl ?_); refine Bt ?hg (N := 6) ?hd (cs := #[.int .i64 0, .int .i64 0, .slice none 0 0]) (t := 50) ?hr ?_; (case hd => rfl); (case hg => rfl); (case hr => first | (go_simp; done) | (go_simp; rfl)); intro ar hg w24 hbox hb; have n0_ := Aa.mk (Ao (g := aq) (o := .cells #[.int .i64 ah, .int .i64 ai, .slice ao af.length ap] 50 (0, 0)) (by exact bU <| ag.out) hb); have n1_ := Aa.mk (Au (by repeat (first | (with_reducible first | exact HB.out | apply Ae | apply Ac | apply Ah | refine Ag ?_ ax.out) | exact HB.out)) hb); have n2_ := Aa.mk (hbox); have n3_ := Aa.mk ((by rw [hg]; exact (An (by repeat (first | (with_reducible first | exact HB.out | apply Ae | apply Ac | apply Ah | refine Ag ?_ ax.out) | exact HB.out))) : w.heap.size ≤ ar)); have n4_ := Aa.mk ((by rw [hg]; exact (An (by repeat (first | (with_reducible first | exact HB.out | apply Ae | apply Ac | apply Ah | refine Ag ?_ ax.out) | exact HB.out))) : w.heap.size ≤ ar)); have n5_ := Aa.mk ((by rw [hg]; exact Nat.ne_of_lt (Bz (g := aq) (o := .cells #[.int .i64 ah, .int .i64 ai, .slice ao af.length ap] 50 (0, 0)) (by exact bU <| ag.out)) : aq ≠ ar)); have n6_ := Aa.mk ((by rw [hg]; exact Nat.ne_of_gt (Bz (g := aq) (o := .cells #[.int .i64 ah, .int .i64 ai, .slice ao af.length ap] 50 (0, 0)) (by exact bU <| ag.out)) : ar ≠ aq)); clear ag; clear HB; have ag := n0_; have HB := n1_; have al := n2_; have dp := n3_; have aD := n4_; have ba := n5_; have bb := n6_; clear n0_ n1_ n2_ n3_ n4_ n5_ n6_; clear hb hbox hg; have fM := ba.out; have fN := bb.out; have eD : w24.cell? ⟨aq, 0, none⟩ = some (.int .i64 ah) := (Ad ag.out 0).trans rfl; have eE : w24.cell? ⟨aq, 1, none⟩ = some (.int .i64 ai) := (Ad ag.out 1).trans rfl; have eF : w24.cell? ⟨aq, 2, none⟩ = some (.slice ao af.length ap) := (Ad ag.out 2).trans rfl; have eG := Af ag.out 0; have eH := Af ag.out 1; have eI := Af ag.out 2) | ((with_reducible refine Br (f := 83) rfl ?_); refine Cm (some 12) rfl rfl Try.func83 (by kernel_rfl) rfl #[.agg #[.int .i64 ah, .int .i64 ai, .slice ao af.length ap]] rfl (by (try simp only [List.map_toArray, List.map_cons, List.map_nil]); first | done | rfl | (simp only [List.length_drop, List.length_take]; rfl)) ?_; (with_reducible refine (B8.calls k ah ai _ _ af bH bI bD _ ?side1 ?side2 A4.out).mono ?_); (case side1 => repeat (first | exact (Kd.Ce bl.out HB.out) | (with_reducible refine Kd.Bw ?_ _) | (with_reducible refine Kd.B6 ?_ _) | (with_reducible refine Kd.Cf ?_))); (case side2 => exact bm.out); rintro e w27 ⟨v121, rfl, ho0, hb⟩; refine ⟨_, rfl, ?_⟩; have n0_ := Aa.mk (Kd.Cc ho0 (An (by repeat (first | (with_reducible first | exact HB.out | apply Ae | apply Ac | apply Ah | refine Ag ?_ ax.out | refine Ag ?_ aD.out) | exact HB.out)))); have n1_ := Aa.mk (Ao (g := aq) (o := .cells #[.int .i64 ah, .int .i64 ai, .slice ao af.length ap] 50 (0, 0)) (by exact bU <| ag.out) hb); have n2_ := Aa.mk (Ao (g := ar) (o := .cells #[.int .i64 0, .int .i64 0, .slice none 0 0] 50 (0, 0)) (by exact bU <| al.out) hb); have n3_ := Aa.mk (Au (by repeat (first | (with_reducible first | exact HB.out | apply Ae | apply Ac | apply Ah | refine Ag ?_ ax.out | refine Ag ?_ aD.out) | exact HB.out)) hb); clear ag; clear al; clear HB; have ay := n0_; have ag := n1_; have al := n2_; have HB := n3_; clear n0_ n1_ n2_ n3_; (try clear hb); (try clear hb2); (try clear hk); (try clear hi); (try clear ho0); obtain ⟨fb, fc, fd⟩ := Kd.B0 ay.out; subst fd) | ((with_reducible refine Br (f := 82) rfl ?_); refine Cm (some 15) rfl rfl Try.func82 (by kernel_rfl) rfl #[.agg #[.int .i64 bH, .int .i64 bI, .slice fb bD.length fc], .int .i64 a1, .int .i64 a2] rfl (by (try simp only [List.map_toArray, List.map_cons, List.map_nil]); first | done | rfl | (simp only [List.length_drop, List.length_take]; rfl)) ?_; (with_reducible refine (Cg.calls k bH bI _ _ bD a1 a2 be bj bk bE _ ?side1 ?side2 A5.out).mono ?_); (case side1 => repeat (first | exact (Kd.Ba ay.out).2.2 | (with_reducible refine Kd.Bw ?_ _) | (with_reducible refine Kd.B6 ?_ _) | (with_reducible refine Kd.Cf ?_))); (case side2 => exact (Kd.Ba ay.out).2.1); rintro e w29 ⟨v126, rfl, ho0, hb⟩; refine ⟨_, rfl, ?_⟩; have n0_ := Aa.mk (Kd.B7 (by exact rU <| ay.out) (Kd.Ch ho0) hb); have n1_ := Aa.mk (Kd.Cc (Kd.Ci ho0 (Kd.Cy (by exact rU <| ay.out))) (An (by repeat (first | (with_reducible first | exact HB.out | apply Ae | apply Ac | apply Ah | refine Ag ?_ ax.out | refine Ag ?_ aD.out) | exact HB.out)))); have n2_ := Aa.mk (Ao (g := aq) (o := .cells #[.int .i64 ah, .int .i64 ai, .slice ao af.length ap] 50 (0, 0)) (by exact bU <| ag.out) hb); have n3_ := Aa.mk (Ao (g := ar) (o := .cells #[.int .i64 0, .int .i64 0, .slice none 0 0] 50 (0, 0)) (by exact bU <| al.out) hb); have n4_ := Aa.mk (Au (by repeat (first | (with_reducible first | exact HB.out | apply Ae | apply Ac | apply Ah | refine Ag ?_ ax.out | refine Ag ?_ aD.out) | exact HB.out)) hb); clear ay; clear ag; clear al; clear HB; have ay := n0_; have aK := n1_; have ag := n2_; have al := n3_; have HB := n4_; clear n0_ n1_ n2_ n3_ n4_; (try clear hb); (try clear hb2); (try clear hk); (try clear hi); (try clear ho0)) | ((with_reducible refine Bq (N := 8) rfl ?_); refine Bt ?hg (N := 8) ?hd (cs := #[.int .i64 0, .int .i64 0, .slice none 0 0]) (t := 50) ?hr ?_; (case hd => rfl); (case hg => rfl); (case hr => first | (go_simp; done) | (go_simp; rfl)); intro au hg w30 hbox hb; have n0_ := Aa.mk (Kd.Bc (by exact rU <| ay.out) hb); have n1_ := Aa.mk (Kd.Bc (by exact rU <| aK.out) hb); have n2_ := Aa.mk (Ao (g := aq) (o := .cells #[.int .i64 ah, .int .i64 ai, .slice ao af.length ap] 50 (0, 0)) (by exact bU <| ag.out) hb); have n3_ := Aa.mk (Ao (g := ar) (o := .cells #[.int .i64 0, .int .i64 0, .slice none 0 0] 50 (0, 0)) (by exact bU <| al.out) hb); have n4_ := Aa.mk (Au (by repeat (first | (with_reducible first | exact HB.out | apply Ae | apply Ac | apply Ah | refine Ag ?_ ax.out | refine Ag ?_ aD.out) | exact HB.out)) hb); have n5_ := Aa.mk (hbox); have n6_ := Aa.mk ((by rw [hg]; exact (An (by repeat (first | (with_reducible first | exact HB.out | apply Ae | apply Ac | apply Ah | refine Ag ?_ ax.out | refine Ag ?_ aD.out) | exact HB.out))) : w.heap.size ≤ au)); have n7_ := Aa.mk ((by rw [hg]; exact (An (by repeat (first | (with_reducible first | exact HB.out | apply Ae | apply Ac | apply Ah | refine Ag ?_ ax.out | refine Ag ?_ aD.out) | exact HB.out))) : w.heap.size ≤ au)); have n8_ := Aa.mk ((by rw [hg]; exact Nat.ne_of_lt (Bz (g := aq) (o := .cells #[.int .i64 ah, .int .i64 ai, .slice ao af.length ap] 50 (0, 0)) (by exact bU <| ag.out)) : aq ≠ au)); have n9_ := Aa.mk ((by rw [hg]; exact Nat.ne_of_gt (Bz (g := aq) (o := .cells #[.int .i64 ah, .int .i64 ai, .slice ao af.length ap] 50 (0, 0)) (by exact bU <| ag.out)) : au ≠ aq)); have bu := Aa.mk ((by rw [hg]; exact Nat.ne_of_lt (Bz (g := ar) (o := .cells #[.int .i64 0, .int .i64 0, .slice none 0 0] 50 (0, 0)) (by exact bU <| al.out)) : ar ≠ au)); have bv := Aa.mk ((by rw [hg]; exact Nat.ne_of_gt (Bz (g := ar) (o := .cells #[.int .i64 0, .int .i64 0, .slice none 0 0] 50 (0, 0)) (by exact bU <| al.out)) : au ≠ ar)); clear ay; clear aK; clear ag; clear al; clear HB; have ay := n0_; have aK := n1_; have ag := n2_; have al := n3_; have HB := n4_; have aA := n5_; have dt := n6_; have bw := n7_; have aJ := n8_; have bc := n9_; have az := bu; have bd := bv; clear n0_ n1_ n2_ n3_ n4_ n5_ n6_ n7_ n8_ n9_ bu bv; clear hb hbox hg; have fO := bc.out; have fP := aJ.out; have fQ := bd.out; have fR := az.out; have eJ : w30.cell? ⟨au, 0, none⟩ = some (.int .i64 0) := (Ad aA.out 0).trans rfl; have eK : w30.cell? ⟨au, 1, none⟩ = some (.int .i64 0) := (Ad aA.out 1).trans rfl; have eL : w30.cell? ⟨au, 2, none⟩ = some (.slice none 0 0) := (Ad aA.out 2).trans rfl; have eM := Af aA.out 0; have eN := Af aA.out 1; have eO := Af aA.out 2; obtain ⟨fV, fW, fe⟩ := Kd.B0 aK.out; subst fe; have cC : w30.cell? ⟨ar, 0, none⟩ = some (.int .i64 0) := (Ad al.out 0).trans rfl; have cD : w30.cell? ⟨ar, 1, none⟩ = some (.int .i64 0) := (Ad al.out 1).trans rfl; have cE : w30.cell? ⟨ar, 2, none⟩ = some (.slice none 0 0) := (Ad al.out 2).trans rfl; have cF := Af al.out 0; have cG := Af al.out 1; have cH := Af al.out 2))
  refine bodyPost_ret (results_ct rfl _ _ ar 50 #[.int .i64 0, .int .i64 0, .slice none 0 0] (0, 0) _ rfl (by (with_reducible repeat (first | refine Ax ?_ _ | refine Ay ?_ | refine Ak ?_ _)); refine Bo (cs := #[.int .i64 0, .int .i64 0, .slice none 0 0]) ?_ 2 _ rfl; (with_reducible repeat (first | refine Ax ?_ _ | refine Ay ?_ | refine Ak ?_ _)); refine Bo (cs := #[.int .i64 0, .int .i64 0, .slice none 0 0]) ?_ 1 _ rfl; (with_reducible repeat (first | refine Ax ?_ _ | refine Ay ?_ | refine Ak ?_ _)); refine Bo (cs := #[.int .i64 0, .int .i64 0, .slice none 0 0]) ?_ 0 _ rfl; (with_reducible repeat (first | refine Ax ?_ _ | refine Ay ?_ | refine Ak ?_ _)); refine Bk ?_ az.out _; (with_reducible repeat (first | refine Ax ?_ _ | refine Ay ?_ | refine Ak ?_ _)); refine Bk ?_ az.out _; (with_reducible repeat (first | refine Ax ?_ _ | refine Ay ?_ | refine Ak ?_ _)); refine Bk ?_ az.out _; exact bU <| al.out) Try.underlying50 rfl (by kernel_rfl)) rfl ?_
  exact ⟨_, by first | rfl | (simp [Be, Bd] <;> rfl) | (simp [*, Be, Bd] <;> rfl), by first | exact Kd.C8 _ _ _ _ _ | exact Kd.N_nil _ _ _ _ _ | exact Kd.V_nil _ _ _ _ _ | exact Kd.Q_nil _ _ _ _ _ | exact Kd.S_nil _ _ _ _ _, by repeat (first | (with_reducible first | exact HB.out | apply Ae | apply Ac | apply Ah | refine Ag ?_ ax.out | refine Ag ?_ aD.out | refine Ag ?_ bw.out) | exact HB.out)⟩

end Go.Proofs.Yteamphcehoaleaa.PFK

