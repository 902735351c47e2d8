import Derived.Test.YthpmkelcjlljmaaXPRBx0
import Derived.Test.YthpmkelcjlljmaaXPRAx1
import Derived.Test.YthpmkelcjlljmaaXRH2
namespace Go.Proofs.Ythpmkelcjlljmaa.PRB
open Go.Proofs.Ythpmkelcjlljmaa.PRA
open Go.RowKit Go.Proofs.YthpmkelcjlljmaaW.PrintWords Go.Proofs.YthpmkelcjlljmaaW.PrintLast Go.Proofs.YthpmkelcjlljmaaW.PrintMore
attribute [local go_sem] max2_int min2_int max_two min_two max_three min_three max_four min_four
set_option linter.unusedVariables false
set_option linter.unusedSimpArgs false

mutual
def Aw.l0 : Nat → Int → Int → Int → Int → Int → List Int → Int → Int → Int → Int → Int → Int → Int → Int → Int → List Int → Option (Int × Int × List Int)
 | 0, _, _, _, _, _, _, _, _, _, _, _, _, _, _, _, _ => none
 | k + 1, x1, x22, x23, bg, bh, bi, bj, bl, bm, bn, bo, bu, bv, ba, bp, bc => if x23 < x22 then (Aw.l1 k x1 x23 x22 x23 ba 0 bg bh bi bj bl bm bn bo bu bv ba bp bc) else (some (ba, bp, bc))
def Aw.l1 : Nat → Int → Int → Int → Int → Int → Int → Int → Int → List Int → Int → Int → Int → Int → Int → Int → Int → Int → Int → List Int → Option (Int × Int × List Int)
 | 0, _, _, _, _, _, _, _, _, _, _, _, _, _, _, _, _, _, _, _ => none
 | k + 1, x1, x8, x22, x23, x27, x28, bg, bh, bi, bj, bl, bm, bn, bo, bu, bv, ba, bp, bc => if x28 < x27 then ((B3.f bg bh bi bj bl bm x1 (wrap64 (bn + x28)) (wrap64 (bo + x8))).bind fun bP => (if bc.length < 35184372088832 then (Aw.l1 k x1 x8 x22 x23 x27 (wrap64 (x28 + 1)) bg bh bi bj bl bm bn bo bu bv ba bp (bc ++ [bP])) else (none))) else (Aw.l0 k x1 x22 (wrap64 (x23 + 1)) bg bh bi bj bl bm bn bo bu bv ba bp bc)
end
def Aw.f (k : Nat) (ag : Int) (ah : Int) (aj : List Int) (aQ : Int) (aT : Int) (aU : Int) (a1 : Int) (ax : Int) (aw : Int) (az : Int) (ay : Int) : Option (Int × Int × List Int) := Aw.l0 k a1 (wrap64 (ay - aw)) 0 ag ah aj aQ aT aU ax aw az ay (wrap64 (az - ax)) (wrap64 (ay - aw)) ([] : List Int)
theorem Aw.mono_l : ∀ k, (∀ y0 y1 y2 y3 y4 y5 y6 y7 y8 y9 y10 y11 y12 y13 y14 y15, LeO (Aw.l0 k y0 y1 y2 y3 y4 y5 y6 y7 y8 y9 y10 y11 y12 y13 y14 y15) (Aw.l0 (k + 1) y0 y1 y2 y3 y4 y5 y6 y7 y8 y9 y10 y11 y12 y13 y14 y15)) ∧ (∀ y0 y1 y2 y3 y4 y5 y6 y7 y8 y9 y10 y11 y12 y13 y14 y15 y16 y17 y18, LeO (Aw.l1 k y0 y1 y2 y3 y4 y5 y6 y7 y8 y9 y10 y11 y12 y13 y14 y15 y16 y17 y18) (Aw.l1 (k + 1) y0 y1 y2 y3 y4 y5 y6 y7 y8 y9 y10 y11 y12 y13 y14 y15 y16 y17 y18))
 | 0 => ⟨fun _ _ _ _ _ _ _ _ _ _ _ _ _ _ _ _ r h => by simp [Aw.l0] at h, fun _ _ _ _ _ _ _ _ _ _ _ _ _ _ _ _ _ _ _ r h => by simp [Aw.l1] at h⟩
 | k + 1 => by
  obtain ⟨ih0, ih1⟩ := Aw.mono_l k
  refine ⟨?_, ?_⟩
  ·intro y0 y1 y2 y3 y4 y5 y6 y7 y8 y9 y10 y11 y12 y13 y14 y15
   unfold Aw.l0
   repeat' first
   | (with_reducible exact ih0 _ _ _ _ _ _ _ _ _ _ _ _ _ _ _ _)
   | (with_reducible exact ih1 _ _ _ _ _ _ _ _ _ _ _ _ _ _ _ _ _ _ _)
   | (with_reducible exact LeO.refl _)
   | (with_reducible exact LeO.none _)
   | (with_reducible refine LeO.ite ?_ ?_)
   | (with_reducible refine LeO.bind ?_ (fun _ => ?_))
   | exact ih0 _ _ _ _ _ _ _ _ _ _ _ _ _ _ _ _
   | exact ih1 _ _ _ _ _ _ _ _ _ _ _ _ _ _ _ _ _ _ _
   | exact LeO.none _
   | refine LeO.ite ?_ ?_
   | refine LeO.bind ?_ (fun _ => ?_)
  ·intro y0 y1 y2 y3 y4 y5 y6 y7 y8 y9 y10 y11 y12 y13 y14 y15 y16 y17 y18
   unfold Aw.l1
   repeat' first
   | (with_reducible exact ih0 _ _ _ _ _ _ _ _ _ _ _ _ _ _ _ _)
   | (with_reducible exact ih1 _ _ _ _ _ _ _ _ _ _ _ _ _ _ _ _ _ _ _)
   | (with_reducible exact LeO.refl _)
   | (with_reducible exact LeO.none _)
   | (with_reducible refine LeO.ite ?_ ?_)
   | (with_reducible refine LeO.bind ?_ (fun _ => ?_))
   | exact ih0 _ _ _ _ _ _ _ _ _ _ _ _ _ _ _ _
   | exact ih1 _ _ _ _ _ _ _ _ _ _ _ _ _ _ _ _ _ _ _
   | exact LeO.none _
   | refine LeO.ite ?_ ?_
   | refine LeO.bind ?_ (fun _ => ?_)
theorem Aw.mono : ∀ a0 a1 a2 a3 a4 a5 a6 a7 a8 a9 a10 k, LeO (Aw.f k a0 a1 a2 a3 a4 a5 a6 a7 a8 a9 a10) (Aw.f (k + 1) a0 a1 a2 a3 a4 a5 a6 a7 a8 a9 a10) := by
 intro a0 a1 a2 a3 a4 a5 a6 a7 a8 a9 a10 k
 obtain ⟨ih0, ih1⟩ := Aw.mono_l k
 unfold Aw.f
 repeat' first
   | (with_reducible exact ih0 _ _ _ _ _ _ _ _ _ _ _ _ _ _ _ _)
   | (with_reducible exact ih1 _ _ _ _ _ _ _ _ _ _ _ _ _ _ _ _ _ _ _)
   | (with_reducible exact LeO.refl _)
   | (with_reducible exact LeO.none _)
   | (with_reducible refine LeO.ite ?_ ?_)
   | (with_reducible refine LeO.bind ?_ (fun _ => ?_))
   | exact ih0 _ _ _ _ _ _ _ _ _ _ _ _ _ _ _ _
   | exact ih1 _ _ _ _ _ _ _ _ _ _ _ _ _ _ _ _ _ _ _
   | exact LeO.none _
   | refine LeO.ite ?_ ?_
   | refine LeO.bind ?_ (fun _ => ?_)
def Aw.T8 : Bool × List (List Nat × List Nat) := (true, [([], []), ([0], [0]), ([], []), ([], []), ([], []), ([4], [4]), ([], []), ([5, 6], [5, 6]), ([], []), ([8], [8]), ([], []), ([9, 10], [9, 10]), ([2, 3, 7, 11], [2, 3, 7, 11]), ([12], [12]), ([1, 13, 12], [1, 13]), ([0, 1, 2, 3, 4, 5, 6, 7, 8, 9, 10, 11, 12, 13, 14], []), ([15, 14, 14, 0, 1, 2, 3, 4, 5, 6, 7, 8, 9, 10, 11, 12, 13, 14], [14, 15])])
def Aw.B8 : List Nat := [0, 1, 0, 0, 0, 16, 0, 112, 0, 256, 0, 1792, 4092, 8188, 16383, 32767, 65535]
theorem Aw.tab8 : rtab .any (opsOf Try.f32 8) = Aw.T8 := by kernel_rfl
theorem Aw.bits8 : waitsOk Aw.T8.2 Aw.B8 = true := by kernel_rfl
set_option maxHeartbeats 8000000 in
set_option maxRecDepth 100000 in
theorem Aw.calls (k : Nat) (ag : Int) (ah : Int) (am : Option Addr) (an : Nat) (aj : List Int) (aQ : Int) (aT : Int) (aU : Int) (a1 : Int) (ax : Int) (aw : Int) (az : Int) (ay : Int) (r1 : Int) (r2 : Int) (r3 : List Int) (w : World) (bz : Kd.C (Kd.int .u32) w am aj.length aj) (bA : aj.length ≤ an) (h : Aw.f k ag ah aj aQ aT aU a1 ax aw az ay = some (r1, r2, r3)) :
  Calls Try.prog 32 #[.agg #[.int .i64 ag, .int .i64 ah, .slice am aj.length an, .int .i64 aQ, .int .i64 aT, .int .i64 aU], .int .i64 a1, .agg #[.int .i64 ax, .int .i64 aw, .int .i64 az, .int .i64 ay]] w fun e w' => ∃ v2_ : Value, e = .returned (.agg #[.int .i64 r1, .int .i64 r2, v2_]) ∧ Kd.R (Kd.int .u32) 41 w' w.heap.size (fun _ => True) v2_ r3 ∧ Below w.heap.size w w' := by
 have hu58 := Try.underlying58
 have hu38 := Try.underlying38
 have hu25 := Try.underlying25
 have bq := Ac.mk bz
 have br := Ac.mk bA
 clear bz bA
 have HB := Ac.mk (Below.refl w.heap.size w)
 have H : (Aw.l0 k a1 (wrap64 (ay - aw)) 0 ag ah aj aQ aT aU ax aw az ay (wrap64 (az - ax)) (wrap64 (ay - aw)) ([] : List Int)) = some (r1, r2, r3) := h
 clear h
 have H' := Ac.mk H
 clear H
 go_enter Try.func32, Try.ntmps32
 go_wp2_with (first | ((with_reducible refine Bd (N := 3) rfl ?_); refine Bc ?hg (N := 3) ?hd (cs := #[.int .i64 ag, .int .i64 ah, .slice am aj.length an, .int .i64 aQ, .int .i64 aT, .int .i64 aU]) (t := 58) ?hr ?_; (case hd => rfl); (case hg => rfl); (case hr => first | (go_simp; done) | (go_simp; rfl)); intro aA hg w4 hbox hb; have n0_ := Ac.mk (At (by repeat (first | (with_reducible first | exact HB.out | apply Ai | apply Af | apply Aj) | exact HB.out)) hb); have n1_ := Ac.mk (hbox); have n2_ := Ac.mk ((by rw [hg]; exact (Ap (by repeat (first | (with_reducible first | exact HB.out | apply Ai | apply Af | apply Aj) | exact HB.out))) : w.heap.size ≤ aA)); have n3_ := Ac.mk ((by rw [hg]; exact (Ap (by repeat (first | (with_reducible first | exact HB.out | apply Ai | apply Af | apply Aj) | exact HB.out))) : w.heap.size ≤ aA)); clear HB; have HB := n0_; have ao := n1_; have fb := n2_; have aN := n3_; clear n0_ n1_ n2_ n3_; clear hb hbox hg) | ((with_reducible refine Bd (N := 5) rfl ?_); refine Bc ?hg (N := 5) ?hd (cs := #[.int .i64 ax, .int .i64 aw, .int .i64 az, .int .i64 ay]) (t := 38) ?hr ?_; (case hd => rfl); (case hg => rfl); (case hr => first | (go_simp; done) | (go_simp; rfl)); intro aD hg w5 hbox hb; have n0_ := Ac.mk (Ak (g := aA) (o := .cells #[.int .i64 ag, .int .i64 ah, .slice am aj.length an, .int .i64 aQ, .int .i64 aT, .int .i64 aU] 58 (0, 0)) (by (with_reducible repeat (first | refine Ab ?_ _ | refine Ad ?_ | refine Aa ?_ _)); exact ao.out) hb); have n1_ := Ac.mk (At (by repeat (first | (with_reducible first | exact HB.out | apply Ai | apply Af | apply Aj | refine Ae ?_ aN.out) | exact HB.out)) hb); have n2_ := Ac.mk (hbox); have n3_ := Ac.mk ((by rw [hg]; exact (Ap (by repeat (first | (with_reducible first | exact HB.out | apply Ai | apply Af | apply Aj | refine Ae ?_ aN.out) | exact HB.out))) : w.heap.size ≤ aD)); have n4_ := Ac.mk ((by rw [hg]; exact (Ap (by repeat (first | (with_reducible first | exact HB.out | apply Ai | apply Af | apply Aj | refine Ae ?_ aN.out) | exact HB.out))) : w.heap.size ≤ aD)); have n5_ := Ac.mk ((by rw [hg]; exact Nat.ne_of_lt (Av (g := aA) (o := .cells #[.int .i64 ag, .int .i64 ah, .slice am aj.length an, .int .i64 aQ, .int .i64 aT, .int .i64 aU] 58 (0, 0)) (by (with_reducible repeat (first | refine Ab ?_ _ | refine Ad ?_ | refine Aa ?_ _)); exact ao.out)) : aA ≠ aD)); have n6_ := Ac.mk ((by rw [hg]; exact Nat.ne_of_gt (Av (g := aA) (o := .cells #[.int .i64 ag, .int .i64 ah, .slice am aj.length an, .int .i64 aQ, .int .i64 aT, .int .i64 aU] 58 (0, 0)) (by (with_reducible repeat (first | refine Ab ?_ _ | refine Ad ?_ | refine Aa ?_ _)); exact ao.out)) : aD ≠ aA)); clear ao; clear HB; have ao := n0_; have HB := n1_; have ap := n2_; have fc := n3_; have aW := n4_; have bQ := n5_; have bR := n6_; clear n0_ n1_ n2_ n3_ n4_ n5_ n6_; clear hb hbox hg) | ((with_reducible refine Bd (N := 6) rfl ?_); refine Bc ?hg (N := 6) ?hd (cs := #[.int .i64 0, .int .i64 0, .slice none 0 0]) (t := 25) ?hr ?_; (case hd => rfl); (case hg => rfl); (case hr => first | (go_simp; done) | (go_simp; rfl)); intro aH hg w6 hbox hb; have n0_ := Ac.mk (Ak (g := aA) (o := .cells #[.int .i64 ag, .int .i64 ah, .slice am aj.length an, .int .i64 aQ, .int .i64 aT, .int .i64 aU] 58 (0, 0)) (by (with_reducible repeat (first | refine Ab ?_ _ | refine Ad ?_ | refine Aa ?_ _)); exact ao.out) hb); have n1_ := Ac.mk (Ak (g := aD) (o := .cells #[.int .i64 ax, .int .i64 aw, .int .i64 az, .int .i64 ay] 38 (0, 0)) (by (with_reducible repeat (first | refine Ab ?_ _ | refine Ad ?_ | refine Aa ?_ _)); exact ap.out) hb); have n2_ := Ac.mk (At (by repeat (first | (with_reducible first | exact HB.out | apply Ai | apply Af | apply Aj | refine Ae ?_ aN.out | refine Ae ?_ aW.out) | exact HB.out)) hb); have n3_ := Ac.mk (hbox); have n4_ := Ac.mk ((by rw [hg]; exact (Ap (by repeat (first | (with_reducible first | exact HB.out | apply Ai | apply Af | apply Aj | refine Ae ?_ aN.out | refine Ae ?_ aW.out) | exact HB.out))) : w.heap.size ≤ aH)); have n5_ := Ac.mk ((by rw [hg]; exact (Ap (by repeat (first | (with_reducible first | exact HB.out | apply Ai | apply Af | apply Aj | refine Ae ?_ aN.out | refine Ae ?_ aW.out) | exact HB.out))) : w.heap.size ≤ aH)); have n6_ := Ac.mk ((by rw [hg]; exact Nat.ne_of_lt (Av (g := aA) (o := .cells #[.int .i64 ag, .int .i64 ah, .slice am aj.length an, .int .i64 aQ, .int .i64 aT, .int .i64 aU] 58 (0, 0)) (by (with_reducible repeat (first | refine Ab ?_ _ | refine Ad ?_ | refine Aa ?_ _)); exact ao.out)) : aA ≠ aH)); have n7_ := Ac.mk ((by rw [hg]; exact Nat.ne_of_gt (Av (g := aA) (o := .cells #[.int .i64 ag, .int .i64 ah, .slice am aj.length an, .int .i64 aQ, .int .i64 aT, .int .i64 aU] 58 (0, 0)) (by (with_reducible repeat (first | refine Ab ?_ _ | refine Ad ?_ | refine Aa ?_ _)); exact ao.out)) : aH ≠ aA)); have n8_ := Ac.mk ((by rw [hg]; exact Nat.ne_of_lt (Av (g := aD) (o := .cells #[.int .i64 ax, .int .i64 aw, .int .i64 az, .int .i64 ay] 38 (0, 0)) (by (with_reducible repeat (first | refine Ab ?_ _ | refine Ad ?_ | refine Aa ?_ _)); exact ap.out)) : aD ≠ aH)); have n9_ := Ac.mk ((by rw [hg]; exact Nat.ne_of_gt (Av (g := aD) (o := .cells #[.int .i64 ax, .int .i64 aw, .int .i64 az, .int .i64 ay] 38 (0, 0)) (by (with_reducible repeat (first | refine Ab ?_ _ | refine Ad ?_ | refine Aa ?_ _)); exact ap.out)) : aH ≠ aD)); clear ao; clear ap; clear HB; have ao := n0_; have ap := n1_; have HB := n2_; have av := n3_; have fd := n4_; have aX := n5_; have bS := n6_; have bT := n7_; have bw := n8_; have bx := n9_; clear n0_ n1_ n2_ n3_ n4_ n5_ n6_ n7_ n8_ n9_; clear hb hbox hg; have fM := bR.out; have fN := bQ.out; have fO := bw.out; have fP := bx.out; have bU : w6.cell? ⟨aD, 0, none⟩ = some (.int .i64 ax) := (Ag ap.out 0).trans rfl; have bV : w6.cell? ⟨aD, 1, none⟩ = some (.int .i64 aw) := (Ag ap.out 1).trans rfl; have bW : w6.cell? ⟨aD, 2, none⟩ = some (.int .i64 az) := (Ag ap.out 2).trans rfl; have bX : w6.cell? ⟨aD, 3, none⟩ = some (.int .i64 ay) := (Ag ap.out 3).trans rfl; have bY := Ah ap.out 0; have bZ := Ah ap.out 1; have b6 := Ah ap.out 2; have b7 := Ah ap.out 3) | ((with_reducible refine Bd (N := 7) rfl ?_); refine Bc ?hg (N := 7) ?hd (cs := #[.int .i64 0, .int .i64 0, .slice none 0 0]) (t := 25) ?hr ?_; (case hd => rfl); (case hg => rfl); (case hr => first | (go_simp; done) | (go_simp; rfl)); intro aE hg w10 hbox hb; have n0_ := Ac.mk (Ak (g := aA) (o := .cells #[.int .i64 ag, .int .i64 ah, .slice am aj.length an, .int .i64 aQ, .int .i64 aT, .int .i64 aU] 58 (0, 0)) (by (with_reducible repeat (first | refine Ab ?_ _ | refine Ad ?_ | refine Aa ?_ _)); exact ao.out) hb); have n1_ := Ac.mk (Ak (g := aD) (o := .cells #[.int .i64 ax, .int .i64 aw, .int .i64 az, .int .i64 ay] 38 (0, 0)) (by (with_reducible repeat (first | refine Ab ?_ _ | refine Ad ?_ | refine Aa ?_ _)); exact ap.out) hb); have n2_ := Ac.mk (Ak (g := aH) (o := .cells #[.int .i64 0, .int .i64 0, .slice none 0 0] 25 (0, 0)) (by (with_reducible repeat (first | refine Ab ?_ _ | refine Ad ?_ | refine Aa ?_ _)); exact av.out) hb); have n3_ := Ac.mk (At (by repeat (first | (with_reducible first | exact HB.out | apply Ai | apply Af | apply Aj | refine Ae ?_ aN.out | refine Ae ?_ aW.out | refine Ae ?_ aX.out) | exact HB.out)) hb); have n4_ := Ac.mk (hbox); have n5_ := Ac.mk ((by rw [hg]; exact (Ap (by repeat (first | (with_reducible first | exact HB.out | apply Ai | apply Af | apply Aj | refine Ae ?_ aN.out | refine Ae ?_ aW.out | refine Ae ?_ aX.out) | exact HB.out))) : w.heap.size ≤ aE)); have n6_ := Ac.mk ((by rw [hg]; exact (Ap (by repeat (first | (with_reducible first | exact HB.out | apply Ai | apply Af | apply Aj | refine Ae ?_ aN.out | refine Ae ?_ aW.out | refine Ae ?_ aX.out) | exact HB.out))) : w.heap.size ≤ aE)); have n7_ := Ac.mk ((by rw [hg]; exact Nat.ne_of_lt (Av (g := aA) (o := .cells #[.int .i64 ag, .int .i64 ah, .slice am aj.length an, .int .i64 aQ, .int .i64 aT, .int .i64 aU] 58 (0, 0)) (by (with_reducible repeat (first | refine Ab ?_ _ | refine Ad ?_ | refine Aa ?_ _)); exact ao.out)) : aA ≠ aE)); have n8_ := Ac.mk ((by rw [hg]; exact Nat.ne_of_gt (Av (g := aA) (o := .cells #[.int .i64 ag, .int .i64 ah, .slice am aj.length an, .int .i64 aQ, .int .i64 aT, .int .i64 aU] 58 (0, 0)) (by (with_reducible repeat (first | refine Ab ?_ _ | refine Ad ?_ | refine Aa ?_ _)); exact ao.out)) : aE ≠ aA)); have n9_ := Ac.mk ((by rw [hg]; exact Nat.ne_of_lt (Av (g := aD) (o := .cells #[.int .i64 ax, .int .i64 aw, .int .i64 az, .int .i64 ay] 38 (0, 0)) (by (with_reducible repeat (first | refine Ab ?_ _ | refine Ad ?_ | refine Aa ?_ _)); exact ap.out)) : aD ≠ aE)); have ct := Ac.mk ((by rw [hg]; exact Nat.ne_of_gt (Av (g := aD) (o := .cells #[.int .i64 ax, .int .i64 aw, .int .i64 az, .int .i64 ay] 38 (0, 0)) (by (with_reducible repeat (first | refine Ab ?_ _ | refine Ad ?_ | refine Aa ?_ _)); exact ap.out)) : aE ≠ aD)); have cu := Ac.mk ((by rw [hg]; exact Nat.ne_of_lt (Av (g := aH) (o := .cells #[.int .i64 0, .int .i64 0, .slice none 0 0] 25 (0, 0)) (by (with_reducible repeat (first | refine Ab ?_ _ | refine Ad ?_ | refine Aa ?_ _)); exact av.out)) : aH ≠ aE)); have cv := Ac.mk ((by rw [hg]; exact Nat.ne_of_gt (Av (g := aH) (o := .cells #[.int .i64 0, .int .i64 0, .slice none 0 0] 25 (0, 0)) (by (with_reducible repeat (first | refine Ab ?_ _ | refine Ad ?_ | refine Aa ?_ _)); exact av.out)) : aE ≠ aH)); clear ao; clear ap; clear av; clear HB; have ao := n0_; have ap := n1_; have av := n2_; have HB := n3_; have aq := n4_; have fe := n5_; have bt := n6_; have aI := n7_; have bd := n8_; have aJ := n9_; have be := ct; have aK := cu; have bf := cv; clear n0_ n1_ n2_ n3_ n4_ n5_ n6_ n7_ n8_ n9_ ct cu cv; clear hb hbox hg; have ff := bd.out; have fg := aI.out; have fh := be.out; have fi := aJ.out; have fj := bf.out; have fk := aK.out; have bD : w10.cell? ⟨aE, 0, none⟩ = some (.int .i64 0) := (Ag aq.out 0).trans rfl; have bE : w10.cell? ⟨aE, 1, none⟩ = some (.int .i64 0) := (Ag aq.out 1).trans rfl; have bF : w10.cell? ⟨aE, 2, none⟩ = some (.slice none 0 0) := (Ag aq.out 2).trans rfl; have bG := Ah aq.out 0; have bH := Ah aq.out 1; have bI := Ah aq.out 2))
 go_loopg [23] k (fun kq v23 w' => ∃ (aY : Int) (aV : List Int) (u105002 : Value), v23 = .int .i64 aY ∧ Ac (Aw.l0 kq a1 (wrap64 (ay - aw)) aY ag ah aj aQ aT aU ax aw az ay (wrap64 (az - ax)) (wrap64 (ay - aw)) aV = some (r1, r2, r3)) ∧ Ac (kq ≤ k) ∧ Ac (Kd.R (Kd.int .u32) 41 w' w.heap.size (fun _ => True) u105002 aV) ∧ Ac (w'.heap[aA]? = some (.cells #[.int .i64 ag, .int .i64 ah, (.slice am aj.length an), .int .i64 aQ, .int .i64 aT, .int .i64 aU] 58 (0, 0))) ∧ Ac (w'.heap[aD]? = some (.cells #[.int .i64 ax, .int .i64 aw, .int .i64 az, .int .i64 ay] 38 (0, 0))) ∧ Ac (w'.heap[aH]? = some (.cells #[.int .i64 0, .int .i64 0, (.slice none 0 0)] 25 (0, 0))) ∧ Ac (w'.heap[aE]? = some (.cells #[.int .i64 (wrap64 (az - ax)), .int .i64 (wrap64 (ay - aw)), u105002] 25 (0, 0))) ∧ Ac (Below w.heap.size w w'))
 case atStart => exact ⟨(0), (([] : List Int)), (.slice none 0 0), (by first | rfl | (simp; done) | (simp [*]; done)), H', ⟨Nat.le_refl _⟩, ⟨by first | exact Kd.R_nil _ _ _ _ _ | exact Kd.N_nil _ _ _ _ _ | exact Kd.V_nil _ _ _ _ _ | exact Kd.Q_nil _ _ _ _ _ | exact Kd.S_nil _ _ _ _ _⟩, ⟨by (with_reducible repeat (first | refine Ab ?_ _ | refine Ad ?_ | refine Aa ?_ _)); refine Am ?_ aI.out _; (with_reducible repeat (first | refine Ab ?_ _ | refine Ad ?_ | refine Aa ?_ _)); refine Am ?_ aI.out _; (with_reducible repeat (first | refine Ab ?_ _ | refine Ad ?_ | refine Aa ?_ _)); refine Am ?_ aI.out _; (with_reducible repeat (first | refine Ab ?_ _ | refine Ad ?_ | refine Aa ?_ _)); exact ao.out⟩, ⟨by (with_reducible repeat (first | refine Ab ?_ _ | refine Ad ?_ | refine Aa ?_ _)); refine Am ?_ aJ.out _; (with_reducible repeat (first | refine Ab ?_ _ | refine Ad ?_ | refine Aa ?_ _)); refine Am ?_ aJ.out _; (with_reducible repeat (first | refine Ab ?_ _ | refine Ad ?_ | refine Aa ?_ _)); refine Am ?_ aJ.out _; (with_reducible repeat (first | refine Ab ?_ _ | refine Ad ?_ | refine Aa ?_ _)); exact ap.out⟩, ⟨by (with_reducible repeat (first | refine Ab ?_ _ | refine Ad ?_ | refine Aa ?_ _)); refine Am ?_ aK.out _; (with_reducible repeat (first | refine Ab ?_ _ | refine Ad ?_ | refine Aa ?_ _)); refine Am ?_ aK.out _; (with_reducible repeat (first | refine Ab ?_ _ | refine Ad ?_ | refine Aa ?_ _)); refine Am ?_ aK.out _; (with_reducible repeat (first | refine Ab ?_ _ | refine Ad ?_ | refine Aa ?_ _)); exact av.out⟩, ⟨by (with_reducible repeat (first | refine Ab ?_ _ | refine Ad ?_ | refine Aa ?_ _)); refine Aq (cs := #[.int .i64 (wrap64 (az - ax)), .int .i64 (wrap64 (ay - aw)), .slice none 0 0]) ?_ 2 _ rfl; (with_reducible repeat (first | refine Ab ?_ _ | refine Ad ?_ | refine Aa ?_ _)); refine Aq (cs := #[.int .i64 (wrap64 (az - ax)), .int .i64 0, .slice none 0 0]) ?_ 1 _ rfl; (with_reducible repeat (first | refine Ab ?_ _ | refine Ad ?_ | refine Aa ?_ _)); refine Aq (cs := #[.int .i64 0, .int .i64 0, .slice none 0 0]) ?_ 0 _ rfl; (with_reducible repeat (first | refine Ab ?_ _ | refine Ad ?_ | refine Aa ?_ _)); exact aq.out⟩, ⟨by repeat (first | (with_reducible first | exact HB.out | apply Ai | apply Af | apply Aj | refine Ae ?_ aN.out | refine Ae ?_ aW.out | refine Ae ?_ aX.out | refine Ae ?_ bt.out) | exact HB.out)⟩⟩
 case round =>
  clear H'
  try clear c1
  try clear p2
  try clear c3
  try clear p6
  try clear c7
  try clear c8
  try clear c11
  try clear c12
  try clear c13
  try clear bD
  try clear bE
  try clear bF
  try clear bU
  try clear bV
  try clear bW
  try clear bX
  try clear bG
  try clear bH
  try clear bI
  try clear bY
  try clear bZ
  try clear b6
  try clear b7
  obtain ⟨aY, aV, u105002, rfl, HA, HK1, ar, ao, ap, av, aq, HB⟩ := hrel
  cases gk with
  | zero => exact absurd HA.out (by simp [Aw.l0])
  | succ k1 =>
   have H := HA.out
   clear HA
   simp only [Aw.l0] at H
   by_cases c15 : aY < (wrap64 (ay - aw))
   ·rw [if_pos c15] at H
    have cp : decide (aY < (wrap64 (ay - aw))) = true := decide_eq_true c15
    clear c15
    have H' := Ac.mk H
    clear H
    have fl := bd.out
    have fm := aI.out
    have fo := be.out
    have fp := aJ.out
    have fq := bf.out
    have ft := aK.out
    have bJ : wr.cell? ⟨aE, 0, none⟩ = some (.int .i64 (wrap64 (az - ax))) := (Ag aq.out 0).trans rfl
    have bK : wr.cell? ⟨aE, 1, none⟩ = some (.int .i64 (wrap64 (ay - aw))) := (Ag aq.out 1).trans rfl
    have bL : wr.cell? ⟨aE, 2, none⟩ = some (u105002) := (Ag aq.out 2).trans rfl
    have bM := Ah aq.out 0
    have bN := Ah aq.out 1
    have bO := Ah aq.out 2
    go_wp2
    go_loopg [28] k1 (fun kq v28 w' => ∃ (bs : Int) (aM : List Int) (u105002 : Value), v28 = .int .i64 bs ∧ Ac (Aw.l1 kq a1 aY (wrap64 (ay - aw)) aY (wrap64 (az - ax)) bs ag ah aj aQ aT aU ax aw az ay (wrap64 (az - ax)) (wrap64 (ay - aw)) aM = some (r1, r2, r3)) ∧ Ac (kq ≤ k1) ∧ Ac (Kd.R (Kd.int .u32) 41 w' w.heap.size (fun _ => True) u105002 aM) ∧ Ac (w'.heap[aA]? = some (.cells #[.int .i64 ag, .int .i64 ah, (.slice am aj.length an), .int .i64 aQ, .int .i64 aT, .int .i64 aU] 58 (0, 0))) ∧ Ac (w'.heap[aD]? = some (.cells #[.int .i64 ax, .int .i64 aw, .int .i64 az, .int .i64 ay] 38 (0, 0))) ∧ Ac (w'.heap[aH]? = some (.cells #[.int .i64 0, .int .i64 0, (.slice none 0 0)] 25 (0, 0))) ∧ Ac (w'.heap[aE]? = some (.cells #[.int .i64 (wrap64 (az - ax)), .int .i64 (wrap64 (ay - aw)), u105002] 25 (0, 0))) ∧ Ac (Below w.heap.size w w'))
    case atStart => exact ⟨(0), (aV), (u105002), (by first | rfl | (simp; done) | (simp [*]; done)), H', ⟨Nat.le_refl _⟩, ⟨by (with_reducible repeat (first | apply Kd.An | apply Kd.Ao | apply Kd.Ar)); exact ar.out⟩, ⟨by (with_reducible repeat (first | refine Ab ?_ _ | refine Ad ?_ | refine Aa ?_ _)); exact ao.out⟩, ⟨by (with_reducible repeat (first | refine Ab ?_ _ | refine Ad ?_ | refine Aa ?_ _)); exact ap.out⟩, ⟨by (with_reducible repeat (first | refine Ab ?_ _ | refine Ad ?_ | refine Aa ?_ _)); exact av.out⟩, ⟨by (with_reducible repeat (first | refine Ab ?_ _ | refine Ad ?_ | refine Aa ?_ _)); exact aq.out⟩, ⟨by repeat (first | (with_reducible first | exact HB.out | apply Ai | apply Af | apply Aj | refine Ae ?_ aN.out | refine Ae ?_ aW.out | refine Ae ?_ aX.out | refine Ae ?_ bt.out) | exact HB.out)⟩⟩
    case round =>
     clear H'
     try clear c1
     try clear p2
     try clear c3
     try clear p6
     try clear c7
     try clear c8
     try clear c11
     try clear c12
     try clear c13
     try clear c15
     try clear cp
     try clear c16
     try clear c17
     try clear c18
     try clear bD
     try clear bE
     try clear bF
     try clear bJ
     try clear bK
     try clear bL
     try clear bU
     try clear bV
     try clear bW
     try clear bX
     try clear bG
     try clear bH
     try clear bI
     try clear bM
     try clear bN
     try clear bO
     try clear bY
     try clear bZ
     try clear b6
     try clear b7
     try clear p2
     try clear p6
     obtain ⟨bs, aM, u105002, rfl, HA, HK2, ar, ao, ap, av, aq, HB⟩ := hrel
     cases gk with
     | zero => exact absurd HA.out (by simp [Aw.l1])
     | succ k2 =>
      have H := HA.out
      clear HA
      simp only [Aw.l1] at H
      by_cases c20 : bs < (wrap64 (az - ax))
      ·rw [if_pos c20] at H
       have cw : decide (bs < (wrap64 (az - ax))) = true := decide_eq_true c20
       clear c20
       replace H := Option.bind_eq_some_iff.mp H
       obtain ⟨bP, A210, H⟩ := H
       try dsimp only at H
       have A21 := Ac.mk A210
       clear A210
       by_cases c22 : aM.length < 35184372088832
       ·rw [if_pos c22] at H
        have LMc22 := Ac.mk c22
        clear c22
        obtain ⟨cr, b8⟩ : ∃ y_ : List Int, y_ = (aM ++ [bP]) := ⟨_, rfl⟩
        (try rw [Option.bind_some] at H); try rw [← b8] at H
        have cx := Ac.mk b8
        clear b8
        have H' := Ac.mk H
        clear H
        try go_wp2
        have n0_ := Ac.mk (Kd.Ar ar.out)
        have n1_ := Ac.mk (Ad ao.out)
        have n2_ := Ac.mk (Ad ap.out)
        have n3_ := Ac.mk (Ad av.out)
        have n4_ := Ac.mk (Ad aq.out)
        have n5_ := Ac.mk (Aj HB.out)
        clear ar
        clear ao
        clear ap
        clear av
        clear aq
        clear HB
        have ar := n0_
        have ao := n1_
        have ap := n2_
        have av := n3_
        have aq := n4_
        have HB := n5_
        clear n0_ n1_ n2_ n3_ n4_ n5_
        refine start_ (n := 17) (S := fun w' => w'.cell? ⟨aE, 0, none⟩ = some (.int .i64 (wrap64 (az - ax))) ∧ w'.cell? ⟨aE, 1, none⟩ = some (.int .i64 (wrap64 (ay - aw))) ∧ w'.cell? ⟨aE, 2, none⟩ = some (u105002) ∧ w'.cell? ⟨aA, 0, none⟩ = some (.int .i64 ag) ∧ w'.cell? ⟨aA, 1, none⟩ = some (.int .i64 ah) ∧ w'.cell? ⟨aA, 2, none⟩ = some (.slice am aj.length an) ∧ w'.cell? ⟨aA, 3, none⟩ = some (.int .i64 aQ) ∧ w'.cell? ⟨aA, 4, none⟩ = some (.int .i64 aT) ∧ w'.cell? ⟨aA, 5, none⟩ = some (.int .i64 aU) ∧ w'.cell? ⟨aD, 0, none⟩ = some (.int .i64 ax) ∧ w'.cell? ⟨aD, 1, none⟩ = some (.int .i64 aw) ∧ w'.cell? ⟨aD, 2, none⟩ = some (.int .i64 az) ∧ w'.cell? ⟨aD, 3, none⟩ = some (.int .i64 ay)) (ds := [16]) #[false, false, false, false, false, false, false, false, false, false, false, false, false, false, false, false, false] (by kernel_rfl) rfl rfl ⟨(Ag aq.out 0).trans rfl, (Ag aq.out 1).trans rfl, (Ag aq.out 2).trans rfl, (Ag ao.out 0).trans rfl, (Ag ao.out 1).trans rfl, (Ag ao.out 2).trans rfl, (Ag ao.out 3).trans rfl, (Ag ao.out 4).trans rfl, (Ag ao.out 5).trans rfl, (Ag ap.out 0).trans rfl, (Ag ap.out 1).trans rfl, (Ag ap.out 2).trans rfl, (Ag ap.out 3).trans rfl⟩ (fun hHeld => ?_); refine with_tabW Aw.tab8 Aw.bits8 (fun HT_ HW_ => ?_)
        generalize wr.drew = w23 at ar ao ap av aq HB hHeld ⊢
        refine pure_ (i := 0) (N := some 31) (v := ?_) (a' := ?_) #[true, false, false, false, false, false, false, false, false, false, false, false, false, false, false, false, false] rfl rfl (any_of HT_.out (by kernel_rfl)) (fun _ _ _ h => h) (Or.inl ⟨by rfl, ?_⟩) ?_ ?_
        rotate_left
        ·intro w'
         go_simp
         with_reducible rfl
        rotate_left
        ·simp only [Act.put, List.setIfInBounds_toArray, List.set_cons_zero, List.set_cons_succ, i64_w, i32_w]
         rfl
        refine pure_ (i := 3) (N := some 34) (v := ?_) (a' := ?_) #[true, false, false, true, false, false, false, false, false, false, false, false, false, false, false, false, false] rfl rfl (any_of HT_.out (by kernel_rfl)) (fun _ _ _ h => h) (Or.inl ⟨by rfl, ?_⟩) ?_ ?_
        rotate_left
        ·intro w'
         go_simp
         with_reducible rfl
        rotate_left
        ·simp only [Act.put, List.setIfInBounds_toArray, List.set_cons_zero, List.set_cons_succ, i64_w, i32_w]
         rfl
        refine pure_ (i := 4) (N := some 35) (v := ?_) (a' := ?_) #[true, false, false, true, true, false, false, false, false, false, false, false, false, false, false, false, false] rfl rfl (any_of HT_.out (by kernel_rfl)) (fun _ _ _ h => h) (Or.inl ⟨by rfl, ?_⟩) ?_ ?_
        rotate_left
        ·intro w'
         go_simp
         with_reducible rfl
        rotate_left
        ·simp only [Act.put, List.setIfInBounds_toArray, List.set_cons_zero, List.set_cons_succ, i64_w, i32_w]
         rfl
        refine pure_ (i := 6) (N := some 37) (v := ?_) (a' := ?_) #[true, false, false, true, true, false, true, false, false, false, false, false, false, false, false, false, false] rfl rfl (any_of HT_.out (by kernel_rfl)) (fun _ _ _ h => h) (Or.inl ⟨by rfl, ?_⟩) ?_ ?_
        rotate_left
        ·intro w'
         go_simp
         with_reducible rfl
        rotate_left
        ·simp only [Act.put, List.setIfInBounds_toArray, List.set_cons_zero, List.set_cons_succ, i64_w, i32_w]
         rfl
        refine pure_ (i := 8) (N := some 39) (v := ?_) (a' := ?_) #[true, false, false, true, true, false, true, false, true, false, false, false, false, false, false, false, false] rfl rfl (any_of HT_.out (by kernel_rfl)) (fun _ _ _ h => h) (Or.inl ⟨by rfl, ?_⟩) ?_ ?_
        rotate_left
        ·intro w'
         go_simp
         with_reducible rfl
        rotate_left
        ·simp only [Act.put, List.setIfInBounds_toArray, List.set_cons_zero, List.set_cons_succ, i64_w, i32_w]
         rfl
        refine pure_ (i := 10) (N := some 41) (v := ?_) (a' := ?_) #[true, false, false, true, true, false, true, false, true, false, true, false, false, false, false, false, false] rfl rfl (any_of HT_.out (by kernel_rfl)) (fun _ _ _ h => h) (Or.inl ⟨by rfl, ?_⟩) ?_ ?_
        rotate_left
        ·intro w'
         go_simp
         with_reducible rfl
        rotate_left
        ·simp only [Act.put, List.setIfInBounds_toArray, List.set_cons_zero, List.set_cons_succ, i64_w, i32_w]
         rfl
        refine take_ (i := 1) (N := some 32) (v := ?_) (a' := ?_) #[true, true, false, true, true, false, true, false, true, false, true, false, false, false, false, false, false] rfl rfl (take_ofW HT_.out HW_.out (by kernel_rfl)) (fun _ _ _ h => h) (Or.inl ⟨by rfl, ?_⟩) hHeld ?_ ?_
        rotate_left
        ·rintro w' ⟨s0, s1, s2, s3, s4, s5, s6, s7, s8, s9, s10, s11, s12⟩
         go_simp
         with_reducible rfl
        rotate_left
        ·simp only [Act.put, List.setIfInBounds_toArray, List.set_cons_zero, List.set_cons_succ, i64_w, i32_w]
         rfl
        refine take_ (i := 2) (N := some 33) (v := ?_) (a' := ?_) #[true, true, true, true, true, false, true, false, true, false, true, false, false, false, false, false, false] rfl rfl (take_ofW HT_.out HW_.out (by kernel_rfl)) (fun _ _ _ h => h) (Or.inl ⟨by rfl, ?_⟩) hHeld ?_ ?_
        rotate_left
        ·rintro w' ⟨s0, s1, s2, s3, s4, s5, s6, s7, s8, s9, s10, s11, s12⟩
         go_simp
         with_reducible rfl
        rotate_left
        ·simp only [Act.put, List.setIfInBounds_toArray, List.set_cons_zero, List.set_cons_succ, i64_w, i32_w]
         rfl
        refine take_ (i := 5) (N := some 36) (v := ?_) (a' := ?_) #[true, true, true, true, true, true, true, false, true, false, true, false, false, false, false, false, false] rfl rfl (take_ofW HT_.out HW_.out (by kernel_rfl)) (fun _ _ _ h => h) (Or.inl ⟨by rfl, ?_⟩) hHeld ?_ ?_
        rotate_left
        ·rintro w' ⟨s0, s1, s2, s3, s4, s5, s6, s7, s8, s9, s10, s11, s12⟩
         go_simp
         with_reducible rfl
        rotate_left
        ·simp only [Act.put, List.setIfInBounds_toArray, List.set_cons_zero, List.set_cons_succ, i64_w, i32_w]
         rfl
        refine pure_ (i := 7) (N := some 38) (v := ?_) (a' := ?_) #[true, true, true, true, true, true, true, true, true, false, true, false, false, false, false, false, false] rfl rfl (any_of HT_.out (by kernel_rfl)) (fun _ _ _ h => h) (Or.inl ⟨by rfl, ?_⟩) ?_ ?_
        rotate_left
        ·intro w'
         go_simp
         with_reducible rfl
        rotate_left
        ·simp only [Act.put, List.setIfInBounds_toArray, List.set_cons_zero, List.set_cons_succ, i64_w, i32_w]
         rfl
        refine take_ (i := 9) (N := some 40) (v := ?_) (a' := ?_) #[true, true, true, true, true, true, true, true, true, true, true, false, false, false, false, false, false] rfl rfl (take_ofW HT_.out HW_.out (by kernel_rfl)) (fun _ _ _ h => h) (Or.inl ⟨by rfl, ?_⟩) hHeld ?_ ?_
        rotate_left
        ·rintro w' ⟨s0, s1, s2, s3, s4, s5, s6, s7, s8, s9, s10, s11, s12⟩
         go_simp
         with_reducible rfl
        rotate_left
        ·simp only [Act.put, List.setIfInBounds_toArray, List.set_cons_zero, List.set_cons_succ, i64_w, i32_w]
         rfl
        refine pure_ (i := 11) (N := some 42) (v := ?_) (a' := ?_) #[true, true, true, true, true, true, true, true, true, true, true, true, false, false, false, false, false] rfl rfl (any_of HT_.out (by kernel_rfl)) (fun _ _ _ h => h) (Or.inl ⟨by rfl, ?_⟩) ?_ ?_
        rotate_left
        ·intro w'
         go_simp
         with_reducible rfl
        rotate_left
        ·simp only [Act.put, List.setIfInBounds_toArray, List.set_cons_zero, List.set_cons_succ, i64_w, i32_w]
         rfl
        refine one_ (i := 12) (N := some 43) #[true, true, true, true, true, true, true, true, true, true, true, true, true, false, false, false, false] rfl rfl (one_of HT_.out (by kernel_rfl)) (by decide) (fun K hK => ?_)
        refine Ck Try.func38 (by kernel_rfl) rfl #[.agg #[.int .i64 ag, .int .i64 ah, .slice am aj.length an, .int .i64 aQ, .int .i64 aT, .int .i64 aU], .int .i64 a1, .int .i64 (wrap64 (ax + bs)), .int .i64 (wrap64 (aw + aY))] (by rfl) rfl rfl (by (try simp only [List.map_toArray, List.map_cons, List.map_nil]); first | done | rfl | (simp only [List.length_drop, List.length_take]; rfl)) ?_
        with_reducible refine (B3.calls ag ah _ _ aj aQ aT aU a1 (wrap64 (ax + bs)) (wrap64 (aw + aY)) bP _ ?side1 ?side2 A21.out).mono ?_
        (case side1 => repeat (first | exact (Kd.Bo bq.out HB.out) | (with_reducible refine Kd.Ca ?_ _) | (with_reducible refine Kd.B7 ?_ _) | (with_reducible refine Kd.Ce ?_)))
        (case side2 => exact br.out)
        rintro e w24 ⟨rfl, hb⟩
        refine ⟨_, rfl, ?_⟩
        have n0_ := Ac.mk (Kd.Bf (by (with_reducible repeat (first | apply Kd.An | apply Kd.Ao | apply Kd.Ar)); exact ar.out) hb)
        have n1_ := Ac.mk (Ak (g := aA) (o := .cells #[.int .i64 ag, .int .i64 ah, .slice am aj.length an, .int .i64 aQ, .int .i64 aT, .int .i64 aU] 58 (0, 0)) (by (with_reducible repeat (first | refine Ab ?_ _ | refine Ad ?_ | refine Aa ?_ _)); exact ao.out) hb)
        have n2_ := Ac.mk (Ak (g := aD) (o := .cells #[.int .i64 ax, .int .i64 aw, .int .i64 az, .int .i64 ay] 38 (0, 0)) (by (with_reducible repeat (first | refine Ab ?_ _ | refine Ad ?_ | refine Aa ?_ _)); exact ap.out) hb)
        have n3_ := Ac.mk (Ak (g := aH) (o := .cells #[.int .i64 0, .int .i64 0, .slice none 0 0] 25 (0, 0)) (by (with_reducible repeat (first | refine Ab ?_ _ | refine Ad ?_ | refine Aa ?_ _)); exact av.out) hb)
        have n4_ := Ac.mk (Ak (g := aE) (o := .cells #[.int .i64 (wrap64 (az - ax)), .int .i64 (wrap64 (ay - aw)), u105002] 25 (0, 0)) (by (with_reducible repeat (first | refine Ab ?_ _ | refine Ad ?_ | refine Aa ?_ _)); exact aq.out) hb)
        have n5_ := Ac.mk (At (by repeat (first | (with_reducible first | exact HB.out | apply Ai | apply Af | apply Aj | refine Ae ?_ aN.out | refine Ae ?_ aW.out | refine Ae ?_ aX.out | refine Ae ?_ bt.out) | exact HB.out)) hb)
        clear ar
        clear ao
        clear ap
        clear av
        clear aq
        clear HB
        have ar := n0_
        have ao := n1_
        have ap := n2_
        have av := n3_
        have aq := n4_
        have HB := n5_
        clear n0_ n1_ n2_ n3_ n4_ n5_
        (try clear hb)
        (try clear hb2)
        (try clear hk)
        (try clear hi)
        refine hK.out _ _ ⟨(Ag aq.out 0).trans rfl, (Ag aq.out 1).trans rfl, (Ag aq.out 2).trans rfl, (Ag ao.out 0).trans rfl, (Ag ao.out 1).trans rfl, (Ag ao.out 2).trans rfl, (Ag ao.out 3).trans rfl, (Ag ao.out 4).trans rfl, (Ag ao.out 5).trans rfl, (Ag ap.out 0).trans rfl, (Ag ap.out 1).trans rfl, (Ag ap.out 2).trans rfl, (Ag ap.out 3).trans rfl⟩ (fun hHeld => ?_)
        clear hK K
        refine norm_ (a' := ?_) ?_ ?_
        rotate_left
        ·show Act.put _ (some 43) _ = _
         simp only [Act.put, List.setIfInBounds_toArray, List.set_cons_zero, List.set_cons_succ, i64_w, i32_w]
         rfl
        refine one_ (i := 13) (N := some 44) #[true, true, true, true, true, true, true, true, true, true, true, true, true, true, false, false, false] rfl rfl (one_of HT_.out (by kernel_rfl)) (by decide) (fun K hK => ?_)
        refine value_ (w1 := ?_) (v := ?_) (by rfl) rfl ?_ ?_
        rotate_left 2
        ·go_simp
         constructor
         ·rfl
         ·rfl
        refine hK.out _ _ ⟨(Ag (Aa aq.out _) 0).trans rfl, (Ag (Aa aq.out _) 1).trans rfl, (Ag (Aa aq.out _) 2).trans rfl, (Ag (Aa ao.out _) 0).trans rfl, (Ag (Aa ao.out _) 1).trans rfl, (Ag (Aa ao.out _) 2).trans rfl, (Ag (Aa ao.out _) 3).trans rfl, (Ag (Aa ao.out _) 4).trans rfl, (Ag (Aa ao.out _) 5).trans rfl, (Ag (Aa ap.out _) 0).trans rfl, (Ag (Aa ap.out _) 1).trans rfl, (Ag (Aa ap.out _) 2).trans rfl, (Ag (Aa ap.out _) 3).trans rfl⟩ (fun hHeld => ?_)
        clear hK K
        refine norm_ (a' := ?_) ?_ ?_
        rotate_left
        ·show Act.put _ (some 44) _ = _
         simp only [Act.put, List.setIfInBounds_toArray, List.set_cons_zero, List.set_cons_succ, i64_w, i32_w]
         rfl
        refine one_ (i := 14) (N := some 45) #[true, true, true, true, true, true, true, true, true, true, true, true, true, true, true, false, false] rfl rfl (one_of HT_.out (by kernel_rfl)) (by decide) (fun K hK => ?_)
        refine Kd.R_append_step (Kd.int .u32) (w0 := w) w.heap.size (by rfl) (.tmp 32) (.tmp 44) 23 41 (.int .u32 0) 4 rfl Try.underlying23 info41 rfl (by decide) (by omega) u105002 aM bP [.int .u32 bP] (fun _ => True) (fun _ => False) rfl rfl ?aP (fun _ hk => hk.elim) ?aF ?aO ?aB ?aS ?aL ?_
        (case aP => exact rfl)
        (case aB => exact (by repeat (first | (with_reducible first | exact HB.out | apply Ai | apply Af | apply Aj | refine Ae ?_ aN.out | refine Ae ?_ aW.out | refine Ae ?_ aX.out | refine Ae ?_ bt.out) | exact HB.out)))
        (case aF => exact (fun _ _ => trivial))
        (case aO => exact (by (with_reducible repeat (first | apply Kd.An | apply Kd.Ao | apply Kd.Ar)); exact ar.out))
        (case aS => exact (Ap (by repeat (first | (with_reducible first | exact HB.out | apply Ai | apply Af | apply Aj | refine Ae ?_ aN.out | refine Ae ?_ aW.out | refine Ae ?_ aX.out | refine Ae ?_ bt.out) | exact HB.out))))
        (case aL => have := LMc22.out; omega)
        intro v107 w25 ho hb hg hat
        rw [← cx.out] at ho
        have n0_ := Ac.mk (blk_grown (g := aA) (o := .cells #[.int .i64 ag, .int .i64 ah, .slice am aj.length an, .int .i64 aQ, .int .i64 aT, .int .i64 aU] 58 (0, 0)) (by (with_reducible repeat (first | refine Ab ?_ _ | refine Ad ?_ | refine Aa ?_ _)); exact ao.out) hg (Kd.R_ne ar.out ao.out (by decide)))
        have n1_ := Ac.mk (blk_grown (g := aD) (o := .cells #[.int .i64 ax, .int .i64 aw, .int .i64 az, .int .i64 ay] 38 (0, 0)) (by (with_reducible repeat (first | refine Ab ?_ _ | refine Ad ?_ | refine Aa ?_ _)); exact ap.out) hg (Kd.R_ne ar.out ap.out (by decide)))
        have n2_ := Ac.mk (blk_grown (g := aH) (o := .cells #[.int .i64 0, .int .i64 0, .slice none 0 0] 25 (0, 0)) (by (with_reducible repeat (first | refine Ab ?_ _ | refine Ad ?_ | refine Aa ?_ _)); exact av.out) hg (Kd.R_ne ar.out av.out (by decide)))
        have n3_ := Ac.mk (blk_grown (g := aE) (o := .cells #[.int .i64 (wrap64 (az - ax)), .int .i64 (wrap64 (ay - aw)), u105002] 25 (0, 0)) (by (with_reducible repeat (first | refine Ab ?_ _ | refine Ad ?_ | refine Aa ?_ _)); exact aq.out) hg (Kd.R_ne ar.out aq.out (by decide)))
        have n4_ := Ac.mk (hb)
        have n5_ := Ac.mk (ho)
        clear ao
        clear ap
        clear av
        clear aq
        clear HB
        clear ar
        have ao := n0_
        have ap := n1_
        have av := n2_
        have aq := n3_
        have HB := n4_
        have cq := n5_
        clear n0_ n1_ n2_ n3_ n4_ n5_
        clear ho hb hg hat
        obtain ⟨cy, cz, cA⟩ := Kd.Bw cq.out
        (first | subst cA | (injection cA with f1_ f2_ f3_; have f4_ := f1_.symm; have f5_ := f3_.symm; clear f1_ f2_ f3_; subst f4_; subst f5_))
        refine hK.out _ _ ⟨(Ag aq.out 0).trans rfl, (Ag aq.out 1).trans rfl, (Ag aq.out 2).trans rfl, (Ag ao.out 0).trans rfl, (Ag ao.out 1).trans rfl, (Ag ao.out 2).trans rfl, (Ag ao.out 3).trans rfl, (Ag ao.out 4).trans rfl, (Ag ao.out 5).trans rfl, (Ag ap.out 0).trans rfl, (Ag ap.out 1).trans rfl, (Ag ap.out 2).trans rfl, (Ag ap.out 3).trans rfl⟩ (fun hHeld => ?_)
        clear hK K
        refine norm_ (a' := ?_) ?_ ?_
        rotate_left
        ·show Act.put _ (some 45) _ = _
         simp only [Act.put, List.setIfInBounds_toArray, List.set_cons_zero, List.set_cons_succ, i64_w, i32_w]
         rfl
        refine pure_ (i := 15) (N := some 46) (v := ?_) (a' := ?_) #[true, true, true, true, true, true, true, true, true, true, true, true, true, true, true, true, false] rfl rfl (any_of HT_.out (by kernel_rfl)) (fun _ _ _ h => h) (Or.inl ⟨by rfl, ?_⟩) ?_ ?_
        rotate_left
        ·intro w'
         go_simp
         with_reducible rfl
        rotate_left
        ·simp only [Act.put, List.setIfInBounds_toArray, List.set_cons_zero, List.set_cons_succ, i64_w, i32_w]
         rfl
        refine last_ (i := 16) (N := none) #[true, true, true, true, true, true, true, true, true, true, true, true, true, true, true, true, true] rfl rfl (one_of HT_.out (by kernel_rfl)) (by decide) (fun K hK => ?_)
        have hs27 : w25.cell? ⟨aE, 2, none⟩ = some (u105002) := (Ag aq.out 2).trans rfl
        have hfs27 := Ah aq.out 2
        have hns27_0 := aI.out
        have hns27_1 := aJ.out
        have hns27_2 := aK.out
        have hms27_0 := bd.out
        have hms27_1 := be.out
        have hms27_2 := bf.out
        refine skip_ (w1 := ?_) (by rfl) rfl ?_ ?_
        rotate_left
        ·go_simp
         rfl
        refine hK.out _ _ ?_
        clear hK K
        refine done_ (done_of HT_.out (by kernel_rfl)) ?_
        try go_wp2
        go_roundg k2
        case measure => have := HK1.out; have := HK2.out; omega
        case rel => exact ⟨(wrap64 (bs + 1)), (cr), (.slice cy cr.length cz), (by first | rfl | (simp; done) | (simp [*]; done)), H', ⟨by have := HK1.out; have := HK2.out; omega⟩, ⟨by (with_reducible repeat (first | apply Kd.An | apply Kd.Ao | apply Kd.Ar)); exact Kd.Bn (Kd.Ay (p := ⟨aE, 2, none⟩) (Kd.Bk cq.out aq.out (by decide)) (fun _ hk => hk.2) (.slice cy cr.length cz)) (fun _ hk => trivial)⟩, ⟨by (with_reducible repeat (first | refine Ab ?_ _ | refine Ad ?_ | refine Aa ?_ _)); refine Am ?_ aI.out _; (with_reducible repeat (first | refine Ab ?_ _ | refine Ad ?_ | refine Aa ?_ _)); exact ao.out⟩, ⟨by (with_reducible repeat (first | refine Ab ?_ _ | refine Ad ?_ | refine Aa ?_ _)); refine Am ?_ aJ.out _; (with_reducible repeat (first | refine Ab ?_ _ | refine Ad ?_ | refine Aa ?_ _)); exact ap.out⟩, ⟨by (with_reducible repeat (first | refine Ab ?_ _ | refine Ad ?_ | refine Aa ?_ _)); refine Am ?_ aK.out _; (with_reducible repeat (first | refine Ab ?_ _ | refine Ad ?_ | refine Aa ?_ _)); exact av.out⟩, ⟨by (with_reducible repeat (first | refine Ab ?_ _ | refine Ad ?_ | refine Aa ?_ _)); refine Aq (cs := #[.int .i64 (wrap64 (az - ax)), .int .i64 (wrap64 (ay - aw)), u105002]) ?_ 2 _ rfl; (with_reducible repeat (first | refine Ab ?_ _ | refine Ad ?_ | refine Aa ?_ _)); exact aq.out⟩, ⟨by repeat (first | (with_reducible first | exact HB.out | apply Ai | apply Af | apply Aj | refine Ae ?_ aN.out | refine Ae ?_ aW.out | refine Ae ?_ aX.out | refine Ae ?_ bt.out) | exact HB.out)⟩⟩
       ·rw [if_neg c22] at H
        exact absurd H (by simp)
      ·rw [if_neg c20] at H
       have cw : decide (bs < (wrap64 (az - ax))) = false := decide_eq_false c20
       clear c20
       have H' := Ac.mk H
       clear H
       go_wp2
       go_roundg k2
       case measure => have := HK1.out; have := HK2.out; omega
       case rel => exact ⟨(wrap64 (aY + 1)), (aM), (u105002), (by first | rfl | (simp; done) | (simp [*]; done)), H', ⟨by have := HK1.out; have := HK2.out; omega⟩, ⟨by (with_reducible repeat (first | apply Kd.An | apply Kd.Ao | apply Kd.Ar)); exact ar.out⟩, ⟨by (with_reducible repeat (first | refine Ab ?_ _ | refine Ad ?_ | refine Aa ?_ _)); exact ao.out⟩, ⟨by (with_reducible repeat (first | refine Ab ?_ _ | refine Ad ?_ | refine Aa ?_ _)); exact ap.out⟩, ⟨by (with_reducible repeat (first | refine Ab ?_ _ | refine Ad ?_ | refine Aa ?_ _)); exact av.out⟩, ⟨by (with_reducible repeat (first | refine Ab ?_ _ | refine Ad ?_ | refine Aa ?_ _)); exact aq.out⟩, ⟨by repeat (first | (with_reducible first | exact HB.out | apply Ai | apply Af | apply Aj | refine Ae ?_ aN.out | refine Ae ?_ aW.out | refine Ae ?_ aX.out | refine Ae ?_ bt.out) | exact HB.out)⟩⟩
   ·rw [if_neg c15] at H
    have cp : decide (aY < (wrap64 (ay - aw))) = false := decide_eq_false c15
    clear c15
    simp only [Option.some.injEq, Prod.mk.injEq] at H
    obtain ⟨rfl, rfl, rfl⟩ := H
    have cB := bd.out
    have cC := aI.out
    have fu := be.out
    have fv := aJ.out
    have fw := bf.out
    have fx := aK.out
    have ca : wr.cell? ⟨aE, 0, none⟩ = some (.int .i64 (wrap64 (az - ax))) := (Ag aq.out 0).trans rfl
    have cb : wr.cell? ⟨aE, 1, none⟩ = some (.int .i64 (wrap64 (ay - aw))) := (Ag aq.out 1).trans rfl
    have cd : wr.cell? ⟨aE, 2, none⟩ = some (u105002) := (Ag aq.out 2).trans rfl
    have ce := Ah aq.out 0
    have cf := Ah aq.out 1
    have cg := Ah aq.out 2
    have fy := bT.out
    have fz := bS.out
    have fA := bx.out
    have fB := bw.out
    have ch : wr.cell? ⟨aH, 0, none⟩ = some (.int .i64 0) := (Ag av.out 0).trans rfl
    have ci : wr.cell? ⟨aH, 1, none⟩ = some (.int .i64 0) := (Ag av.out 1).trans rfl
    have cj : wr.cell? ⟨aH, 2, none⟩ = some (.slice none 0 0) := (Ag av.out 2).trans rfl
    have cl := Ah av.out 0
    have cm := Ah av.out 1
    have co := Ah av.out 2
    obtain ⟨cD, cE, e7⟩ := Kd.Bw ar.out
    subst e7
    go_wp2
    refine bodyPost_ret (results_cell_row rfl _ _ aH 25 #[.int .i64 (wrap64 (az - ax)), .int .i64 (wrap64 (ay - aw)), .slice cD aV.length cE] (0, 0) _ rfl (by (with_reducible repeat (first | refine Ab ?_ _ | refine Ad ?_ | refine Aa ?_ _)); refine Aq (cs := #[.int .i64 (wrap64 (az - ax)), .int .i64 (wrap64 (ay - aw)), .slice none 0 0]) ?_ 2 _ rfl; (with_reducible repeat (first | refine Ab ?_ _ | refine Ad ?_ | refine Aa ?_ _)); refine Aq (cs := #[.int .i64 (wrap64 (az - ax)), .int .i64 0, .slice none 0 0]) ?_ 1 _ rfl; (with_reducible repeat (first | refine Ab ?_ _ | refine Ad ?_ | refine Aa ?_ _)); refine Aq (cs := #[.int .i64 0, .int .i64 0, .slice none 0 0]) ?_ 0 _ rfl; (with_reducible repeat (first | refine Ab ?_ _ | refine Ad ?_ | refine Aa ?_ _)); exact av.out) Try.underlying25 rfl (by kernel_rfl)) rfl ?_
    exact ⟨_, by first | rfl | (simp [Bb, Ba] <;> rfl) | (simp [*, Bb, Ba] <;> rfl), by (with_reducible repeat (first | apply Kd.An | apply Kd.Ao | apply Kd.Ar)); exact Kd.Bn (Kd.Ay (p := ⟨aH, 2, none⟩) (Kd.Ay (p := ⟨aH, 1, none⟩) (Kd.Ay (p := ⟨aH, 0, none⟩) (Kd.Bk ar.out av.out (by decide)) (fun _ hk => hk.2) (.int .i64 (wrap64 (az - ax)))) (fun _ hk => hk.2) (.int .i64 (wrap64 (ay - aw)))) (fun _ hk => hk.2) (.slice cD aV.length cE)) (fun _ hk => trivial), by repeat (first | (with_reducible first | exact HB.out | apply Ai | apply Af | apply Aj | refine Ae ?_ aN.out | refine Ae ?_ aW.out | refine Ae ?_ aX.out | refine Ae ?_ bt.out) | exact HB.out)⟩

def Cj.f (k : Nat) (ag : Int) (ah : Int) (aj : List Int) (a1 : Int) (a2 : Int) (a3 : Int) (a4 : Int) (a5 : Int) (a6 : Int) : Option (Int × Int) := (Ax.f k ag ah aj a1 a2 a3 a4).bind fun aZ => (if aZ = 0 then (if a5 < 0 then (some (0, 52)) else (if a6 < 0 then (some (0, 52)) else (if a5 ≥ ag then (some (0, 52)) else (if a6 ≥ ah then (some (0, 52)) else ((B3.f ag ah aj a1 a2 a3 a4 a5 a6).bind fun b9 => (some (b9, 0))))))) else (some (0, aZ)))
set_option maxHeartbeats 8000000 in
set_option maxRecDepth 100000 in
theorem Cj.calls (k : Nat) (ag : Int) (ah : Int) (am : Option Addr) (an : Nat) (aj : List Int) (a1 : Int) (a2 : Int) (a3 : Int) (a4 : Int) (a5 : Int) (a6 : Int) (r1 : Int) (r2 : Int) (w : World) (bz : Kd.C (Kd.int .u32) w am aj.length aj) (bA : aj.length ≤ an) (h : Cj.f k ag ah aj a1 a2 a3 a4 a5 a6 = some (r1, r2)) :
  Calls Try.prog 23 #[.agg #[.int .i64 ag, .int .i64 ah, .slice am aj.length an], .int .i64 a1, .int .i64 a2, .int .i64 a3, .int .i64 a4, .int .i64 a5, .int .i64 a6] w fun e w' => e = .returned (.tuple #[.int .u32 r1, .int .i64 r2]) ∧ Below w.heap.size w w' := by
 have hu25 := Try.underlying25
 have hu58 := Try.underlying58
 have bq := Ac.mk bz
 have br := Ac.mk bA
 clear bz bA
 have HB := Ac.mk (Below.refl w.heap.size w)
 have H : ((Ax.f k ag ah aj a1 a2 a3 a4).bind fun aZ => (if aZ = 0 then (if a5 < 0 then (some (0, 52)) else (if a6 < 0 then (some (0, 52)) else (if a5 ≥ ag then (some (0, 52)) else (if a6 ≥ ah then (some (0, 52)) else ((B3.f ag ah aj a1 a2 a3 a4 a5 a6).bind fun b9 => (some (b9, 0))))))) else (some (0, aZ)))) = some (r1, r2) := h
 clear h
 replace H := Option.bind_eq_some_iff.mp H
 obtain ⟨aZ, A80, H⟩ := H
 try dsimp only at H
 have A8 := Ac.mk A80
 clear A80
 by_cases c9 : aZ = 0
 ·rw [if_pos c9] at H
  have e8 : (aZ == 0) = true := beq_iff_eq.mpr c9
  have fa : (aZ != 0) = false := bne_eq_false_iff_eq.mpr c9
  clear c9
  by_cases c10 : a5 < 0
  ·rw [if_pos c10] at H
   have cF : decide (a5 < 0) = true := decide_eq_true c10
   clear c10
   simp only [Option.some.injEq, Prod.mk.injEq] at H
   obtain ⟨rfl, rfl⟩ := H
   go_enter Try.func23, Try.ntmps23
   go_wp2_with (first | ((with_reducible refine Bd (N := 7) rfl ?_); refine Bc ?hg (N := 7) ?hd (cs := #[.int .i64 ag, .int .i64 ah, .slice am aj.length an]) (t := 25) ?hr ?_; (case hd => rfl); (case hg => rfl); (case hr => first | (go_simp; done) | (go_simp; rfl)); intro ai hg w11 hbox hb; have n0_ := Ac.mk (At (by repeat (first | (with_reducible first | exact HB.out | apply Ai | apply Af | apply Aj) | exact HB.out)) hb); have n1_ := Ac.mk (hbox); have n2_ := Ac.mk ((by rw [hg]; exact (Ap (by repeat (first | (with_reducible first | exact HB.out | apply Ai | apply Af | apply Aj) | exact HB.out))) : w.heap.size ≤ ai)); have n3_ := Ac.mk ((by rw [hg]; exact (Ap (by repeat (first | (with_reducible first | exact HB.out | apply Ai | apply Af | apply Aj) | exact HB.out))) : w.heap.size ≤ ai)); clear HB; have HB := n0_; have ac := n1_; have bB := n2_; have au := n3_; clear n0_ n1_ n2_ n3_; clear hb hbox hg; have cJ : w11.cell? ⟨ai, 0, none⟩ = some (.int .i64 ag) := (Ag ac.out 0).trans rfl; have cK : w11.cell? ⟨ai, 1, none⟩ = some (.int .i64 ah) := (Ag ac.out 1).trans rfl; have cL : w11.cell? ⟨ai, 2, none⟩ = some (.slice am aj.length an) := (Ag ac.out 2).trans rfl; have cM := Ah ac.out 0; have cN := Ah ac.out 1; have cO := Ah ac.out 2) | ((with_reducible refine Bd (N := 16) rfl ?_); refine Bc ?hg (N := 16) ?hd (cs := #[.int .i64 0, .int .i64 0, .slice none 0 0, .int .i64 0, .int .i64 0, .int .i64 0]) (t := 58) ?hr ?_; (case hd => rfl); (case hg => rfl); (case hr => first | (go_simp; done) | (go_simp; rfl)); intro ak hg w13 hbox hb; have n0_ := Ac.mk (Ak (g := ai) (o := .cells #[.int .i64 ag, .int .i64 ah, .slice am aj.length an] 25 (0, 0)) (by (with_reducible repeat (first | refine Ab ?_ _ | refine Ad ?_ | refine Aa ?_ _)); exact ac.out) hb); have n1_ := Ac.mk (At (by repeat (first | (with_reducible first | exact HB.out | apply Ai | apply Af | apply Aj | refine Ae ?_ au.out) | exact HB.out)) hb); have n2_ := Ac.mk (hbox); have n3_ := Ac.mk ((by rw [hg]; exact (Ap (by repeat (first | (with_reducible first | exact HB.out | apply Ai | apply Af | apply Aj | refine Ae ?_ au.out) | exact HB.out))) : w.heap.size ≤ ak)); have n4_ := Ac.mk ((by rw [hg]; exact (Ap (by repeat (first | (with_reducible first | exact HB.out | apply Ai | apply Af | apply Aj | refine Ae ?_ au.out) | exact HB.out))) : w.heap.size ≤ ak)); have n5_ := Ac.mk ((by rw [hg]; exact Nat.ne_of_lt (Av (g := ai) (o := .cells #[.int .i64 ag, .int .i64 ah, .slice am aj.length an] 25 (0, 0)) (by (with_reducible repeat (first | refine Ab ?_ _ | refine Ad ?_ | refine Aa ?_ _)); exact ac.out)) : ai ≠ ak)); have n6_ := Ac.mk ((by rw [hg]; exact Nat.ne_of_gt (Av (g := ai) (o := .cells #[.int .i64 ag, .int .i64 ah, .slice am aj.length an] 25 (0, 0)) (by (with_reducible repeat (first | refine Ab ?_ _ | refine Ad ?_ | refine Aa ?_ _)); exact ac.out)) : ak ≠ ai)); clear ac; clear HB; have ac := n0_; have HB := n1_; have af := n2_; have bC := n3_; have aG := n4_; have aa := n5_; have aC := n6_; clear n0_ n1_ n2_ n3_ n4_ n5_ n6_; clear hb hbox hg; have fC := aC.out; have fD := aa.out; have cP : w13.cell? ⟨ak, 0, none⟩ = some (.int .i64 0) := (Ag af.out 0).trans rfl; have cQ : w13.cell? ⟨ak, 1, none⟩ = some (.int .i64 0) := (Ag af.out 1).trans rfl; have cR : w13.cell? ⟨ak, 2, none⟩ = some (.slice none 0 0) := (Ag af.out 2).trans rfl; have cS : w13.cell? ⟨ak, 3, none⟩ = some (.int .i64 0) := (Ag af.out 3).trans rfl; have cT : w13.cell? ⟨ak, 4, none⟩ = some (.int .i64 0) := (Ag af.out 4).trans rfl; have cU : w13.cell? ⟨ak, 5, none⟩ = some (.int .i64 0) := (Ag af.out 5).trans rfl; have cV := Ah af.out 0; have cW := Ah af.out 1; have cX := Ah af.out 2; have cY := Ah af.out 3; have cZ := Ah af.out 4; have da := Ah af.out 5) | ((with_reducible refine Be (f := 31) rfl ?_); refine Bv (some 25) rfl rfl Try.func31 (by kernel_rfl) rfl #[.agg #[.int .i64 ag, .int .i64 ah, .slice am aj.length an, .int .i64 a1, .int .i64 a2, .int .i64 a3], .int .i64 a4] rfl (by (try simp only [List.map_toArray, List.map_cons, List.map_nil]); first | done | rfl | (simp only [List.length_drop, List.length_take]; rfl)) ?_; (with_reducible refine (Ax.calls k ag ah _ _ aj a1 a2 a3 a4 aZ _ ?side1 ?side2 A8.out).mono ?_); (case side1 => exact Kd.Bo bq.out (by repeat (first | (with_reducible first | exact HB.out | apply Ai | apply Af | apply Aj | refine Ae ?_ au.out | refine Ae ?_ aG.out) | exact HB.out))); (case side2 => exact br.out); rintro e w16 ⟨rfl, hb⟩; refine ⟨_, rfl, ?_⟩; have n0_ := Ac.mk (Ak (g := ai) (o := .cells #[.int .i64 ag, .int .i64 ah, .slice am aj.length an] 25 (0, 0)) (by (with_reducible repeat (first | refine Ab ?_ _ | refine Ad ?_ | refine Aa ?_ _)); refine Am ?_ aa.out _; (with_reducible repeat (first | refine Ab ?_ _ | refine Ad ?_ | refine Aa ?_ _)); refine Am ?_ aa.out _; (with_reducible repeat (first | refine Ab ?_ _ | refine Ad ?_ | refine Aa ?_ _)); refine Am ?_ aa.out _; (with_reducible repeat (first | refine Ab ?_ _ | refine Ad ?_ | refine Aa ?_ _)); refine Am ?_ aa.out _; (with_reducible repeat (first | refine Ab ?_ _ | refine Ad ?_ | refine Aa ?_ _)); refine Am ?_ aa.out _; (with_reducible repeat (first | refine Ab ?_ _ | refine Ad ?_ | refine Aa ?_ _)); refine Am ?_ aa.out _; (with_reducible repeat (first | refine Ab ?_ _ | refine Ad ?_ | refine Aa ?_ _)); exact ac.out) hb); have n1_ := Ac.mk (Ak (g := ak) (o := .cells #[.int .i64 ag, .int .i64 ah, .slice am aj.length an, .int .i64 a1, .int .i64 a2, .int .i64 a3] 58 (0, 0)) (by (with_reducible repeat (first | refine Ab ?_ _ | refine Ad ?_ | refine Aa ?_ _)); refine Aq (cs := #[.int .i64 ag, .int .i64 ah, .slice am aj.length an, .int .i64 a1, .int .i64 a2, .int .i64 0]) ?_ 5 _ rfl; (with_reducible repeat (first | refine Ab ?_ _ | refine Ad ?_ | refine Aa ?_ _)); refine Aq (cs := #[.int .i64 ag, .int .i64 ah, .slice am aj.length an, .int .i64 a1, .int .i64 0, .int .i64 0]) ?_ 4 _ rfl; (with_reducible repeat (first | refine Ab ?_ _ | refine Ad ?_ | refine Aa ?_ _)); refine Aq (cs := #[.int .i64 ag, .int .i64 ah, .slice am aj.length an, .int .i64 0, .int .i64 0, .int .i64 0]) ?_ 3 _ rfl; (with_reducible repeat (first | refine Ab ?_ _ | refine Ad ?_ | refine Aa ?_ _)); refine Aq (cs := #[.int .i64 ag, .int .i64 ah, .slice none 0 0, .int .i64 0, .int .i64 0, .int .i64 0]) ?_ 2 _ rfl; (with_reducible repeat (first | refine Ab ?_ _ | refine Ad ?_ | refine Aa ?_ _)); refine Aq (cs := #[.int .i64 ag, .int .i64 0, .slice none 0 0, .int .i64 0, .int .i64 0, .int .i64 0]) ?_ 1 _ rfl; (with_reducible repeat (first | refine Ab ?_ _ | refine Ad ?_ | refine Aa ?_ _)); refine Aq (cs := #[.int .i64 0, .int .i64 0, .slice none 0 0, .int .i64 0, .int .i64 0, .int .i64 0]) ?_ 0 _ rfl; (with_reducible repeat (first | refine Ab ?_ _ | refine Ad ?_ | refine Aa ?_ _)); exact af.out) hb); have n2_ := Ac.mk (At (by repeat (first | (with_reducible first | exact HB.out | apply Ai | apply Af | apply Aj | refine Ae ?_ au.out | refine Ae ?_ aG.out) | exact HB.out)) hb); clear ac; clear af; clear HB; have ac := n0_; have af := n1_; have HB := n2_; clear n0_ n1_ n2_; (try clear hb); (try clear hb2); (try clear hk); (try clear hi)))
   go_ret2
   exact ⟨by first | rfl | (simp [Bb, Ba] <;> rfl) | (simp [*, Bb, Ba] <;> rfl), by repeat (first | (with_reducible first | exact HB.out | apply Ai | apply Af | apply Aj | refine Ae ?_ au.out | refine Ae ?_ aG.out) | exact HB.out)⟩
  ·rw [if_neg c10] at H
   have cF : decide (a5 < 0) = false := decide_eq_false c10
   clear c10
   by_cases c17 : a6 < 0
   ·rw [if_pos c17] at H
    have cG : decide (a6 < 0) = true := decide_eq_true c17
    clear c17
    simp only [Option.some.injEq, Prod.mk.injEq] at H
    obtain ⟨rfl, rfl⟩ := H
    go_enter Try.func23, Try.ntmps23
    go_wp2_with (first | ((with_reducible refine Bd (N := 7) rfl ?_); refine Bc ?hg (N := 7) ?hd (cs := #[.int .i64 ag, .int .i64 ah, .slice am aj.length an]) (t := 25) ?hr ?_; (case hd => rfl); (case hg => rfl); (case hr => first | (go_simp; done) | (go_simp; rfl)); intro ai hg w18 hbox hb; have n0_ := Ac.mk (At (by repeat (first | (with_reducible first | exact HB.out | apply Ai | apply Af | apply Aj) | exact HB.out)) hb); have n1_ := Ac.mk (hbox); have n2_ := Ac.mk ((by rw [hg]; exact (Ap (by repeat (first | (with_reducible first | exact HB.out | apply Ai | apply Af | apply Aj) | exact HB.out))) : w.heap.size ≤ ai)); have n3_ := Ac.mk ((by rw [hg]; exact (Ap (by repeat (first | (with_reducible first | exact HB.out | apply Ai | apply Af | apply Aj) | exact HB.out))) : w.heap.size ≤ ai)); clear HB; have HB := n0_; have ac := n1_; have bB := n2_; have au := n3_; clear n0_ n1_ n2_ n3_; clear hb hbox hg; have bJ : w18.cell? ⟨ai, 0, none⟩ = some (.int .i64 ag) := (Ag ac.out 0).trans rfl; have bK : w18.cell? ⟨ai, 1, none⟩ = some (.int .i64 ah) := (Ag ac.out 1).trans rfl; have bL : w18.cell? ⟨ai, 2, none⟩ = some (.slice am aj.length an) := (Ag ac.out 2).trans rfl; have bM := Ah ac.out 0; have bN := Ah ac.out 1; have bO := Ah ac.out 2) | ((with_reducible refine Bd (N := 16) rfl ?_); refine Bc ?hg (N := 16) ?hd (cs := #[.int .i64 0, .int .i64 0, .slice none 0 0, .int .i64 0, .int .i64 0, .int .i64 0]) (t := 58) ?hr ?_; (case hd => rfl); (case hg => rfl); (case hr => first | (go_simp; done) | (go_simp; rfl)); intro ak hg w20 hbox hb; have n0_ := Ac.mk (Ak (g := ai) (o := .cells #[.int .i64 ag, .int .i64 ah, .slice am aj.length an] 25 (0, 0)) (by (with_reducible repeat (first | refine Ab ?_ _ | refine Ad ?_ | refine Aa ?_ _)); exact ac.out) hb); have n1_ := Ac.mk (At (by repeat (first | (with_reducible first | exact HB.out | apply Ai | apply Af | apply Aj | refine Ae ?_ au.out) | exact HB.out)) hb); have n2_ := Ac.mk (hbox); have n3_ := Ac.mk ((by rw [hg]; exact (Ap (by repeat (first | (with_reducible first | exact HB.out | apply Ai | apply Af | apply Aj | refine Ae ?_ au.out) | exact HB.out))) : w.heap.size ≤ ak)); have n4_ := Ac.mk ((by rw [hg]; exact (Ap (by repeat (first | (with_reducible first | exact HB.out | apply Ai | apply Af | apply Aj | refine Ae ?_ au.out) | exact HB.out))) : w.heap.size ≤ ak)); have n5_ := Ac.mk ((by rw [hg]; exact Nat.ne_of_lt (Av (g := ai) (o := .cells #[.int .i64 ag, .int .i64 ah, .slice am aj.length an] 25 (0, 0)) (by (with_reducible repeat (first | refine Ab ?_ _ | refine Ad ?_ | refine Aa ?_ _)); exact ac.out)) : ai ≠ ak)); have n6_ := Ac.mk ((by rw [hg]; exact Nat.ne_of_gt (Av (g := ai) (o := .cells #[.int .i64 ag, .int .i64 ah, .slice am aj.length an] 25 (0, 0)) (by (with_reducible repeat (first | refine Ab ?_ _ | refine Ad ?_ | refine Aa ?_ _)); exact ac.out)) : ak ≠ ai)); clear ac; clear HB; have ac := n0_; have HB := n1_; have af := n2_; have bC := n3_; have aG := n4_; have aa := n5_; have aC := n6_; clear n0_ n1_ n2_ n3_ n4_ n5_ n6_; clear hb hbox hg; have fE := aC.out; have fF := aa.out; have db : w20.cell? ⟨ak, 0, none⟩ = some (.int .i64 0) := (Ag af.out 0).trans rfl; have dc : w20.cell? ⟨ak, 1, none⟩ = some (.int .i64 0) := (Ag af.out 1).trans rfl; have dd : w20.cell? ⟨ak, 2, none⟩ = some (.slice none 0 0) := (Ag af.out 2).trans rfl; have de : w20.cell? ⟨ak, 3, none⟩ = some (.int .i64 0) := (Ag af.out 3).trans rfl; have df : w20.cell? ⟨ak, 4, none⟩ = some (.int .i64 0) := (Ag af.out 4).trans rfl; have dg : w20.cell? ⟨ak, 5, none⟩ = some (.int .i64 0) := (Ag af.out 5).trans rfl; have dh := Ah af.out 0; have di := Ah af.out 1; have dj := Ah af.out 2; have dk := Ah af.out 3; have dl := Ah af.out 4; have dm := Ah af.out 5) | ((with_reducible refine Be (f := 31) rfl ?_); refine Bv (some 25) rfl rfl Try.func31 (by kernel_rfl) rfl #[.agg #[.int .i64 ag, .int .i64 ah, .slice am aj.length an, .int .i64 a1, .int .i64 a2, .int .i64 a3], .int .i64 a4] rfl (by (try simp only [List.map_toArray, List.map_cons, List.map_nil]); first | done | rfl | (simp only [List.length_drop, List.length_take]; rfl)) ?_; (with_reducible refine (Ax.calls k ag ah _ _ aj a1 a2 a3 a4 aZ _ ?side1 ?side2 A8.out).mono ?_); (case side1 => exact Kd.Bo bq.out (by repeat (first | (with_reducible first | exact HB.out | apply Ai | apply Af | apply Aj | refine Ae ?_ au.out | refine Ae ?_ aG.out) | exact HB.out))); (case side2 => exact br.out); rintro e w23 ⟨rfl, hb⟩; refine ⟨_, rfl, ?_⟩; have n0_ := Ac.mk (Ak (g := ai) (o := .cells #[.int .i64 ag, .int .i64 ah, .slice am aj.length an] 25 (0, 0)) (by (with_reducible repeat (first | refine Ab ?_ _ | refine Ad ?_ | refine Aa ?_ _)); refine Am ?_ aa.out _; (with_reducible repeat (first | refine Ab ?_ _ | refine Ad ?_ | refine Aa ?_ _)); refine Am ?_ aa.out _; (with_reducible repeat (first | refine Ab ?_ _ | refine Ad ?_ | refine Aa ?_ _)); refine Am ?_ aa.out _; (with_reducible repeat (first | refine Ab ?_ _ | refine Ad ?_ | refine Aa ?_ _)); refine Am ?_ aa.out _; (with_reducible repeat (first | refine Ab ?_ _ | refine Ad ?_ | refine Aa ?_ _)); refine Am ?_ aa.out _; (with_reducible repeat (first | refine Ab ?_ _ | refine Ad ?_ | refine Aa ?_ _)); refine Am ?_ aa.out _; (with_reducible repeat (first | refine Ab ?_ _ | refine Ad ?_ | refine Aa ?_ _)); exact ac.out) hb); have n1_ := Ac.mk (Ak (g := ak) (o := .cells #[.int .i64 ag, .int .i64 ah, .slice am aj.length an, .int .i64 a1, .int .i64 a2, .int .i64 a3] 58 (0, 0)) (by (with_reducible repeat (first | refine Ab ?_ _ | refine Ad ?_ | refine Aa ?_ _)); refine Aq (cs := #[.int .i64 ag, .int .i64 ah, .slice am aj.length an, .int .i64 a1, .int .i64 a2, .int .i64 0]) ?_ 5 _ rfl; (with_reducible repeat (first | refine Ab ?_ _ | refine Ad ?_ | refine Aa ?_ _)); refine Aq (cs := #[.int .i64 ag, .int .i64 ah, .slice am aj.length an, .int .i64 a1, .int .i64 0, .int .i64 0]) ?_ 4 _ rfl; (with_reducible repeat (first | refine Ab ?_ _ | refine Ad ?_ | refine Aa ?_ _)); refine Aq (cs := #[.int .i64 ag, .int .i64 ah, .slice am aj.length an, .int .i64 0, .int .i64 0, .int .i64 0]) ?_ 3 _ rfl; (with_reducible repeat (first | refine Ab ?_ _ | refine Ad ?_ | refine Aa ?_ _)); refine Aq (cs := #[.int .i64 ag, .int .i64 ah, .slice none 0 0, .int .i64 0, .int .i64 0, .int .i64 0]) ?_ 2 _ rfl; (with_reducible repeat (first | refine Ab ?_ _ | refine Ad ?_ | refine Aa ?_ _)); refine Aq (cs := #[.int .i64 ag, .int .i64 0, .slice none 0 0, .int .i64 0, .int .i64 0, .int .i64 0]) ?_ 1 _ rfl; (with_reducible repeat (first | refine Ab ?_ _ | refine Ad ?_ | refine Aa ?_ _)); refine Aq (cs := #[.int .i64 0, .int .i64 0, .slice none 0 0, .int .i64 0, .int .i64 0, .int .i64 0]) ?_ 0 _ rfl; (with_reducible repeat (first | refine Ab ?_ _ | refine Ad ?_ | refine Aa ?_ _)); exact af.out) hb); have n2_ := Ac.mk (At (by repeat (first | (with_reducible first | exact HB.out | apply Ai | apply Af | apply Aj | refine Ae ?_ au.out | refine Ae ?_ aG.out) | exact HB.out)) hb); clear ac; clear af; clear HB; have ac := n0_; have af := n1_; have HB := n2_; clear n0_ n1_ n2_; (try clear hb); (try clear hb2); (try clear hk); (try clear hi)))
    go_ret2
    exact ⟨by first | rfl | (simp [Bb, Ba] <;> rfl) | (simp [*, Bb, Ba] <;> rfl), by repeat (first | (with_reducible first | exact HB.out | apply Ai | apply Af | apply Aj | refine Ae ?_ au.out | refine Ae ?_ aG.out) | exact HB.out)⟩
   ·rw [if_neg c17] at H
    have cG : decide (a6 < 0) = false := decide_eq_false c17
    clear c17
    by_cases c24 : a5 ≥ ag
    ·rw [if_pos c24] at H
     have cH : decide (ag ≤ a5) = true := decide_eq_true c24
     clear c24
     simp only [Option.some.injEq, Prod.mk.injEq] at H
     obtain ⟨rfl, rfl⟩ := H
     go_enter Try.func23, Try.ntmps23
     go_wp2_with (first | ((with_reducible refine Bd (N := 7) rfl ?_); refine Bc ?hg (N := 7) ?hd (cs := #[.int .i64 ag, .int .i64 ah, .slice am aj.length an]) (t := 25) ?hr ?_; (case hd => rfl); (case hg => rfl); (case hr => first | (go_simp; done) | (go_simp; rfl)); intro ai hg w25 hbox hb; have n0_ := Ac.mk (At (by repeat (first | (with_reducible first | exact HB.out | apply Ai | apply Af | apply Aj) | exact HB.out)) hb); have n1_ := Ac.mk (hbox); have n2_ := Ac.mk ((by rw [hg]; exact (Ap (by repeat (first | (with_reducible first | exact HB.out | apply Ai | apply Af | apply Aj) | exact HB.out))) : w.heap.size ≤ ai)); have n3_ := Ac.mk ((by rw [hg]; exact (Ap (by repeat (first | (with_reducible first | exact HB.out | apply Ai | apply Af | apply Aj) | exact HB.out))) : w.heap.size ≤ ai)); clear HB; have HB := n0_; have ac := n1_; have bB := n2_; have au := n3_; clear n0_ n1_ n2_ n3_; clear hb hbox hg; have dn : w25.cell? ⟨ai, 0, none⟩ = some (.int .i64 ag) := (Ag ac.out 0).trans rfl; have dp : w25.cell? ⟨ai, 1, none⟩ = some (.int .i64 ah) := (Ag ac.out 1).trans rfl; have dq : w25.cell? ⟨ai, 2, none⟩ = some (.slice am aj.length an) := (Ag ac.out 2).trans rfl; have dt := Ah ac.out 0; have du := Ah ac.out 1; have dv := Ah ac.out 2) | ((with_reducible refine Bd (N := 16) rfl ?_); refine Bc ?hg (N := 16) ?hd (cs := #[.int .i64 0, .int .i64 0, .slice none 0 0, .int .i64 0, .int .i64 0, .int .i64 0]) (t := 58) ?hr ?_; (case hd => rfl); (case hg => rfl); (case hr => first | (go_simp; done) | (go_simp; rfl)); intro ak hg w27 hbox hb; have n0_ := Ac.mk (Ak (g := ai) (o := .cells #[.int .i64 ag, .int .i64 ah, .slice am aj.length an] 25 (0, 0)) (by (with_reducible repeat (first | refine Ab ?_ _ | refine Ad ?_ | refine Aa ?_ _)); exact ac.out) hb); have n1_ := Ac.mk (At (by repeat (first | (with_reducible first | exact HB.out | apply Ai | apply Af | apply Aj | refine Ae ?_ au.out) | exact HB.out)) hb); have n2_ := Ac.mk (hbox); have n3_ := Ac.mk ((by rw [hg]; exact (Ap (by repeat (first | (with_reducible first | exact HB.out | apply Ai | apply Af | apply Aj | refine Ae ?_ au.out) | exact HB.out))) : w.heap.size ≤ ak)); have n4_ := Ac.mk ((by rw [hg]; exact (Ap (by repeat (first | (with_reducible first | exact HB.out | apply Ai | apply Af | apply Aj | refine Ae ?_ au.out) | exact HB.out))) : w.heap.size ≤ ak)); have n5_ := Ac.mk ((by rw [hg]; exact Nat.ne_of_lt (Av (g := ai) (o := .cells #[.int .i64 ag, .int .i64 ah, .slice am aj.length an] 25 (0, 0)) (by (with_reducible repeat (first | refine Ab ?_ _ | refine Ad ?_ | refine Aa ?_ _)); exact ac.out)) : ai ≠ ak)); have n6_ := Ac.mk ((by rw [hg]; exact Nat.ne_of_gt (Av (g := ai) (o := .cells #[.int .i64 ag, .int .i64 ah, .slice am aj.length an] 25 (0, 0)) (by (with_reducible repeat (first | refine Ab ?_ _ | refine Ad ?_ | refine Aa ?_ _)); exact ac.out)) : ak ≠ ai)); clear ac; clear HB; have ac := n0_; have HB := n1_; have af := n2_; have bC := n3_; have aG := n4_; have aa := n5_; have aC := n6_; clear n0_ n1_ n2_ n3_ n4_ n5_ n6_; clear hb hbox hg; have cB := aC.out; have cC := aa.out; have dw : w27.cell? ⟨ak, 0, none⟩ = some (.int .i64 0) := (Ag af.out 0).trans rfl; have dx : w27.cell? ⟨ak, 1, none⟩ = some (.int .i64 0) := (Ag af.out 1).trans rfl; have dy : w27.cell? ⟨ak, 2, none⟩ = some (.slice none 0 0) := (Ag af.out 2).trans rfl; have dz : w27.cell? ⟨ak, 3, none⟩ = some (.int .i64 0) := (Ag af.out 3).trans rfl; have dA : w27.cell? ⟨ak, 4, none⟩ = some (.int .i64 0) := (Ag af.out 4).trans rfl; have dB : w27.cell? ⟨ak, 5, none⟩ = some (.int .i64 0) := (Ag af.out 5).trans rfl; have dC := Ah af.out 0; have dD := Ah af.out 1; have dE := Ah af.out 2; have dF := Ah af.out 3; have dG := Ah af.out 4; have dH := Ah af.out 5) | ((with_reducible refine Be (f := 31) rfl ?_); refine Bv (some 25) rfl rfl Try.func31 (by kernel_rfl) rfl #[.agg #[.int .i64 ag, .int .i64 ah, .slice am aj.length an, .int .i64 a1, .int .i64 a2, .int .i64 a3], .int .i64 a4] rfl (by (try simp only [List.map_toArray, List.map_cons, List.map_nil]); first | done | rfl | (simp only [List.length_drop, List.length_take]; rfl)) ?_; (with_reducible refine (Ax.calls k ag ah _ _ aj a1 a2 a3 a4 aZ _ ?side1 ?side2 A8.out).mono ?_); (case side1 => exact Kd.Bo bq.out (by repeat (first | (with_reducible first | exact HB.out | apply Ai | apply Af | apply Aj | refine Ae ?_ au.out | refine Ae ?_ aG.out) | exact HB.out))); (case side2 => exact br.out); rintro e w30 ⟨rfl, hb⟩; refine ⟨_, rfl, ?_⟩; have n0_ := Ac.mk (Ak (g := ai) (o := .cells #[.int .i64 ag, .int .i64 ah, .slice am aj.length an] 25 (0, 0)) (by (with_reducible repeat (first | refine Ab ?_ _ | refine Ad ?_ | refine Aa ?_ _)); refine Am ?_ aa.out _; (with_reducible repeat (first | refine Ab ?_ _ | refine Ad ?_ | refine Aa ?_ _)); refine Am ?_ aa.out _; (with_reducible repeat (first | refine Ab ?_ _ | refine Ad ?_ | refine Aa ?_ _)); refine Am ?_ aa.out _; (with_reducible repeat (first | refine Ab ?_ _ | refine Ad ?_ | refine Aa ?_ _)); refine Am ?_ aa.out _; (with_reducible repeat (first | refine Ab ?_ _ | refine Ad ?_ | refine Aa ?_ _)); refine Am ?_ aa.out _; (with_reducible repeat (first | refine Ab ?_ _ | refine Ad ?_ | refine Aa ?_ _)); refine Am ?_ aa.out _; (with_reducible repeat (first | refine Ab ?_ _ | refine Ad ?_ | refine Aa ?_ _)); exact ac.out) hb); have n1_ := Ac.mk (Ak (g := ak) (o := .cells #[.int .i64 ag, .int .i64 ah, .slice am aj.length an, .int .i64 a1, .int .i64 a2, .int .i64 a3] 58 (0, 0)) (by (with_reducible repeat (first | refine Ab ?_ _ | refine Ad ?_ | refine Aa ?_ _)); refine Aq (cs := #[.int .i64 ag, .int .i64 ah, .slice am aj.length an, .int .i64 a1, .int .i64 a2, .int .i64 0]) ?_ 5 _ rfl; (with_reducible repeat (first | refine Ab ?_ _ | refine Ad ?_ | refine Aa ?_ _)); refine Aq (cs := #[.int .i64 ag, .int .i64 ah, .slice am aj.length an, .int .i64 a1, .int .i64 0, .int .i64 0]) ?_ 4 _ rfl; (with_reducible repeat (first | refine Ab ?_ _ | refine Ad ?_ | refine Aa ?_ _)); refine Aq (cs := #[.int .i64 ag, .int .i64 ah, .slice am aj.length an, .int .i64 0, .int .i64 0, .int .i64 0]) ?_ 3 _ rfl; (with_reducible repeat (first | refine Ab ?_ _ | refine Ad ?_ | refine Aa ?_ _)); refine Aq (cs := #[.int .i64 ag, .int .i64 ah, .slice none 0 0, .int .i64 0, .int .i64 0, .int .i64 0]) ?_ 2 _ rfl; (with_reducible repeat (first | refine Ab ?_ _ | refine Ad ?_ | refine Aa ?_ _)); refine Aq (cs := #[.int .i64 ag, .int .i64 0, .slice none 0 0, .int .i64 0, .int .i64 0, .int .i64 0]) ?_ 1 _ rfl; (with_reducible repeat (first | refine Ab ?_ _ | refine Ad ?_ | refine Aa ?_ _)); refine Aq (cs := #[.int .i64 0, .int .i64 0, .slice none 0 0, .int .i64 0, .int .i64 0, .int .i64 0]) ?_ 0 _ rfl; (with_reducible repeat (first | refine Ab ?_ _ | refine Ad ?_ | refine Aa ?_ _)); exact af.out) hb); have n2_ := Ac.mk (At (by repeat (first | (with_reducible first | exact HB.out | apply Ai | apply Af | apply Aj | refine Ae ?_ au.out | refine Ae ?_ aG.out) | exact HB.out)) hb); clear ac; clear af; clear HB; have ac := n0_; have af := n1_; have HB := n2_; clear n0_ n1_ n2_; (try clear hb); (try clear hb2); (try clear hk); (try clear hi); have ca : w30.cell? ⟨ai, 0, none⟩ = some (.int .i64 ag) := (Ag ac.out 0).trans rfl; have cb : w30.cell? ⟨ai, 1, none⟩ = some (.int .i64 ah) := (Ag ac.out 1).trans rfl; have cd : w30.cell? ⟨ai, 2, none⟩ = some (.slice am aj.length an) := (Ag ac.out 2).trans rfl; have ce := Ah ac.out 0; have cf := Ah ac.out 1; have cg := Ah ac.out 2))
     go_ret2
     exact ⟨by first | rfl | (simp [Bb, Ba] <;> rfl) | (simp [*, Bb, Ba] <;> rfl), by repeat (first | (with_reducible first | exact HB.out | apply Ai | apply Af | apply Aj | refine Ae ?_ au.out | refine Ae ?_ aG.out) | exact HB.out)⟩
    ·rw [if_neg c24] at H
     have cH : decide (ag ≤ a5) = false := decide_eq_false c24
     clear c24
     by_cases c32 : a6 ≥ ah
     ·rw [if_pos c32] at H
      have cI : decide (ah ≤ a6) = true := decide_eq_true c32
      clear c32
      simp only [Option.some.injEq, Prod.mk.injEq] at H
      obtain ⟨rfl, rfl⟩ := H
      go_enter Try.func23, Try.ntmps23
      go_wp2_with (first | ((with_reducible refine Bd (N := 7) rfl ?_); refine Bc ?hg (N := 7) ?hd (cs := #[.int .i64 ag, .int .i64 ah, .slice am aj.length an]) (t := 25) ?hr ?_; (case hd => rfl); (case hg => rfl); (case hr => first | (go_simp; done) | (go_simp; rfl)); intro ai hg w33 hbox hb; have n0_ := Ac.mk (At (by repeat (first | (with_reducible first | exact HB.out | apply Ai | apply Af | apply Aj) | exact HB.out)) hb); have n1_ := Ac.mk (hbox); have n2_ := Ac.mk ((by rw [hg]; exact (Ap (by repeat (first | (with_reducible first | exact HB.out | apply Ai | apply Af | apply Aj) | exact HB.out))) : w.heap.size ≤ ai)); have n3_ := Ac.mk ((by rw [hg]; exact (Ap (by repeat (first | (with_reducible first | exact HB.out | apply Ai | apply Af | apply Aj) | exact HB.out))) : w.heap.size ≤ ai)); clear HB; have HB := n0_; have ac := n1_; have bB := n2_; have au := n3_; clear n0_ n1_ n2_ n3_; clear hb hbox hg; have ch : w33.cell? ⟨ai, 0, none⟩ = some (.int .i64 ag) := (Ag ac.out 0).trans rfl; have ci : w33.cell? ⟨ai, 1, none⟩ = some (.int .i64 ah) := (Ag ac.out 1).trans rfl; have cj : w33.cell? ⟨ai, 2, none⟩ = some (.slice am aj.length an) := (Ag ac.out 2).trans rfl; have cl := Ah ac.out 0; have cm := Ah ac.out 1; have co := Ah ac.out 2) | ((with_reducible refine Bd (N := 16) rfl ?_); refine Bc ?hg (N := 16) ?hd (cs := #[.int .i64 0, .int .i64 0, .slice none 0 0, .int .i64 0, .int .i64 0, .int .i64 0]) (t := 58) ?hr ?_; (case hd => rfl); (case hg => rfl); (case hr => first | (go_simp; done) | (go_simp; rfl)); intro ak hg w35 hbox hb; have n0_ := Ac.mk (Ak (g := ai) (o := .cells #[.int .i64 ag, .int .i64 ah, .slice am aj.length an] 25 (0, 0)) (by (with_reducible repeat (first | refine Ab ?_ _ | refine Ad ?_ | refine Aa ?_ _)); exact ac.out) hb); have n1_ := Ac.mk (At (by repeat (first | (with_reducible first | exact HB.out | apply Ai | apply Af | apply Aj | refine Ae ?_ au.out) | exact HB.out)) hb); have n2_ := Ac.mk (hbox); have n3_ := Ac.mk ((by rw [hg]; exact (Ap (by repeat (first | (with_reducible first | exact HB.out | apply Ai | apply Af | apply Aj | refine Ae ?_ au.out) | exact HB.out))) : w.heap.size ≤ ak)); have n4_ := Ac.mk ((by rw [hg]; exact (Ap (by repeat (first | (with_reducible first | exact HB.out | apply Ai | apply Af | apply Aj | refine Ae ?_ au.out) | exact HB.out))) : w.heap.size ≤ ak)); have n5_ := Ac.mk ((by rw [hg]; exact Nat.ne_of_lt (Av (g := ai) (o := .cells #[.int .i64 ag, .int .i64 ah, .slice am aj.length an] 25 (0, 0)) (by (with_reducible repeat (first | refine Ab ?_ _ | refine Ad ?_ | refine Aa ?_ _)); exact ac.out)) : ai ≠ ak)); have n6_ := Ac.mk ((by rw [hg]; exact Nat.ne_of_gt (Av (g := ai) (o := .cells #[.int .i64 ag, .int .i64 ah, .slice am aj.length an] 25 (0, 0)) (by (with_reducible repeat (first | refine Ab ?_ _ | refine Ad ?_ | refine Aa ?_ _)); exact ac.out)) : ak ≠ ai)); clear ac; clear HB; have ac := n0_; have HB := n1_; have af := n2_; have bC := n3_; have aG := n4_; have aa := n5_; have aC := n6_; clear n0_ n1_ n2_ n3_ n4_ n5_ n6_; clear hb hbox hg; have fG := aC.out; have fH := aa.out; have dI : w35.cell? ⟨ak, 0, none⟩ = some (.int .i64 0) := (Ag af.out 0).trans rfl; have dJ : w35.cell? ⟨ak, 1, none⟩ = some (.int .i64 0) := (Ag af.out 1).trans rfl; have dK : w35.cell? ⟨ak, 2, none⟩ = some (.slice none 0 0) := (Ag af.out 2).trans rfl; have dL : w35.cell? ⟨ak, 3, none⟩ = some (.int .i64 0) := (Ag af.out 3).trans rfl; have dM : w35.cell? ⟨ak, 4, none⟩ = some (.int .i64 0) := (Ag af.out 4).trans rfl; have dN : w35.cell? ⟨ak, 5, none⟩ = some (.int .i64 0) := (Ag af.out 5).trans rfl; have dO := Ah af.out 0; have dP := Ah af.out 1; have dQ := Ah af.out 2; have dR := Ah af.out 3; have dS := Ah af.out 4; have dT := Ah af.out 5) | ((with_reducible refine Be (f := 31) rfl ?_); refine Bv (some 25) rfl rfl Try.func31 (by kernel_rfl) rfl #[.agg #[.int .i64 ag, .int .i64 ah, .slice am aj.length an, .int .i64 a1, .int .i64 a2, .int .i64 a3], .int .i64 a4] rfl (by (try simp only [List.map_toArray, List.map_cons, List.map_nil]); first | done | rfl | (simp only [List.length_drop, List.length_take]; rfl)) ?_; (with_reducible refine (Ax.calls k ag ah _ _ aj a1 a2 a3 a4 aZ _ ?side1 ?side2 A8.out).mono ?_); (case side1 => exact Kd.Bo bq.out (by repeat (first | (with_reducible first | exact HB.out | apply Ai | apply Af | apply Aj | refine Ae ?_ au.out | refine Ae ?_ aG.out) | exact HB.out))); (case side2 => exact br.out); rintro e w38 ⟨rfl, hb⟩; refine ⟨_, rfl, ?_⟩; have n0_ := Ac.mk (Ak (g := ai) (o := .cells #[.int .i64 ag, .int .i64 ah, .slice am aj.length an] 25 (0, 0)) (by (with_reducible repeat (first | refine Ab ?_ _ | refine Ad ?_ | refine Aa ?_ _)); refine Am ?_ aa.out _; (with_reducible repeat (first | refine Ab ?_ _ | refine Ad ?_ | refine Aa ?_ _)); refine Am ?_ aa.out _; (with_reducible repeat (first | refine Ab ?_ _ | refine Ad ?_ | refine Aa ?_ _)); refine Am ?_ aa.out _; (with_reducible repeat (first | refine Ab ?_ _ | refine Ad ?_ | refine Aa ?_ _)); refine Am ?_ aa.out _; (with_reducible repeat (first | refine Ab ?_ _ | refine Ad ?_ | refine Aa ?_ _)); refine Am ?_ aa.out _; (with_reducible repeat (first | refine Ab ?_ _ | refine Ad ?_ | refine Aa ?_ _)); refine Am ?_ aa.out _; (with_reducible repeat (first | refine Ab ?_ _ | refine Ad ?_ | refine Aa ?_ _)); exact ac.out) hb); have n1_ := Ac.mk (Ak (g := ak) (o := .cells #[.int .i64 ag, .int .i64 ah, .slice am aj.length an, .int .i64 a1, .int .i64 a2, .int .i64 a3] 58 (0, 0)) (by (with_reducible repeat (first | refine Ab ?_ _ | refine Ad ?_ | refine Aa ?_ _)); refine Aq (cs := #[.int .i64 ag, .int .i64 ah, .slice am aj.length an, .int .i64 a1, .int .i64 a2, .int .i64 0]) ?_ 5 _ rfl; (with_reducible repeat (first | refine Ab ?_ _ | refine Ad ?_ | refine Aa ?_ _)); refine Aq (cs := #[.int .i64 ag, .int .i64 ah, .slice am aj.length an, .int .i64 a1, .int .i64 0, .int .i64 0]) ?_ 4 _ rfl; (with_reducible repeat (first | refine Ab ?_ _ | refine Ad ?_ | refine Aa ?_ _)); refine Aq (cs := #[.int .i64 ag, .int .i64 ah, .slice am aj.length an, .int .i64 0, .int .i64 0, .int .i64 0]) ?_ 3 _ rfl; (with_reducible repeat (first | refine Ab ?_ _ | refine Ad ?_ | refine Aa ?_ _)); refine Aq (cs := #[.int .i64 ag, .int .i64 ah, .slice none 0 0, .int .i64 0, .int .i64 0, .int .i64 0]) ?_ 2 _ rfl; (with_reducible repeat (first | refine Ab ?_ _ | refine Ad ?_ | refine Aa ?_ _)); refine Aq (cs := #[.int .i64 ag, .int .i64 0, .slice none 0 0, .int .i64 0, .int .i64 0, .int .i64 0]) ?_ 1 _ rfl; (with_reducible repeat (first | refine Ab ?_ _ | refine Ad ?_ | refine Aa ?_ _)); refine Aq (cs := #[.int .i64 0, .int .i64 0, .slice none 0 0, .int .i64 0, .int .i64 0, .int .i64 0]) ?_ 0 _ rfl; (with_reducible repeat (first | refine Ab ?_ _ | refine Ad ?_ | refine Aa ?_ _)); exact af.out) hb); have n2_ := Ac.mk (At (by repeat (first | (with_reducible first | exact HB.out | apply Ai | apply Af | apply Aj | refine Ae ?_ au.out | refine Ae ?_ aG.out) | exact HB.out)) hb); clear ac; clear af; clear HB; have ac := n0_; have af := n1_; have HB := n2_; clear n0_ n1_ n2_; (try clear hb); (try clear hb2); (try clear hk); (try clear hi); have dU : w38.cell? ⟨ai, 0, none⟩ = some (.int .i64 ag) := (Ag ac.out 0).trans rfl; have dV : w38.cell? ⟨ai, 1, none⟩ = some (.int .i64 ah) := (Ag ac.out 1).trans rfl; have dW : w38.cell? ⟨ai, 2, none⟩ = some (.slice am aj.length an) := (Ag ac.out 2).trans rfl; have dX := Ah ac.out 0; have dY := Ah ac.out 1; have dZ := Ah ac.out 2))
      go_ret2
      exact ⟨by first | rfl | (simp [Bb, Ba] <;> rfl) | (simp [*, Bb, Ba] <;> rfl), by repeat (first | (with_reducible first | exact HB.out | apply Ai | apply Af | apply Aj | refine Ae ?_ au.out | refine Ae ?_ aG.out) | exact HB.out)⟩
     ·rw [if_neg c32] at H
      have cI : decide (ah ≤ a6) = false := decide_eq_false c32
      clear c32
      replace H := Option.bind_eq_some_iff.mp H
      obtain ⟨b9, A400, H⟩ := H
      try dsimp only at H
      have A40 := Ac.mk A400
      clear A400
      simp only [Option.some.injEq, Prod.mk.injEq] at H
      obtain ⟨rfl, rfl⟩ := H
      go_enter Try.func23, Try.ntmps23
      go_wp2_with (first | ((with_reducible refine Bd (N := 7) rfl ?_); refine Bc ?hg (N := 7) ?hd (cs := #[.int .i64 ag, .int .i64 ah, .slice am aj.length an]) (t := 25) ?hr ?_; (case hd => rfl); (case hg => rfl); (case hr => first | (go_simp; done) | (go_simp; rfl)); intro ai hg w41 hbox hb; have n0_ := Ac.mk (At (by repeat (first | (with_reducible first | exact HB.out | apply Ai | apply Af | apply Aj) | exact HB.out)) hb); have n1_ := Ac.mk (hbox); have n2_ := Ac.mk ((by rw [hg]; exact (Ap (by repeat (first | (with_reducible first | exact HB.out | apply Ai | apply Af | apply Aj) | exact HB.out))) : w.heap.size ≤ ai)); have n3_ := Ac.mk ((by rw [hg]; exact (Ap (by repeat (first | (with_reducible first | exact HB.out | apply Ai | apply Af | apply Aj) | exact HB.out))) : w.heap.size ≤ ai)); clear HB; have HB := n0_; have ac := n1_; have bB := n2_; have au := n3_; clear n0_ n1_ n2_ n3_; clear hb hbox hg; have d8 : w41.cell? ⟨ai, 0, none⟩ = some (.int .i64 ag) := (Ag ac.out 0).trans rfl; have d9 : w41.cell? ⟨ai, 1, none⟩ = some (.int .i64 ah) := (Ag ac.out 1).trans rfl; have ea : w41.cell? ⟨ai, 2, none⟩ = some (.slice am aj.length an) := (Ag ac.out 2).trans rfl; have eb := Ah ac.out 0; have ec := Ah ac.out 1; have ed := Ah ac.out 2) | ((with_reducible refine Bd (N := 16) rfl ?_); refine Bc ?hg (N := 16) ?hd (cs := #[.int .i64 0, .int .i64 0, .slice none 0 0, .int .i64 0, .int .i64 0, .int .i64 0]) (t := 58) ?hr ?_; (case hd => rfl); (case hg => rfl); (case hr => first | (go_simp; done) | (go_simp; rfl)); intro ak hg w43 hbox hb; have n0_ := Ac.mk (Ak (g := ai) (o := .cells #[.int .i64 ag, .int .i64 ah, .slice am aj.length an] 25 (0, 0)) (by (with_reducible repeat (first | refine Ab ?_ _ | refine Ad ?_ | refine Aa ?_ _)); exact ac.out) hb); have n1_ := Ac.mk (At (by repeat (first | (with_reducible first | exact HB.out | apply Ai | apply Af | apply Aj | refine Ae ?_ au.out) | exact HB.out)) hb); have n2_ := Ac.mk (hbox); have n3_ := Ac.mk ((by rw [hg]; exact (Ap (by repeat (first | (with_reducible first | exact HB.out | apply Ai | apply Af | apply Aj | refine Ae ?_ au.out) | exact HB.out))) : w.heap.size ≤ ak)); have n4_ := Ac.mk ((by rw [hg]; exact (Ap (by repeat (first | (with_reducible first | exact HB.out | apply Ai | apply Af | apply Aj | refine Ae ?_ au.out) | exact HB.out))) : w.heap.size ≤ ak)); have n5_ := Ac.mk ((by rw [hg]; exact Nat.ne_of_lt (Av (g := ai) (o := .cells #[.int .i64 ag, .int .i64 ah, .slice am aj.length an] 25 (0, 0)) (by (with_reducible repeat (first | refine Ab ?_ _ | refine Ad ?_ | refine Aa ?_ _)); exact ac.out)) : ai ≠ ak)); have n6_ := Ac.mk ((by rw [hg]; exact Nat.ne_of_gt (Av (g := ai) (o := .cells #[.int .i64 ag, .int .i64 ah, .slice am aj.length an] 25 (0, 0)) (by (with_reducible repeat (first | refine Ab ?_ _ | refine Ad ?_ | refine Aa ?_ _)); exact ac.out)) : ak ≠ ai)); clear ac; clear HB; have ac := n0_; have HB := n1_; have af := n2_; have bC := n3_; have aG := n4_; have aa := n5_; have aC := n6_; clear n0_ n1_ n2_ n3_ n4_ n5_ n6_; clear hb hbox hg; have fI := aC.out; have fJ := aa.out; have ee : w43.cell? ⟨ak, 0, none⟩ = some (.int .i64 0) := (Ag af.out 0).trans rfl; have ef : w43.cell? ⟨ak, 1, none⟩ = some (.int .i64 0) := (Ag af.out 1).trans rfl; have eh : w43.cell? ⟨ak, 2, none⟩ = some (.slice none 0 0) := (Ag af.out 2).trans rfl; have ei : w43.cell? ⟨ak, 3, none⟩ = some (.int .i64 0) := (Ag af.out 3).trans rfl; have ej : w43.cell? ⟨ak, 4, none⟩ = some (.int .i64 0) := (Ag af.out 4).trans rfl; have ek : w43.cell? ⟨ak, 5, none⟩ = some (.int .i64 0) := (Ag af.out 5).trans rfl; have el := Ah af.out 0; have em := Ah af.out 1; have en := Ah af.out 2; have eo := Ah af.out 3; have ep := Ah af.out 4; have eq := Ah af.out 5) | ((with_reducible refine Be (f := 31) rfl ?_); refine Bv (some 25) rfl rfl Try.func31 (by kernel_rfl) rfl #[.agg #[.int .i64 ag, .int .i64 ah, .slice am aj.length an, .int .i64 a1, .int .i64 a2, .int .i64 a3], .int .i64 a4] rfl (by (try simp only [List.map_toArray, List.map_cons, List.map_nil]); first | done | rfl | (simp only [List.length_drop, List.length_take]; rfl)) ?_; (with_reducible refine (Ax.calls k ag ah _ _ aj a1 a2 a3 a4 aZ _ ?side1 ?side2 A8.out).mono ?_); (case side1 => exact Kd.Bo bq.out (by repeat (first | (with_reducible first | exact HB.out | apply Ai | apply Af | apply Aj | refine Ae ?_ au.out | refine Ae ?_ aG.out) | exact HB.out))); (case side2 => exact br.out); rintro e w46 ⟨rfl, hb⟩; refine ⟨_, rfl, ?_⟩; have n0_ := Ac.mk (Ak (g := ai) (o := .cells #[.int .i64 ag, .int .i64 ah, .slice am aj.length an] 25 (0, 0)) (by (with_reducible repeat (first | refine Ab ?_ _ | refine Ad ?_ | refine Aa ?_ _)); refine Am ?_ aa.out _; (with_reducible repeat (first | refine Ab ?_ _ | refine Ad ?_ | refine Aa ?_ _)); refine Am ?_ aa.out _; (with_reducible repeat (first | refine Ab ?_ _ | refine Ad ?_ | refine Aa ?_ _)); refine Am ?_ aa.out _; (with_reducible repeat (first | refine Ab ?_ _ | refine Ad ?_ | refine Aa ?_ _)); refine Am ?_ aa.out _; (with_reducible repeat (first | refine Ab ?_ _ | refine Ad ?_ | refine Aa ?_ _)); refine Am ?_ aa.out _; (with_reducible repeat (first | refine Ab ?_ _ | refine Ad ?_ | refine Aa ?_ _)); refine Am ?_ aa.out _; (with_reducible repeat (first | refine Ab ?_ _ | refine Ad ?_ | refine Aa ?_ _)); exact ac.out) hb); have n1_ := Ac.mk (Ak (g := ak) (o := .cells #[.int .i64 ag, .int .i64 ah, .slice am aj.length an, .int .i64 a1, .int .i64 a2, .int .i64 a3] 58 (0, 0)) (by (with_reducible repeat (first | refine Ab ?_ _ | refine Ad ?_ | refine Aa ?_ _)); refine Aq (cs := #[.int .i64 ag, .int .i64 ah, .slice am aj.length an, .int .i64 a1, .int .i64 a2, .int .i64 0]) ?_ 5 _ rfl; (with_reducible repeat (first | refine Ab ?_ _ | refine Ad ?_ | refine Aa ?_ _)); refine Aq (cs := #[.int .i64 ag, .int .i64 ah, .slice am aj.length an, .int .i64 a1, .int .i64 0, .int .i64 0]) ?_ 4 _ rfl; (with_reducible repeat (first | refine Ab ?_ _ | refine Ad ?_ | refine Aa ?_ _)); refine Aq (cs := #[.int .i64 ag, .int .i64 ah, .slice am aj.length an, .int .i64 0, .int .i64 0, .int .i64 0]) ?_ 3 _ rfl; (with_reducible repeat (first | refine Ab ?_ _ | refine Ad ?_ | refine Aa ?_ _)); refine Aq (cs := #[.int .i64 ag, .int .i64 ah, .slice none 0 0, .int .i64 0, .int .i64 0, .int .i64 0]) ?_ 2 _ rfl; (with_reducible repeat (first | refine Ab ?_ _ | refine Ad ?_ | refine Aa ?_ _)); refine Aq (cs := #[.int .i64 ag, .int .i64 0, .slice none 0 0, .int .i64 0, .int .i64 0, .int .i64 0]) ?_ 1 _ rfl; (with_reducible repeat (first | refine Ab ?_ _ | refine Ad ?_ | refine Aa ?_ _)); refine Aq (cs := #[.int .i64 0, .int .i64 0, .slice none 0 0, .int .i64 0, .int .i64 0, .int .i64 0]) ?_ 0 _ rfl; (with_reducible repeat (first | refine Ab ?_ _ | refine Ad ?_ | refine Aa ?_ _)); exact af.out) hb); have n2_ := Ac.mk (At (by repeat (first | (with_reducible first | exact HB.out | apply Ai | apply Af | apply Aj | refine Ae ?_ au.out | refine Ae ?_ aG.out) | exact HB.out)) hb); clear ac; clear af; clear HB; have ac := n0_; have af := n1_; have HB := n2_; clear n0_ n1_ n2_; (try clear hb); (try clear hb2); (try clear hk); (try clear hi); have er : w46.cell? ⟨ai, 0, none⟩ = some (.int .i64 ag) := (Ag ac.out 0).trans rfl; have es : w46.cell? ⟨ai, 1, none⟩ = some (.int .i64 ah) := (Ag ac.out 1).trans rfl; have et : w46.cell? ⟨ai, 2, none⟩ = some (.slice am aj.length an) := (Ag ac.out 2).trans rfl; have eu := Ah ac.out 0; have ev := Ah ac.out 1; have ew := Ah ac.out 2; have ex : w46.cell? ⟨ak, 0, none⟩ = some (.int .i64 ag) := (Ag af.out 0).trans rfl; have ey : w46.cell? ⟨ak, 1, none⟩ = some (.int .i64 ah) := (Ag af.out 1).trans rfl; have ez : w46.cell? ⟨ak, 2, none⟩ = some (.slice am aj.length an) := (Ag af.out 2).trans rfl; have eA : w46.cell? ⟨ak, 3, none⟩ = some (.int .i64 a1) := (Ag af.out 3).trans rfl; have eB : w46.cell? ⟨ak, 4, none⟩ = some (.int .i64 a2) := (Ag af.out 4).trans rfl; have eC : w46.cell? ⟨ak, 5, none⟩ = some (.int .i64 a3) := (Ag af.out 5).trans rfl; have eD := Ah af.out 0; have eE := Ah af.out 1; have eF := Ah af.out 2; have eG := Ah af.out 3; have eH := Ah af.out 4; have eI := Ah af.out 5) | ((with_reducible refine Be (f := 38) rfl ?_); refine Bv (some 51) rfl rfl Try.func38 (by kernel_rfl) rfl #[.agg #[.int .i64 ag, .int .i64 ah, .slice am aj.length an, .int .i64 a1, .int .i64 a2, .int .i64 a3], .int .i64 a4, .int .i64 a5, .int .i64 a6] rfl (by (try simp only [List.map_toArray, List.map_cons, List.map_nil]); first | done | rfl | (simp only [List.length_drop, List.length_take]; rfl)) ?_; (with_reducible refine (B3.calls ag ah _ _ aj a1 a2 a3 a4 a5 a6 b9 _ ?side1 ?side2 A40.out).mono ?_); (case side1 => repeat (first | exact (Kd.Bo bq.out HB.out) | (with_reducible refine Kd.Ca ?_ _) | (with_reducible refine Kd.B7 ?_ _) | (with_reducible refine Kd.Ce ?_))); (case side2 => exact br.out); rintro e w49 ⟨rfl, hb⟩; refine ⟨_, rfl, ?_⟩; have n0_ := Ac.mk (Ak (g := ai) (o := .cells #[.int .i64 ag, .int .i64 ah, .slice am aj.length an] 25 (0, 0)) (by (with_reducible repeat (first | refine Ab ?_ _ | refine Ad ?_ | refine Aa ?_ _)); exact ac.out) hb); have n1_ := Ac.mk (Ak (g := ak) (o := .cells #[.int .i64 ag, .int .i64 ah, .slice am aj.length an, .int .i64 a1, .int .i64 a2, .int .i64 a3] 58 (0, 0)) (by (with_reducible repeat (first | refine Ab ?_ _ | refine Ad ?_ | refine Aa ?_ _)); exact af.out) hb); have n2_ := Ac.mk (At (by repeat (first | (with_reducible first | exact HB.out | apply Ai | apply Af | apply Aj | refine Ae ?_ au.out | refine Ae ?_ aG.out) | exact HB.out)) hb); clear ac; clear af; clear HB; have ac := n0_; have af := n1_; have HB := n2_; clear n0_ n1_ n2_; (try clear hb); (try clear hb2); (try clear hk); (try clear hi)))
      go_ret2
      exact ⟨by first | rfl | (simp [Bb, Ba] <;> rfl) | (simp [*, Bb, Ba] <;> rfl), by repeat (first | (with_reducible first | exact HB.out | apply Ai | apply Af | apply Aj | refine Ae ?_ au.out | refine Ae ?_ aG.out) | exact HB.out)⟩
 ·rw [if_neg c9] at H
  have e8 : (aZ == 0) = false := beq_eq_false_iff_ne.mpr c9
  have fa : (aZ != 0) = true := bne_iff_ne.mpr c9
  simp only [Option.some.injEq, Prod.mk.injEq] at H
  obtain ⟨rfl, rfl⟩ := H
  go_enter Try.func23, Try.ntmps23
  go_wp2_with (first | ((with_reducible refine Bd (N := 7) rfl ?_); refine Bc ?hg (N := 7) ?hd (cs := #[.int .i64 ag, .int .i64 ah, .slice am aj.length an]) (t := 25) ?hr ?_; (case hd => rfl); (case hg => rfl); (case hr => first | (go_simp; done) | (go_simp; rfl)); intro ai hg w50 hbox hb; have n0_ := Ac.mk (At (by repeat (first | (with_reducible first | exact HB.out | apply Ai | apply Af | apply Aj) | exact HB.out)) hb); have n1_ := Ac.mk (hbox); have n2_ := Ac.mk ((by rw [hg]; exact (Ap (by repeat (first | (with_reducible first | exact HB.out | apply Ai | apply Af | apply Aj) | exact HB.out))) : w.heap.size ≤ ai)); have n3_ := Ac.mk ((by rw [hg]; exact (Ap (by repeat (first | (with_reducible first | exact HB.out | apply Ai | apply Af | apply Aj) | exact HB.out))) : w.heap.size ≤ ai)); clear HB; have HB := n0_; have ac := n1_; have bB := n2_; have au := n3_; clear n0_ n1_ n2_ n3_; clear hb hbox hg; have eJ : w50.cell? ⟨ai, 0, none⟩ = some (.int .i64 ag) := (Ag ac.out 0).trans rfl; have eK : w50.cell? ⟨ai, 1, none⟩ = some (.int .i64 ah) := (Ag ac.out 1).trans rfl; have eL : w50.cell? ⟨ai, 2, none⟩ = some (.slice am aj.length an) := (Ag ac.out 2).trans rfl; have eM := Ah ac.out 0; have eN := Ah ac.out 1; have eO := Ah ac.out 2) | ((with_reducible refine Bd (N := 16) rfl ?_); refine Bc ?hg (N := 16) ?hd (cs := #[.int .i64 0, .int .i64 0, .slice none 0 0, .int .i64 0, .int .i64 0, .int .i64 0]) (t := 58) ?hr ?_; (case hd => rfl); (case hg => rfl); (case hr => first | (go_simp; done) | (go_simp; rfl)); intro ak hg w52 hbox hb; have n0_ := Ac.mk (Ak (g := ai) (o := .cells #[.int .i64 ag, .int .i64 ah, .slice am aj.length an] 25 (0, 0)) (by (with_reducible repeat (first | refine Ab ?_ _ | refine Ad ?_ | refine Aa ?_ _)); exact ac.out) hb); have n1_ := Ac.mk (At (by repeat (first | (with_reducible first | exact HB.out | apply Ai | apply Af | apply Aj | refine Ae ?_ au.out) | exact HB.out)) hb); have n2_ := Ac.mk (hbox); have n3_ := Ac.mk ((by rw [hg]; exact (Ap (by repeat (first | (with_reducible first | exact HB.out | apply Ai | apply Af | apply Aj | refine Ae ?_ au.out) | exact HB.out))) : w.heap.size ≤ ak)); have n4_ := Ac.mk ((by rw [hg]; exact (Ap (by repeat (first | (with_reducible first | exact HB.out | apply Ai | apply Af | apply Aj | refine Ae ?_ au.out) | exact HB.out))) : w.heap.size ≤ ak)); have n5_ := Ac.mk ((by rw [hg]; exact Nat.ne_of_lt (Av (g := ai) (o := .cells #[.int .i64 ag, .int .i64 ah, .slice am aj.length an] 25 (0, 0)) (by (with_reducible repeat (first | refine Ab ?_ _ | refine Ad ?_ | refine Aa ?_ _)); exact ac.out)) : ai ≠ ak)); have n6_ := Ac.mk ((by rw [hg]; exact Nat.ne_of_gt (Av (g := ai) (o := .cells #[.int .i64 ag, .int .i64 ah, .slice am aj.length an] 25 (0, 0)) (by (with_reducible repeat (first | refine Ab ?_ _ | refine Ad ?_ | refine Aa ?_ _)); exact ac.out)) : ak ≠ ai)); clear ac; clear HB; have ac := n0_; have HB := n1_; have af := n2_; have bC := n3_; have aG := n4_; have aa := n5_; have aC := n6_; clear n0_ n1_ n2_ n3_ n4_ n5_ n6_; clear hb hbox hg; have fK := aC.out; have fL := aa.out; have eP : w52.cell? ⟨ak, 0, none⟩ = some (.int .i64 0) := (Ag af.out 0).trans rfl; have eQ : w52.cell? ⟨ak, 1, none⟩ = some (.int .i64 0) := (Ag af.out 1).trans rfl; have eR : w52.cell? ⟨ak, 2, none⟩ = some (.slice none 0 0) := (Ag af.out 2).trans rfl; have eS : w52.cell? ⟨ak, 3, none⟩ = some (.int .i64 0) := (Ag af.out 3).trans rfl; have eT : w52.cell? ⟨ak, 4, none⟩ = some (.int .i64 0) := (Ag af.out 4).trans rfl; have eU : w52.cell? ⟨ak, 5, none⟩ = some (.int .i64 0) := (Ag af.out 5).trans rfl; have eV := Ah af.out 0; have eW := Ah af.out 1; have eX := Ah af.out 2; have eY := Ah af.out 3; have eZ := Ah af.out 4; have e6 := Ah af.out 5) | ((with_reducible refine Be (f := 31) rfl ?_); refine Bv (some 25) rfl rfl Try.func31 (by kernel_rfl) rfl #[.agg #[.int .i64 ag, .int .i64 ah, .slice am aj.length an, .int .i64 a1, .int .i64 a2, .int .i64 a3], .int .i64 a4] rfl (by (try simp only [List.map_toArray, List.map_cons, List.map_nil]); first | done | rfl | (simp only [List.length_drop, List.length_take]; rfl)) ?_; (with_reducible refine (Ax.calls k ag ah _ _ aj a1 a2 a3 a4 aZ _ ?side1 ?side2 A8.out).mono ?_); (case side1 => exact Kd.Bo bq.out (by repeat (first | (with_reducible first | exact HB.out | apply Ai | apply Af | apply Aj | refine Ae ?_ au.out | refine Ae ?_ aG.out) | exact HB.out))); (case side2 => exact br.out); rintro e w55 ⟨rfl, hb⟩; refine ⟨_, rfl, ?_⟩; have n0_ := Ac.mk (Ak (g := ai) (o := .cells #[.int .i64 ag, .int .i64 ah, .slice am aj.length an] 25 (0, 0)) (by (with_reducible repeat (first | refine Ab ?_ _ | refine Ad ?_ | refine Aa ?_ _)); refine Am ?_ aa.out _; (with_reducible repeat (first | refine Ab ?_ _ | refine Ad ?_ | refine Aa ?_ _)); refine Am ?_ aa.out _; (with_reducible repeat (first | refine Ab ?_ _ | refine Ad ?_ | refine Aa ?_ _)); refine Am ?_ aa.out _; (with_reducible repeat (first | refine Ab ?_ _ | refine Ad ?_ | refine Aa ?_ _)); refine Am ?_ aa.out _; (with_reducible repeat (first | refine Ab ?_ _ | refine Ad ?_ | refine Aa ?_ _)); refine Am ?_ aa.out _; (with_reducible repeat (first | refine Ab ?_ _ | refine Ad ?_ | refine Aa ?_ _)); refine Am ?_ aa.out _; (with_reducible repeat (first | refine Ab ?_ _ | refine Ad ?_ | refine Aa ?_ _)); exact ac.out) hb); have n1_ := Ac.mk (Ak (g := ak) (o := .cells #[.int .i64 ag, .int .i64 ah, .slice am aj.length an, .int .i64 a1, .int .i64 a2, .int .i64 a3] 58 (0, 0)) (by (with_reducible repeat (first | refine Ab ?_ _ | refine Ad ?_ | refine Aa ?_ _)); refine Aq (cs := #[.int .i64 ag, .int .i64 ah, .slice am aj.length an, .int .i64 a1, .int .i64 a2, .int .i64 0]) ?_ 5 _ rfl; (with_reducible repeat (first | refine Ab ?_ _ | refine Ad ?_ | refine Aa ?_ _)); refine Aq (cs := #[.int .i64 ag, .int .i64 ah, .slice am aj.length an, .int .i64 a1, .int .i64 0, .int .i64 0]) ?_ 4 _ rfl; (with_reducible repeat (first | refine Ab ?_ _ | refine Ad ?_ | refine Aa ?_ _)); refine Aq (cs := #[.int .i64 ag, .int .i64 ah, .slice am aj.length an, .int .i64 0, .int .i64 0, .int .i64 0]) ?_ 3 _ rfl; (with_reducible repeat (first | refine Ab ?_ _ | refine Ad ?_ | refine Aa ?_ _)); refine Aq (cs := #[.int .i64 ag, .int .i64 ah, .slice none 0 0, .int .i64 0, .int .i64 0, .int .i64 0]) ?_ 2 _ rfl; (with_reducible repeat (first | refine Ab ?_ _ | refine Ad ?_ | refine Aa ?_ _)); refine Aq (cs := #[.int .i64 ag, .int .i64 0, .slice none 0 0, .int .i64 0, .int .i64 0, .int .i64 0]) ?_ 1 _ rfl; (with_reducible repeat (first | refine Ab ?_ _ | refine Ad ?_ | refine Aa ?_ _)); refine Aq (cs := #[.int .i64 0, .int .i64 0, .slice none 0 0, .int .i64 0, .int .i64 0, .int .i64 0]) ?_ 0 _ rfl; (with_reducible repeat (first | refine Ab ?_ _ | refine Ad ?_ | refine Aa ?_ _)); exact af.out) hb); have n2_ := Ac.mk (At (by repeat (first | (with_reducible first | exact HB.out | apply Ai | apply Af | apply Aj | refine Ae ?_ au.out | refine Ae ?_ aG.out) | exact HB.out)) hb); clear ac; clear af; clear HB; have ac := n0_; have af := n1_; have HB := n2_; clear n0_ n1_ n2_; (try clear hb); (try clear hb2); (try clear hk); (try clear hi)))
  go_ret2
  exact ⟨by first | rfl | (simp [Bb, Ba] <;> rfl) | (simp [*, Bb, Ba] <;> rfl), by repeat (first | (with_reducible first | exact HB.out | apply Ai | apply Af | apply Aj | refine Ae ?_ au.out | refine Ae ?_ aG.out) | exact HB.out)⟩

end Go.Proofs.Ythpmkelcjlljmaa.PRB

