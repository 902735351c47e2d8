import Derived.Test.YthpmkelcjlljmaaPRDx0
import Derived.Test.YthpmkelcjlljmaaPRDx1
import Derived.Test.YthpmkelcjlljmaaPRAx3
namespace Go.Proofs.Ythpmkelcjlljmaa.PRD
open Go.Proofs.Ythpmkelcjlljmaa.PRA Go.Proofs.Ythpmkelcjlljmaa.PRB
open Go.RowKit Go.Proofs.YthpmkelcjlljmaaW.PrintWords Go.Proofs.YthpmkelcjlljmaaW.PrintLast Go.Proofs.YthpmkelcjlljmaaW.PrintMore
attribute [local go_sem] max2_int min2_int max_two min_two max_three min_three max_four min_four   -- for this text's walks alone
set_option linter.unusedVariables false
set_option linter.unusedSimpArgs false

mutual
def Ax.j0 : Nat → Int → Int → Int → Int → Bool → Int → Int → List Int → Int → Int → Int → Int → Option (Int × Int × List Int × Int)
  | 0, _, _, _, _, _, _, _, _, _, _, _, _ => none
  | k + 1, x1, x2, x3, x4, x63, x118000, x118001, x118002, x119000, x119001, x119002, x119003 => if x63 = true then (some (0, 0, ([] : List Int), 52)) else (Ax.l0 k x1 x2 x3 x4 x119001 x118000 x118001 x118002 x119000 x119001 x119002 x119003 (wrap64 (x119002 - x119000)) (wrap64 (x119003 - x119001)) ([] : List Int))
def Ax.l0 : Nat → Int → Int → Int → Int → Int → Int → Int → List Int → Int → Int → Int → Int → Int → Int → List Int → Option (Int × Int × List Int × Int)
  | 0, _, _, _, _, _, _, _, _, _, _, _, _, _, _, _ => none
  | k + 1, x1, x2, x3, x4, x16, x118000, x118001, x118002, x119000, x119001, x119002, x119003, x122000, x122001, x122002 => if x16 < x119003 then (Ax.l1 k x1 x2 x3 x4 x16 x119000 x118000 x118001 x118002 x119000 x119001 x119002 x119003 x122000 x122001 x122002) else (some (x122000, x122001, x122002, 0))
def Ax.l1 : Nat → Int → Int → Int → Int → Int → Int → Int → Int → List Int → Int → Int → Int → Int → Int → Int → List Int → Option (Int × Int × List Int × Int)
  | 0, _, _, _, _, _, _, _, _, _, _, _, _, _, _, _, _ => none
  | k + 1, x1, x2, x3, x4, x16, x17, x118000, x118001, x118002, x119000, x119001, x119002, x119003, x122000, x122001, x122002 => if x17 < x119002 then ((Bm.f k x118000 x118001 x118002 x1 x2 x3 x4 x17 x16).bind fun t122 => (if x122002.length < 35184372088832 then (Ax.l1 k x1 x2 x3 x4 x16 (wrap64 (x17 + 1)) x118000 x118001 x118002 x119000 x119001 x119002 x119003 x122000 x122001 (x122002 ++ [t122])) else (none))) else (Ax.l0 k x1 x2 x3 x4 (wrap64 (x16 + 1)) x118000 x118001 x118002 x119000 x119001 x119002 x119003 x122000 x122001 x122002)
end
def Ax.f (k : Nat) (a0_0 : Int) (a0_1 : Int) (l0_2 : List Int) (a1 : Int) (a2 : Int) (a3 : Int) (a4 : Int) (a5_0 : Int) (a5_1 : Int) (a5_2 : Int) (a5_3 : Int) : Option (Int × Int × List Int × Int) := (Bf.f k a0_0 a0_1 l0_2 a1 a2 a3 a4).bind fun t120 => (if t120 = 0 then (if a5_0 < 0 then (Ax.j0 k a1 a2 a3 a4 true a0_0 a0_1 l0_2 a5_0 a5_1 a5_2 a5_3) else (if a5_1 < 0 then (Ax.j0 k a1 a2 a3 a4 true a0_0 a0_1 l0_2 a5_0 a5_1 a5_2 a5_3) else (if a5_0 ≥ a5_2 then (Ax.j0 k a1 a2 a3 a4 true a0_0 a0_1 l0_2 a5_0 a5_1 a5_2 a5_3) else (if a5_1 ≥ a5_3 then (Ax.j0 k a1 a2 a3 a4 true a0_0 a0_1 l0_2 a5_0 a5_1 a5_2 a5_3) else (if a5_2 > a0_0 then (Ax.j0 k a1 a2 a3 a4 true a0_0 a0_1 l0_2 a5_0 a5_1 a5_2 a5_3) else (Ax.j0 k a1 a2 a3 a4 (decide (a5_3 > a0_1)) a0_0 a0_1 l0_2 a5_0 a5_1 a5_2 a5_3)))))) else (some (0, 0, ([] : List Int), t120)))
theorem Ax.mono_l : ∀ k, (∀ y0 y1 y2 y3 y4 y5 y6 y7 y8 y9 y10 y11, LeO (Ax.j0 k y0 y1 y2 y3 y4 y5 y6 y7 y8 y9 y10 y11) (Ax.j0 (k + 1) y0 y1 y2 y3 y4 y5 y6 y7 y8 y9 y10 y11)) ∧ (∀ y0 y1 y2 y3 y4 y5 y6 y7 y8 y9 y10 y11 y12 y13 y14, LeO (Ax.l0 k y0 y1 y2 y3 y4 y5 y6 y7 y8 y9 y10 y11 y12 y13 y14) (Ax.l0 (k + 1) y0 y1 y2 y3 y4 y5 y6 y7 y8 y9 y10 y11 y12 y13 y14)) ∧ (∀ y0 y1 y2 y3 y4 y5 y6 y7 y8 y9 y10 y11 y12 y13 y14 y15, LeO (Ax.l1 k y0 y1 y2 y3 y4 y5 y6 y7 y8 y9 y10 y11 y12 y13 y14 y15) (Ax.l1 (k + 1) y0 y1 y2 y3 y4 y5 y6 y7 y8 y9 y10 y11 y12 y13 y14 y15))
  | 0 => ⟨fun _ _ _ _ _ _ _ _ _ _ _ _ r h => by simp [Ax.j0] at h, fun _ _ _ _ _ _ _ _ _ _ _ _ _ _ _ r h => by simp [Ax.l0] at h, fun _ _ _ _ _ _ _ _ _ _ _ _ _ _ _ _ r h => by simp [Ax.l1] at h⟩
  | k + 1 => by
    obtain ⟨ih0, ih1, ih2⟩ := Ax.mono_l k
    refine ⟨?_, ?_, ?_⟩
    · intro y0 y1 y2 y3 y4 y5 y6 y7 y8 y9 y10 y11
      unfold Ax.j0
      repeat' first
      | (with_reducible exact ih0 _ _ _ _ _ _ _ _ _ _ _ _)
      | (with_reducible exact ih1 _ _ _ _ _ _ _ _ _ _ _ _ _ _ _)
      | (with_reducible exact ih2 _ _ _ _ _ _ _ _ _ _ _ _ _ _ _ _)
      | (with_reducible exact Bf.mono _ _ _ _ _ _ _ _)
      | (with_reducible exact Bm.mono _ _ _ _ _ _ _ _ _ _)
      | (with_reducible exact LeO.refl _)
      | (with_reducible exact LeO.none _)
      | (with_reducible refine LeO.ite ?_ ?_)
      | (with_reducible refine LeO.bind ?_ (fun _ => ?_))
      | exact ih0 _ _ _ _ _ _ _ _ _ _ _ _
      | exact ih1 _ _ _ _ _ _ _ _ _ _ _ _ _ _ _
      | exact ih2 _ _ _ _ _ _ _ _ _ _ _ _ _ _ _ _
      | exact Bf.mono _ _ _ _ _ _ _ _
      | exact Bm.mono _ _ _ _ _ _ _ _ _ _
      | exact LeO.none _
      | refine LeO.ite ?_ ?_
      | refine LeO.bind ?_ (fun _ => ?_)
    · intro y0 y1 y2 y3 y4 y5 y6 y7 y8 y9 y10 y11 y12 y13 y14
      unfold Ax.l0
      repeat' first
      | (with_reducible exact ih0 _ _ _ _ _ _ _ _ _ _ _ _)
      | (with_reducible exact ih1 _ _ _ _ _ _ _ _ _ _ _ _ _ _ _)
      | (with_reducible exact ih2 _ _ _ _ _ _ _ _ _ _ _ _ _ _ _ _)
      | (with_reducible exact Bf.mono _ _ _ _ _ _ _ _)
      | (with_reducible exact Bm.mono _ _ _ _ _ _ _ _ _ _)
      | (with_reducible exact LeO.refl _)
      | (with_reducible exact LeO.none _)
      | (with_reducible refine LeO.ite ?_ ?_)
      | (with_reducible refine LeO.bind ?_ (fun _ => ?_))
      | exact ih0 _ _ _ _ _ _ _ _ _ _ _ _
      | exact ih1 _ _ _ _ _ _ _ _ _ _ _ _ _ _ _
      | exact ih2 _ _ _ _ _ _ _ _ _ _ _ _ _ _ _ _
      | exact Bf.mono _ _ _ _ _ _ _ _
      | exact Bm.mono _ _ _ _ _ _ _ _ _ _
      | exact LeO.none _
      | refine LeO.ite ?_ ?_
      | refine LeO.bind ?_ (fun _ => ?_)
    · intro y0 y1 y2 y3 y4 y5 y6 y7 y8 y9 y10 y11 y12 y13 y14 y15
      unfold Ax.l1
      repeat' first
      | (with_reducible exact ih0 _ _ _ _ _ _ _ _ _ _ _ _)
      | (with_reducible exact ih1 _ _ _ _ _ _ _ _ _ _ _ _ _ _ _)
      | (with_reducible exact ih2 _ _ _ _ _ _ _ _ _ _ _ _ _ _ _ _)
      | (with_reducible exact Bf.mono _ _ _ _ _ _ _ _)
      | (with_reducible exact Bm.mono _ _ _ _ _ _ _ _ _ _)
      | (with_reducible exact LeO.refl _)
      | (with_reducible exact LeO.none _)
      | (with_reducible refine LeO.ite ?_ ?_)
      | (with_reducible refine LeO.bind ?_ (fun _ => ?_))
      | exact ih0 _ _ _ _ _ _ _ _ _ _ _ _
      | exact ih1 _ _ _ _ _ _ _ _ _ _ _ _ _ _ _
      | exact ih2 _ _ _ _ _ _ _ _ _ _ _ _ _ _ _ _
      | exact Bf.mono _ _ _ _ _ _ _ _
      | exact Bm.mono _ _ _ _ _ _ _ _ _ _
      | exact LeO.none _
      | refine LeO.ite ?_ ?_
      | refine LeO.bind ?_ (fun _ => ?_)
theorem Ax.mono : ∀ a0 a1 a2 a3 a4 a5 a6 a7 a8 a9 a10 k, LeO (Ax.f k a0 a1 a2 a3 a4 a5 a6 a7 a8 a9 a10) (Ax.f (k + 1) a0 a1 a2 a3 a4 a5 a6 a7 a8 a9 a10) := by
  intro a0 a1 a2 a3 a4 a5 a6 a7 a8 a9 a10 k
  obtain ⟨ih0, ih1, ih2⟩ := Ax.mono_l k
  unfold Ax.f
  repeat' first
      | (with_reducible exact ih0 _ _ _ _ _ _ _ _ _ _ _ _)
      | (with_reducible exact ih1 _ _ _ _ _ _ _ _ _ _ _ _ _ _ _)
      | (with_reducible exact ih2 _ _ _ _ _ _ _ _ _ _ _ _ _ _ _ _)
      | (with_reducible exact Bf.mono _ _ _ _ _ _ _ _)
      | (with_reducible exact Bm.mono _ _ _ _ _ _ _ _ _ _)
      | (with_reducible exact LeO.refl _)
      | (with_reducible exact LeO.none _)
      | (with_reducible refine LeO.ite ?_ ?_)
      | (with_reducible refine LeO.bind ?_ (fun _ => ?_))
      | exact ih0 _ _ _ _ _ _ _ _ _ _ _ _
      | exact ih1 _ _ _ _ _ _ _ _ _ _ _ _ _ _ _
      | exact ih2 _ _ _ _ _ _ _ _ _ _ _ _ _ _ _ _
      | exact Bf.mono _ _ _ _ _ _ _ _
      | exact Bm.mono _ _ _ _ _ _ _ _ _ _
      | exact LeO.none _
      | refine LeO.ite ?_ ?_
      | refine LeO.bind ?_ (fun _ => ?_)
def Ax.T13 : Bool × List (List Nat × List Nat) := (true, [([], []), ([0], [0]), ([], []), ([], []), ([], []), ([], []), ([], []), ([], []), ([], []), ([2, 3, 4, 5, 6, 7, 8], [2, 3, 4, 5, 6, 7, 8]), ([9], [9]), ([1, 10, 9], [1, 10]), ([0, 1, 2, 3, 4, 5, 6, 7, 8, 9, 10, 11], []), ([12, 11, 11, 0, 1, 2, 3, 4, 5, 6, 7, 8, 9, 10, 11], [11, 12])])
def Ax.B13 : List Nat := [0, 1, 0, 0, 0, 0, 0, 0, 0, 508, 1020, 2047, 4095, 8191]
theorem Ax.tab13 : rtab .any (opsOf Try.f20 13) = Ax.T13 := by kernel_rfl
theorem Ax.bits13 : waitsOk Ax.T13.2 Ax.B13 = true := by kernel_rfl
set_option maxHeartbeats 8000000 in
set_option maxRecDepth 100000 in
theorem Ax.calls (k : Nat) (a0_0 : Int) (a0_1 : Int) (A0_2 : Option Addr) (c0_2 : Nat) (l0_2 : List Int) (a1 : Int) (a2 : Int) (a3 : Int) (a4 : Int) (a5_0 : Int) (a5_1 : Int) (a5_2 : Int) (a5_3 : Int) (r1 : Int) (r2 : Int) (r3 : List Int) (r4 : Int) (w : World) (hr0_2 : Kd.C (Kd.int .u32) w A0_2 l0_2.length l0_2) (hc0_2 : l0_2.length ≤ c0_2) (h : Ax.f k a0_0 a0_1 l0_2 a1 a2 a3 a4 a5_0 a5_1 a5_2 a5_3 = some (r1, r2, r3, r4)) :
    Calls Try.prog 20 #[.agg #[.int .i64 a0_0, .int .i64 a0_1, .slice A0_2 l0_2.length c0_2], .int .i64 a1, .int .i64 a2, .int .i64 a3, .int .i64 a4, .agg #[.int .i64 a5_0, .int .i64 a5_1, .int .i64 a5_2, .int .i64 a5_3]] w fun e w' => ∃ v2_ : Value, e = .returned (.tuple #[.agg #[.int .i64 r1, .int .i64 r2, v2_], .int .i64 r4]) ∧ Kd.R (Kd.int .u32) 41 w' w.heap.size (fun _ => True) v2_ r3 ∧ Below w.heap.size w w' := by
  have hu25 := Try.underlying25
  have hu38 := Try.underlying38
  have HR0_2 := Ad.mk hr0_2
  have HC0_2 := Ad.mk hc0_2
  clear hr0_2 hc0_2
  have HB := Ad.mk (Below.refl w.heap.size w)
  have H : ((Bf.f k a0_0 a0_1 l0_2 a1 a2 a3 a4).bind fun t120 => (if t120 = 0 then (if a5_0 < 0 then (Ax.j0 k a1 a2 a3 a4 true a0_0 a0_1 l0_2 a5_0 a5_1 a5_2 a5_3) else (if a5_1 < 0 then (Ax.j0 k a1 a2 a3 a4 true a0_0 a0_1 l0_2 a5_0 a5_1 a5_2 a5_3) else (if a5_0 ≥ a5_2 then (Ax.j0 k a1 a2 a3 a4 true a0_0 a0_1 l0_2 a5_0 a5_1 a5_2 a5_3) else (if a5_1 ≥ a5_3 then (Ax.j0 k a1 a2 a3 a4 true a0_0 a0_1 l0_2 a5_0 a5_1 a5_2 a5_3) else (if a5_2 > a0_0 then (Ax.j0 k a1 a2 a3 a4 true a0_0 a0_1 l0_2 a5_0 a5_1 a5_2 a5_3) else (Ax.j0 k a1 a2 a3 a4 (decide (a5_3 > a0_1)) a0_0 a0_1 l0_2 a5_0 a5_1 a5_2 a5_3)))))) else (some (0, 0, ([] : List Int), t120)))) = some (r1, r2, r3, r4) := h
  clear h
  replace H := Option.bind_eq_some_iff.mp H
  obtain ⟨t120, A70, H⟩ := H
  replace H : (if t120 = 0 then (if a5_0 < 0 then (Ax.j0 k a1 a2 a3 a4 true a0_0 a0_1 l0_2 a5_0 a5_1 a5_2 a5_3) else (if a5_1 < 0 then (Ax.j0 k a1 a2 a3 a4 true a0_0 a0_1 l0_2 a5_0 a5_1 a5_2 a5_3) else (if a5_0 ≥ a5_2 then (Ax.j0 k a1 a2 a3 a4 true a0_0 a0_1 l0_2 a5_0 a5_1 a5_2 a5_3) else (if a5_1 ≥ a5_3 then (Ax.j0 k a1 a2 a3 a4 true a0_0 a0_1 l0_2 a5_0 a5_1 a5_2 a5_3) else (if a5_2 > a0_0 then (Ax.j0 k a1 a2 a3 a4 true a0_0 a0_1 l0_2 a5_0 a5_1 a5_2 a5_3) else (Ax.j0 k a1 a2 a3 a4 (decide (a5_3 > a0_1)) a0_0 a0_1 l0_2 a5_0 a5_1 a5_2 a5_3)))))) else (some (0, 0, ([] : List Int), t120))) = some (r1, r2, r3, r4) := H
  have A7 := Ad.mk A70
  clear A70
  by_cases c8 : t120 = 0
  · rw [if_pos c8] at H
    have c8b0 : (t120 == 0) = true := beq_iff_eq.mpr c8
    have c8b1 : (t120 != 0) = false := bne_eq_false_iff_eq.mpr c8
    clear c8
    have HC9 := Ad.mk H
    clear H
    go_enter Try.func20, Try.ntmps20
    go_upto_region 4 with (first | ((with_reducible refine Bj (N := 6) rfl ?_); refine Bh ?hg (N := 6) ?hd (cs := #[.int .i64 a0_0, .int .i64 a0_1, .slice A0_2 l0_2.length c0_2]) (t := 25) ?hr ?_; (case hd => rfl); (case hg => rfl); (case hr => first | (go_simp; done) | (go_simp; rfl)); intro gb117 hg w10 hbox hb; have n0_ := Ad.mk (Ar (by repeat (first | (with_reducible first | exact HB.out | apply Ah | apply Af | apply Ai) | exact HB.out)) hb); have n1_ := Ad.mk (hbox); have n2_ := Ad.mk ((by rw [hg]; exact (Ap (by repeat (first | (with_reducible first | exact HB.out | apply Ah | apply Af | apply Ai) | exact HB.out))) : w.heap.size ≤ gb117)); have n3_ := Ad.mk ((by rw [hg]; exact (Ap (by repeat (first | (with_reducible first | exact HB.out | apply Ah | apply Af | apply Ai) | exact HB.out))) : w.heap.size ≤ gb117)); clear HB; have HB := n0_; have BK117 := n1_; have GW117 := n2_; have GE117 := n3_; clear n0_ n1_ n2_ n3_; clear hb hbox hg) | ((with_reducible refine Bj (N := 11) rfl ?_); refine Bh ?hg (N := 11) ?hd (cs := #[.int .i64 a5_0, .int .i64 a5_1, .int .i64 a5_2, .int .i64 a5_3]) (t := 38) ?hr ?_; (case hd => rfl); (case hg => rfl); (case hr => first | (go_simp; done) | (go_simp; rfl)); intro gb118 hg w11 hbox hb; have n0_ := Ad.mk (Ak (g := gb117) (o := .cells #[.int .i64 a0_0, .int .i64 a0_1, .slice A0_2 l0_2.length c0_2] 25 (0, 0)) (by (with_reducible repeat (first | refine Ab ?_ _ | refine Ac ?_ | refine Aa ?_ _)); exact BK117.out) hb); have n1_ := Ad.mk (Ar (by repeat (first | (with_reducible first | exact HB.out | apply Ah | apply Af | apply Ai | refine Ae ?_ GE117.out) | exact HB.out)) hb); have n2_ := Ad.mk (hbox); have n3_ := Ad.mk ((by rw [hg]; exact (Ap (by repeat (first | (with_reducible first | exact HB.out | apply Ah | apply Af | apply Ai | refine Ae ?_ GE117.out) | exact HB.out))) : w.heap.size ≤ gb118)); have n4_ := Ad.mk ((by rw [hg]; exact (Ap (by repeat (first | (with_reducible first | exact HB.out | apply Ah | apply Af | apply Ai | refine Ae ?_ GE117.out) | exact HB.out))) : w.heap.size ≤ gb118)); have n5_ := Ad.mk ((by rw [hg]; exact Nat.ne_of_lt (Aw (g := gb117) (o := .cells #[.int .i64 a0_0, .int .i64 a0_1, .slice A0_2 l0_2.length c0_2] 25 (0, 0)) (by (with_reducible repeat (first | refine Ab ?_ _ | refine Ac ?_ | refine Aa ?_ _)); exact BK117.out)) : gb117 ≠ gb118)); have n6_ := Ad.mk ((by rw [hg]; exact Nat.ne_of_gt (Aw (g := gb117) (o := .cells #[.int .i64 a0_0, .int .i64 a0_1, .slice A0_2 l0_2.length c0_2] 25 (0, 0)) (by (with_reducible repeat (first | refine Ab ?_ _ | refine Ac ?_ | refine Aa ?_ _)); exact BK117.out)) : gb118 ≠ gb117)); clear BK117; clear HB; have BK117 := n0_; have HB := n1_; have BK118 := n2_; have GW118 := n3_; have GE118 := n4_; have NB117_118 := n5_; have NB118_117 := n6_; clear n0_ n1_ n2_ n3_ n4_ n5_ n6_; clear hb hbox hg) | ((with_reducible refine Bj (N := 12) rfl ?_); refine Bh ?hg (N := 12) ?hd (cs := #[.int .i64 0, .int .i64 0, .slice none 0 0]) (t := 25) ?hr ?_; (case hd => rfl); (case hg => rfl); (case hr => first | (go_simp; done) | (go_simp; rfl)); intro gb119 hg w12 hbox hb; have n0_ := Ad.mk (Ak (g := gb117) (o := .cells #[.int .i64 a0_0, .int .i64 a0_1, .slice A0_2 l0_2.length c0_2] 25 (0, 0)) (by (with_reducible repeat (first | refine Ab ?_ _ | refine Ac ?_ | refine Aa ?_ _)); exact BK117.out) hb); have n1_ := Ad.mk (Ak (g := gb118) (o := .cells #[.int .i64 a5_0, .int .i64 a5_1, .int .i64 a5_2, .int .i64 a5_3] 38 (0, 0)) (by (with_reducible repeat (first | refine Ab ?_ _ | refine Ac ?_ | refine Aa ?_ _)); exact BK118.out) hb); have n2_ := Ad.mk (Ar (by repeat (first | (with_reducible first | exact HB.out | apply Ah | apply Af | apply Ai | refine Ae ?_ GE117.out | refine Ae ?_ GE118.out) | exact HB.out)) hb); have n3_ := Ad.mk (hbox); have n4_ := Ad.mk ((by rw [hg]; exact (Ap (by repeat (first | (with_reducible first | exact HB.out | apply Ah | apply Af | apply Ai | refine Ae ?_ GE117.out | refine Ae ?_ GE118.out) | exact HB.out))) : w.heap.size ≤ gb119)); have n5_ := Ad.mk ((by rw [hg]; exact (Ap (by repeat (first | (with_reducible first | exact HB.out | apply Ah | apply Af | apply Ai | refine Ae ?_ GE117.out | refine Ae ?_ GE118.out) | exact HB.out))) : w.heap.size ≤ gb119)); have n6_ := Ad.mk ((by rw [hg]; exact Nat.ne_of_lt (Aw (g := gb117) (o := .cells #[.int .i64 a0_0, .int .i64 a0_1, .slice A0_2 l0_2.length c0_2] 25 (0, 0)) (by (with_reducible repeat (first | refine Ab ?_ _ | refine Ac ?_ | refine Aa ?_ _)); exact BK117.out)) : gb117 ≠ gb119)); have n7_ := Ad.mk ((by rw [hg]; exact Nat.ne_of_gt (Aw (g := gb117) (o := .cells #[.int .i64 a0_0, .int .i64 a0_1, .slice A0_2 l0_2.length c0_2] 25 (0, 0)) (by (with_reducible repeat (first | refine Ab ?_ _ | refine Ac ?_ | refine Aa ?_ _)); exact BK117.out)) : gb119 ≠ gb117)); have n8_ := Ad.mk ((by rw [hg]; exact Nat.ne_of_lt (Aw (g := gb118) (o := .cells #[.int .i64 a5_0, .int .i64 a5_1, .int .i64 a5_2, .int .i64 a5_3] 38 (0, 0)) (by (with_reducible repeat (first | refine Ab ?_ _ | refine Ac ?_ | refine Aa ?_ _)); exact BK118.out)) : gb118 ≠ gb119)); have n9_ := Ad.mk ((by rw [hg]; exact Nat.ne_of_gt (Aw (g := gb118) (o := .cells #[.int .i64 a5_0, .int .i64 a5_1, .int .i64 a5_2, .int .i64 a5_3] 38 (0, 0)) (by (with_reducible repeat (first | refine Ab ?_ _ | refine Ac ?_ | refine Aa ?_ _)); exact BK118.out)) : gb119 ≠ gb118)); clear BK117; clear BK118; clear HB; have BK117 := n0_; have BK118 := n1_; have HB := n2_; have BK119 := n3_; have GW119 := n4_; have GE119 := n5_; have NB117_119 := n6_; have NB119_117 := n7_; have NB118_119 := n8_; have NB119_118 := n9_; clear n0_ n1_ n2_ n3_ n4_ n5_ n6_ n7_ n8_ n9_; clear hb hbox hg; have hnb13 := NB117_118.out; have hnc13 := NB118_117.out; have hnb14 := NB117_119.out; have hnc14 := NB119_117.out; have hcz15_0 : w12.cell? ⟨gb117, 0, none⟩ = some (.int .i64 a0_0) := (Aj BK117.out 0).trans rfl; have hcz15_1 : w12.cell? ⟨gb117, 1, none⟩ = some (.int .i64 a0_1) := (Aj BK117.out 1).trans rfl; have hcz15_2 : w12.cell? ⟨gb117, 2, none⟩ = some (.slice A0_2 l0_2.length c0_2) := (Aj BK117.out 2).trans rfl; have hfz15_0 := Ag BK117.out 0; have hfz15_1 := Ag BK117.out 1; have hfz15_2 := Ag BK117.out 2) | ((with_reducible refine Bi (f := 30) rfl ?_); refine Bx (some 23) rfl rfl Try.func30 (by kernel_rfl) rfl #[.agg #[.int .i64 a0_0, .int .i64 a0_1, .slice A0_2 l0_2.length c0_2], .int .i64 a1, .int .i64 a2, .int .i64 a3, .int .i64 a4] rfl (by (try simp only [List.map_toArray, List.map_cons, List.map_nil]); first | done | rfl | (simp only [List.length_drop, List.length_take]; rfl)) ?_; (with_reducible refine (Bf.calls k a0_0 a0_1 _ _ l0_2 a1 a2 a3 a4 t120 _ ?side1 ?side2 A7.out).mono ?_); (case side1 => repeat (first | exact (Kd.Bw HR0_2.out HB.out) | (with_reducible refine Kd.B5 ?_ _) | (with_reducible refine Kd.B6 ?_ _) | (with_reducible refine Kd.Ca ?_))); (case side2 => exact HC0_2.out); rintro e w16 ⟨rfl, hb⟩; refine ⟨_, rfl, ?_⟩; have n0_ := Ad.mk (Ak (g := gb117) (o := .cells #[.int .i64 a0_0, .int .i64 a0_1, .slice A0_2 l0_2.length c0_2] 25 (0, 0)) (by (with_reducible repeat (first | refine Ab ?_ _ | refine Ac ?_ | refine Aa ?_ _)); exact BK117.out) hb); have n1_ := Ad.mk (Ak (g := gb118) (o := .cells #[.int .i64 a5_0, .int .i64 a5_1, .int .i64 a5_2, .int .i64 a5_3] 38 (0, 0)) (by (with_reducible repeat (first | refine Ab ?_ _ | refine Ac ?_ | refine Aa ?_ _)); exact BK118.out) hb); have n2_ := Ad.mk (Ak (g := gb119) (o := .cells #[.int .i64 0, .int .i64 0, .slice none 0 0] 25 (0, 0)) (by (with_reducible repeat (first | refine Ab ?_ _ | refine Ac ?_ | refine Aa ?_ _)); exact BK119.out) hb); have n3_ := Ad.mk (Ar (by repeat (first | (with_reducible first | exact HB.out | apply Ah | apply Af | apply Ai | refine Ae ?_ GE117.out | refine Ae ?_ GE118.out | refine Ae ?_ GE119.out) | exact HB.out)) hb); clear BK117; clear BK118; clear BK119; clear HB; have BK117 := n0_; have BK118 := n1_; have BK119 := n2_; have HB := n3_; clear n0_ n1_ n2_ n3_; (try clear hb); (try clear hb2); (try clear hk); (try clear hi)))
    (try simp only [Act.put, List.setIfInBounds_toArray, List.set_cons_zero, List.set_cons_succ])
    go_cut [63] (fun v63 wc => ∃ (kq : Nat) (x63_8 : Bool), v63 = .bool x63_8 ∧ Ad (Ax.j0 kq a1 a2 a3 a4 x63_8 a0_0 a0_1 l0_2 a5_0 a5_1 a5_2 a5_3 = some (r1, r2, r3, r4)) ∧ Ad (kq ≤ k) ∧ Ad (wc.heap[gb117]? = some (.cells #[.int .i64 a0_0, .int .i64 a0_1, (.slice A0_2 l0_2.length c0_2)] 25 (0, 0))) ∧ Ad (wc.heap[gb118]? = some (.cells #[.int .i64 a5_0, .int .i64 a5_1, .int .i64 a5_2, .int .i64 a5_3] 38 (0, 0))) ∧ Ad (wc.heap[gb119]? = some (.cells #[.int .i64 0, .int .i64 0, (.slice none 0 0)] 25 (0, 0))) ∧ Ad (Below w.heap.size w wc))
    case first =>
      have H := HC9.out
      clear HC9
      by_cases c17 : a5_0 < 0
      · rw [if_pos c17] at H
        have c17b0 : decide (a5_0 < 0) = true := decide_eq_true c17
        clear c17
        (first | rw [c17b0] | (simp only [i64_w, i32_w]; rw [c17b0]) | skip)
        have H' := Ad.mk H
        clear H
        have hnb18 := NB118_117.out
        have hnc18 := NB117_118.out
        have hnb19 := NB118_119.out
        have hnc19 := NB119_118.out
        have hcz20_0 : w16.cell? ⟨gb118, 0, none⟩ = some (.int .i64 a5_0) := (Aj BK118.out 0).trans rfl
        have hcz20_1 : w16.cell? ⟨gb118, 1, none⟩ = some (.int .i64 a5_1) := (Aj BK118.out 1).trans rfl
        have hcz20_2 : w16.cell? ⟨gb118, 2, none⟩ = some (.int .i64 a5_2) := (Aj BK118.out 2).trans rfl
        have hcz20_3 : w16.cell? ⟨gb118, 3, none⟩ = some (.int .i64 a5_3) := (Aj BK118.out 3).trans rfl
        have hfz20_0 := Ag BK118.out 0
        have hfz20_1 := Ag BK118.out 1
        have hfz20_2 := Ag BK118.out 2
        have hfz20_3 := Ag BK118.out 3
        go_wp2
        go_meet
        case rel => exact ⟨_, (true), (by first | rfl | (simp; done) | (simp [*]; done)), H', ⟨by first | omega | exact Nat.le_refl _⟩, ⟨by (with_reducible repeat (first | refine Ab ?_ _ | refine Ac ?_ | refine Aa ?_ _)); exact BK117.out⟩, ⟨by (with_reducible repeat (first | refine Ab ?_ _ | refine Ac ?_ | refine Aa ?_ _)); exact BK118.out⟩, ⟨by (with_reducible repeat (first | refine Ab ?_ _ | refine Ac ?_ | refine Aa ?_ _)); exact BK119.out⟩, ⟨by repeat (first | (with_reducible first | exact HB.out | apply Ah | apply Af | apply Ai | refine Ae ?_ GE117.out | refine Ae ?_ GE118.out | refine Ae ?_ GE119.out) | exact HB.out)⟩⟩
      · rw [if_neg c17] at H
        have c17b0 : decide (a5_0 < 0) = false := decide_eq_false c17
        clear c17
        (first | rw [c17b0] | (simp only [i64_w, i32_w]; rw [c17b0]) | skip)
        by_cases c21 : a5_1 < 0
        · rw [if_pos c21] at H
          have c21b0 : decide (a5_1 < 0) = true := decide_eq_true c21
          clear c21
          have H' := Ad.mk H
          clear H
          have hnb22 := NB118_117.out
          have hnc22 := NB117_118.out
          have hnb23 := NB118_119.out
          have hnc23 := NB119_118.out
          have hcz24_0 : w16.cell? ⟨gb118, 0, none⟩ = some (.int .i64 a5_0) := (Aj BK118.out 0).trans rfl
          have hcz24_1 : w16.cell? ⟨gb118, 1, none⟩ = some (.int .i64 a5_1) := (Aj BK118.out 1).trans rfl
          have hcz24_2 : w16.cell? ⟨gb118, 2, none⟩ = some (.int .i64 a5_2) := (Aj BK118.out 2).trans rfl
          have hcz24_3 : w16.cell? ⟨gb118, 3, none⟩ = some (.int .i64 a5_3) := (Aj BK118.out 3).trans rfl
          have hfz24_0 := Ag BK118.out 0
          have hfz24_1 := Ag BK118.out 1
          have hfz24_2 := Ag BK118.out 2
          have hfz24_3 := Ag BK118.out 3
          go_wp2
          go_meet
          case rel => exact ⟨_, (true), (by first | rfl | (simp; done) | (simp [*]; done)), H', ⟨by first | omega | exact Nat.le_refl _⟩, ⟨by (with_reducible repeat (first | refine Ab ?_ _ | refine Ac ?_ | refine Aa ?_ _)); exact BK117.out⟩, ⟨by (with_reducible repeat (first | refine Ab ?_ _ | refine Ac ?_ | refine Aa ?_ _)); exact BK118.out⟩, ⟨by (with_reducible repeat (first | refine Ab ?_ _ | refine Ac ?_ | refine Aa ?_ _)); exact BK119.out⟩, ⟨by repeat (first | (with_reducible first | exact HB.out | apply Ah | apply Af | apply Ai | refine Ae ?_ GE117.out | refine Ae ?_ GE118.out | refine Ae ?_ GE119.out) | exact HB.out)⟩⟩
        · rw [if_neg c21] at H
          have c21b0 : decide (a5_1 < 0) = false := decide_eq_false c21
          clear c21
          by_cases c25 : a5_0 ≥ a5_2
          · rw [if_pos c25] at H
            have c25b0 : decide (a5_2 ≤ a5_0) = true := decide_eq_true c25
            clear c25
            have H' := Ad.mk H
            clear H
            have hnb26 := NB118_117.out
            have hnc26 := NB117_118.out
            have hnb27 := NB118_119.out
            have hnc27 := NB119_118.out
            have hcz28_0 : w16.cell? ⟨gb118, 0, none⟩ = some (.int .i64 a5_0) := (Aj BK118.out 0).trans rfl
            have hcz28_1 : w16.cell? ⟨gb118, 1, none⟩ = some (.int .i64 a5_1) := (Aj BK118.out 1).trans rfl
            have hcz28_2 : w16.cell? ⟨gb118, 2, none⟩ = some (.int .i64 a5_2) := (Aj BK118.out 2).trans rfl
            have hcz28_3 : w16.cell? ⟨gb118, 3, none⟩ = some (.int .i64 a5_3) := (Aj BK118.out 3).trans rfl
            have hfz28_0 := Ag BK118.out 0
            have hfz28_1 := Ag BK118.out 1
            have hfz28_2 := Ag BK118.out 2
            have hfz28_3 := Ag BK118.out 3
            go_wp2
            go_meet
            case rel => exact ⟨_, (true), (by first | rfl | (simp; done) | (simp [*]; done)), H', ⟨by first | omega | exact Nat.le_refl _⟩, ⟨by (with_reducible repeat (first | refine Ab ?_ _ | refine Ac ?_ | refine Aa ?_ _)); exact BK117.out⟩, ⟨by (with_reducible repeat (first | refine Ab ?_ _ | refine Ac ?_ | refine Aa ?_ _)); exact BK118.out⟩, ⟨by (with_reducible repeat (first | refine Ab ?_ _ | refine Ac ?_ | refine Aa ?_ _)); exact BK119.out⟩, ⟨by repeat (first | (with_reducible first | exact HB.out | apply Ah | apply Af | apply Ai | refine Ae ?_ GE117.out | refine Ae ?_ GE118.out | refine Ae ?_ GE119.out) | exact HB.out)⟩⟩
          · rw [if_neg c25] at H
            have c25b0 : decide (a5_2 ≤ a5_0) = false := decide_eq_false c25
            clear c25
            by_cases c29 : a5_1 ≥ a5_3
            · rw [if_pos c29] at H
              have c29b0 : decide (a5_3 ≤ a5_1) = true := decide_eq_true c29
              clear c29
              have H' := Ad.mk H
              clear H
              have hnb30 := NB118_117.out
              have hnc30 := NB117_118.out
              have hnb31 := NB118_119.out
              have hnc31 := NB119_118.out
              have hcz32_0 : w16.cell? ⟨gb118, 0, none⟩ = some (.int .i64 a5_0) := (Aj BK118.out 0).trans rfl
              have hcz32_1 : w16.cell? ⟨gb118, 1, none⟩ = some (.int .i64 a5_1) := (Aj BK118.out 1).trans rfl
              have hcz32_2 : w16.cell? ⟨gb118, 2, none⟩ = some (.int .i64 a5_2) := (Aj BK118.out 2).trans rfl
              have hcz32_3 : w16.cell? ⟨gb118, 3, none⟩ = some (.int .i64 a5_3) := (Aj BK118.out 3).trans rfl
              have hfz32_0 := Ag BK118.out 0
              have hfz32_1 := Ag BK118.out 1
              have hfz32_2 := Ag BK118.out 2
              have hfz32_3 := Ag BK118.out 3
              go_wp2
              go_meet
              case rel => exact ⟨_, (true), (by first | rfl | (simp; done) | (simp [*]; done)), H', ⟨by first | omega | exact Nat.le_refl _⟩, ⟨by (with_reducible repeat (first | refine Ab ?_ _ | refine Ac ?_ | refine Aa ?_ _)); exact BK117.out⟩, ⟨by (with_reducible repeat (first | refine Ab ?_ _ | refine Ac ?_ | refine Aa ?_ _)); exact BK118.out⟩, ⟨by (with_reducible repeat (first | refine Ab ?_ _ | refine Ac ?_ | refine Aa ?_ _)); exact BK119.out⟩, ⟨by repeat (first | (with_reducible first | exact HB.out | apply Ah | apply Af | apply Ai | refine Ae ?_ GE117.out | refine Ae ?_ GE118.out | refine Ae ?_ GE119.out) | exact HB.out)⟩⟩
            · rw [if_neg c29] at H
              have c29b0 : decide (a5_3 ≤ a5_1) = false := decide_eq_false c29
              clear c29
              by_cases c33 : a5_2 > a0_0
              · rw [if_pos c33] at H
                have c33b0 : decide (a0_0 < a5_2) = true := decide_eq_true c33
                clear c33
                have H' := Ad.mk H
                clear H
                have hnb34 := NB118_117.out
                have hnc34 := NB117_118.out
                have hnb35 := NB118_119.out
                have hnc35 := NB119_118.out
                have hcz36_0 : w16.cell? ⟨gb118, 0, none⟩ = some (.int .i64 a5_0) := (Aj BK118.out 0).trans rfl
                have hcz36_1 : w16.cell? ⟨gb118, 1, none⟩ = some (.int .i64 a5_1) := (Aj BK118.out 1).trans rfl
                have hcz36_2 : w16.cell? ⟨gb118, 2, none⟩ = some (.int .i64 a5_2) := (Aj BK118.out 2).trans rfl
                have hcz36_3 : w16.cell? ⟨gb118, 3, none⟩ = some (.int .i64 a5_3) := (Aj BK118.out 3).trans rfl
                have hfz36_0 := Ag BK118.out 0
                have hfz36_1 := Ag BK118.out 1
                have hfz36_2 := Ag BK118.out 2
                have hfz36_3 := Ag BK118.out 3
                have hnb37 := NB117_119.out
                have hnc37 := NB119_117.out
                have hcz38_0 : w16.cell? ⟨gb117, 0, none⟩ = some (.int .i64 a0_0) := (Aj BK117.out 0).trans rfl
                have hcz38_1 : w16.cell? ⟨gb117, 1, none⟩ = some (.int .i64 a0_1) := (Aj BK117.out 1).trans rfl
                have hcz38_2 : w16.cell? ⟨gb117, 2, none⟩ = some (.slice A0_2 l0_2.length c0_2) := (Aj BK117.out 2).trans rfl
                have hfz38_0 := Ag BK117.out 0
                have hfz38_1 := Ag BK117.out 1
                have hfz38_2 := Ag BK117.out 2
                go_wp2
                go_meet
                case rel => exact ⟨_, (true), (by first | rfl | (simp; done) | (simp [*]; done)), H', ⟨by first | omega | exact Nat.le_refl _⟩, ⟨by (with_reducible repeat (first | refine Ab ?_ _ | refine Ac ?_ | refine Aa ?_ _)); exact BK117.out⟩, ⟨by (with_reducible repeat (first | refine Ab ?_ _ | refine Ac ?_ | refine Aa ?_ _)); exact BK118.out⟩, ⟨by (with_reducible repeat (first | refine Ab ?_ _ | refine Ac ?_ | refine Aa ?_ _)); exact BK119.out⟩, ⟨by repeat (first | (with_reducible first | exact HB.out | apply Ah | apply Af | apply Ai | refine Ae ?_ GE117.out | refine Ae ?_ GE118.out | refine Ae ?_ GE119.out) | exact HB.out)⟩⟩
              · rw [if_neg c33] at H
                have c33b0 : decide (a0_0 < a5_2) = false := decide_eq_false c33
                clear c33
                have H' := Ad.mk H
                clear H
                have hnb39 := NB118_117.out
                have hnc39 := NB117_118.out
                have hnb40 := NB118_119.out
                have hnc40 := NB119_118.out
                have hcz41_0 : w16.cell? ⟨gb118, 0, none⟩ = some (.int .i64 a5_0) := (Aj BK118.out 0).trans rfl
                have hcz41_1 : w16.cell? ⟨gb118, 1, none⟩ = some (.int .i64 a5_1) := (Aj BK118.out 1).trans rfl
                have hcz41_2 : w16.cell? ⟨gb118, 2, none⟩ = some (.int .i64 a5_2) := (Aj BK118.out 2).trans rfl
                have hcz41_3 : w16.cell? ⟨gb118, 3, none⟩ = some (.int .i64 a5_3) := (Aj BK118.out 3).trans rfl
                have hfz41_0 := Ag BK118.out 0
                have hfz41_1 := Ag BK118.out 1
                have hfz41_2 := Ag BK118.out 2
                have hfz41_3 := Ag BK118.out 3
                have hnb42 := NB117_119.out
                have hnc42 := NB119_117.out
                have hcz43_0 : w16.cell? ⟨gb117, 0, none⟩ = some (.int .i64 a0_0) := (Aj BK117.out 0).trans rfl
                have hcz43_1 : w16.cell? ⟨gb117, 1, none⟩ = some (.int .i64 a0_1) := (Aj BK117.out 1).trans rfl
                have hcz43_2 : w16.cell? ⟨gb117, 2, none⟩ = some (.slice A0_2 l0_2.length c0_2) := (Aj BK117.out 2).trans rfl
                have hfz43_0 := Ag BK117.out 0
                have hfz43_1 := Ag BK117.out 1
                have hfz43_2 := Ag BK117.out 2
                go_wp2
                go_meet
                case rel => exact ⟨_, (decide (a5_3 > a0_1)), (by first | rfl | (simp; done) | (simp [*]; done)), H', ⟨by first | omega | exact Nat.le_refl _⟩, ⟨by (with_reducible repeat (first | refine Ab ?_ _ | refine Ac ?_ | refine Aa ?_ _)); exact BK117.out⟩, ⟨by (with_reducible repeat (first | refine Ab ?_ _ | refine Ac ?_ | refine Aa ?_ _)); exact BK118.out⟩, ⟨by (with_reducible repeat (first | refine Ab ?_ _ | refine Ac ?_ | refine Aa ?_ _)); exact BK119.out⟩, ⟨by repeat (first | (with_reducible first | exact HB.out | apply Ah | apply Af | apply Ai | refine Ae ?_ GE117.out | refine Ae ?_ GE118.out | refine Ae ?_ GE119.out) | exact HB.out)⟩⟩
    case rest =>
      clear HC9
      try clear c1
      try clear c2
      try clear p2
      try clear c3
      try clear c4
      try clear c8
      try clear c8b0
      try clear c8b1
      try clear c13
      try clear c14
      try clear c17
      try clear c17b0
      try clear c18
      try clear c19
      try clear c20
      try clear c21
      try clear c21b0
      try clear c22
      try clear c23
      try clear c25
      try clear c25b0
      try clear c26
      try clear c27
      try clear c29
      try clear c29b0
      try clear c30
      try clear c31
      try clear c33
      try clear c33b0
      try clear c34
      try clear c35
      try clear c37
      try clear c39
      try clear c40
      try clear c42
      try clear hcz15_0
      try clear hcz15_1
      try clear hcz15_2
      try clear hcz20_0
      try clear hcz20_1
      try clear hcz20_2
      try clear hcz20_3
      try clear hcz24_0
      try clear hcz24_1
      try clear hcz24_2
      try clear hcz24_3
      try clear hcz28_0
      try clear hcz28_1
      try clear hcz28_2
      try clear hcz28_3
      try clear hcz32_0
      try clear hcz32_1
      try clear hcz32_2
      try clear hcz32_3
      try clear hcz36_0
      try clear hcz36_1
      try clear hcz36_2
      try clear hcz36_3
      try clear hcz38_0
      try clear hcz38_1
      try clear hcz38_2
      try clear hcz41_0
      try clear hcz41_1
      try clear hcz41_2
      try clear hcz41_3
      try clear hcz43_0
      try clear hcz43_1
      try clear hcz43_2
      try clear hfz15_0
      try clear hfz15_1
      try clear hfz15_2
      try clear hfz20_0
      try clear hfz20_1
      try clear hfz20_2
      try clear hfz20_3
      try clear hfz24_0
      try clear hfz24_1
      try clear hfz24_2
      try clear hfz24_3
      try clear hfz28_0
      try clear hfz28_1
      try clear hfz28_2
      try clear hfz28_3
      try clear hfz32_0
      try clear hfz32_1
      try clear hfz32_2
      try clear hfz32_3
      try clear hfz36_0
      try clear hfz36_1
      try clear hfz36_2
      try clear hfz36_3
      try clear hfz38_0
      try clear hfz38_1
      try clear hfz38_2
      try clear hfz41_0
      try clear hfz41_1
      try clear hfz41_2
      try clear hfz41_3
      try clear hfz43_0
      try clear hfz43_1
      try clear hfz43_2
      obtain ⟨kq, x63_8, rfl, HA, HJ8, BK117, BK118, BK119, HB⟩ := hcut
      cases kq with
      | zero => exact absurd HA.out (by simp [Ax.j0])
      | succ kj8 =>
        have H := HA.out
        clear HA
        simp only [Ax.j0] at H
        by_cases c44 : x63_8 = true
        · subst c44
          have H1 : (some (0, 0, ([] : List Int), 52)) = some (r1, r2, r3, r4) := by rw [if_pos rfl] at H; exact H
          clear H
          have H := H1
          clear H1
          simp only [Option.some.injEq, Prod.mk.injEq] at H
          obtain ⟨rfl, rfl, rfl, rfl⟩ := H
          have hnb45 := NB119_117.out
          have hnc45 := NB117_119.out
          have hnb46 := NB119_118.out
          have hnc46 := NB118_119.out
          have hcz47_0 : wc.cell? ⟨gb119, 0, none⟩ = some (.int .i64 0) := (Aj BK119.out 0).trans rfl
          have hcz47_1 : wc.cell? ⟨gb119, 1, none⟩ = some (.int .i64 0) := (Aj BK119.out 1).trans rfl
          have hcz47_2 : wc.cell? ⟨gb119, 2, none⟩ = some (.slice none 0 0) := (Aj BK119.out 2).trans rfl
          have hfz47_0 := Ag BK119.out 0
          have hfz47_1 := Ag BK119.out 1
          have hfz47_2 := Ag BK119.out 2
          go_wp2
          refine bodyPost_ret (results_ct rfl _ _ gb119 25 #[.int .i64 0, .int .i64 0, .slice none 0 0] (0, 0) _ rfl (by (with_reducible repeat (first | refine Ab ?_ _ | refine Ac ?_ | refine Aa ?_ _)); refine As (cs := #[.int .i64 0, .int .i64 0, .slice none 0 0]) ?_ 2 _ rfl; (with_reducible repeat (first | refine Ab ?_ _ | refine Ac ?_ | refine Aa ?_ _)); refine As (cs := #[.int .i64 0, .int .i64 0, .slice none 0 0]) ?_ 1 _ rfl; (with_reducible repeat (first | refine Ab ?_ _ | refine Ac ?_ | refine Aa ?_ _)); refine As (cs := #[.int .i64 0, .int .i64 0, .slice none 0 0]) ?_ 0 _ rfl; (with_reducible repeat (first | refine Ab ?_ _ | refine Ac ?_ | refine Aa ?_ _)); exact BK119.out) Try.underlying25 rfl (by kernel_rfl)) rfl ?_
          exact ⟨_, by first | rfl | (simp [Bb, Ba] <;> rfl) | (simp [*, Bb, Ba] <;> rfl), by first | exact Kd.Ct _ _ _ _ _ | exact Kd.N_nil _ _ _ _ _ | exact Kd.V_nil _ _ _ _ _ | exact Kd.Q_nil _ _ _ _ _ | exact Kd.S_nil _ _ _ _ _, by repeat (first | (with_reducible first | exact HB.out | apply Ah | apply Af | apply Ai | refine Ae ?_ GE117.out | refine Ae ?_ GE118.out | refine Ae ?_ GE119.out) | exact HB.out)⟩
        · replace c44 := Bool.eq_false_iff.mpr c44
          subst c44
          have H1 : (Ax.l0 kj8 a1 a2 a3 a4 a5_1 a0_0 a0_1 l0_2 a5_0 a5_1 a5_2 a5_3 (wrap64 (a5_2 - a5_0)) (wrap64 (a5_3 - a5_1)) ([] : List Int)) = some (r1, r2, r3, r4) := by rw [if_neg (show ¬ (false = true) by decide)] at H; exact H
          clear H
          have H := H1
          clear H1
          have H' := Ad.mk H
          clear H
          have hnb48 := NB118_117.out
          have hnc48 := NB117_118.out
          have hnb49 := NB118_119.out
          have hnc49 := NB119_118.out
          have hcz50_0 : wc.cell? ⟨gb118, 0, none⟩ = some (.int .i64 a5_0) := (Aj BK118.out 0).trans rfl
          have hcz50_1 : wc.cell? ⟨gb118, 1, none⟩ = some (.int .i64 a5_1) := (Aj BK118.out 1).trans rfl
          have hcz50_2 : wc.cell? ⟨gb118, 2, none⟩ = some (.int .i64 a5_2) := (Aj BK118.out 2).trans rfl
          have hcz50_3 : wc.cell? ⟨gb118, 3, none⟩ = some (.int .i64 a5_3) := (Aj BK118.out 3).trans rfl
          have hfz50_0 := Ag BK118.out 0
          have hfz50_1 := Ag BK118.out 1
          have hfz50_2 := Ag BK118.out 2
          have hfz50_3 := Ag BK118.out 3
          go_wp2_with (first | ((with_reducible refine Bj (N := 15) rfl ?_); refine Bh ?hg (N := 15) ?hd (cs := #[.int .i64 0, .int .i64 0, .slice none 0 0]) (t := 25) ?hr ?_; (case hd => rfl); (case hg => rfl); (case hr => first | (go_simp; done) | (go_simp; rfl)); intro gb121 hg w51 hbox hb; have n0_ := Ad.mk (Ak (g := gb117) (o := .cells #[.int .i64 a0_0, .int .i64 a0_1, .slice A0_2 l0_2.length c0_2] 25 (0, 0)) (by (with_reducible repeat (first | refine Ab ?_ _ | refine Ac ?_ | refine Aa ?_ _)); exact BK117.out) hb); have n1_ := Ad.mk (Ak (g := gb118) (o := .cells #[.int .i64 a5_0, .int .i64 a5_1, .int .i64 a5_2, .int .i64 a5_3] 38 (0, 0)) (by (with_reducible repeat (first | refine Ab ?_ _ | refine Ac ?_ | refine Aa ?_ _)); exact BK118.out) hb); have n2_ := Ad.mk (Ak (g := gb119) (o := .cells #[.int .i64 0, .int .i64 0, .slice none 0 0] 25 (0, 0)) (by (with_reducible repeat (first | refine Ab ?_ _ | refine Ac ?_ | refine Aa ?_ _)); exact BK119.out) hb); have n3_ := Ad.mk (Ar (by repeat (first | (with_reducible first | exact HB.out | apply Ah | apply Af | apply Ai | refine Ae ?_ GE117.out | refine Ae ?_ GE118.out | refine Ae ?_ GE119.out) | exact HB.out)) hb); have n4_ := Ad.mk (hbox); have n5_ := Ad.mk ((by rw [hg]; exact (Ap (by repeat (first | (with_reducible first | exact HB.out | apply Ah | apply Af | apply Ai | refine Ae ?_ GE117.out | refine Ae ?_ GE118.out | refine Ae ?_ GE119.out) | exact HB.out))) : w.heap.size ≤ gb121)); have n6_ := Ad.mk ((by rw [hg]; exact (Ap (by repeat (first | (with_reducible first | exact HB.out | apply Ah | apply Af | apply Ai | refine Ae ?_ GE117.out | refine Ae ?_ GE118.out | refine Ae ?_ GE119.out) | exact HB.out))) : w.heap.size ≤ gb121)); have n7_ := Ad.mk ((by rw [hg]; exact Nat.ne_of_lt (Aw (g := gb117) (o := .cells #[.int .i64 a0_0, .int .i64 a0_1, .slice A0_2 l0_2.length c0_2] 25 (0, 0)) (by (with_reducible repeat (first | refine Ab ?_ _ | refine Ac ?_ | refine Aa ?_ _)); exact BK117.out)) : gb117 ≠ gb121)); have n8_ := Ad.mk ((by rw [hg]; exact Nat.ne_of_gt (Aw (g := gb117) (o := .cells #[.int .i64 a0_0, .int .i64 a0_1, .slice A0_2 l0_2.length c0_2] 25 (0, 0)) (by (with_reducible repeat (first | refine Ab ?_ _ | refine Ac ?_ | refine Aa ?_ _)); exact BK117.out)) : gb121 ≠ gb117)); have n9_ := Ad.mk ((by rw [hg]; exact Nat.ne_of_lt (Aw (g := gb118) (o := .cells #[.int .i64 a5_0, .int .i64 a5_1, .int .i64 a5_2, .int .i64 a5_3] 38 (0, 0)) (by (with_reducible repeat (first | refine Ab ?_ _ | refine Ac ?_ | refine Aa ?_ _)); exact BK118.out)) : gb118 ≠ gb121)); have n10_ := Ad.mk ((by rw [hg]; exact Nat.ne_of_gt (Aw (g := gb118) (o := .cells #[.int .i64 a5_0, .int .i64 a5_1, .int .i64 a5_2, .int .i64 a5_3] 38 (0, 0)) (by (with_reducible repeat (first | refine Ab ?_ _ | refine Ac ?_ | refine Aa ?_ _)); exact BK118.out)) : gb121 ≠ gb118)); have n11_ := Ad.mk ((by rw [hg]; exact Nat.ne_of_lt (Aw (g := gb119) (o := .cells #[.int .i64 0, .int .i64 0, .slice none 0 0] 25 (0, 0)) (by (with_reducible repeat (first | refine Ab ?_ _ | refine Ac ?_ | refine Aa ?_ _)); exact BK119.out)) : gb119 ≠ gb121)); have n12_ := Ad.mk ((by rw [hg]; exact Nat.ne_of_gt (Aw (g := gb119) (o := .cells #[.int .i64 0, .int .i64 0, .slice none 0 0] 25 (0, 0)) (by (with_reducible repeat (first | refine Ab ?_ _ | refine Ac ?_ | refine Aa ?_ _)); exact BK119.out)) : gb121 ≠ gb119)); clear BK117; clear BK118; clear BK119; clear HB; have BK117 := n0_; have BK118 := n1_; have BK119 := n2_; have HB := n3_; have BK121 := n4_; have GW121 := n5_; have GE121 := n6_; have NB117_121 := n7_; have NB121_117 := n8_; have NB118_121 := n9_; have NB121_118 := n10_; have NB119_121 := n11_; have NB121_119 := n12_; clear n0_ n1_ n2_ n3_ n4_ n5_ n6_ n7_ n8_ n9_ n10_ n11_ n12_; clear hb hbox hg; have hnb52 := NB121_117.out; have hnc52 := NB117_121.out; have hnb53 := NB121_118.out; have hnc53 := NB118_121.out; have hnb54 := NB121_119.out; have hnc54 := NB119_121.out; have hcz55_0 : w51.cell? ⟨gb121, 0, none⟩ = some (.int .i64 0) := (Aj BK121.out 0).trans rfl; have hcz55_1 : w51.cell? ⟨gb121, 1, none⟩ = some (.int .i64 0) := (Aj BK121.out 1).trans rfl; have hcz55_2 : w51.cell? ⟨gb121, 2, none⟩ = some (.slice none 0 0) := (Aj BK121.out 2).trans rfl; have hfz55_0 := Ag BK121.out 0; have hfz55_1 := Ag BK121.out 1; have hfz55_2 := Ag BK121.out 2; have hcz56_0 : w51.cell? ⟨gb118, 0, none⟩ = some (.int .i64 a5_0) := (Aj BK118.out 0).trans rfl; have hcz56_1 : w51.cell? ⟨gb118, 1, none⟩ = some (.int .i64 a5_1) := (Aj BK118.out 1).trans rfl; have hcz56_2 : w51.cell? ⟨gb118, 2, none⟩ = some (.int .i64 a5_2) := (Aj BK118.out 2).trans rfl; have hcz56_3 : w51.cell? ⟨gb118, 3, none⟩ = some (.int .i64 a5_3) := (Aj BK118.out 3).trans rfl; have hfz56_0 := Ag BK118.out 0; have hfz56_1 := Ag BK118.out 1; have hfz56_2 := Ag BK118.out 2; have hfz56_3 := Ag BK118.out 3))
          go_loopg [16] kj8 (fun kq v16 w' => ∃ (x16_2 : Int) (x122002_2 : List Int) (u122002 : Value), v16 = .int .i64 x16_2 ∧ Ad (Ax.l0 kq a1 a2 a3 a4 x16_2 a0_0 a0_1 l0_2 a5_0 a5_1 a5_2 a5_3 (wrap64 (a5_2 - a5_0)) (wrap64 (a5_3 - a5_1)) x122002_2 = some (r1, r2, r3, r4)) ∧ Ad (kq ≤ kj8) ∧ Ad (Kd.R (Kd.int .u32) 41 w' w.heap.size (fun _ => True) u122002 x122002_2) ∧ Ad (w'.heap[gb117]? = some (.cells #[.int .i64 a0_0, .int .i64 a0_1, (.slice A0_2 l0_2.length c0_2)] 25 (0, 0))) ∧ Ad (w'.heap[gb118]? = some (.cells #[.int .i64 a5_0, .int .i64 a5_1, .int .i64 a5_2, .int .i64 a5_3] 38 (0, 0))) ∧ Ad (w'.heap[gb119]? = some (.cells #[.int .i64 0, .int .i64 0, (.slice none 0 0)] 25 (0, 0))) ∧ Ad (w'.heap[gb121]? = some (.cells #[.int .i64 (wrap64 (a5_2 - a5_0)), .int .i64 (wrap64 (a5_3 - a5_1)), u122002] 25 (0, 0))) ∧ Ad (Below w.heap.size w w'))
          case atStart => exact ⟨(a5_1), (([] : List Int)), (.slice none 0 0), (by first | rfl | (simp; done) | (simp [*]; done)), H', ⟨Nat.le_refl _⟩, ⟨by first | exact Kd.Ct _ _ _ _ _ | exact Kd.N_nil _ _ _ _ _ | exact Kd.V_nil _ _ _ _ _ | exact Kd.Q_nil _ _ _ _ _ | exact Kd.S_nil _ _ _ _ _⟩, ⟨by (with_reducible repeat (first | refine Ab ?_ _ | refine Ac ?_ | refine Aa ?_ _)); refine Ao ?_ NB117_121.out _; (with_reducible repeat (first | refine Ab ?_ _ | refine Ac ?_ | refine Aa ?_ _)); refine Ao ?_ NB117_121.out _; (with_reducible repeat (first | refine Ab ?_ _ | refine Ac ?_ | refine Aa ?_ _)); refine Ao ?_ NB117_121.out _; (with_reducible repeat (first | refine Ab ?_ _ | refine Ac ?_ | refine Aa ?_ _)); exact BK117.out⟩, ⟨by (with_reducible repeat (first | refine Ab ?_ _ | refine Ac ?_ | refine Aa ?_ _)); refine Ao ?_ NB118_121.out _; (with_reducible repeat (first | refine Ab ?_ _ | refine Ac ?_ | refine Aa ?_ _)); refine Ao ?_ NB118_121.out _; (with_reducible repeat (first | refine Ab ?_ _ | refine Ac ?_ | refine Aa ?_ _)); refine Ao ?_ NB118_121.out _; (with_reducible repeat (first | refine Ab ?_ _ | refine Ac ?_ | refine Aa ?_ _)); exact BK118.out⟩, ⟨by (with_reducible repeat (first | refine Ab ?_ _ | refine Ac ?_ | refine Aa ?_ _)); refine Ao ?_ NB119_121.out _; (with_reducible repeat (first | refine Ab ?_ _ | refine Ac ?_ | refine Aa ?_ _)); refine Ao ?_ NB119_121.out _; (with_reducible repeat (first | refine Ab ?_ _ | refine Ac ?_ | refine Aa ?_ _)); refine Ao ?_ NB119_121.out _; (with_reducible repeat (first | refine Ab ?_ _ | refine Ac ?_ | refine Aa ?_ _)); exact BK119.out⟩, ⟨by (with_reducible repeat (first | refine Ab ?_ _ | refine Ac ?_ | refine Aa ?_ _)); refine As (cs := #[.int .i64 (wrap64 (a5_2 - a5_0)), .int .i64 (wrap64 (a5_3 - a5_1)), .slice none 0 0]) ?_ 2 _ rfl; (with_reducible repeat (first | refine Ab ?_ _ | refine Ac ?_ | refine Aa ?_ _)); refine As (cs := #[.int .i64 (wrap64 (a5_2 - a5_0)), .int .i64 0, .slice none 0 0]) ?_ 1 _ rfl; (with_reducible repeat (first | refine Ab ?_ _ | refine Ac ?_ | refine Aa ?_ _)); refine As (cs := #[.int .i64 0, .int .i64 0, .slice none 0 0]) ?_ 0 _ rfl; (with_reducible repeat (first | refine Ab ?_ _ | refine Ac ?_ | refine Aa ?_ _)); exact BK121.out⟩, ⟨by repeat (first | (with_reducible first | exact HB.out | apply Ah | apply Af | apply Ai | refine Ae ?_ GE117.out | refine Ae ?_ GE118.out | refine Ae ?_ GE119.out | refine Ae ?_ GE121.out) | exact HB.out)⟩⟩
          case round =>
            clear H'
            try clear c1
            try clear c2
            try clear p2
            try clear c3
            try clear c4
            try clear c5
            try clear p6
            try clear c8
            try clear c8b0
            try clear c8b1
            try clear c13
            try clear c14
            try clear c17
            try clear c17b0
            try clear c18
            try clear c19
            try clear c20
            try clear c21
            try clear c21b0
            try clear c22
            try clear c23
            try clear c25
            try clear c25b0
            try clear c26
            try clear c27
            try clear c29
            try clear c29b0
            try clear c30
            try clear c31
            try clear c33
            try clear c33b0
            try clear c34
            try clear c35
            try clear c37
            try clear c39
            try clear c40
            try clear c42
            try clear c44
            try clear c45
            try clear c46
            try clear c48
            try clear c49
            try clear c52
            try clear c53
            try clear c54
            try clear hcz15_0
            try clear hcz15_1
            try clear hcz15_2
            try clear hcz20_0
            try clear hcz20_1
            try clear hcz20_2
            try clear hcz20_3
            try clear hcz24_0
            try clear hcz24_1
            try clear hcz24_2
            try clear hcz24_3
            try clear hcz28_0
            try clear hcz28_1
            try clear hcz28_2
            try clear hcz28_3
            try clear hcz32_0
            try clear hcz32_1
            try clear hcz32_2
            try clear hcz32_3
            try clear hcz36_0
            try clear hcz36_1
            try clear hcz36_2
            try clear hcz36_3
            try clear hcz38_0
            try clear hcz38_1
            try clear hcz38_2
            try clear hcz41_0
            try clear hcz41_1
            try clear hcz41_2
            try clear hcz41_3
            try clear hcz43_0
            try clear hcz43_1
            try clear hcz43_2
            try clear hcz47_0
            try clear hcz47_1
            try clear hcz47_2
            try clear hcz50_0
            try clear hcz50_1
            try clear hcz50_2
            try clear hcz50_3
            try clear hcz55_0
            try clear hcz55_1
            try clear hcz55_2
            try clear hcz56_0
            try clear hcz56_1
            try clear hcz56_2
            try clear hcz56_3
            try clear hfz15_0
            try clear hfz15_1
            try clear hfz15_2
            try clear hfz20_0
            try clear hfz20_1
            try clear hfz20_2
            try clear hfz20_3
            try clear hfz24_0
            try clear hfz24_1
            try clear hfz24_2
            try clear hfz24_3
            try clear hfz28_0
            try clear hfz28_1
            try clear hfz28_2
            try clear hfz28_3
            try clear hfz32_0
            try clear hfz32_1
            try clear hfz32_2
            try clear hfz32_3
            try clear hfz36_0
            try clear hfz36_1
            try clear hfz36_2
            try clear hfz36_3
            try clear hfz38_0
            try clear hfz38_1
            try clear hfz38_2
            try clear hfz41_0
            try clear hfz41_1
            try clear hfz41_2
            try clear hfz41_3
            try clear hfz43_0
            try clear hfz43_1
            try clear hfz43_2
            try clear hfz47_0
            try clear hfz47_1
            try clear hfz47_2
            try clear hfz50_0
            try clear hfz50_1
            try clear hfz50_2
            try clear hfz50_3
            try clear hfz55_0
            try clear hfz55_1
            try clear hfz55_2
            try clear hfz56_0
            try clear hfz56_1
            try clear hfz56_2
            try clear hfz56_3
            try clear p2
            obtain ⟨x16_2, x122002_2, u122002, rfl, HA, HK2, HO_122002, BK117, BK118, BK119, BK121, HB⟩ := hrel
            cases gk with
            | zero => exact absurd HA.out (by simp [Ax.l0])
            | succ k2 =>
              have H := HA.out
              clear HA
              simp only [Ax.l0] at H
              by_cases c57 : x16_2 < a5_3
              · rw [if_pos c57] at H
                have c57b0 : decide (x16_2 < a5_3) = true := decide_eq_true c57
                clear c57
                have H' := Ad.mk H
                clear H
                have hnb58 := NB118_117.out
                have hnc58 := NB117_118.out
                have hnb59 := NB118_119.out
                have hnc59 := NB119_118.out
                have hnb60 := NB118_121.out
                have hnc60 := NB121_118.out
                have hcz61_0 : wr.cell? ⟨gb118, 0, none⟩ = some (.int .i64 a5_0) := (Aj BK118.out 0).trans rfl
                have hcz61_1 : wr.cell? ⟨gb118, 1, none⟩ = some (.int .i64 a5_1) := (Aj BK118.out 1).trans rfl
                have hcz61_2 : wr.cell? ⟨gb118, 2, none⟩ = some (.int .i64 a5_2) := (Aj BK118.out 2).trans rfl
                have hcz61_3 : wr.cell? ⟨gb118, 3, none⟩ = some (.int .i64 a5_3) := (Aj BK118.out 3).trans rfl
                have hfz61_0 := Ag BK118.out 0
                have hfz61_1 := Ag BK118.out 1
                have hfz61_2 := Ag BK118.out 2
                have hfz61_3 := Ag BK118.out 3
                go_wp2
                go_loopg [17] k2 (fun kq v17 w' => ∃ (x17_3 : Int) (x122002_3 : List Int) (u122002 : Value), v17 = .int .i64 x17_3 ∧ Ad (Ax.l1 kq a1 a2 a3 a4 x16_2 x17_3 a0_0 a0_1 l0_2 a5_0 a5_1 a5_2 a5_3 (wrap64 (a5_2 - a5_0)) (wrap64 (a5_3 - a5_1)) x122002_3 = some (r1, r2, r3, r4)) ∧ Ad (kq ≤ k2) ∧ Ad (Kd.R (Kd.int .u32) 41 w' w.heap.size (fun _ => True) u122002 x122002_3) ∧ Ad (w'.heap[gb117]? = some (.cells #[.int .i64 a0_0, .int .i64 a0_1, (.slice A0_2 l0_2.length c0_2)] 25 (0, 0))) ∧ Ad (w'.heap[gb118]? = some (.cells #[.int .i64 a5_0, .int .i64 a5_1, .int .i64 a5_2, .int .i64 a5_3] 38 (0, 0))) ∧ Ad (w'.heap[gb119]? = some (.cells #[.int .i64 0, .int .i64 0, (.slice none 0 0)] 25 (0, 0))) ∧ Ad (w'.heap[gb121]? = some (.cells #[.int .i64 (wrap64 (a5_2 - a5_0)), .int .i64 (wrap64 (a5_3 - a5_1)), u122002] 25 (0, 0))) ∧ Ad (Below w.heap.size w w'))
                case atStart => exact ⟨(a5_0), (x122002_2), (u122002), (by first | rfl | (simp; done) | (simp [*]; done)), H', ⟨Nat.le_refl _⟩, ⟨by (with_reducible repeat (first | apply Kd.An | apply Kd.Am | apply Kd.Aq)); exact HO_122002.out⟩, ⟨by (with_reducible repeat (first | refine Ab ?_ _ | refine Ac ?_ | refine Aa ?_ _)); exact BK117.out⟩, ⟨by (with_reducible repeat (first | refine Ab ?_ _ | refine Ac ?_ | refine Aa ?_ _)); exact BK118.out⟩, ⟨by (with_reducible repeat (first | refine Ab ?_ _ | refine Ac ?_ | refine Aa ?_ _)); exact BK119.out⟩, ⟨by (with_reducible repeat (first | refine Ab ?_ _ | refine Ac ?_ | refine Aa ?_ _)); exact BK121.out⟩, ⟨by repeat (first | (with_reducible first | exact HB.out | apply Ah | apply Af | apply Ai | refine Ae ?_ GE117.out | refine Ae ?_ GE118.out | refine Ae ?_ GE119.out | refine Ae ?_ GE121.out) | exact HB.out)⟩⟩
                case round =>
                  clear H'
                  try clear c1
                  try clear c2
                  try clear p2
                  try clear c3
                  try clear c4
                  try clear c5
                  try clear c6
                  try clear p6
                  try clear c8
                  try clear c8b0
                  try clear c8b1
                  try clear c13
                  try clear c14
                  try clear c17
                  try clear c17b0
                  try clear c18
                  try clear c19
                  try clear c20
                  try clear c21
                  try clear c21b0
                  try clear c22
                  try clear c23
                  try clear c25
                  try clear c25b0
                  try clear c26
                  try clear c27
                  try clear c29
                  try clear c29b0
                  try clear c30
                  try clear c31
                  try clear c33
                  try clear c33b0
                  try clear c34
                  try clear c35
                  try clear c37
                  try clear c39
                  try clear c40
                  try clear c42
                  try clear c44
                  try clear c45
                  try clear c46
                  try clear c48
                  try clear c49
                  try clear c52
                  try clear c53
                  try clear c54
                  try clear c57
                  try clear c57b0
                  try clear c58
                  try clear c59
                  try clear c60
                  try clear hcz15_0
                  try clear hcz15_1
                  try clear hcz15_2
                  try clear hcz20_0
                  try clear hcz20_1
                  try clear hcz20_2
                  try clear hcz20_3
                  try clear hcz24_0
                  try clear hcz24_1
                  try clear hcz24_2
                  try clear hcz24_3
                  try clear hcz28_0
                  try clear hcz28_1
                  try clear hcz28_2
                  try clear hcz28_3
                  try clear hcz32_0
                  try clear hcz32_1
                  try clear hcz32_2
                  try clear hcz32_3
                  try clear hcz36_0
                  try clear hcz36_1
                  try clear hcz36_2
                  try clear hcz36_3
                  try clear hcz38_0
                  try clear hcz38_1
                  try clear hcz38_2
                  try clear hcz41_0
                  try clear hcz41_1
                  try clear hcz41_2
                  try clear hcz41_3
                  try clear hcz43_0
                  try clear hcz43_1
                  try clear hcz43_2
                  try clear hcz47_0
                  try clear hcz47_1
                  try clear hcz47_2
                  try clear hcz50_0
                  try clear hcz50_1
                  try clear hcz50_2
                  try clear hcz50_3
                  try clear hcz55_0
                  try clear hcz55_1
                  try clear hcz55_2
                  try clear hcz56_0
                  try clear hcz56_1
                  try clear hcz56_2
                  try clear hcz56_3
                  try clear hcz61_0
                  try clear hcz61_1
                  try clear hcz61_2
                  try clear hcz61_3
                  try clear hfz15_0
                  try clear hfz15_1
                  try clear hfz15_2
                  try clear hfz20_0
                  try clear hfz20_1
                  try clear hfz20_2
                  try clear hfz20_3
                  try clear hfz24_0
                  try clear hfz24_1
                  try clear hfz24_2
                  try clear hfz24_3
                  try clear hfz28_0
                  try clear hfz28_1
                  try clear hfz28_2
                  try clear hfz28_3
                  try clear hfz32_0
                  try clear hfz32_1
                  try clear hfz32_2
                  try clear hfz32_3
                  try clear hfz36_0
                  try clear hfz36_1
                  try clear hfz36_2
                  try clear hfz36_3
                  try clear hfz38_0
                  try clear hfz38_1
                  try clear hfz38_2
                  try clear hfz41_0
                  try clear hfz41_1
                  try clear hfz41_2
                  try clear hfz41_3
                  try clear hfz43_0
                  try clear hfz43_1
                  try clear hfz43_2
                  try clear hfz47_0
                  try clear hfz47_1
                  try clear hfz47_2
                  try clear hfz50_0
                  try clear hfz50_1
                  try clear hfz50_2
                  try clear hfz50_3
                  try clear hfz55_0
                  try clear hfz55_1
                  try clear hfz55_2
                  try clear hfz56_0
                  try clear hfz56_1
                  try clear hfz56_2
                  try clear hfz56_3
                  try clear hfz61_0
                  try clear hfz61_1
                  try clear hfz61_2
                  try clear hfz61_3
                  try clear p2
                  try clear p6
                  obtain ⟨x17_3, x122002_3, u122002, rfl, HA, HK3, HO_122002, BK117, BK118, BK119, BK121, HB⟩ := hrel
                  cases gk with
                  | zero => exact absurd HA.out (by simp [Ax.l1])
                  | succ k3 =>
                    have H := HA.out
                    clear HA
                    simp only [Ax.l1] at H
                    by_cases c62 : x17_3 < a5_2
                    · rw [if_pos c62] at H
                      have c62b0 : decide (x17_3 < a5_2) = true := decide_eq_true c62
                      clear c62
                      replace H := Option.bind_eq_some_iff.mp H
                      obtain ⟨t122, A630, H⟩ := H
                      replace H : (if x122002_3.length < 35184372088832 then (Ax.l1 k3 a1 a2 a3 a4 x16_2 (wrap64 (x17_3 + 1)) a0_0 a0_1 l0_2 a5_0 a5_1 a5_2 a5_3 (wrap64 (a5_2 - a5_0)) (wrap64 (a5_3 - a5_1)) (x122002_3 ++ [t122])) else (none)) = some (r1, r2, r3, r4) := H
                      have A63 := Ad.mk A630
                      clear A630
                      by_cases c64 : x122002_3.length < 35184372088832
                      · rw [if_pos c64] at H
                        have LMc64 := Ad.mk c64
                        clear c64
                        obtain ⟨y123, hy123⟩ : ∃ y_ : List Int, y_ = (x122002_3 ++ [t122]) := ⟨_, rfl⟩
                        replace H : (Ax.l1 k3 a1 a2 a3 a4 x16_2 (wrap64 (x17_3 + 1)) a0_0 a0_1 l0_2 a5_0 a5_1 a5_2 a5_3 (wrap64 (a5_2 - a5_0)) (wrap64 (a5_3 - a5_1)) y123) = some (r1, r2, r3, r4) := by first | (rw [hy123]; with_reducible exact H) | (have H2_ := (Option.bind_some _ _).symm.trans H; rw [hy123]; with_reducible exact H2_) | (have H2_ := (Option.bind_some _ _).symm.trans H; with_reducible exact H2_) | with_reducible exact H | (rw [hy123]; exact H) | exact H
                        have Ny123 := Ad.mk hy123
                        clear hy123
                        have H' := Ad.mk H
                        clear H
                        have hnb65 := NB118_117.out
                        have hnc65 := NB117_118.out
                        have hnb66 := NB118_119.out
                        have hnc66 := NB119_118.out
                        have hnb67 := NB118_121.out
                        have hnc67 := NB121_118.out
                        have hcz68_0 : wr.cell? ⟨gb118, 0, none⟩ = some (.int .i64 a5_0) := (Aj BK118.out 0).trans rfl
                        have hcz68_1 : wr.cell? ⟨gb118, 1, none⟩ = some (.int .i64 a5_1) := (Aj BK118.out 1).trans rfl
                        have hcz68_2 : wr.cell? ⟨gb118, 2, none⟩ = some (.int .i64 a5_2) := (Aj BK118.out 2).trans rfl
                        have hcz68_3 : wr.cell? ⟨gb118, 3, none⟩ = some (.int .i64 a5_3) := (Aj BK118.out 3).trans rfl
                        have hfz68_0 := Ag BK118.out 0
                        have hfz68_1 := Ag BK118.out 1
                        have hfz68_2 := Ag BK118.out 2
                        have hfz68_3 := Ag BK118.out 3
                        try go_wp2
                        have n0_ := Ad.mk (Kd.Aq HO_122002.out)
                        have n1_ := Ad.mk (Ac BK117.out)
                        have n2_ := Ad.mk (Ac BK118.out)
                        have n3_ := Ad.mk (Ac BK119.out)
                        have n4_ := Ad.mk (Ac BK121.out)
                        have n5_ := Ad.mk (Ai HB.out)
                        clear HO_122002
                        clear BK117
                        clear BK118
                        clear BK119
                        clear BK121
                        clear HB
                        have HO_122002 := n0_
                        have BK117 := n1_
                        have BK118 := n2_
                        have BK119 := n3_
                        have BK121 := n4_
                        have HB := n5_
                        clear n0_ n1_ n2_ n3_ n4_ n5_
                        refine start_ (n := 14) (S := fun w' => w'.cell? ⟨gb121, 0, none⟩ = some (.int .i64 (wrap64 (a5_2 - a5_0))) ∧ w'.cell? ⟨gb121, 1, none⟩ = some (.int .i64 (wrap64 (a5_3 - a5_1))) ∧ w'.cell? ⟨gb121, 2, none⟩ = some (u122002) ∧ w'.cell? ⟨gb117, 0, none⟩ = some (.int .i64 a0_0) ∧ w'.cell? ⟨gb117, 1, none⟩ = some (.int .i64 a0_1) ∧ w'.cell? ⟨gb117, 2, none⟩ = some (.slice A0_2 l0_2.length c0_2)) (ds := [13]) #[false, false, false, false, false, false, false, false, false, false, false, false, false, false] (by kernel_rfl) rfl rfl ⟨(Aj BK121.out 0).trans rfl, (Aj BK121.out 1).trans rfl, (Aj BK121.out 2).trans rfl, (Aj BK117.out 0).trans rfl, (Aj BK117.out 1).trans rfl, (Aj BK117.out 2).trans rfl⟩ (fun hHeld => ?_); refine with_tabW Ax.tab13 Ax.bits13 (fun HT_ HW_ => ?_)
                        generalize wr.drew = w69 at HO_122002 BK117 BK118 BK119 BK121 HB hHeld ⊢
                        refine pure_ (i := 0) (N := some 92) (v := ?_) (a' := ?_) #[true, false, false, false, false, false, false, false, false, false, false, false, false, false] rfl rfl (any_of HT_.out (by kernel_rfl)) (fun _ _ _ h => h) (Or.inl ⟨by rfl, ?_⟩) ?_ ?_
                        rotate_left
                        · intro w'
                          go_simp
                          with_reducible rfl
                        rotate_left
                        · simp only [Act.put, List.setIfInBounds_toArray, List.set_cons_zero, List.set_cons_succ, i64_w, i32_w]
                          rfl
                        refine pure_ (i := 3) (N := some 95) (v := ?_) (a' := ?_) #[true, false, false, true, false, false, false, false, false, false, false, false, false, false] rfl rfl (any_of HT_.out (by kernel_rfl)) (fun _ _ _ h => h) (Or.inl ⟨by rfl, ?_⟩) ?_ ?_
                        rotate_left
                        · intro w'
                          go_simp
                          with_reducible rfl
                        rotate_left
                        · simp only [Act.put, List.setIfInBounds_toArray, List.set_cons_zero, List.set_cons_succ, i64_w, i32_w]
                          rfl
                        refine pure_ (i := 4) (N := some 96) (v := ?_) (a' := ?_) #[true, false, false, true, true, false, false, false, false, false, false, false, false, false] rfl rfl (any_of HT_.out (by kernel_rfl)) (fun _ _ _ h => h) (Or.inl ⟨by rfl, ?_⟩) ?_ ?_
                        rotate_left
                        · intro w'
                          go_simp
                          with_reducible rfl
                        rotate_left
                        · simp only [Act.put, List.setIfInBounds_toArray, List.set_cons_zero, List.set_cons_succ, i64_w, i32_w]
                          rfl
                        refine pure_ (i := 5) (N := some 97) (v := ?_) (a' := ?_) #[true, false, false, true, true, true, false, false, false, false, false, false, false, false] rfl rfl (any_of HT_.out (by kernel_rfl)) (fun _ _ _ h => h) (Or.inl ⟨by rfl, ?_⟩) ?_ ?_
                        rotate_left
                        · intro w'
                          go_simp
                          with_reducible rfl
                        rotate_left
                        · simp only [Act.put, List.setIfInBounds_toArray, List.set_cons_zero, List.set_cons_succ, i64_w, i32_w]
                          rfl
                        refine pure_ (i := 6) (N := some 98) (v := ?_) (a' := ?_) #[true, false, false, true, true, true, true, false, false, false, false, false, false, false] rfl rfl (any_of HT_.out (by kernel_rfl)) (fun _ _ _ h => h) (Or.inl ⟨by rfl, ?_⟩) ?_ ?_
                        rotate_left
                        · intro w'
                          go_simp
                          with_reducible rfl
                        rotate_left
                        · simp only [Act.put, List.setIfInBounds_toArray, List.set_cons_zero, List.set_cons_succ, i64_w, i32_w]
                          rfl
                        refine pure_ (i := 7) (N := some 99) (v := ?_) (a' := ?_) #[true, false, false, true, true, true, true, true, false, false, false, false, false, false] rfl rfl (any_of HT_.out (by kernel_rfl)) (fun _ _ _ h => h) (Or.inl ⟨by rfl, ?_⟩) ?_ ?_
                        rotate_left
                        · intro w'
                          go_simp
                          with_reducible rfl
                        rotate_left
                        · simp only [Act.put, List.setIfInBounds_toArray, List.set_cons_zero, List.set_cons_succ, i64_w, i32_w]
                          rfl
                        refine pure_ (i := 8) (N := some 100) (v := ?_) (a' := ?_) #[true, false, false, true, true, true, true, true, true, false, false, false, false, false] rfl rfl (any_of HT_.out (by kernel_rfl)) (fun _ _ _ h => h) (Or.inl ⟨by rfl, ?_⟩) ?_ ?_
                        rotate_left
                        · intro w'
                          go_simp
                          with_reducible rfl
                        rotate_left
                        · simp only [Act.put, List.setIfInBounds_toArray, List.set_cons_zero, List.set_cons_succ, i64_w, i32_w]
                          rfl
                        refine take_ (i := 1) (N := some 93) (v := ?_) (a' := ?_) #[true, true, false, true, true, true, true, true, true, false, false, false, false, false] rfl rfl (take_ofW HT_.out HW_.out (by kernel_rfl)) (fun _ _ _ h => h) (Or.inl ⟨by rfl, ?_⟩) hHeld ?_ ?_
                        rotate_left
                        · rintro w' ⟨s0, s1, s2, s3, s4, s5⟩
                          go_simp
                          with_reducible rfl
                        rotate_left
                        · simp only [Act.put, List.setIfInBounds_toArray, List.set_cons_zero, List.set_cons_succ, i64_w, i32_w]
                          rfl
                        refine take_ (i := 2) (N := some 94) (v := ?_) (a' := ?_) #[true, true, true, true, true, true, true, true, true, false, false, false, false, false] rfl rfl (take_ofW HT_.out HW_.out (by kernel_rfl)) (fun _ _ _ h => h) (Or.inl ⟨by rfl, ?_⟩) hHeld ?_ ?_
                        rotate_left
                        · rintro w' ⟨s0, s1, s2, s3, s4, s5⟩
                          go_simp
                          with_reducible rfl
                        rotate_left
                        · simp only [Act.put, List.setIfInBounds_toArray, List.set_cons_zero, List.set_cons_succ, i64_w, i32_w]
                          rfl
                        refine one_ (i := 9) (N := some 101) #[true, true, true, true, true, true, true, true, true, true, false, false, false, false] rfl rfl (one_of HT_.out (by kernel_rfl)) (by decide) (fun K hK => ?_)
                        refine goes_ Try.func37 (by kernel_rfl) rfl #[.agg #[.int .i64 a0_0, .int .i64 a0_1, .slice A0_2 l0_2.length c0_2], .int .i64 a1, .int .i64 a2, .int .i64 a3, .int .i64 a4, .int .i64 x17_3, .int .i64 x16_2] (by rfl) rfl rfl (by (try simp only [List.map_toArray, List.map_cons, List.map_nil]); first | done | rfl | (simp only [List.length_drop, List.length_take]; rfl)) ?_
                        with_reducible refine (Bm.calls k3 a0_0 a0_1 _ _ l0_2 a1 a2 a3 a4 x17_3 x16_2 t122 _ ?side1 ?side2 A63.out).mono ?_
                        (case side1 => repeat (first | exact (Kd.Bw HR0_2.out HB.out) | (with_reducible refine Kd.B5 ?_ _) | (with_reducible refine Kd.B6 ?_ _) | (with_reducible refine Kd.Ca ?_)))
                        (case side2 => exact HC0_2.out)
                        rintro e w70 ⟨rfl, hb⟩
                        refine ⟨_, rfl, ?_⟩
                        have n0_ := Ad.mk (Kd.Bn (by (with_reducible repeat (first | apply Kd.An | apply Kd.Am | apply Kd.Aq)); exact HO_122002.out) hb)
                        have n1_ := Ad.mk (Ak (g := gb117) (o := .cells #[.int .i64 a0_0, .int .i64 a0_1, .slice A0_2 l0_2.length c0_2] 25 (0, 0)) (by (with_reducible repeat (first | refine Ab ?_ _ | refine Ac ?_ | refine Aa ?_ _)); exact BK117.out) hb)
                        have n2_ := Ad.mk (Ak (g := gb118) (o := .cells #[.int .i64 a5_0, .int .i64 a5_1, .int .i64 a5_2, .int .i64 a5_3] 38 (0, 0)) (by (with_reducible repeat (first | refine Ab ?_ _ | refine Ac ?_ | refine Aa ?_ _)); exact BK118.out) hb)
                        have n3_ := Ad.mk (Ak (g := gb119) (o := .cells #[.int .i64 0, .int .i64 0, .slice none 0 0] 25 (0, 0)) (by (with_reducible repeat (first | refine Ab ?_ _ | refine Ac ?_ | refine Aa ?_ _)); exact BK119.out) hb)
                        have n4_ := Ad.mk (Ak (g := gb121) (o := .cells #[.int .i64 (wrap64 (a5_2 - a5_0)), .int .i64 (wrap64 (a5_3 - a5_1)), u122002] 25 (0, 0)) (by (with_reducible repeat (first | refine Ab ?_ _ | refine Ac ?_ | refine Aa ?_ _)); exact BK121.out) hb)
                        have n5_ := Ad.mk (Ar (by repeat (first | (with_reducible first | exact HB.out | apply Ah | apply Af | apply Ai | refine Ae ?_ GE117.out | refine Ae ?_ GE118.out | refine Ae ?_ GE119.out | refine Ae ?_ GE121.out) | exact HB.out)) hb)
                        clear HO_122002
                        clear BK117
                        clear BK118
                        clear BK119
                        clear BK121
                        clear HB
                        have HO_122002 := n0_
                        have BK117 := n1_
                        have BK118 := n2_
                        have BK119 := n3_
                        have BK121 := n4_
                        have HB := n5_
                        clear n0_ n1_ n2_ n3_ n4_ n5_
                        (try clear hb)
                        (try clear hb2)
                        (try clear hk)
                        (try clear hi)
                        refine hK.out _ _ ⟨(Aj BK121.out 0).trans rfl, (Aj BK121.out 1).trans rfl, (Aj BK121.out 2).trans rfl, (Aj BK117.out 0).trans rfl, (Aj BK117.out 1).trans rfl, (Aj BK117.out 2).trans rfl⟩ (fun hHeld => ?_)
                        clear hK K
                        refine norm_ (a' := ?_) ?_ ?_
                        rotate_left
                        · show Act.put _ (some 101) _ = _
                          simp only [Act.put, List.setIfInBounds_toArray, List.set_cons_zero, List.set_cons_succ, i64_w, i32_w]
                          rfl
                        refine one_ (i := 10) (N := some 102) #[true, true, true, true, true, true, true, true, true, true, true, false, false, false] rfl rfl (one_of HT_.out (by kernel_rfl)) (by decide) (fun K hK => ?_)
                        refine value_ (w1 := ?_) (v := ?_) (by rfl) rfl ?_ ?_
                        rotate_left 2
                        · go_simp
                          constructor
                          · rfl
                          · rfl
                        refine hK.out _ _ ⟨(Aj (Aa BK121.out _) 0).trans rfl, (Aj (Aa BK121.out _) 1).trans rfl, (Aj (Aa BK121.out _) 2).trans rfl, (Aj (Aa BK117.out _) 0).trans rfl, (Aj (Aa BK117.out _) 1).trans rfl, (Aj (Aa BK117.out _) 2).trans rfl⟩ (fun hHeld => ?_)
                        clear hK K
                        refine norm_ (a' := ?_) ?_ ?_
                        rotate_left
                        · show Act.put _ (some 102) _ = _
                          simp only [Act.put, List.setIfInBounds_toArray, List.set_cons_zero, List.set_cons_succ, i64_w, i32_w]
                          rfl
                        refine one_ (i := 11) (N := some 103) #[true, true, true, true, true, true, true, true, true, true, true, true, false, false] rfl rfl (one_of HT_.out (by kernel_rfl)) (by decide) (fun K hK => ?_)
                        refine Kd.R_append_step (Kd.int .u32) (w0 := w) w.heap.size (by rfl) (.tmp 93) (.tmp 102) 23 41 (.int .u32 0) 4 rfl Try.underlying23 info41 rfl (by decide) (by omega) u122002 x122002_3 t122 [.int .u32 t122] (fun _ => True) (fun _ => False) rfl rfl ?aP (fun _ hk => hk.elim) ?aF ?aO ?aB ?aS ?aL ?_
                        (case aP => exact rfl)
                        (case aB => exact (by repeat (first | (with_reducible first | exact HB.out | apply Ah | apply Af | apply Ai | refine Ae ?_ GE117.out | refine Ae ?_ GE118.out | refine Ae ?_ GE119.out | refine Ae ?_ GE121.out) | exact HB.out)))
                        (case aF => exact (fun _ _ => trivial))
                        (case aO => exact (by (with_reducible repeat (first | apply Kd.An | apply Kd.Am | apply Kd.Aq)); exact HO_122002.out))
                        (case aS => exact (Ap (by repeat (first | (with_reducible first | exact HB.out | apply Ah | apply Af | apply Ai | refine Ae ?_ GE117.out | refine Ae ?_ GE118.out | refine Ae ?_ GE119.out | refine Ae ?_ GE121.out) | exact HB.out))))
                        (case aL => have := LMc64.out; omega)
                        intro v124 w71 ho hb hg hat
                        rw [← Ny123.out] at ho
                        have n0_ := Ad.mk (Cq (g := gb117) (o := .cells #[.int .i64 a0_0, .int .i64 a0_1, .slice A0_2 l0_2.length c0_2] 25 (0, 0)) (by (with_reducible repeat (first | refine Ab ?_ _ | refine Ac ?_ | refine Aa ?_ _)); exact BK117.out) hg (Kd.R_ne HO_122002.out BK117.out (by decide)))
                        have n1_ := Ad.mk (Cq (g := gb118) (o := .cells #[.int .i64 a5_0, .int .i64 a5_1, .int .i64 a5_2, .int .i64 a5_3] 38 (0, 0)) (by (with_reducible repeat (first | refine Ab ?_ _ | refine Ac ?_ | refine Aa ?_ _)); exact BK118.out) hg (Kd.R_ne HO_122002.out BK118.out (by decide)))
                        have n2_ := Ad.mk (Cq (g := gb119) (o := .cells #[.int .i64 0, .int .i64 0, .slice none 0 0] 25 (0, 0)) (by (with_reducible repeat (first | refine Ab ?_ _ | refine Ac ?_ | refine Aa ?_ _)); exact BK119.out) hg (Kd.R_ne HO_122002.out BK119.out (by decide)))
                        have n3_ := Ad.mk (Cq (g := gb121) (o := .cells #[.int .i64 (wrap64 (a5_2 - a5_0)), .int .i64 (wrap64 (a5_3 - a5_1)), u122002] 25 (0, 0)) (by (with_reducible repeat (first | refine Ab ?_ _ | refine Ac ?_ | refine Aa ?_ _)); exact BK121.out) hg (Kd.R_ne HO_122002.out BK121.out (by decide)))
                        have n4_ := Ad.mk (hb)
                        have n5_ := Ad.mk (ho)
                        clear BK117
                        clear BK118
                        clear BK119
                        clear BK121
                        clear HB
                        clear HO_122002
                        have BK117 := n0_
                        have BK118 := n1_
                        have BK119 := n2_
                        have BK121 := n3_
                        have HB := n4_
                        have HO125 := n5_
                        clear n0_ n1_ n2_ n3_ n4_ n5_
                        clear ho hb hg hat
                        obtain ⟨Ao72, co72, eo72⟩ := Kd.Bz HO125.out
                        (first | subst eo72 | (injection eo72 with f1_ f2_ f3_; have f4_ := f1_.symm; have f5_ := f3_.symm; clear f1_ f2_ f3_; subst f4_; subst f5_))
                        refine hK.out _ _ ⟨(Aj BK121.out 0).trans rfl, (Aj BK121.out 1).trans rfl, (Aj BK121.out 2).trans rfl, (Aj BK117.out 0).trans rfl, (Aj BK117.out 1).trans rfl, (Aj BK117.out 2).trans rfl⟩ (fun hHeld => ?_)
                        clear hK K
                        refine norm_ (a' := ?_) ?_ ?_
                        rotate_left
                        · show Act.put _ (some 103) _ = _
                          simp only [Act.put, List.setIfInBounds_toArray, List.set_cons_zero, List.set_cons_succ, i64_w, i32_w]
                          rfl
                        refine pure_ (i := 12) (N := some 104) (v := ?_) (a' := ?_) #[true, true, true, true, true, true, true, true, true, true, true, true, true, false] rfl rfl (any_of HT_.out (by kernel_rfl)) (fun _ _ _ h => h) (Or.inl ⟨by rfl, ?_⟩) ?_ ?_
                        rotate_left
                        · intro w'
                          go_simp
                          with_reducible rfl
                        rotate_left
                        · simp only [Act.put, List.setIfInBounds_toArray, List.set_cons_zero, List.set_cons_succ, i64_w, i32_w]
                          rfl
                        refine last_ (i := 13) (N := none) #[true, true, true, true, true, true, true, true, true, true, true, true, true, true] rfl rfl (one_of HT_.out (by kernel_rfl)) (by decide) (fun K hK => ?_)
                        have hs73 : w71.cell? ⟨gb121, 2, none⟩ = some (u122002) := (Aj BK121.out 2).trans rfl
                        have hfs73 := Ag BK121.out 2
                        have hns73_0 := NB117_121.out
                        have hns73_1 := NB118_121.out
                        have hns73_2 := NB119_121.out
                        have hms73_0 := NB121_117.out
                        have hms73_1 := NB121_118.out
                        have hms73_2 := NB121_119.out
                        refine skip_ (w1 := ?_) (by rfl) rfl ?_ ?_
                        rotate_left
                        · go_simp
                          rfl
                        refine hK.out _ _ ?_
                        clear hK K
                        refine done_ (done_of HT_.out (by kernel_rfl)) ?_
                        try go_wp2
                        go_roundg k3
                        case measure => have := HJ8.out; have := HK2.out; have := HK3.out; omega
                        case rel => exact ⟨(wrap64 (x17_3 + 1)), (y123), (.slice Ao72 y123.length co72), (by first | rfl | (simp; done) | (simp [*]; done)), H', ⟨by have := HJ8.out; have := HK2.out; have := HK3.out; omega⟩, ⟨by (with_reducible repeat (first | apply Kd.An | apply Kd.Am | apply Kd.Aq)); exact Kd.Bk (Kd.Au (p := ⟨gb121, 2, none⟩) (Kd.Bg HO125.out BK121.out (by decide)) (fun _ hk => hk.2) (.slice Ao72 y123.length co72)) (fun _ hk => trivial)⟩, ⟨by (with_reducible repeat (first | refine Ab ?_ _ | refine Ac ?_ | refine Aa ?_ _)); refine Ao ?_ NB117_121.out _; (with_reducible repeat (first | refine Ab ?_ _ | refine Ac ?_ | refine Aa ?_ _)); exact BK117.out⟩, ⟨by (with_reducible repeat (first | refine Ab ?_ _ | refine Ac ?_ | refine Aa ?_ _)); refine Ao ?_ NB118_121.out _; (with_reducible repeat (first | refine Ab ?_ _ | refine Ac ?_ | refine Aa ?_ _)); exact BK118.out⟩, ⟨by (with_reducible repeat (first | refine Ab ?_ _ | refine Ac ?_ | refine Aa ?_ _)); refine Ao ?_ NB119_121.out _; (with_reducible repeat (first | refine Ab ?_ _ | refine Ac ?_ | refine Aa ?_ _)); exact BK119.out⟩, ⟨by (with_reducible repeat (first | refine Ab ?_ _ | refine Ac ?_ | refine Aa ?_ _)); refine As (cs := #[.int .i64 (wrap64 (a5_2 - a5_0)), .int .i64 (wrap64 (a5_3 - a5_1)), u122002]) ?_ 2 _ rfl; (with_reducible repeat (first | refine Ab ?_ _ | refine Ac ?_ | refine Aa ?_ _)); exact BK121.out⟩, ⟨by repeat (first | (with_reducible first | exact HB.out | apply Ah | apply Af | apply Ai | refine Ae ?_ GE117.out | refine Ae ?_ GE118.out | refine Ae ?_ GE119.out | refine Ae ?_ GE121.out) | exact HB.out)⟩⟩
                      · rw [if_neg c64] at H
                        exact absurd H (by simp)
                    · rw [if_neg c62] at H
                      have c62b0 : decide (x17_3 < a5_2) = false := decide_eq_false c62
                      clear c62
                      have H' := Ad.mk H
                      clear H
                      have hnb74 := NB118_117.out
                      have hnc74 := NB117_118.out
                      have hnb75 := NB118_119.out
                      have hnc75 := NB119_118.out
                      have hnb76 := NB118_121.out
                      have hnc76 := NB121_118.out
                      have hcz77_0 : wr.cell? ⟨gb118, 0, none⟩ = some (.int .i64 a5_0) := (Aj BK118.out 0).trans rfl
                      have hcz77_1 : wr.cell? ⟨gb118, 1, none⟩ = some (.int .i64 a5_1) := (Aj BK118.out 1).trans rfl
                      have hcz77_2 : wr.cell? ⟨gb118, 2, none⟩ = some (.int .i64 a5_2) := (Aj BK118.out 2).trans rfl
                      have hcz77_3 : wr.cell? ⟨gb118, 3, none⟩ = some (.int .i64 a5_3) := (Aj BK118.out 3).trans rfl
                      have hfz77_0 := Ag BK118.out 0
                      have hfz77_1 := Ag BK118.out 1
                      have hfz77_2 := Ag BK118.out 2
                      have hfz77_3 := Ag BK118.out 3
                      go_wp2
                      go_roundg k3
                      case measure => have := HJ8.out; have := HK2.out; have := HK3.out; omega
                      case rel => exact ⟨(wrap64 (x16_2 + 1)), (x122002_3), (u122002), (by first | rfl | (simp; done) | (simp [*]; done)), H', ⟨by have := HJ8.out; have := HK2.out; have := HK3.out; omega⟩, ⟨by (with_reducible repeat (first | apply Kd.An | apply Kd.Am | apply Kd.Aq)); exact HO_122002.out⟩, ⟨by (with_reducible repeat (first | refine Ab ?_ _ | refine Ac ?_ | refine Aa ?_ _)); exact BK117.out⟩, ⟨by (with_reducible repeat (first | refine Ab ?_ _ | refine Ac ?_ | refine Aa ?_ _)); exact BK118.out⟩, ⟨by (with_reducible repeat (first | refine Ab ?_ _ | refine Ac ?_ | refine Aa ?_ _)); exact BK119.out⟩, ⟨by (with_reducible repeat (first | refine Ab ?_ _ | refine Ac ?_ | refine Aa ?_ _)); exact BK121.out⟩, ⟨by repeat (first | (with_reducible first | exact HB.out | apply Ah | apply Af | apply Ai | refine Ae ?_ GE117.out | refine Ae ?_ GE118.out | refine Ae ?_ GE119.out | refine Ae ?_ GE121.out) | exact HB.out)⟩⟩
              · rw [if_neg c57] at H
                have c57b0 : decide (x16_2 < a5_3) = false := decide_eq_false c57
                clear c57
                simp only [Option.some.injEq, Prod.mk.injEq] at H
                obtain ⟨rfl, rfl, rfl, rfl⟩ := H
                have hnb78 := NB118_117.out
                have hnc78 := NB117_118.out
                have hnb79 := NB118_119.out
                have hnc79 := NB119_118.out
                have hnb80 := NB118_121.out
                have hnc80 := NB121_118.out
                have hcz81_0 : wr.cell? ⟨gb118, 0, none⟩ = some (.int .i64 a5_0) := (Aj BK118.out 0).trans rfl
                have hcz81_1 : wr.cell? ⟨gb118, 1, none⟩ = some (.int .i64 a5_1) := (Aj BK118.out 1).trans rfl
                have hcz81_2 : wr.cell? ⟨gb118, 2, none⟩ = some (.int .i64 a5_2) := (Aj BK118.out 2).trans rfl
                have hcz81_3 : wr.cell? ⟨gb118, 3, none⟩ = some (.int .i64 a5_3) := (Aj BK118.out 3).trans rfl
                have hfz81_0 := Ag BK118.out 0
                have hfz81_1 := Ag BK118.out 1
                have hfz81_2 := Ag BK118.out 2
                have hfz81_3 := Ag BK118.out 3
                have hnb82 := NB121_117.out
                have hnc82 := NB117_121.out
                have hnb83 := NB121_119.out
                have hnc83 := NB119_121.out
                have hcz84_0 : wr.cell? ⟨gb121, 0, none⟩ = some (.int .i64 (wrap64 (a5_2 - a5_0))) := (Aj BK121.out 0).trans rfl
                have hcz84_1 : wr.cell? ⟨gb121, 1, none⟩ = some (.int .i64 (wrap64 (a5_3 - a5_1))) := (Aj BK121.out 1).trans rfl
                have hcz84_2 : wr.cell? ⟨gb121, 2, none⟩ = some (u122002) := (Aj BK121.out 2).trans rfl
                have hfz84_0 := Ag BK121.out 0
                have hfz84_1 := Ag BK121.out 1
                have hfz84_2 := Ag BK121.out 2
                have hnb85 := NB119_117.out
                have hnc85 := NB117_119.out
                have hcz86_0 : wr.cell? ⟨gb119, 0, none⟩ = some (.int .i64 0) := (Aj BK119.out 0).trans rfl
                have hcz86_1 : wr.cell? ⟨gb119, 1, none⟩ = some (.int .i64 0) := (Aj BK119.out 1).trans rfl
                have hcz86_2 : wr.cell? ⟨gb119, 2, none⟩ = some (.slice none 0 0) := (Aj BK119.out 2).trans rfl
                have hfz86_0 := Ag BK119.out 0
                have hfz86_1 := Ag BK119.out 1
                have hfz86_2 := Ag BK119.out 2
                obtain ⟨Ao87, co87, eo87⟩ := Kd.Bz HO_122002.out
                subst eo87
                go_wp2
                refine bodyPost_ret (results_ct rfl _ _ gb119 25 #[.int .i64 (wrap64 (a5_2 - a5_0)), .int .i64 (wrap64 (a5_3 - a5_1)), .slice Ao87 x122002_2.length co87] (0, 0) _ rfl (by (with_reducible repeat (first | refine Ab ?_ _ | refine Ac ?_ | refine Aa ?_ _)); refine As (cs := #[.int .i64 (wrap64 (a5_2 - a5_0)), .int .i64 (wrap64 (a5_3 - a5_1)), .slice none 0 0]) ?_ 2 _ rfl; (with_reducible repeat (first | refine Ab ?_ _ | refine Ac ?_ | refine Aa ?_ _)); refine As (cs := #[.int .i64 (wrap64 (a5_2 - a5_0)), .int .i64 0, .slice none 0 0]) ?_ 1 _ rfl; (with_reducible repeat (first | refine Ab ?_ _ | refine Ac ?_ | refine Aa ?_ _)); refine As (cs := #[.int .i64 0, .int .i64 0, .slice none 0 0]) ?_ 0 _ rfl; (with_reducible repeat (first | refine Ab ?_ _ | refine Ac ?_ | refine Aa ?_ _)); exact BK119.out) Try.underlying25 rfl (by kernel_rfl)) rfl ?_
                exact ⟨_, by first | rfl | (simp [Bb, Ba] <;> rfl) | (simp [*, Bb, Ba] <;> rfl), by (with_reducible repeat (first | apply Kd.An | apply Kd.Am | apply Kd.Aq)); exact Kd.Bk (Kd.Au (p := ⟨gb119, 2, none⟩) (Kd.Au (p := ⟨gb119, 1, none⟩) (Kd.Au (p := ⟨gb119, 0, none⟩) (Kd.Bg HO_122002.out BK119.out (by decide)) (fun _ hk => hk.2) (.int .i64 (wrap64 (a5_2 - a5_0)))) (fun _ hk => hk.2) (.int .i64 (wrap64 (a5_3 - a5_1)))) (fun _ hk => hk.2) (.slice Ao87 x122002_2.length co87)) (fun _ hk => trivial), by repeat (first | (with_reducible first | exact HB.out | apply Ah | apply Af | apply Ai | refine Ae ?_ GE117.out | refine Ae ?_ GE118.out | refine Ae ?_ GE119.out | refine Ae ?_ GE121.out) | exact HB.out)⟩
  · rw [if_neg c8] at H
    have c8b0 : (t120 == 0) = false := beq_eq_false_iff_ne.mpr c8
    have c8b1 : (t120 != 0) = true := bne_iff_ne.mpr c8
    simp only [Option.some.injEq, Prod.mk.injEq] at H
    obtain ⟨rfl, rfl, rfl, rfl⟩ := H
    go_enter Try.func20, Try.ntmps20
    go_wp2_with (first | ((with_reducible refine Bj (N := 6) rfl ?_); refine Bh ?hg (N := 6) ?hd (cs := #[.int .i64 a0_0, .int .i64 a0_1, .slice A0_2 l0_2.length c0_2]) (t := 25) ?hr ?_; (case hd => rfl); (case hg => rfl); (case hr => first | (go_simp; done) | (go_simp; rfl)); intro gb117 hg w88 hbox hb; have n0_ := Ad.mk (Ar (by repeat (first | (with_reducible first | exact HB.out | apply Ah | apply Af | apply Ai) | exact HB.out)) hb); have n1_ := Ad.mk (hbox); have n2_ := Ad.mk ((by rw [hg]; exact (Ap (by repeat (first | (with_reducible first | exact HB.out | apply Ah | apply Af | apply Ai) | exact HB.out))) : w.heap.size ≤ gb117)); have n3_ := Ad.mk ((by rw [hg]; exact (Ap (by repeat (first | (with_reducible first | exact HB.out | apply Ah | apply Af | apply Ai) | exact HB.out))) : w.heap.size ≤ gb117)); clear HB; have HB := n0_; have BK117 := n1_; have GW117 := n2_; have GE117 := n3_; clear n0_ n1_ n2_ n3_; clear hb hbox hg) | ((with_reducible refine Bj (N := 11) rfl ?_); refine Bh ?hg (N := 11) ?hd (cs := #[.int .i64 a5_0, .int .i64 a5_1, .int .i64 a5_2, .int .i64 a5_3]) (t := 38) ?hr ?_; (case hd => rfl); (case hg => rfl); (case hr => first | (go_simp; done) | (go_simp; rfl)); intro gb118 hg w89 hbox hb; have n0_ := Ad.mk (Ak (g := gb117) (o := .cells #[.int .i64 a0_0, .int .i64 a0_1, .slice A0_2 l0_2.length c0_2] 25 (0, 0)) (by (with_reducible repeat (first | refine Ab ?_ _ | refine Ac ?_ | refine Aa ?_ _)); exact BK117.out) hb); have n1_ := Ad.mk (Ar (by repeat (first | (with_reducible first | exact HB.out | apply Ah | apply Af | apply Ai | refine Ae ?_ GE117.out) | exact HB.out)) hb); have n2_ := Ad.mk (hbox); have n3_ := Ad.mk ((by rw [hg]; exact (Ap (by repeat (first | (with_reducible first | exact HB.out | apply Ah | apply Af | apply Ai | refine Ae ?_ GE117.out) | exact HB.out))) : w.heap.size ≤ gb118)); have n4_ := Ad.mk ((by rw [hg]; exact (Ap (by repeat (first | (with_reducible first | exact HB.out | apply Ah | apply Af | apply Ai | refine Ae ?_ GE117.out) | exact HB.out))) : w.heap.size ≤ gb118)); have n5_ := Ad.mk ((by rw [hg]; exact Nat.ne_of_lt (Aw (g := gb117) (o := .cells #[.int .i64 a0_0, .int .i64 a0_1, .slice A0_2 l0_2.length c0_2] 25 (0, 0)) (by (with_reducible repeat (first | refine Ab ?_ _ | refine Ac ?_ | refine Aa ?_ _)); exact BK117.out)) : gb117 ≠ gb118)); have n6_ := Ad.mk ((by rw [hg]; exact Nat.ne_of_gt (Aw (g := gb117) (o := .cells #[.int .i64 a0_0, .int .i64 a0_1, .slice A0_2 l0_2.length c0_2] 25 (0, 0)) (by (with_reducible repeat (first | refine Ab ?_ _ | refine Ac ?_ | refine Aa ?_ _)); exact BK117.out)) : gb118 ≠ gb117)); clear BK117; clear HB; have BK117 := n0_; have HB := n1_; have BK118 := n2_; have GW118 := n3_; have GE118 := n4_; have NB117_118 := n5_; have NB118_117 := n6_; clear n0_ n1_ n2_ n3_ n4_ n5_ n6_; clear hb hbox hg) | ((with_reducible refine Bj (N := 12) rfl ?_); refine Bh ?hg (N := 12) ?hd (cs := #[.int .i64 0, .int .i64 0, .slice none 0 0]) (t := 25) ?hr ?_; (case hd => rfl); (case hg => rfl); (case hr => first | (go_simp; done) | (go_simp; rfl)); intro gb119 hg w90 hbox hb; have n0_ := Ad.mk (Ak (g := gb117) (o := .cells #[.int .i64 a0_0, .int .i64 a0_1, .slice A0_2 l0_2.length c0_2] 25 (0, 0)) (by (with_reducible repeat (first | refine Ab ?_ _ | refine Ac ?_ | refine Aa ?_ _)); exact BK117.out) hb); have n1_ := Ad.mk (Ak (g := gb118) (o := .cells #[.int .i64 a5_0, .int .i64 a5_1, .int .i64 a5_2, .int .i64 a5_3] 38 (0, 0)) (by (with_reducible repeat (first | refine Ab ?_ _ | refine Ac ?_ | refine Aa ?_ _)); exact BK118.out) hb); have n2_ := Ad.mk (Ar (by repeat (first | (with_reducible first | exact HB.out | apply Ah | apply Af | apply Ai | refine Ae ?_ GE117.out | refine Ae ?_ GE118.out) | exact HB.out)) hb); have n3_ := Ad.mk (hbox); have n4_ := Ad.mk ((by rw [hg]; exact (Ap (by repeat (first | (with_reducible first | exact HB.out | apply Ah | apply Af | apply Ai | refine Ae ?_ GE117.out | refine Ae ?_ GE118.out) | exact HB.out))) : w.heap.size ≤ gb119)); have n5_ := Ad.mk ((by rw [hg]; exact (Ap (by repeat (first | (with_reducible first | exact HB.out | apply Ah | apply Af | apply Ai | refine Ae ?_ GE117.out | refine Ae ?_ GE118.out) | exact HB.out))) : w.heap.size ≤ gb119)); have n6_ := Ad.mk ((by rw [hg]; exact Nat.ne_of_lt (Aw (g := gb117) (o := .cells #[.int .i64 a0_0, .int .i64 a0_1, .slice A0_2 l0_2.length c0_2] 25 (0, 0)) (by (with_reducible repeat (first | refine Ab ?_ _ | refine Ac ?_ | refine Aa ?_ _)); exact BK117.out)) : gb117 ≠ gb119)); have n7_ := Ad.mk ((by rw [hg]; exact Nat.ne_of_gt (Aw (g := gb117) (o := .cells #[.int .i64 a0_0, .int .i64 a0_1, .slice A0_2 l0_2.length c0_2] 25 (0, 0)) (by (with_reducible repeat (first | refine Ab ?_ _ | refine Ac ?_ | refine Aa ?_ _)); exact BK117.out)) : gb119 ≠ gb117)); have n8_ := Ad.mk ((by rw [hg]; exact Nat.ne_of_lt (Aw (g := gb118) (o := .cells #[.int .i64 a5_0, .int .i64 a5_1, .int .i64 a5_2, .int .i64 a5_3] 38 (0, 0)) (by (with_reducible repeat (first | refine Ab ?_ _ | refine Ac ?_ | refine Aa ?_ _)); exact BK118.out)) : gb118 ≠ gb119)); have n9_ := Ad.mk ((by rw [hg]; exact Nat.ne_of_gt (Aw (g := gb118) (o := .cells #[.int .i64 a5_0, .int .i64 a5_1, .int .i64 a5_2, .int .i64 a5_3] 38 (0, 0)) (by (with_reducible repeat (first | refine Ab ?_ _ | refine Ac ?_ | refine Aa ?_ _)); exact BK118.out)) : gb119 ≠ gb118)); clear BK117; clear BK118; clear HB; have BK117 := n0_; have BK118 := n1_; have HB := n2_; have BK119 := n3_; have GW119 := n4_; have GE119 := n5_; have NB117_119 := n6_; have NB119_117 := n7_; have NB118_119 := n8_; have NB119_118 := n9_; clear n0_ n1_ n2_ n3_ n4_ n5_ n6_ n7_ n8_ n9_; clear hb hbox hg; have hnb91 := NB117_118.out; have hnc91 := NB118_117.out; have hnb92 := NB117_119.out; have hnc92 := NB119_117.out; have hcz93_0 : w90.cell? ⟨gb117, 0, none⟩ = some (.int .i64 a0_0) := (Aj BK117.out 0).trans rfl; have hcz93_1 : w90.cell? ⟨gb117, 1, none⟩ = some (.int .i64 a0_1) := (Aj BK117.out 1).trans rfl; have hcz93_2 : w90.cell? ⟨gb117, 2, none⟩ = some (.slice A0_2 l0_2.length c0_2) := (Aj BK117.out 2).trans rfl; have hfz93_0 := Ag BK117.out 0; have hfz93_1 := Ag BK117.out 1; have hfz93_2 := Ag BK117.out 2) | ((with_reducible refine Bi (f := 30) rfl ?_); refine Bx (some 23) rfl rfl Try.func30 (by kernel_rfl) rfl #[.agg #[.int .i64 a0_0, .int .i64 a0_1, .slice A0_2 l0_2.length c0_2], .int .i64 a1, .int .i64 a2, .int .i64 a3, .int .i64 a4] rfl (by (try simp only [List.map_toArray, List.map_cons, List.map_nil]); first | done | rfl | (simp only [List.length_drop, List.length_take]; rfl)) ?_; (with_reducible refine (Bf.calls k a0_0 a0_1 _ _ l0_2 a1 a2 a3 a4 t120 _ ?side1 ?side2 A7.out).mono ?_); (case side1 => repeat (first | exact (Kd.Bw HR0_2.out HB.out) | (with_reducible refine Kd.B5 ?_ _) | (with_reducible refine Kd.B6 ?_ _) | (with_reducible refine Kd.Ca ?_))); (case side2 => exact HC0_2.out); rintro e w94 ⟨rfl, hb⟩; refine ⟨_, rfl, ?_⟩; have n0_ := Ad.mk (Ak (g := gb117) (o := .cells #[.int .i64 a0_0, .int .i64 a0_1, .slice A0_2 l0_2.length c0_2] 25 (0, 0)) (by (with_reducible repeat (first | refine Ab ?_ _ | refine Ac ?_ | refine Aa ?_ _)); exact BK117.out) hb); have n1_ := Ad.mk (Ak (g := gb118) (o := .cells #[.int .i64 a5_0, .int .i64 a5_1, .int .i64 a5_2, .int .i64 a5_3] 38 (0, 0)) (by (with_reducible repeat (first | refine Ab ?_ _ | refine Ac ?_ | refine Aa ?_ _)); exact BK118.out) hb); have n2_ := Ad.mk (Ak (g := gb119) (o := .cells #[.int .i64 0, .int .i64 0, .slice none 0 0] 25 (0, 0)) (by (with_reducible repeat (first | refine Ab ?_ _ | refine Ac ?_ | refine Aa ?_ _)); exact BK119.out) hb); have n3_ := Ad.mk (Ar (by repeat (first | (with_reducible first | exact HB.out | apply Ah | apply Af | apply Ai | refine Ae ?_ GE117.out | refine Ae ?_ GE118.out | refine Ae ?_ GE119.out) | exact HB.out)) hb); clear BK117; clear BK118; clear BK119; clear HB; have BK117 := n0_; have BK118 := n1_; have BK119 := n2_; have HB := n3_; clear n0_ n1_ n2_ n3_; (try clear hb); (try clear hb2); (try clear hk); (try clear hi); have hnb95 := NB119_118.out; have hnc95 := NB118_119.out; have hcz96_0 : w94.cell? ⟨gb119, 0, none⟩ = some (.int .i64 0) := (Aj BK119.out 0).trans rfl; have hcz96_1 : w94.cell? ⟨gb119, 1, none⟩ = some (.int .i64 0) := (Aj BK119.out 1).trans rfl; have hcz96_2 : w94.cell? ⟨gb119, 2, none⟩ = some (.slice none 0 0) := (Aj BK119.out 2).trans rfl; have hfz96_0 := Ag BK119.out 0; have hfz96_1 := Ag BK119.out 1; have hfz96_2 := Ag BK119.out 2))
    refine bodyPost_ret (results_ct rfl _ _ gb119 25 #[.int .i64 0, .int .i64 0, .slice none 0 0] (0, 0) _ rfl (by (with_reducible repeat (first | refine Ab ?_ _ | refine Ac ?_ | refine Aa ?_ _)); refine As (cs := #[.int .i64 0, .int .i64 0, .slice none 0 0]) ?_ 2 _ rfl; (with_reducible repeat (first | refine Ab ?_ _ | refine Ac ?_ | refine Aa ?_ _)); refine As (cs := #[.int .i64 0, .int .i64 0, .slice none 0 0]) ?_ 1 _ rfl; (with_reducible repeat (first | refine Ab ?_ _ | refine Ac ?_ | refine Aa ?_ _)); refine As (cs := #[.int .i64 0, .int .i64 0, .slice none 0 0]) ?_ 0 _ rfl; (with_reducible repeat (first | refine Ab ?_ _ | refine Ac ?_ | refine Aa ?_ _)); exact BK119.out) Try.underlying25 rfl (by kernel_rfl)) rfl ?_
    exact ⟨_, by first | rfl | (simp [Bb, Ba] <;> rfl) | (simp [*, Bb, Ba] <;> rfl), by first | exact Kd.Ct _ _ _ _ _ | exact Kd.N_nil _ _ _ _ _ | exact Kd.V_nil _ _ _ _ _ | exact Kd.Q_nil _ _ _ _ _ | exact Kd.S_nil _ _ _ _ _, by repeat (first | (with_reducible first | exact HB.out | apply Ah | apply Af | apply Ai | refine Ae ?_ GE117.out | refine Ae ?_ GE118.out | refine Ae ?_ GE119.out) | exact HB.out)⟩

end Go.Proofs.Ythpmkelcjlljmaa.PRD

