import Derived.Test.YthpmkelcjlljmaaPRBx0
import Derived.Test.YthpmkelcjlljmaaPRAx1
import Derived.Test.YthpmkelcjlljmaaRH2
namespace Go.Proofs.Ythpmkelcjlljmaa.PRB
open Go.Proofs.Ythpmkelcjlljmaa.PRA
open Go.RowKit Go.Proofs.YthpmkelcjlljmaaW.PrintWords Go.Proofs.YthpmkelcjlljmaaW.PrintLast Go.Proofs.YthpmkelcjlljmaaW.PrintMore
attribute [local go_sem] max2_int min2_int max_two min_two max_three min_three max_four min_four   -- for this text's walks alone
set_option linter.unusedVariables false
set_option linter.unusedSimpArgs false

mutual
def Az.l0 : Nat → Int → Int → Int → Int → Int → List Int → Int → Int → Int → Int → Int → Int → Int → Int → Int → List Int → Option (Int × Int × List Int)
  | 0, _, _, _, _, _, _, _, _, _, _, _, _, _, _, _, _ => none
  | k + 1, x1, x22, x23, x102000, x102001, x102002, x102003, x102004, x102005, x103000, x103001, x103002, x103003, x105000, x105001, x105002 => if x23 < x22 then (Az.l1 k x1 x23 x22 x23 x105000 0 x102000 x102001 x102002 x102003 x102004 x102005 x103000 x103001 x103002 x103003 x105000 x105001 x105002) else (some (x105000, x105001, x105002))
def Az.l1 : Nat → Int → Int → Int → Int → Int → Int → Int → Int → List Int → Int → Int → Int → Int → Int → Int → Int → Int → Int → List Int → Option (Int × Int × List Int)
  | 0, _, _, _, _, _, _, _, _, _, _, _, _, _, _, _, _, _, _, _ => none
  | k + 1, x1, x8, x22, x23, x27, x28, x102000, x102001, x102002, x102003, x102004, x102005, x103000, x103001, x103002, x103003, x105000, x105001, x105002 => if x28 < x27 then ((Ch.f x102000 x102001 x102002 x102003 x102004 x102005 x1 (wrap64 (x103000 + x28)) (wrap64 (x103001 + x8))).bind fun t105 => (if x105002.length < 35184372088832 then (Az.l1 k x1 x8 x22 x23 x27 (wrap64 (x28 + 1)) x102000 x102001 x102002 x102003 x102004 x102005 x103000 x103001 x103002 x103003 x105000 x105001 (x105002 ++ [t105])) else (none))) else (Az.l0 k x1 x22 (wrap64 (x23 + 1)) x102000 x102001 x102002 x102003 x102004 x102005 x103000 x103001 x103002 x103003 x105000 x105001 x105002)
end
def Az.f (k : Nat) (a0_0 : Int) (a0_1 : Int) (l0_2 : List Int) (a0_3 : Int) (a0_4 : Int) (a0_5 : Int) (a1 : Int) (a2_0 : Int) (a2_1 : Int) (a2_2 : Int) (a2_3 : Int) : Option (Int × Int × List Int) := Az.l0 k a1 (wrap64 (a2_3 - a2_1)) 0 a0_0 a0_1 l0_2 a0_3 a0_4 a0_5 a2_0 a2_1 a2_2 a2_3 (wrap64 (a2_2 - a2_0)) (wrap64 (a2_3 - a2_1)) ([] : List Int)
theorem Az.mono_l : ∀ k, (∀ y0 y1 y2 y3 y4 y5 y6 y7 y8 y9 y10 y11 y12 y13 y14 y15, LeO (Az.l0 k y0 y1 y2 y3 y4 y5 y6 y7 y8 y9 y10 y11 y12 y13 y14 y15) (Az.l0 (k + 1) y0 y1 y2 y3 y4 y5 y6 y7 y8 y9 y10 y11 y12 y13 y14 y15)) ∧ (∀ y0 y1 y2 y3 y4 y5 y6 y7 y8 y9 y10 y11 y12 y13 y14 y15 y16 y17 y18, LeO (Az.l1 k y0 y1 y2 y3 y4 y5 y6 y7 y8 y9 y10 y11 y12 y13 y14 y15 y16 y17 y18) (Az.l1 (k + 1) y0 y1 y2 y3 y4 y5 y6 y7 y8 y9 y10 y11 y12 y13 y14 y15 y16 y17 y18))
  | 0 => ⟨fun _ _ _ _ _ _ _ _ _ _ _ _ _ _ _ _ r h => by simp [Az.l0] at h, fun _ _ _ _ _ _ _ _ _ _ _ _ _ _ _ _ _ _ _ r h => by simp [Az.l1] at h⟩
  | k + 1 => by
    obtain ⟨ih0, ih1⟩ := Az.mono_l k
    refine ⟨?_, ?_⟩
    · intro y0 y1 y2 y3 y4 y5 y6 y7 y8 y9 y10 y11 y12 y13 y14 y15
      unfold Az.l0
      repeat' first
      | (with_reducible exact ih0 _ _ _ _ _ _ _ _ _ _ _ _ _ _ _ _)
      | (with_reducible exact ih1 _ _ _ _ _ _ _ _ _ _ _ _ _ _ _ _ _ _ _)
      | (with_reducible exact LeO.refl _)
      | (with_reducible exact LeO.none _)
      | (with_reducible refine LeO.ite ?_ ?_)
      | (with_reducible refine LeO.bind ?_ (fun _ => ?_))
      | exact ih0 _ _ _ _ _ _ _ _ _ _ _ _ _ _ _ _
      | exact ih1 _ _ _ _ _ _ _ _ _ _ _ _ _ _ _ _ _ _ _
      | exact LeO.none _
      | refine LeO.ite ?_ ?_
      | refine LeO.bind ?_ (fun _ => ?_)
    · intro y0 y1 y2 y3 y4 y5 y6 y7 y8 y9 y10 y11 y12 y13 y14 y15 y16 y17 y18
      unfold Az.l1
      repeat' first
      | (with_reducible exact ih0 _ _ _ _ _ _ _ _ _ _ _ _ _ _ _ _)
      | (with_reducible exact ih1 _ _ _ _ _ _ _ _ _ _ _ _ _ _ _ _ _ _ _)
      | (with_reducible exact LeO.refl _)
      | (with_reducible exact LeO.none _)
      | (with_reducible refine LeO.ite ?_ ?_)
      | (with_reducible refine LeO.bind ?_ (fun _ => ?_))
      | exact ih0 _ _ _ _ _ _ _ _ _ _ _ _ _ _ _ _
      | exact ih1 _ _ _ _ _ _ _ _ _ _ _ _ _ _ _ _ _ _ _
      | exact LeO.none _
      | refine LeO.ite ?_ ?_
      | refine LeO.bind ?_ (fun _ => ?_)
theorem Az.mono : ∀ a0 a1 a2 a3 a4 a5 a6 a7 a8 a9 a10 k, LeO (Az.f k a0 a1 a2 a3 a4 a5 a6 a7 a8 a9 a10) (Az.f (k + 1) a0 a1 a2 a3 a4 a5 a6 a7 a8 a9 a10) := by
  intro a0 a1 a2 a3 a4 a5 a6 a7 a8 a9 a10 k
  obtain ⟨ih0, ih1⟩ := Az.mono_l k
  unfold Az.f
  repeat' first
      | (with_reducible exact ih0 _ _ _ _ _ _ _ _ _ _ _ _ _ _ _ _)
      | (with_reducible exact ih1 _ _ _ _ _ _ _ _ _ _ _ _ _ _ _ _ _ _ _)
      | (with_reducible exact LeO.refl _)
      | (with_reducible exact LeO.none _)
      | (with_reducible refine LeO.ite ?_ ?_)
      | (with_reducible refine LeO.bind ?_ (fun _ => ?_))
      | exact ih0 _ _ _ _ _ _ _ _ _ _ _ _ _ _ _ _
      | exact ih1 _ _ _ _ _ _ _ _ _ _ _ _ _ _ _ _ _ _ _
      | exact LeO.none _
      | refine LeO.ite ?_ ?_
      | refine LeO.bind ?_ (fun _ => ?_)
def Az.T8 : Bool × List (List Nat × List Nat) := (true, [([], []), ([0], [0]), ([], []), ([], []), ([], []), ([4], [4]), ([], []), ([5, 6], [5, 6]), ([], []), ([8], [8]), ([], []), ([9, 10], [9, 10]), ([2, 3, 7, 11], [2, 3, 7, 11]), ([12], [12]), ([1, 13, 12], [1, 13]), ([0, 1, 2, 3, 4, 5, 6, 7, 8, 9, 10, 11, 12, 13, 14], []), ([15, 14, 14, 0, 1, 2, 3, 4, 5, 6, 7, 8, 9, 10, 11, 12, 13, 14], [14, 15])])
def Az.B8 : List Nat := [0, 1, 0, 0, 0, 16, 0, 112, 0, 256, 0, 1792, 4092, 8188, 16383, 32767, 65535]
theorem Az.tab8 : rtab .any (opsOf Try.f32 8) = Az.T8 := by kernel_rfl
theorem Az.bits8 : waitsOk Az.T8.2 Az.B8 = true := by kernel_rfl
set_option maxHeartbeats 8000000 in
set_option maxRecDepth 100000 in
theorem Az.calls (k : Nat) (a0_0 : Int) (a0_1 : Int) (A0_2 : Option Addr) (c0_2 : Nat) (l0_2 : List Int) (a0_3 : Int) (a0_4 : Int) (a0_5 : Int) (a1 : Int) (a2_0 : Int) (a2_1 : Int) (a2_2 : Int) (a2_3 : Int) (r1 : Int) (r2 : Int) (r3 : List Int) (w : World) (hr0_2 : Kd.C (Kd.int .u32) w A0_2 l0_2.length l0_2) (hc0_2 : l0_2.length ≤ c0_2) (h : Az.f k a0_0 a0_1 l0_2 a0_3 a0_4 a0_5 a1 a2_0 a2_1 a2_2 a2_3 = some (r1, r2, r3)) :
    Calls Try.prog 32 #[.agg #[.int .i64 a0_0, .int .i64 a0_1, .slice A0_2 l0_2.length c0_2, .int .i64 a0_3, .int .i64 a0_4, .int .i64 a0_5], .int .i64 a1, .agg #[.int .i64 a2_0, .int .i64 a2_1, .int .i64 a2_2, .int .i64 a2_3]] w fun e w' => ∃ v2_ : Value, e = .returned (.agg #[.int .i64 r1, .int .i64 r2, v2_]) ∧ Kd.R (Kd.int .u32) 41 w' w.heap.size (fun _ => True) v2_ r3 ∧ Below w.heap.size w w' := by
  have hu58 := Try.underlying58
  have hu38 := Try.underlying38
  have hu25 := Try.underlying25
  have HR0_2 := Ad.mk hr0_2
  have HC0_2 := Ad.mk hc0_2
  clear hr0_2 hc0_2
  have HB := Ad.mk (Below.refl w.heap.size w)
  have H : (Az.l0 k a1 (wrap64 (a2_3 - a2_1)) 0 a0_0 a0_1 l0_2 a0_3 a0_4 a0_5 a2_0 a2_1 a2_2 a2_3 (wrap64 (a2_2 - a2_0)) (wrap64 (a2_3 - a2_1)) ([] : List Int)) = some (r1, r2, r3) := h
  clear h
  have H' := Ad.mk H
  clear H
  go_enter Try.func32, Try.ntmps32
  go_wp2_with (first | ((with_reducible refine Bj (N := 3) rfl ?_); refine Bh ?hg (N := 3) ?hd (cs := #[.int .i64 a0_0, .int .i64 a0_1, .slice A0_2 l0_2.length c0_2, .int .i64 a0_3, .int .i64 a0_4, .int .i64 a0_5]) (t := 58) ?hr ?_; (case hd => rfl); (case hg => rfl); (case hr => first | (go_simp; done) | (go_simp; rfl)); intro gb101 hg w4 hbox hb; have n0_ := Ad.mk (Ar (by repeat (first | (with_reducible first | exact HB.out | apply Ah | apply Af | apply Ai) | exact HB.out)) hb); have n1_ := Ad.mk (hbox); have n2_ := Ad.mk ((by rw [hg]; exact (Ap (by repeat (first | (with_reducible first | exact HB.out | apply Ah | apply Af | apply Ai) | exact HB.out))) : w.heap.size ≤ gb101)); have n3_ := Ad.mk ((by rw [hg]; exact (Ap (by repeat (first | (with_reducible first | exact HB.out | apply Ah | apply Af | apply Ai) | exact HB.out))) : w.heap.size ≤ gb101)); clear HB; have HB := n0_; have BK101 := n1_; have GW101 := n2_; have GE101 := n3_; clear n0_ n1_ n2_ n3_; clear hb hbox hg) | ((with_reducible refine Bj (N := 5) rfl ?_); refine Bh ?hg (N := 5) ?hd (cs := #[.int .i64 a2_0, .int .i64 a2_1, .int .i64 a2_2, .int .i64 a2_3]) (t := 38) ?hr ?_; (case hd => rfl); (case hg => rfl); (case hr => first | (go_simp; done) | (go_simp; rfl)); intro gb102 hg w5 hbox hb; have n0_ := Ad.mk (Ak (g := gb101) (o := .cells #[.int .i64 a0_0, .int .i64 a0_1, .slice A0_2 l0_2.length c0_2, .int .i64 a0_3, .int .i64 a0_4, .int .i64 a0_5] 58 (0, 0)) (by (with_reducible repeat (first | refine Ab ?_ _ | refine Ac ?_ | refine Aa ?_ _)); exact BK101.out) hb); have n1_ := Ad.mk (Ar (by repeat (first | (with_reducible first | exact HB.out | apply Ah | apply Af | apply Ai | refine Ae ?_ GE101.out) | exact HB.out)) hb); have n2_ := Ad.mk (hbox); have n3_ := Ad.mk ((by rw [hg]; exact (Ap (by repeat (first | (with_reducible first | exact HB.out | apply Ah | apply Af | apply Ai | refine Ae ?_ GE101.out) | exact HB.out))) : w.heap.size ≤ gb102)); have n4_ := Ad.mk ((by rw [hg]; exact (Ap (by repeat (first | (with_reducible first | exact HB.out | apply Ah | apply Af | apply Ai | refine Ae ?_ GE101.out) | exact HB.out))) : w.heap.size ≤ gb102)); have n5_ := Ad.mk ((by rw [hg]; exact Nat.ne_of_lt (Aw (g := gb101) (o := .cells #[.int .i64 a0_0, .int .i64 a0_1, .slice A0_2 l0_2.length c0_2, .int .i64 a0_3, .int .i64 a0_4, .int .i64 a0_5] 58 (0, 0)) (by (with_reducible repeat (first | refine Ab ?_ _ | refine Ac ?_ | refine Aa ?_ _)); exact BK101.out)) : gb101 ≠ gb102)); have n6_ := Ad.mk ((by rw [hg]; exact Nat.ne_of_gt (Aw (g := gb101) (o := .cells #[.int .i64 a0_0, .int .i64 a0_1, .slice A0_2 l0_2.length c0_2, .int .i64 a0_3, .int .i64 a0_4, .int .i64 a0_5] 58 (0, 0)) (by (with_reducible repeat (first | refine Ab ?_ _ | refine Ac ?_ | refine Aa ?_ _)); exact BK101.out)) : gb102 ≠ gb101)); clear BK101; clear HB; have BK101 := n0_; have HB := n1_; have BK102 := n2_; have GW102 := n3_; have GE102 := n4_; have NB101_102 := n5_; have NB102_101 := n6_; clear n0_ n1_ n2_ n3_ n4_ n5_ n6_; clear hb hbox hg) | ((with_reducible refine Bj (N := 6) rfl ?_); refine Bh ?hg (N := 6) ?hd (cs := #[.int .i64 0, .int .i64 0, .slice none 0 0]) (t := 25) ?hr ?_; (case hd => rfl); (case hg => rfl); (case hr => first | (go_simp; done) | (go_simp; rfl)); intro gb103 hg w6 hbox hb; have n0_ := Ad.mk (Ak (g := gb101) (o := .cells #[.int .i64 a0_0, .int .i64 a0_1, .slice A0_2 l0_2.length c0_2, .int .i64 a0_3, .int .i64 a0_4, .int .i64 a0_5] 58 (0, 0)) (by (with_reducible repeat (first | refine Ab ?_ _ | refine Ac ?_ | refine Aa ?_ _)); exact BK101.out) hb); have n1_ := Ad.mk (Ak (g := gb102) (o := .cells #[.int .i64 a2_0, .int .i64 a2_1, .int .i64 a2_2, .int .i64 a2_3] 38 (0, 0)) (by (with_reducible repeat (first | refine Ab ?_ _ | refine Ac ?_ | refine Aa ?_ _)); exact BK102.out) hb); have n2_ := Ad.mk (Ar (by repeat (first | (with_reducible first | exact HB.out | apply Ah | apply Af | apply Ai | refine Ae ?_ GE101.out | refine Ae ?_ GE102.out) | exact HB.out)) hb); have n3_ := Ad.mk (hbox); have n4_ := Ad.mk ((by rw [hg]; exact (Ap (by repeat (first | (with_reducible first | exact HB.out | apply Ah | apply Af | apply Ai | refine Ae ?_ GE101.out | refine Ae ?_ GE102.out) | exact HB.out))) : w.heap.size ≤ gb103)); have n5_ := Ad.mk ((by rw [hg]; exact (Ap (by repeat (first | (with_reducible first | exact HB.out | apply Ah | apply Af | apply Ai | refine Ae ?_ GE101.out | refine Ae ?_ GE102.out) | exact HB.out))) : w.heap.size ≤ gb103)); have n6_ := Ad.mk ((by rw [hg]; exact Nat.ne_of_lt (Aw (g := gb101) (o := .cells #[.int .i64 a0_0, .int .i64 a0_1, .slice A0_2 l0_2.length c0_2, .int .i64 a0_3, .int .i64 a0_4, .int .i64 a0_5] 58 (0, 0)) (by (with_reducible repeat (first | refine Ab ?_ _ | refine Ac ?_ | refine Aa ?_ _)); exact BK101.out)) : gb101 ≠ gb103)); have n7_ := Ad.mk ((by rw [hg]; exact Nat.ne_of_gt (Aw (g := gb101) (o := .cells #[.int .i64 a0_0, .int .i64 a0_1, .slice A0_2 l0_2.length c0_2, .int .i64 a0_3, .int .i64 a0_4, .int .i64 a0_5] 58 (0, 0)) (by (with_reducible repeat (first | refine Ab ?_ _ | refine Ac ?_ | refine Aa ?_ _)); exact BK101.out)) : gb103 ≠ gb101)); have n8_ := Ad.mk ((by rw [hg]; exact Nat.ne_of_lt (Aw (g := gb102) (o := .cells #[.int .i64 a2_0, .int .i64 a2_1, .int .i64 a2_2, .int .i64 a2_3] 38 (0, 0)) (by (with_reducible repeat (first | refine Ab ?_ _ | refine Ac ?_ | refine Aa ?_ _)); exact BK102.out)) : gb102 ≠ gb103)); have n9_ := Ad.mk ((by rw [hg]; exact Nat.ne_of_gt (Aw (g := gb102) (o := .cells #[.int .i64 a2_0, .int .i64 a2_1, .int .i64 a2_2, .int .i64 a2_3] 38 (0, 0)) (by (with_reducible repeat (first | refine Ab ?_ _ | refine Ac ?_ | refine Aa ?_ _)); exact BK102.out)) : gb103 ≠ gb102)); clear BK101; clear BK102; clear HB; have BK101 := n0_; have BK102 := n1_; have HB := n2_; have BK103 := n3_; have GW103 := n4_; have GE103 := n5_; have NB101_103 := n6_; have NB103_101 := n7_; have NB102_103 := n8_; have NB103_102 := n9_; clear n0_ n1_ n2_ n3_ n4_ n5_ n6_ n7_ n8_ n9_; clear hb hbox hg; have hnb7 := NB102_101.out; have hnc7 := NB101_102.out; have hnb8 := NB102_103.out; have hnc8 := NB103_102.out; have hcz9_0 : w6.cell? ⟨gb102, 0, none⟩ = some (.int .i64 a2_0) := (Aj BK102.out 0).trans rfl; have hcz9_1 : w6.cell? ⟨gb102, 1, none⟩ = some (.int .i64 a2_1) := (Aj BK102.out 1).trans rfl; have hcz9_2 : w6.cell? ⟨gb102, 2, none⟩ = some (.int .i64 a2_2) := (Aj BK102.out 2).trans rfl; have hcz9_3 : w6.cell? ⟨gb102, 3, none⟩ = some (.int .i64 a2_3) := (Aj BK102.out 3).trans rfl; have hfz9_0 := Ag BK102.out 0; have hfz9_1 := Ag BK102.out 1; have hfz9_2 := Ag BK102.out 2; have hfz9_3 := Ag BK102.out 3) | ((with_reducible refine Bj (N := 7) rfl ?_); refine Bh ?hg (N := 7) ?hd (cs := #[.int .i64 0, .int .i64 0, .slice none 0 0]) (t := 25) ?hr ?_; (case hd => rfl); (case hg => rfl); (case hr => first | (go_simp; done) | (go_simp; rfl)); intro gb104 hg w10 hbox hb; have n0_ := Ad.mk (Ak (g := gb101) (o := .cells #[.int .i64 a0_0, .int .i64 a0_1, .slice A0_2 l0_2.length c0_2, .int .i64 a0_3, .int .i64 a0_4, .int .i64 a0_5] 58 (0, 0)) (by (with_reducible repeat (first | refine Ab ?_ _ | refine Ac ?_ | refine Aa ?_ _)); exact BK101.out) hb); have n1_ := Ad.mk (Ak (g := gb102) (o := .cells #[.int .i64 a2_0, .int .i64 a2_1, .int .i64 a2_2, .int .i64 a2_3] 38 (0, 0)) (by (with_reducible repeat (first | refine Ab ?_ _ | refine Ac ?_ | refine Aa ?_ _)); exact BK102.out) hb); have n2_ := Ad.mk (Ak (g := gb103) (o := .cells #[.int .i64 0, .int .i64 0, .slice none 0 0] 25 (0, 0)) (by (with_reducible repeat (first | refine Ab ?_ _ | refine Ac ?_ | refine Aa ?_ _)); exact BK103.out) hb); have n3_ := Ad.mk (Ar (by repeat (first | (with_reducible first | exact HB.out | apply Ah | apply Af | apply Ai | refine Ae ?_ GE101.out | refine Ae ?_ GE102.out | refine Ae ?_ GE103.out) | exact HB.out)) hb); have n4_ := Ad.mk (hbox); have n5_ := Ad.mk ((by rw [hg]; exact (Ap (by repeat (first | (with_reducible first | exact HB.out | apply Ah | apply Af | apply Ai | refine Ae ?_ GE101.out | refine Ae ?_ GE102.out | refine Ae ?_ GE103.out) | exact HB.out))) : w.heap.size ≤ gb104)); have n6_ := Ad.mk ((by rw [hg]; exact (Ap (by repeat (first | (with_reducible first | exact HB.out | apply Ah | apply Af | apply Ai | refine Ae ?_ GE101.out | refine Ae ?_ GE102.out | refine Ae ?_ GE103.out) | exact HB.out))) : w.heap.size ≤ gb104)); have n7_ := Ad.mk ((by rw [hg]; exact Nat.ne_of_lt (Aw (g := gb101) (o := .cells #[.int .i64 a0_0, .int .i64 a0_1, .slice A0_2 l0_2.length c0_2, .int .i64 a0_3, .int .i64 a0_4, .int .i64 a0_5] 58 (0, 0)) (by (with_reducible repeat (first | refine Ab ?_ _ | refine Ac ?_ | refine Aa ?_ _)); exact BK101.out)) : gb101 ≠ gb104)); have n8_ := Ad.mk ((by rw [hg]; exact Nat.ne_of_gt (Aw (g := gb101) (o := .cells #[.int .i64 a0_0, .int .i64 a0_1, .slice A0_2 l0_2.length c0_2, .int .i64 a0_3, .int .i64 a0_4, .int .i64 a0_5] 58 (0, 0)) (by (with_reducible repeat (first | refine Ab ?_ _ | refine Ac ?_ | refine Aa ?_ _)); exact BK101.out)) : gb104 ≠ gb101)); have n9_ := Ad.mk ((by rw [hg]; exact Nat.ne_of_lt (Aw (g := gb102) (o := .cells #[.int .i64 a2_0, .int .i64 a2_1, .int .i64 a2_2, .int .i64 a2_3] 38 (0, 0)) (by (with_reducible repeat (first | refine Ab ?_ _ | refine Ac ?_ | refine Aa ?_ _)); exact BK102.out)) : gb102 ≠ gb104)); have n10_ := Ad.mk ((by rw [hg]; exact Nat.ne_of_gt (Aw (g := gb102) (o := .cells #[.int .i64 a2_0, .int .i64 a2_1, .int .i64 a2_2, .int .i64 a2_3] 38 (0, 0)) (by (with_reducible repeat (first | refine Ab ?_ _ | refine Ac ?_ | refine Aa ?_ _)); exact BK102.out)) : gb104 ≠ gb102)); have n11_ := Ad.mk ((by rw [hg]; exact Nat.ne_of_lt (Aw (g := gb103) (o := .cells #[.int .i64 0, .int .i64 0, .slice none 0 0] 25 (0, 0)) (by (with_reducible repeat (first | refine Ab ?_ _ | refine Ac ?_ | refine Aa ?_ _)); exact BK103.out)) : gb103 ≠ gb104)); have n12_ := Ad.mk ((by rw [hg]; exact Nat.ne_of_gt (Aw (g := gb103) (o := .cells #[.int .i64 0, .int .i64 0, .slice none 0 0] 25 (0, 0)) (by (with_reducible repeat (first | refine Ab ?_ _ | refine Ac ?_ | refine Aa ?_ _)); exact BK103.out)) : gb104 ≠ gb103)); clear BK101; clear BK102; clear BK103; clear HB; have BK101 := n0_; have BK102 := n1_; have BK103 := n2_; have HB := n3_; have BK104 := n4_; have GW104 := n5_; have GE104 := n6_; have NB101_104 := n7_; have NB104_101 := n8_; have NB102_104 := n9_; have NB104_102 := n10_; have NB103_104 := n11_; have NB104_103 := n12_; clear n0_ n1_ n2_ n3_ n4_ n5_ n6_ n7_ n8_ n9_ n10_ n11_ n12_; clear hb hbox hg; have hnb11 := NB104_101.out; have hnc11 := NB101_104.out; have hnb12 := NB104_102.out; have hnc12 := NB102_104.out; have hnb13 := NB104_103.out; have hnc13 := NB103_104.out; have hcz14_0 : w10.cell? ⟨gb104, 0, none⟩ = some (.int .i64 0) := (Aj BK104.out 0).trans rfl; have hcz14_1 : w10.cell? ⟨gb104, 1, none⟩ = some (.int .i64 0) := (Aj BK104.out 1).trans rfl; have hcz14_2 : w10.cell? ⟨gb104, 2, none⟩ = some (.slice none 0 0) := (Aj BK104.out 2).trans rfl; have hfz14_0 := Ag BK104.out 0; have hfz14_1 := Ag BK104.out 1; have hfz14_2 := Ag BK104.out 2))
  go_loopg [23] k (fun kq v23 w' => ∃ (x23_1 : Int) (x105002_1 : List Int) (u105002 : Value), v23 = .int .i64 x23_1 ∧ Ad (Az.l0 kq a1 (wrap64 (a2_3 - a2_1)) x23_1 a0_0 a0_1 l0_2 a0_3 a0_4 a0_5 a2_0 a2_1 a2_2 a2_3 (wrap64 (a2_2 - a2_0)) (wrap64 (a2_3 - a2_1)) x105002_1 = some (r1, r2, r3)) ∧ Ad (kq ≤ k) ∧ Ad (Kd.R (Kd.int .u32) 41 w' w.heap.size (fun _ => True) u105002 x105002_1) ∧ Ad (w'.heap[gb101]? = some (.cells #[.int .i64 a0_0, .int .i64 a0_1, (.slice A0_2 l0_2.length c0_2), .int .i64 a0_3, .int .i64 a0_4, .int .i64 a0_5] 58 (0, 0))) ∧ Ad (w'.heap[gb102]? = some (.cells #[.int .i64 a2_0, .int .i64 a2_1, .int .i64 a2_2, .int .i64 a2_3] 38 (0, 0))) ∧ Ad (w'.heap[gb103]? = some (.cells #[.int .i64 0, .int .i64 0, (.slice none 0 0)] 25 (0, 0))) ∧ Ad (w'.heap[gb104]? = some (.cells #[.int .i64 (wrap64 (a2_2 - a2_0)), .int .i64 (wrap64 (a2_3 - a2_1)), u105002] 25 (0, 0))) ∧ Ad (Below w.heap.size w w'))
  case atStart => exact ⟨(0), (([] : List Int)), (.slice none 0 0), (by first | rfl | (simp; done) | (simp [*]; done)), H', ⟨Nat.le_refl _⟩, ⟨by first | exact Kd.Ct _ _ _ _ _ | exact Kd.N_nil _ _ _ _ _ | exact Kd.V_nil _ _ _ _ _ | exact Kd.Q_nil _ _ _ _ _ | exact Kd.S_nil _ _ _ _ _⟩, ⟨by (with_reducible repeat (first | refine Ab ?_ _ | refine Ac ?_ | refine Aa ?_ _)); refine Ao ?_ NB101_104.out _; (with_reducible repeat (first | refine Ab ?_ _ | refine Ac ?_ | refine Aa ?_ _)); refine Ao ?_ NB101_104.out _; (with_reducible repeat (first | refine Ab ?_ _ | refine Ac ?_ | refine Aa ?_ _)); refine Ao ?_ NB101_104.out _; (with_reducible repeat (first | refine Ab ?_ _ | refine Ac ?_ | refine Aa ?_ _)); exact BK101.out⟩, ⟨by (with_reducible repeat (first | refine Ab ?_ _ | refine Ac ?_ | refine Aa ?_ _)); refine Ao ?_ NB102_104.out _; (with_reducible repeat (first | refine Ab ?_ _ | refine Ac ?_ | refine Aa ?_ _)); refine Ao ?_ NB102_104.out _; (with_reducible repeat (first | refine Ab ?_ _ | refine Ac ?_ | refine Aa ?_ _)); refine Ao ?_ NB102_104.out _; (with_reducible repeat (first | refine Ab ?_ _ | refine Ac ?_ | refine Aa ?_ _)); exact BK102.out⟩, ⟨by (with_reducible repeat (first | refine Ab ?_ _ | refine Ac ?_ | refine Aa ?_ _)); refine Ao ?_ NB103_104.out _; (with_reducible repeat (first | refine Ab ?_ _ | refine Ac ?_ | refine Aa ?_ _)); refine Ao ?_ NB103_104.out _; (with_reducible repeat (first | refine Ab ?_ _ | refine Ac ?_ | refine Aa ?_ _)); refine Ao ?_ NB103_104.out _; (with_reducible repeat (first | refine Ab ?_ _ | refine Ac ?_ | refine Aa ?_ _)); exact BK103.out⟩, ⟨by (with_reducible repeat (first | refine Ab ?_ _ | refine Ac ?_ | refine Aa ?_ _)); refine As (cs := #[.int .i64 (wrap64 (a2_2 - a2_0)), .int .i64 (wrap64 (a2_3 - a2_1)), .slice none 0 0]) ?_ 2 _ rfl; (with_reducible repeat (first | refine Ab ?_ _ | refine Ac ?_ | refine Aa ?_ _)); refine As (cs := #[.int .i64 (wrap64 (a2_2 - a2_0)), .int .i64 0, .slice none 0 0]) ?_ 1 _ rfl; (with_reducible repeat (first | refine Ab ?_ _ | refine Ac ?_ | refine Aa ?_ _)); refine As (cs := #[.int .i64 0, .int .i64 0, .slice none 0 0]) ?_ 0 _ rfl; (with_reducible repeat (first | refine Ab ?_ _ | refine Ac ?_ | refine Aa ?_ _)); exact BK104.out⟩, ⟨by repeat (first | (with_reducible first | exact HB.out | apply Ah | apply Af | apply Ai | refine Ae ?_ GE101.out | refine Ae ?_ GE102.out | refine Ae ?_ GE103.out | refine Ae ?_ GE104.out) | exact HB.out)⟩⟩
  case round =>
    clear H'
    try clear c1
    try clear p2
    try clear c3
    try clear p6
    try clear c7
    try clear c8
    try clear c11
    try clear c12
    try clear c13
    try clear hcz14_0
    try clear hcz14_1
    try clear hcz14_2
    try clear hcz9_0
    try clear hcz9_1
    try clear hcz9_2
    try clear hcz9_3
    try clear hfz14_0
    try clear hfz14_1
    try clear hfz14_2
    try clear hfz9_0
    try clear hfz9_1
    try clear hfz9_2
    try clear hfz9_3
    obtain ⟨x23_1, x105002_1, u105002, rfl, HA, HK1, HO_105002, BK101, BK102, BK103, BK104, HB⟩ := hrel
    cases gk with
    | zero => exact absurd HA.out (by simp [Az.l0])
    | succ k1 =>
      have H := HA.out
      clear HA
      simp only [Az.l0] at H
      by_cases c15 : x23_1 < (wrap64 (a2_3 - a2_1))
      · rw [if_pos c15] at H
        have c15b0 : decide (x23_1 < (wrap64 (a2_3 - a2_1))) = true := decide_eq_true c15
        clear c15
        have H' := Ad.mk H
        clear H
        have hnb16 := NB104_101.out
        have hnc16 := NB101_104.out
        have hnb17 := NB104_102.out
        have hnc17 := NB102_104.out
        have hnb18 := NB104_103.out
        have hnc18 := NB103_104.out
        have hcz19_0 : wr.cell? ⟨gb104, 0, none⟩ = some (.int .i64 (wrap64 (a2_2 - a2_0))) := (Aj BK104.out 0).trans rfl
        have hcz19_1 : wr.cell? ⟨gb104, 1, none⟩ = some (.int .i64 (wrap64 (a2_3 - a2_1))) := (Aj BK104.out 1).trans rfl
        have hcz19_2 : wr.cell? ⟨gb104, 2, none⟩ = some (u105002) := (Aj BK104.out 2).trans rfl
        have hfz19_0 := Ag BK104.out 0
        have hfz19_1 := Ag BK104.out 1
        have hfz19_2 := Ag BK104.out 2
        go_wp2
        go_loopg [28] k1 (fun kq v28 w' => ∃ (x28_2 : Int) (x105002_2 : List Int) (u105002 : Value), v28 = .int .i64 x28_2 ∧ Ad (Az.l1 kq a1 x23_1 (wrap64 (a2_3 - a2_1)) x23_1 (wrap64 (a2_2 - a2_0)) x28_2 a0_0 a0_1 l0_2 a0_3 a0_4 a0_5 a2_0 a2_1 a2_2 a2_3 (wrap64 (a2_2 - a2_0)) (wrap64 (a2_3 - a2_1)) x105002_2 = some (r1, r2, r3)) ∧ Ad (kq ≤ k1) ∧ Ad (Kd.R (Kd.int .u32) 41 w' w.heap.size (fun _ => True) u105002 x105002_2) ∧ Ad (w'.heap[gb101]? = some (.cells #[.int .i64 a0_0, .int .i64 a0_1, (.slice A0_2 l0_2.length c0_2), .int .i64 a0_3, .int .i64 a0_4, .int .i64 a0_5] 58 (0, 0))) ∧ Ad (w'.heap[gb102]? = some (.cells #[.int .i64 a2_0, .int .i64 a2_1, .int .i64 a2_2, .int .i64 a2_3] 38 (0, 0))) ∧ Ad (w'.heap[gb103]? = some (.cells #[.int .i64 0, .int .i64 0, (.slice none 0 0)] 25 (0, 0))) ∧ Ad (w'.heap[gb104]? = some (.cells #[.int .i64 (wrap64 (a2_2 - a2_0)), .int .i64 (wrap64 (a2_3 - a2_1)), u105002] 25 (0, 0))) ∧ Ad (Below w.heap.size w w'))
        case atStart => exact ⟨(0), (x105002_1), (u105002), (by first | rfl | (simp; done) | (simp [*]; done)), H', ⟨Nat.le_refl _⟩, ⟨by (with_reducible repeat (first | apply Kd.An | apply Kd.Am | apply Kd.Aq)); exact HO_105002.out⟩, ⟨by (with_reducible repeat (first | refine Ab ?_ _ | refine Ac ?_ | refine Aa ?_ _)); exact BK101.out⟩, ⟨by (with_reducible repeat (first | refine Ab ?_ _ | refine Ac ?_ | refine Aa ?_ _)); exact BK102.out⟩, ⟨by (with_reducible repeat (first | refine Ab ?_ _ | refine Ac ?_ | refine Aa ?_ _)); exact BK103.out⟩, ⟨by (with_reducible repeat (first | refine Ab ?_ _ | refine Ac ?_ | refine Aa ?_ _)); exact BK104.out⟩, ⟨by repeat (first | (with_reducible first | exact HB.out | apply Ah | apply Af | apply Ai | refine Ae ?_ GE101.out | refine Ae ?_ GE102.out | refine Ae ?_ GE103.out | refine Ae ?_ GE104.out) | exact HB.out)⟩⟩
        case round =>
          clear H'
          try clear c1
          try clear p2
          try clear c3
          try clear p6
          try clear c7
          try clear c8
          try clear c11
          try clear c12
          try clear c13
          try clear c15
          try clear c15b0
          try clear c16
          try clear c17
          try clear c18
          try clear hcz14_0
          try clear hcz14_1
          try clear hcz14_2
          try clear hcz19_0
          try clear hcz19_1
          try clear hcz19_2
          try clear hcz9_0
          try clear hcz9_1
          try clear hcz9_2
          try clear hcz9_3
          try clear hfz14_0
          try clear hfz14_1
          try clear hfz14_2
          try clear hfz19_0
          try clear hfz19_1
          try clear hfz19_2
          try clear hfz9_0
          try clear hfz9_1
          try clear hfz9_2
          try clear hfz9_3
          try clear p2
          try clear p6
          obtain ⟨x28_2, x105002_2, u105002, rfl, HA, HK2, HO_105002, BK101, BK102, BK103, BK104, HB⟩ := hrel
          cases gk with
          | zero => exact absurd HA.out (by simp [Az.l1])
          | succ k2 =>
            have H := HA.out
            clear HA
            simp only [Az.l1] at H
            by_cases c20 : x28_2 < (wrap64 (a2_2 - a2_0))
            · rw [if_pos c20] at H
              have c20b0 : decide (x28_2 < (wrap64 (a2_2 - a2_0))) = true := decide_eq_true c20
              clear c20
              replace H := Option.bind_eq_some_iff.mp H
              obtain ⟨t105, A210, H⟩ := H
              replace H : (if x105002_2.length < 35184372088832 then (Az.l1 k2 a1 x23_1 (wrap64 (a2_3 - a2_1)) x23_1 (wrap64 (a2_2 - a2_0)) (wrap64 (x28_2 + 1)) a0_0 a0_1 l0_2 a0_3 a0_4 a0_5 a2_0 a2_1 a2_2 a2_3 (wrap64 (a2_2 - a2_0)) (wrap64 (a2_3 - a2_1)) (x105002_2 ++ [t105])) else (none)) = some (r1, r2, r3) := H
              have A21 := Ad.mk A210
              clear A210
              by_cases c22 : x105002_2.length < 35184372088832
              · rw [if_pos c22] at H
                have LMc22 := Ad.mk c22
                clear c22
                obtain ⟨y106, hy106⟩ : ∃ y_ : List Int, y_ = (x105002_2 ++ [t105]) := ⟨_, rfl⟩
                replace H : (Az.l1 k2 a1 x23_1 (wrap64 (a2_3 - a2_1)) x23_1 (wrap64 (a2_2 - a2_0)) (wrap64 (x28_2 + 1)) a0_0 a0_1 l0_2 a0_3 a0_4 a0_5 a2_0 a2_1 a2_2 a2_3 (wrap64 (a2_2 - a2_0)) (wrap64 (a2_3 - a2_1)) y106) = some (r1, r2, r3) := by first | (rw [hy106]; with_reducible exact H) | (have H2_ := (Option.bind_some _ _).symm.trans H; rw [hy106]; with_reducible exact H2_) | (have H2_ := (Option.bind_some _ _).symm.trans H; with_reducible exact H2_) | with_reducible exact H | (rw [hy106]; exact H) | exact H
                have Ny106 := Ad.mk hy106
                clear hy106
                have H' := Ad.mk H
                clear H
                try go_wp2
                have n0_ := Ad.mk (Kd.Aq HO_105002.out)
                have n1_ := Ad.mk (Ac BK101.out)
                have n2_ := Ad.mk (Ac BK102.out)
                have n3_ := Ad.mk (Ac BK103.out)
                have n4_ := Ad.mk (Ac BK104.out)
                have n5_ := Ad.mk (Ai HB.out)
                clear HO_105002
                clear BK101
                clear BK102
                clear BK103
                clear BK104
                clear HB
                have HO_105002 := n0_
                have BK101 := n1_
                have BK102 := n2_
                have BK103 := n3_
                have BK104 := n4_
                have HB := n5_
                clear n0_ n1_ n2_ n3_ n4_ n5_
                refine start_ (n := 17) (S := fun w' => w'.cell? ⟨gb104, 0, none⟩ = some (.int .i64 (wrap64 (a2_2 - a2_0))) ∧ w'.cell? ⟨gb104, 1, none⟩ = some (.int .i64 (wrap64 (a2_3 - a2_1))) ∧ w'.cell? ⟨gb104, 2, none⟩ = some (u105002) ∧ w'.cell? ⟨gb101, 0, none⟩ = some (.int .i64 a0_0) ∧ w'.cell? ⟨gb101, 1, none⟩ = some (.int .i64 a0_1) ∧ w'.cell? ⟨gb101, 2, none⟩ = some (.slice A0_2 l0_2.length c0_2) ∧ w'.cell? ⟨gb101, 3, none⟩ = some (.int .i64 a0_3) ∧ w'.cell? ⟨gb101, 4, none⟩ = some (.int .i64 a0_4) ∧ w'.cell? ⟨gb101, 5, none⟩ = some (.int .i64 a0_5) ∧ w'.cell? ⟨gb102, 0, none⟩ = some (.int .i64 a2_0) ∧ w'.cell? ⟨gb102, 1, none⟩ = some (.int .i64 a2_1) ∧ w'.cell? ⟨gb102, 2, none⟩ = some (.int .i64 a2_2) ∧ w'.cell? ⟨gb102, 3, none⟩ = some (.int .i64 a2_3)) (ds := [16]) #[false, false, false, false, false, false, false, false, false, false, false, false, false, false, false, false, false] (by kernel_rfl) rfl rfl ⟨(Aj BK104.out 0).trans rfl, (Aj BK104.out 1).trans rfl, (Aj BK104.out 2).trans rfl, (Aj BK101.out 0).trans rfl, (Aj BK101.out 1).trans rfl, (Aj BK101.out 2).trans rfl, (Aj BK101.out 3).trans rfl, (Aj BK101.out 4).trans rfl, (Aj BK101.out 5).trans rfl, (Aj BK102.out 0).trans rfl, (Aj BK102.out 1).trans rfl, (Aj BK102.out 2).trans rfl, (Aj BK102.out 3).trans rfl⟩ (fun hHeld => ?_); refine with_tabW Az.tab8 Az.bits8 (fun HT_ HW_ => ?_)
                generalize wr.drew = w23 at HO_105002 BK101 BK102 BK103 BK104 HB hHeld ⊢
                refine pure_ (i := 0) (N := some 31) (v := ?_) (a' := ?_) #[true, false, false, false, false, false, false, false, false, false, false, false, false, false, false, false, false] rfl rfl (any_of HT_.out (by kernel_rfl)) (fun _ _ _ h => h) (Or.inl ⟨by rfl, ?_⟩) ?_ ?_
                rotate_left
                · intro w'
                  go_simp
                  with_reducible rfl
                rotate_left
                · simp only [Act.put, List.setIfInBounds_toArray, List.set_cons_zero, List.set_cons_succ, i64_w, i32_w]
                  rfl
                refine pure_ (i := 3) (N := some 34) (v := ?_) (a' := ?_) #[true, false, false, true, false, false, false, false, false, false, false, false, false, false, false, false, false] rfl rfl (any_of HT_.out (by kernel_rfl)) (fun _ _ _ h => h) (Or.inl ⟨by rfl, ?_⟩) ?_ ?_
                rotate_left
                · intro w'
                  go_simp
                  with_reducible rfl
                rotate_left
                · simp only [Act.put, List.setIfInBounds_toArray, List.set_cons_zero, List.set_cons_succ, i64_w, i32_w]
                  rfl
                refine pure_ (i := 4) (N := some 35) (v := ?_) (a' := ?_) #[true, false, false, true, true, false, false, false, false, false, false, false, false, false, false, false, false] rfl rfl (any_of HT_.out (by kernel_rfl)) (fun _ _ _ h => h) (Or.inl ⟨by rfl, ?_⟩) ?_ ?_
                rotate_left
                · intro w'
                  go_simp
                  with_reducible rfl
                rotate_left
                · simp only [Act.put, List.setIfInBounds_toArray, List.set_cons_zero, List.set_cons_succ, i64_w, i32_w]
                  rfl
                refine pure_ (i := 6) (N := some 37) (v := ?_) (a' := ?_) #[true, false, false, true, true, false, true, false, false, false, false, false, false, false, false, false, false] rfl rfl (any_of HT_.out (by kernel_rfl)) (fun _ _ _ h => h) (Or.inl ⟨by rfl, ?_⟩) ?_ ?_
                rotate_left
                · intro w'
                  go_simp
                  with_reducible rfl
                rotate_left
                · simp only [Act.put, List.setIfInBounds_toArray, List.set_cons_zero, List.set_cons_succ, i64_w, i32_w]
                  rfl
                refine pure_ (i := 8) (N := some 39) (v := ?_) (a' := ?_) #[true, false, false, true, true, false, true, false, true, false, false, false, false, false, false, false, false] rfl rfl (any_of HT_.out (by kernel_rfl)) (fun _ _ _ h => h) (Or.inl ⟨by rfl, ?_⟩) ?_ ?_
                rotate_left
                · intro w'
                  go_simp
                  with_reducible rfl
                rotate_left
                · simp only [Act.put, List.setIfInBounds_toArray, List.set_cons_zero, List.set_cons_succ, i64_w, i32_w]
                  rfl
                refine pure_ (i := 10) (N := some 41) (v := ?_) (a' := ?_) #[true, false, false, true, true, false, true, false, true, false, true, false, false, false, false, false, false] rfl rfl (any_of HT_.out (by kernel_rfl)) (fun _ _ _ h => h) (Or.inl ⟨by rfl, ?_⟩) ?_ ?_
                rotate_left
                · intro w'
                  go_simp
                  with_reducible rfl
                rotate_left
                · simp only [Act.put, List.setIfInBounds_toArray, List.set_cons_zero, List.set_cons_succ, i64_w, i32_w]
                  rfl
                refine take_ (i := 1) (N := some 32) (v := ?_) (a' := ?_) #[true, true, false, true, true, false, true, false, true, false, true, false, false, false, false, false, false] rfl rfl (take_ofW HT_.out HW_.out (by kernel_rfl)) (fun _ _ _ h => h) (Or.inl ⟨by rfl, ?_⟩) hHeld ?_ ?_
                rotate_left
                · rintro w' ⟨s0, s1, s2, s3, s4, s5, s6, s7, s8, s9, s10, s11, s12⟩
                  go_simp
                  with_reducible rfl
                rotate_left
                · simp only [Act.put, List.setIfInBounds_toArray, List.set_cons_zero, List.set_cons_succ, i64_w, i32_w]
                  rfl
                refine take_ (i := 2) (N := some 33) (v := ?_) (a' := ?_) #[true, true, true, true, true, false, true, false, true, false, true, false, false, false, false, false, false] rfl rfl (take_ofW HT_.out HW_.out (by kernel_rfl)) (fun _ _ _ h => h) (Or.inl ⟨by rfl, ?_⟩) hHeld ?_ ?_
                rotate_left
                · rintro w' ⟨s0, s1, s2, s3, s4, s5, s6, s7, s8, s9, s10, s11, s12⟩
                  go_simp
                  with_reducible rfl
                rotate_left
                · simp only [Act.put, List.setIfInBounds_toArray, List.set_cons_zero, List.set_cons_succ, i64_w, i32_w]
                  rfl
                refine take_ (i := 5) (N := some 36) (v := ?_) (a' := ?_) #[true, true, true, true, true, true, true, false, true, false, true, false, false, false, false, false, false] rfl rfl (take_ofW HT_.out HW_.out (by kernel_rfl)) (fun _ _ _ h => h) (Or.inl ⟨by rfl, ?_⟩) hHeld ?_ ?_
                rotate_left
                · rintro w' ⟨s0, s1, s2, s3, s4, s5, s6, s7, s8, s9, s10, s11, s12⟩
                  go_simp
                  with_reducible rfl
                rotate_left
                · simp only [Act.put, List.setIfInBounds_toArray, List.set_cons_zero, List.set_cons_succ, i64_w, i32_w]
                  rfl
                refine pure_ (i := 7) (N := some 38) (v := ?_) (a' := ?_) #[true, true, true, true, true, true, true, true, true, false, true, false, false, false, false, false, false] rfl rfl (any_of HT_.out (by kernel_rfl)) (fun _ _ _ h => h) (Or.inl ⟨by rfl, ?_⟩) ?_ ?_
                rotate_left
                · intro w'
                  go_simp
                  with_reducible rfl
                rotate_left
                · simp only [Act.put, List.setIfInBounds_toArray, List.set_cons_zero, List.set_cons_succ, i64_w, i32_w]
                  rfl
                refine take_ (i := 9) (N := some 40) (v := ?_) (a' := ?_) #[true, true, true, true, true, true, true, true, true, true, true, false, false, false, false, false, false] rfl rfl (take_ofW HT_.out HW_.out (by kernel_rfl)) (fun _ _ _ h => h) (Or.inl ⟨by rfl, ?_⟩) hHeld ?_ ?_
                rotate_left
                · rintro w' ⟨s0, s1, s2, s3, s4, s5, s6, s7, s8, s9, s10, s11, s12⟩
                  go_simp
                  with_reducible rfl
                rotate_left
                · simp only [Act.put, List.setIfInBounds_toArray, List.set_cons_zero, List.set_cons_succ, i64_w, i32_w]
                  rfl
                refine pure_ (i := 11) (N := some 42) (v := ?_) (a' := ?_) #[true, true, true, true, true, true, true, true, true, true, true, true, false, false, false, false, false] rfl rfl (any_of HT_.out (by kernel_rfl)) (fun _ _ _ h => h) (Or.inl ⟨by rfl, ?_⟩) ?_ ?_
                rotate_left
                · intro w'
                  go_simp
                  with_reducible rfl
                rotate_left
                · simp only [Act.put, List.setIfInBounds_toArray, List.set_cons_zero, List.set_cons_succ, i64_w, i32_w]
                  rfl
                refine one_ (i := 12) (N := some 43) #[true, true, true, true, true, true, true, true, true, true, true, true, true, false, false, false, false] rfl rfl (one_of HT_.out (by kernel_rfl)) (by decide) (fun K hK => ?_)
                refine goes_ Try.func38 (by kernel_rfl) rfl #[.agg #[.int .i64 a0_0, .int .i64 a0_1, .slice A0_2 l0_2.length c0_2, .int .i64 a0_3, .int .i64 a0_4, .int .i64 a0_5], .int .i64 a1, .int .i64 (wrap64 (a2_0 + x28_2)), .int .i64 (wrap64 (a2_1 + x23_1))] (by rfl) rfl rfl (by (try simp only [List.map_toArray, List.map_cons, List.map_nil]); first | done | rfl | (simp only [List.length_drop, List.length_take]; rfl)) ?_
                with_reducible refine (Ch.calls a0_0 a0_1 _ _ l0_2 a0_3 a0_4 a0_5 a1 (wrap64 (a2_0 + x28_2)) (wrap64 (a2_1 + x23_1)) t105 _ ?side1 ?side2 A21.out).mono ?_
                (case side1 => repeat (first | exact (Kd.Bw HR0_2.out HB.out) | (with_reducible refine Kd.B5 ?_ _) | (with_reducible refine Kd.B6 ?_ _) | (with_reducible refine Kd.Ca ?_)))
                (case side2 => exact HC0_2.out)
                rintro e w24 ⟨rfl, hb⟩
                refine ⟨_, rfl, ?_⟩
                have n0_ := Ad.mk (Kd.Bn (by (with_reducible repeat (first | apply Kd.An | apply Kd.Am | apply Kd.Aq)); exact HO_105002.out) hb)
                have n1_ := Ad.mk (Ak (g := gb101) (o := .cells #[.int .i64 a0_0, .int .i64 a0_1, .slice A0_2 l0_2.length c0_2, .int .i64 a0_3, .int .i64 a0_4, .int .i64 a0_5] 58 (0, 0)) (by (with_reducible repeat (first | refine Ab ?_ _ | refine Ac ?_ | refine Aa ?_ _)); exact BK101.out) hb)
                have n2_ := Ad.mk (Ak (g := gb102) (o := .cells #[.int .i64 a2_0, .int .i64 a2_1, .int .i64 a2_2, .int .i64 a2_3] 38 (0, 0)) (by (with_reducible repeat (first | refine Ab ?_ _ | refine Ac ?_ | refine Aa ?_ _)); exact BK102.out) hb)
                have n3_ := Ad.mk (Ak (g := gb103) (o := .cells #[.int .i64 0, .int .i64 0, .slice none 0 0] 25 (0, 0)) (by (with_reducible repeat (first | refine Ab ?_ _ | refine Ac ?_ | refine Aa ?_ _)); exact BK103.out) hb)
                have n4_ := Ad.mk (Ak (g := gb104) (o := .cells #[.int .i64 (wrap64 (a2_2 - a2_0)), .int .i64 (wrap64 (a2_3 - a2_1)), u105002] 25 (0, 0)) (by (with_reducible repeat (first | refine Ab ?_ _ | refine Ac ?_ | refine Aa ?_ _)); exact BK104.out) hb)
                have n5_ := Ad.mk (Ar (by repeat (first | (with_reducible first | exact HB.out | apply Ah | apply Af | apply Ai | refine Ae ?_ GE101.out | refine Ae ?_ GE102.out | refine Ae ?_ GE103.out | refine Ae ?_ GE104.out) | exact HB.out)) hb)
                clear HO_105002
                clear BK101
                clear BK102
                clear BK103
                clear BK104
                clear HB
                have HO_105002 := n0_
                have BK101 := n1_
                have BK102 := n2_
                have BK103 := n3_
                have BK104 := n4_
                have HB := n5_
                clear n0_ n1_ n2_ n3_ n4_ n5_
                (try clear hb)
                (try clear hb2)
                (try clear hk)
                (try clear hi)
                refine hK.out _ _ ⟨(Aj BK104.out 0).trans rfl, (Aj BK104.out 1).trans rfl, (Aj BK104.out 2).trans rfl, (Aj BK101.out 0).trans rfl, (Aj BK101.out 1).trans rfl, (Aj BK101.out 2).trans rfl, (Aj BK101.out 3).trans rfl, (Aj BK101.out 4).trans rfl, (Aj BK101.out 5).trans rfl, (Aj BK102.out 0).trans rfl, (Aj BK102.out 1).trans rfl, (Aj BK102.out 2).trans rfl, (Aj BK102.out 3).trans rfl⟩ (fun hHeld => ?_)
                clear hK K
                refine norm_ (a' := ?_) ?_ ?_
                rotate_left
                · show Act.put _ (some 43) _ = _
                  simp only [Act.put, List.setIfInBounds_toArray, List.set_cons_zero, List.set_cons_succ, i64_w, i32_w]
                  rfl
                refine one_ (i := 13) (N := some 44) #[true, true, true, true, true, true, true, true, true, true, true, true, true, true, false, false, false] rfl rfl (one_of HT_.out (by kernel_rfl)) (by decide) (fun K hK => ?_)
                refine value_ (w1 := ?_) (v := ?_) (by rfl) rfl ?_ ?_
                rotate_left 2
                · go_simp
                  constructor
                  · rfl
                  · rfl
                refine hK.out _ _ ⟨(Aj (Aa BK104.out _) 0).trans rfl, (Aj (Aa BK104.out _) 1).trans rfl, (Aj (Aa BK104.out _) 2).trans rfl, (Aj (Aa BK101.out _) 0).trans rfl, (Aj (Aa BK101.out _) 1).trans rfl, (Aj (Aa BK101.out _) 2).trans rfl, (Aj (Aa BK101.out _) 3).trans rfl, (Aj (Aa BK101.out _) 4).trans rfl, (Aj (Aa BK101.out _) 5).trans rfl, (Aj (Aa BK102.out _) 0).trans rfl, (Aj (Aa BK102.out _) 1).trans rfl, (Aj (Aa BK102.out _) 2).trans rfl, (Aj (Aa BK102.out _) 3).trans rfl⟩ (fun hHeld => ?_)
                clear hK K
                refine norm_ (a' := ?_) ?_ ?_
                rotate_left
                · show Act.put _ (some 44) _ = _
                  simp only [Act.put, List.setIfInBounds_toArray, List.set_cons_zero, List.set_cons_succ, i64_w, i32_w]
                  rfl
                refine one_ (i := 14) (N := some 45) #[true, true, true, true, true, true, true, true, true, true, true, true, true, true, true, false, false] rfl rfl (one_of HT_.out (by kernel_rfl)) (by decide) (fun K hK => ?_)
                refine Kd.R_append_step (Kd.int .u32) (w0 := w) w.heap.size (by rfl) (.tmp 32) (.tmp 44) 23 41 (.int .u32 0) 4 rfl Try.underlying23 info41 rfl (by decide) (by omega) u105002 x105002_2 t105 [.int .u32 t105] (fun _ => True) (fun _ => False) rfl rfl ?aP (fun _ hk => hk.elim) ?aF ?aO ?aB ?aS ?aL ?_
                (case aP => exact rfl)
                (case aB => exact (by repeat (first | (with_reducible first | exact HB.out | apply Ah | apply Af | apply Ai | refine Ae ?_ GE101.out | refine Ae ?_ GE102.out | refine Ae ?_ GE103.out | refine Ae ?_ GE104.out) | exact HB.out)))
                (case aF => exact (fun _ _ => trivial))
                (case aO => exact (by (with_reducible repeat (first | apply Kd.An | apply Kd.Am | apply Kd.Aq)); exact HO_105002.out))
                (case aS => exact (Ap (by repeat (first | (with_reducible first | exact HB.out | apply Ah | apply Af | apply Ai | refine Ae ?_ GE101.out | refine Ae ?_ GE102.out | refine Ae ?_ GE103.out | refine Ae ?_ GE104.out) | exact HB.out))))
                (case aL => have := LMc22.out; omega)
                intro v107 w25 ho hb hg hat
                rw [← Ny106.out] at ho
                have n0_ := Ad.mk (Cq (g := gb101) (o := .cells #[.int .i64 a0_0, .int .i64 a0_1, .slice A0_2 l0_2.length c0_2, .int .i64 a0_3, .int .i64 a0_4, .int .i64 a0_5] 58 (0, 0)) (by (with_reducible repeat (first | refine Ab ?_ _ | refine Ac ?_ | refine Aa ?_ _)); exact BK101.out) hg (Kd.R_ne HO_105002.out BK101.out (by decide)))
                have n1_ := Ad.mk (Cq (g := gb102) (o := .cells #[.int .i64 a2_0, .int .i64 a2_1, .int .i64 a2_2, .int .i64 a2_3] 38 (0, 0)) (by (with_reducible repeat (first | refine Ab ?_ _ | refine Ac ?_ | refine Aa ?_ _)); exact BK102.out) hg (Kd.R_ne HO_105002.out BK102.out (by decide)))
                have n2_ := Ad.mk (Cq (g := gb103) (o := .cells #[.int .i64 0, .int .i64 0, .slice none 0 0] 25 (0, 0)) (by (with_reducible repeat (first | refine Ab ?_ _ | refine Ac ?_ | refine Aa ?_ _)); exact BK103.out) hg (Kd.R_ne HO_105002.out BK103.out (by decide)))
                have n3_ := Ad.mk (Cq (g := gb104) (o := .cells #[.int .i64 (wrap64 (a2_2 - a2_0)), .int .i64 (wrap64 (a2_3 - a2_1)), u105002] 25 (0, 0)) (by (with_reducible repeat (first | refine Ab ?_ _ | refine Ac ?_ | refine Aa ?_ _)); exact BK104.out) hg (Kd.R_ne HO_105002.out BK104.out (by decide)))
                have n4_ := Ad.mk (hb)
                have n5_ := Ad.mk (ho)
                clear BK101
                clear BK102
                clear BK103
                clear BK104
                clear HB
                clear HO_105002
                have BK101 := n0_
                have BK102 := n1_
                have BK103 := n2_
                have BK104 := n3_
                have HB := n4_
                have HO108 := n5_
                clear n0_ n1_ n2_ n3_ n4_ n5_
                clear ho hb hg hat
                obtain ⟨Ao26, co26, eo26⟩ := Kd.Bz HO108.out
                (first | subst eo26 | (injection eo26 with f1_ f2_ f3_; have f4_ := f1_.symm; have f5_ := f3_.symm; clear f1_ f2_ f3_; subst f4_; subst f5_))
                refine hK.out _ _ ⟨(Aj BK104.out 0).trans rfl, (Aj BK104.out 1).trans rfl, (Aj BK104.out 2).trans rfl, (Aj BK101.out 0).trans rfl, (Aj BK101.out 1).trans rfl, (Aj BK101.out 2).trans rfl, (Aj BK101.out 3).trans rfl, (Aj BK101.out 4).trans rfl, (Aj BK101.out 5).trans rfl, (Aj BK102.out 0).trans rfl, (Aj BK102.out 1).trans rfl, (Aj BK102.out 2).trans rfl, (Aj BK102.out 3).trans rfl⟩ (fun hHeld => ?_)
                clear hK K
                refine norm_ (a' := ?_) ?_ ?_
                rotate_left
                · show Act.put _ (some 45) _ = _
                  simp only [Act.put, List.setIfInBounds_toArray, List.set_cons_zero, List.set_cons_succ, i64_w, i32_w]
                  rfl
                refine pure_ (i := 15) (N := some 46) (v := ?_) (a' := ?_) #[true, true, true, true, true, true, true, true, true, true, true, true, true, true, true, true, false] rfl rfl (any_of HT_.out (by kernel_rfl)) (fun _ _ _ h => h) (Or.inl ⟨by rfl, ?_⟩) ?_ ?_
                rotate_left
                · intro w'
                  go_simp
                  with_reducible rfl
                rotate_left
                · simp only [Act.put, List.setIfInBounds_toArray, List.set_cons_zero, List.set_cons_succ, i64_w, i32_w]
                  rfl
                refine last_ (i := 16) (N := none) #[true, true, true, true, true, true, true, true, true, true, true, true, true, true, true, true, true] rfl rfl (one_of HT_.out (by kernel_rfl)) (by decide) (fun K hK => ?_)
                have hs27 : w25.cell? ⟨gb104, 2, none⟩ = some (u105002) := (Aj BK104.out 2).trans rfl
                have hfs27 := Ag BK104.out 2
                have hns27_0 := NB101_104.out
                have hns27_1 := NB102_104.out
                have hns27_2 := NB103_104.out
                have hms27_0 := NB104_101.out
                have hms27_1 := NB104_102.out
                have hms27_2 := NB104_103.out
                refine skip_ (w1 := ?_) (by rfl) rfl ?_ ?_
                rotate_left
                · go_simp
                  rfl
                refine hK.out _ _ ?_
                clear hK K
                refine done_ (done_of HT_.out (by kernel_rfl)) ?_
                try go_wp2
                go_roundg k2
                case measure => have := HK1.out; have := HK2.out; omega
                case rel => exact ⟨(wrap64 (x28_2 + 1)), (y106), (.slice Ao26 y106.length co26), (by first | rfl | (simp; done) | (simp [*]; done)), H', ⟨by have := HK1.out; have := HK2.out; omega⟩, ⟨by (with_reducible repeat (first | apply Kd.An | apply Kd.Am | apply Kd.Aq)); exact Kd.Bk (Kd.Au (p := ⟨gb104, 2, none⟩) (Kd.Bg HO108.out BK104.out (by decide)) (fun _ hk => hk.2) (.slice Ao26 y106.length co26)) (fun _ hk => trivial)⟩, ⟨by (with_reducible repeat (first | refine Ab ?_ _ | refine Ac ?_ | refine Aa ?_ _)); refine Ao ?_ NB101_104.out _; (with_reducible repeat (first | refine Ab ?_ _ | refine Ac ?_ | refine Aa ?_ _)); exact BK101.out⟩, ⟨by (with_reducible repeat (first | refine Ab ?_ _ | refine Ac ?_ | refine Aa ?_ _)); refine Ao ?_ NB102_104.out _; (with_reducible repeat (first | refine Ab ?_ _ | refine Ac ?_ | refine Aa ?_ _)); exact BK102.out⟩, ⟨by (with_reducible repeat (first | refine Ab ?_ _ | refine Ac ?_ | refine Aa ?_ _)); refine Ao ?_ NB103_104.out _; (with_reducible repeat (first | refine Ab ?_ _ | refine Ac ?_ | refine Aa ?_ _)); exact BK103.out⟩, ⟨by (with_reducible repeat (first | refine Ab ?_ _ | refine Ac ?_ | refine Aa ?_ _)); refine As (cs := #[.int .i64 (wrap64 (a2_2 - a2_0)), .int .i64 (wrap64 (a2_3 - a2_1)), u105002]) ?_ 2 _ rfl; (with_reducible repeat (first | refine Ab ?_ _ | refine Ac ?_ | refine Aa ?_ _)); exact BK104.out⟩, ⟨by repeat (first | (with_reducible first | exact HB.out | apply Ah | apply Af | apply Ai | refine Ae ?_ GE101.out | refine Ae ?_ GE102.out | refine Ae ?_ GE103.out | refine Ae ?_ GE104.out) | exact HB.out)⟩⟩
              · rw [if_neg c22] at H
                exact absurd H (by simp)
            · rw [if_neg c20] at H
              have c20b0 : decide (x28_2 < (wrap64 (a2_2 - a2_0))) = false := decide_eq_false c20
              clear c20
              have H' := Ad.mk H
              clear H
              go_wp2
              go_roundg k2
              case measure => have := HK1.out; have := HK2.out; omega
              case rel => exact ⟨(wrap64 (x23_1 + 1)), (x105002_2), (u105002), (by first | rfl | (simp; done) | (simp [*]; done)), H', ⟨by have := HK1.out; have := HK2.out; omega⟩, ⟨by (with_reducible repeat (first | apply Kd.An | apply Kd.Am | apply Kd.Aq)); exact HO_105002.out⟩, ⟨by (with_reducible repeat (first | refine Ab ?_ _ | refine Ac ?_ | refine Aa ?_ _)); exact BK101.out⟩, ⟨by (with_reducible repeat (first | refine Ab ?_ _ | refine Ac ?_ | refine Aa ?_ _)); exact BK102.out⟩, ⟨by (with_reducible repeat (first | refine Ab ?_ _ | refine Ac ?_ | refine Aa ?_ _)); exact BK103.out⟩, ⟨by (with_reducible repeat (first | refine Ab ?_ _ | refine Ac ?_ | refine Aa ?_ _)); exact BK104.out⟩, ⟨by repeat (first | (with_reducible first | exact HB.out | apply Ah | apply Af | apply Ai | refine Ae ?_ GE101.out | refine Ae ?_ GE102.out | refine Ae ?_ GE103.out | refine Ae ?_ GE104.out) | exact HB.out)⟩⟩
      · rw [if_neg c15] at H
        have c15b0 : decide (x23_1 < (wrap64 (a2_3 - a2_1))) = false := decide_eq_false c15
        clear c15
        simp only [Option.some.injEq, Prod.mk.injEq] at H
        obtain ⟨rfl, rfl, rfl⟩ := H
        have hnb28 := NB104_101.out
        have hnc28 := NB101_104.out
        have hnb29 := NB104_102.out
        have hnc29 := NB102_104.out
        have hnb30 := NB104_103.out
        have hnc30 := NB103_104.out
        have hcz31_0 : wr.cell? ⟨gb104, 0, none⟩ = some (.int .i64 (wrap64 (a2_2 - a2_0))) := (Aj BK104.out 0).trans rfl
        have hcz31_1 : wr.cell? ⟨gb104, 1, none⟩ = some (.int .i64 (wrap64 (a2_3 - a2_1))) := (Aj BK104.out 1).trans rfl
        have hcz31_2 : wr.cell? ⟨gb104, 2, none⟩ = some (u105002) := (Aj BK104.out 2).trans rfl
        have hfz31_0 := Ag BK104.out 0
        have hfz31_1 := Ag BK104.out 1
        have hfz31_2 := Ag BK104.out 2
        have hnb32 := NB103_101.out
        have hnc32 := NB101_103.out
        have hnb33 := NB103_102.out
        have hnc33 := NB102_103.out
        have hcz34_0 : wr.cell? ⟨gb103, 0, none⟩ = some (.int .i64 0) := (Aj BK103.out 0).trans rfl
        have hcz34_1 : wr.cell? ⟨gb103, 1, none⟩ = some (.int .i64 0) := (Aj BK103.out 1).trans rfl
        have hcz34_2 : wr.cell? ⟨gb103, 2, none⟩ = some (.slice none 0 0) := (Aj BK103.out 2).trans rfl
        have hfz34_0 := Ag BK103.out 0
        have hfz34_1 := Ag BK103.out 1
        have hfz34_2 := Ag BK103.out 2
        obtain ⟨Ao35, co35, eo35⟩ := Kd.Bz HO_105002.out
        subst eo35
        go_wp2
        refine bodyPost_ret (results_cell_row rfl _ _ gb103 25 #[.int .i64 (wrap64 (a2_2 - a2_0)), .int .i64 (wrap64 (a2_3 - a2_1)), .slice Ao35 x105002_1.length co35] (0, 0) _ rfl (by (with_reducible repeat (first | refine Ab ?_ _ | refine Ac ?_ | refine Aa ?_ _)); refine As (cs := #[.int .i64 (wrap64 (a2_2 - a2_0)), .int .i64 (wrap64 (a2_3 - a2_1)), .slice none 0 0]) ?_ 2 _ rfl; (with_reducible repeat (first | refine Ab ?_ _ | refine Ac ?_ | refine Aa ?_ _)); refine As (cs := #[.int .i64 (wrap64 (a2_2 - a2_0)), .int .i64 0, .slice none 0 0]) ?_ 1 _ rfl; (with_reducible repeat (first | refine Ab ?_ _ | refine Ac ?_ | refine Aa ?_ _)); refine As (cs := #[.int .i64 0, .int .i64 0, .slice none 0 0]) ?_ 0 _ rfl; (with_reducible repeat (first | refine Ab ?_ _ | refine Ac ?_ | refine Aa ?_ _)); exact BK103.out) Try.underlying25 rfl (by kernel_rfl)) rfl ?_
        exact ⟨_, by first | rfl | (simp [Bb, Ba] <;> rfl) | (simp [*, Bb, Ba] <;> rfl), by (with_reducible repeat (first | apply Kd.An | apply Kd.Am | apply Kd.Aq)); exact Kd.Bk (Kd.Au (p := ⟨gb103, 2, none⟩) (Kd.Au (p := ⟨gb103, 1, none⟩) (Kd.Au (p := ⟨gb103, 0, none⟩) (Kd.Bg HO_105002.out BK103.out (by decide)) (fun _ hk => hk.2) (.int .i64 (wrap64 (a2_2 - a2_0)))) (fun _ hk => hk.2) (.int .i64 (wrap64 (a2_3 - a2_1)))) (fun _ hk => hk.2) (.slice Ao35 x105002_1.length co35)) (fun _ hk => trivial), by repeat (first | (with_reducible first | exact HB.out | apply Ah | apply Af | apply Ai | refine Ae ?_ GE101.out | refine Ae ?_ GE102.out | refine Ae ?_ GE103.out | refine Ae ?_ GE104.out) | exact HB.out)⟩

def Co.f (k : Nat) (a0_0 : Int) (a0_1 : Int) (l0_2 : List Int) (a1 : Int) (a2 : Int) (a3 : Int) (a4 : Int) (a5 : Int) (a6 : Int) : Option (Int × Int) := (Ay.f k a0_0 a0_1 l0_2 a1 a2 a3 a4).bind fun t111 => (if t111 = 0 then (if a5 < 0 then (some (0, 52)) else (if a6 < 0 then (some (0, 52)) else (if a5 ≥ a0_0 then (some (0, 52)) else (if a6 ≥ a0_1 then (some (0, 52)) else ((Ch.f a0_0 a0_1 l0_2 a1 a2 a3 a4 a5 a6).bind fun t112 => (some (t112, 0))))))) else (some (0, t111)))
theorem Co.mono : ∀ a0 a1 a2 a3 a4 a5 a6 a7 a8 k, LeO (Co.f k a0 a1 a2 a3 a4 a5 a6 a7 a8) (Co.f (k + 1) a0 a1 a2 a3 a4 a5 a6 a7 a8) := by
  intro a0 a1 a2 a3 a4 a5 a6 a7 a8 k
  unfold Co.f
  repeat' first
      | (with_reducible exact Ay.mono _ _ _ _ _ _ _ _)
      | (with_reducible exact LeO.refl _)
      | (with_reducible exact LeO.none _)
      | (with_reducible refine LeO.ite ?_ ?_)
      | (with_reducible refine LeO.bind ?_ (fun _ => ?_))
      | exact Ay.mono _ _ _ _ _ _ _ _
      | exact LeO.none _
      | refine LeO.ite ?_ ?_
      | refine LeO.bind ?_ (fun _ => ?_)
set_option maxHeartbeats 8000000 in
set_option maxRecDepth 100000 in
theorem Co.calls (k : Nat) (a0_0 : Int) (a0_1 : Int) (A0_2 : Option Addr) (c0_2 : Nat) (l0_2 : List Int) (a1 : Int) (a2 : Int) (a3 : Int) (a4 : Int) (a5 : Int) (a6 : Int) (r1 : Int) (r2 : Int) (w : World) (hr0_2 : Kd.C (Kd.int .u32) w A0_2 l0_2.length l0_2) (hc0_2 : l0_2.length ≤ c0_2) (h : Co.f k a0_0 a0_1 l0_2 a1 a2 a3 a4 a5 a6 = some (r1, r2)) :
    Calls Try.prog 23 #[.agg #[.int .i64 a0_0, .int .i64 a0_1, .slice A0_2 l0_2.length c0_2], .int .i64 a1, .int .i64 a2, .int .i64 a3, .int .i64 a4, .int .i64 a5, .int .i64 a6] w fun e w' => e = .returned (.tuple #[.int .u32 r1, .int .i64 r2]) ∧ Below w.heap.size w w' := by
  have hu25 := Try.underlying25
  have hu58 := Try.underlying58
  have HR0_2 := Ad.mk hr0_2
  have HC0_2 := Ad.mk hc0_2
  clear hr0_2 hc0_2
  have HB := Ad.mk (Below.refl w.heap.size w)
  have H : ((Ay.f k a0_0 a0_1 l0_2 a1 a2 a3 a4).bind fun t111 => (if t111 = 0 then (if a5 < 0 then (some (0, 52)) else (if a6 < 0 then (some (0, 52)) else (if a5 ≥ a0_0 then (some (0, 52)) else (if a6 ≥ a0_1 then (some (0, 52)) else ((Ch.f a0_0 a0_1 l0_2 a1 a2 a3 a4 a5 a6).bind fun t112 => (some (t112, 0))))))) else (some (0, t111)))) = some (r1, r2) := h
  clear h
  replace H := Option.bind_eq_some_iff.mp H
  obtain ⟨t111, A80, H⟩ := H
  replace H : (if t111 = 0 then (if a5 < 0 then (some (0, 52)) else (if a6 < 0 then (some (0, 52)) else (if a5 ≥ a0_0 then (some (0, 52)) else (if a6 ≥ a0_1 then (some (0, 52)) else ((Ch.f a0_0 a0_1 l0_2 a1 a2 a3 a4 a5 a6).bind fun t112 => (some (t112, 0))))))) else (some (0, t111))) = some (r1, r2) := H
  have A8 := Ad.mk A80
  clear A80
  by_cases c9 : t111 = 0
  · rw [if_pos c9] at H
    have c9b0 : (t111 == 0) = true := beq_iff_eq.mpr c9
    have c9b1 : (t111 != 0) = false := bne_eq_false_iff_eq.mpr c9
    clear c9
    by_cases c10 : a5 < 0
    · rw [if_pos c10] at H
      have c10b0 : decide (a5 < 0) = true := decide_eq_true c10
      clear c10
      simp only [Option.some.injEq, Prod.mk.injEq] at H
      obtain ⟨rfl, rfl⟩ := H
      go_enter Try.func23, Try.ntmps23
      go_wp2_with (first | ((with_reducible refine Bj (N := 7) rfl ?_); refine Bh ?hg (N := 7) ?hd (cs := #[.int .i64 a0_0, .int .i64 a0_1, .slice A0_2 l0_2.length c0_2]) (t := 25) ?hr ?_; (case hd => rfl); (case hg => rfl); (case hr => first | (go_simp; done) | (go_simp; rfl)); intro gb109 hg w11 hbox hb; have n0_ := Ad.mk (Ar (by repeat (first | (with_reducible first | exact HB.out | apply Ah | apply Af | apply Ai) | exact HB.out)) hb); have n1_ := Ad.mk (hbox); have n2_ := Ad.mk ((by rw [hg]; exact (Ap (by repeat (first | (with_reducible first | exact HB.out | apply Ah | apply Af | apply Ai) | exact HB.out))) : w.heap.size ≤ gb109)); have n3_ := Ad.mk ((by rw [hg]; exact (Ap (by repeat (first | (with_reducible first | exact HB.out | apply Ah | apply Af | apply Ai) | exact HB.out))) : w.heap.size ≤ gb109)); clear HB; have HB := n0_; have BK109 := n1_; have GW109 := n2_; have GE109 := n3_; clear n0_ n1_ n2_ n3_; clear hb hbox hg; have hcz12_0 : w11.cell? ⟨gb109, 0, none⟩ = some (.int .i64 a0_0) := (Aj BK109.out 0).trans rfl; have hcz12_1 : w11.cell? ⟨gb109, 1, none⟩ = some (.int .i64 a0_1) := (Aj BK109.out 1).trans rfl; have hcz12_2 : w11.cell? ⟨gb109, 2, none⟩ = some (.slice A0_2 l0_2.length c0_2) := (Aj BK109.out 2).trans rfl; have hfz12_0 := Ag BK109.out 0; have hfz12_1 := Ag BK109.out 1; have hfz12_2 := Ag BK109.out 2) | ((with_reducible refine Bj (N := 16) rfl ?_); refine Bh ?hg (N := 16) ?hd (cs := #[.int .i64 0, .int .i64 0, .slice none 0 0, .int .i64 0, .int .i64 0, .int .i64 0]) (t := 58) ?hr ?_; (case hd => rfl); (case hg => rfl); (case hr => first | (go_simp; done) | (go_simp; rfl)); intro gb110 hg w13 hbox hb; have n0_ := Ad.mk (Ak (g := gb109) (o := .cells #[.int .i64 a0_0, .int .i64 a0_1, .slice A0_2 l0_2.length c0_2] 25 (0, 0)) (by (with_reducible repeat (first | refine Ab ?_ _ | refine Ac ?_ | refine Aa ?_ _)); exact BK109.out) hb); have n1_ := Ad.mk (Ar (by repeat (first | (with_reducible first | exact HB.out | apply Ah | apply Af | apply Ai | refine Ae ?_ GE109.out) | exact HB.out)) hb); have n2_ := Ad.mk (hbox); have n3_ := Ad.mk ((by rw [hg]; exact (Ap (by repeat (first | (with_reducible first | exact HB.out | apply Ah | apply Af | apply Ai | refine Ae ?_ GE109.out) | exact HB.out))) : w.heap.size ≤ gb110)); have n4_ := Ad.mk ((by rw [hg]; exact (Ap (by repeat (first | (with_reducible first | exact HB.out | apply Ah | apply Af | apply Ai | refine Ae ?_ GE109.out) | exact HB.out))) : w.heap.size ≤ gb110)); have n5_ := Ad.mk ((by rw [hg]; exact Nat.ne_of_lt (Aw (g := gb109) (o := .cells #[.int .i64 a0_0, .int .i64 a0_1, .slice A0_2 l0_2.length c0_2] 25 (0, 0)) (by (with_reducible repeat (first | refine Ab ?_ _ | refine Ac ?_ | refine Aa ?_ _)); exact BK109.out)) : gb109 ≠ gb110)); have n6_ := Ad.mk ((by rw [hg]; exact Nat.ne_of_gt (Aw (g := gb109) (o := .cells #[.int .i64 a0_0, .int .i64 a0_1, .slice A0_2 l0_2.length c0_2] 25 (0, 0)) (by (with_reducible repeat (first | refine Ab ?_ _ | refine Ac ?_ | refine Aa ?_ _)); exact BK109.out)) : gb110 ≠ gb109)); clear BK109; clear HB; have BK109 := n0_; have HB := n1_; have BK110 := n2_; have GW110 := n3_; have GE110 := n4_; have NB109_110 := n5_; have NB110_109 := n6_; clear n0_ n1_ n2_ n3_ n4_ n5_ n6_; clear hb hbox hg; have hnb14 := NB110_109.out; have hnc14 := NB109_110.out; have hcz15_0 : w13.cell? ⟨gb110, 0, none⟩ = some (.int .i64 0) := (Aj BK110.out 0).trans rfl; have hcz15_1 : w13.cell? ⟨gb110, 1, none⟩ = some (.int .i64 0) := (Aj BK110.out 1).trans rfl; have hcz15_2 : w13.cell? ⟨gb110, 2, none⟩ = some (.slice none 0 0) := (Aj BK110.out 2).trans rfl; have hcz15_3 : w13.cell? ⟨gb110, 3, none⟩ = some (.int .i64 0) := (Aj BK110.out 3).trans rfl; have hcz15_4 : w13.cell? ⟨gb110, 4, none⟩ = some (.int .i64 0) := (Aj BK110.out 4).trans rfl; have hcz15_5 : w13.cell? ⟨gb110, 5, none⟩ = some (.int .i64 0) := (Aj BK110.out 5).trans rfl; have hfz15_0 := Ag BK110.out 0; have hfz15_1 := Ag BK110.out 1; have hfz15_2 := Ag BK110.out 2; have hfz15_3 := Ag BK110.out 3; have hfz15_4 := Ag BK110.out 4; have hfz15_5 := Ag BK110.out 5) | ((with_reducible refine Bi (f := 31) rfl ?_); refine Bx (some 25) rfl rfl Try.func31 (by kernel_rfl) rfl #[.agg #[.int .i64 a0_0, .int .i64 a0_1, .slice A0_2 l0_2.length c0_2, .int .i64 a1, .int .i64 a2, .int .i64 a3], .int .i64 a4] rfl (by (try simp only [List.map_toArray, List.map_cons, List.map_nil]); first | done | rfl | (simp only [List.length_drop, List.length_take]; rfl)) ?_; (with_reducible refine (Ay.calls k a0_0 a0_1 _ _ l0_2 a1 a2 a3 a4 t111 _ ?side1 ?side2 A8.out).mono ?_); (case side1 => exact Kd.Bw HR0_2.out (by repeat (first | (with_reducible first | exact HB.out | apply Ah | apply Af | apply Ai | refine Ae ?_ GE109.out | refine Ae ?_ GE110.out) | exact HB.out))); (case side2 => exact HC0_2.out); rintro e w16 ⟨rfl, hb⟩; refine ⟨_, rfl, ?_⟩; have n0_ := Ad.mk (Ak (g := gb109) (o := .cells #[.int .i64 a0_0, .int .i64 a0_1, .slice A0_2 l0_2.length c0_2] 25 (0, 0)) (by (with_reducible repeat (first | refine Ab ?_ _ | refine Ac ?_ | refine Aa ?_ _)); refine Ao ?_ NB109_110.out _; (with_reducible repeat (first | refine Ab ?_ _ | refine Ac ?_ | refine Aa ?_ _)); refine Ao ?_ NB109_110.out _; (with_reducible repeat (first | refine Ab ?_ _ | refine Ac ?_ | refine Aa ?_ _)); refine Ao ?_ NB109_110.out _; (with_reducible repeat (first | refine Ab ?_ _ | refine Ac ?_ | refine Aa ?_ _)); refine Ao ?_ NB109_110.out _; (with_reducible repeat (first | refine Ab ?_ _ | refine Ac ?_ | refine Aa ?_ _)); refine Ao ?_ NB109_110.out _; (with_reducible repeat (first | refine Ab ?_ _ | refine Ac ?_ | refine Aa ?_ _)); refine Ao ?_ NB109_110.out _; (with_reducible repeat (first | refine Ab ?_ _ | refine Ac ?_ | refine Aa ?_ _)); exact BK109.out) hb); have n1_ := Ad.mk (Ak (g := gb110) (o := .cells #[.int .i64 a0_0, .int .i64 a0_1, .slice A0_2 l0_2.length c0_2, .int .i64 a1, .int .i64 a2, .int .i64 a3] 58 (0, 0)) (by (with_reducible repeat (first | refine Ab ?_ _ | refine Ac ?_ | refine Aa ?_ _)); refine As (cs := #[.int .i64 a0_0, .int .i64 a0_1, .slice A0_2 l0_2.length c0_2, .int .i64 a1, .int .i64 a2, .int .i64 0]) ?_ 5 _ rfl; (with_reducible repeat (first | refine Ab ?_ _ | refine Ac ?_ | refine Aa ?_ _)); refine As (cs := #[.int .i64 a0_0, .int .i64 a0_1, .slice A0_2 l0_2.length c0_2, .int .i64 a1, .int .i64 0, .int .i64 0]) ?_ 4 _ rfl; (with_reducible repeat (first | refine Ab ?_ _ | refine Ac ?_ | refine Aa ?_ _)); refine As (cs := #[.int .i64 a0_0, .int .i64 a0_1, .slice A0_2 l0_2.length c0_2, .int .i64 0, .int .i64 0, .int .i64 0]) ?_ 3 _ rfl; (with_reducible repeat (first | refine Ab ?_ _ | refine Ac ?_ | refine Aa ?_ _)); refine As (cs := #[.int .i64 a0_0, .int .i64 a0_1, .slice none 0 0, .int .i64 0, .int .i64 0, .int .i64 0]) ?_ 2 _ rfl; (with_reducible repeat (first | refine Ab ?_ _ | refine Ac ?_ | refine Aa ?_ _)); refine As (cs := #[.int .i64 a0_0, .int .i64 0, .slice none 0 0, .int .i64 0, .int .i64 0, .int .i64 0]) ?_ 1 _ rfl; (with_reducible repeat (first | refine Ab ?_ _ | refine Ac ?_ | refine Aa ?_ _)); refine As (cs := #[.int .i64 0, .int .i64 0, .slice none 0 0, .int .i64 0, .int .i64 0, .int .i64 0]) ?_ 0 _ rfl; (with_reducible repeat (first | refine Ab ?_ _ | refine Ac ?_ | refine Aa ?_ _)); exact BK110.out) hb); have n2_ := Ad.mk (Ar (by repeat (first | (with_reducible first | exact HB.out | apply Ah | apply Af | apply Ai | refine Ae ?_ GE109.out | refine Ae ?_ GE110.out) | exact HB.out)) hb); clear BK109; clear BK110; clear HB; have BK109 := n0_; have BK110 := n1_; have HB := n2_; clear n0_ n1_ n2_; (try clear hb); (try clear hb2); (try clear hk); (try clear hi)))
      go_ret2
      exact ⟨by first | rfl | (simp [Bb, Ba] <;> rfl) | (simp [*, Bb, Ba] <;> rfl), by repeat (first | (with_reducible first | exact HB.out | apply Ah | apply Af | apply Ai | refine Ae ?_ GE109.out | refine Ae ?_ GE110.out) | exact HB.out)⟩
    · rw [if_neg c10] at H
      have c10b0 : decide (a5 < 0) = false := decide_eq_false c10
      clear c10
      by_cases c17 : a6 < 0
      · rw [if_pos c17] at H
        have c17b0 : decide (a6 < 0) = true := decide_eq_true c17
        clear c17
        simp only [Option.some.injEq, Prod.mk.injEq] at H
        obtain ⟨rfl, rfl⟩ := H
        go_enter Try.func23, Try.ntmps23
        go_wp2_with (first | ((with_reducible refine Bj (N := 7) rfl ?_); refine Bh ?hg (N := 7) ?hd (cs := #[.int .i64 a0_0, .int .i64 a0_1, .slice A0_2 l0_2.length c0_2]) (t := 25) ?hr ?_; (case hd => rfl); (case hg => rfl); (case hr => first | (go_simp; done) | (go_simp; rfl)); intro gb109 hg w18 hbox hb; have n0_ := Ad.mk (Ar (by repeat (first | (with_reducible first | exact HB.out | apply Ah | apply Af | apply Ai) | exact HB.out)) hb); have n1_ := Ad.mk (hbox); have n2_ := Ad.mk ((by rw [hg]; exact (Ap (by repeat (first | (with_reducible first | exact HB.out | apply Ah | apply Af | apply Ai) | exact HB.out))) : w.heap.size ≤ gb109)); have n3_ := Ad.mk ((by rw [hg]; exact (Ap (by repeat (first | (with_reducible first | exact HB.out | apply Ah | apply Af | apply Ai) | exact HB.out))) : w.heap.size ≤ gb109)); clear HB; have HB := n0_; have BK109 := n1_; have GW109 := n2_; have GE109 := n3_; clear n0_ n1_ n2_ n3_; clear hb hbox hg; have hcz19_0 : w18.cell? ⟨gb109, 0, none⟩ = some (.int .i64 a0_0) := (Aj BK109.out 0).trans rfl; have hcz19_1 : w18.cell? ⟨gb109, 1, none⟩ = some (.int .i64 a0_1) := (Aj BK109.out 1).trans rfl; have hcz19_2 : w18.cell? ⟨gb109, 2, none⟩ = some (.slice A0_2 l0_2.length c0_2) := (Aj BK109.out 2).trans rfl; have hfz19_0 := Ag BK109.out 0; have hfz19_1 := Ag BK109.out 1; have hfz19_2 := Ag BK109.out 2) | ((with_reducible refine Bj (N := 16) rfl ?_); refine Bh ?hg (N := 16) ?hd (cs := #[.int .i64 0, .int .i64 0, .slice none 0 0, .int .i64 0, .int .i64 0, .int .i64 0]) (t := 58) ?hr ?_; (case hd => rfl); (case hg => rfl); (case hr => first | (go_simp; done) | (go_simp; rfl)); intro gb110 hg w20 hbox hb; have n0_ := Ad.mk (Ak (g := gb109) (o := .cells #[.int .i64 a0_0, .int .i64 a0_1, .slice A0_2 l0_2.length c0_2] 25 (0, 0)) (by (with_reducible repeat (first | refine Ab ?_ _ | refine Ac ?_ | refine Aa ?_ _)); exact BK109.out) hb); have n1_ := Ad.mk (Ar (by repeat (first | (with_reducible first | exact HB.out | apply Ah | apply Af | apply Ai | refine Ae ?_ GE109.out) | exact HB.out)) hb); have n2_ := Ad.mk (hbox); have n3_ := Ad.mk ((by rw [hg]; exact (Ap (by repeat (first | (with_reducible first | exact HB.out | apply Ah | apply Af | apply Ai | refine Ae ?_ GE109.out) | exact HB.out))) : w.heap.size ≤ gb110)); have n4_ := Ad.mk ((by rw [hg]; exact (Ap (by repeat (first | (with_reducible first | exact HB.out | apply Ah | apply Af | apply Ai | refine Ae ?_ GE109.out) | exact HB.out))) : w.heap.size ≤ gb110)); have n5_ := Ad.mk ((by rw [hg]; exact Nat.ne_of_lt (Aw (g := gb109) (o := .cells #[.int .i64 a0_0, .int .i64 a0_1, .slice A0_2 l0_2.length c0_2] 25 (0, 0)) (by (with_reducible repeat (first | refine Ab ?_ _ | refine Ac ?_ | refine Aa ?_ _)); exact BK109.out)) : gb109 ≠ gb110)); have n6_ := Ad.mk ((by rw [hg]; exact Nat.ne_of_gt (Aw (g := gb109) (o := .cells #[.int .i64 a0_0, .int .i64 a0_1, .slice A0_2 l0_2.length c0_2] 25 (0, 0)) (by (with_reducible repeat (first | refine Ab ?_ _ | refine Ac ?_ | refine Aa ?_ _)); exact BK109.out)) : gb110 ≠ gb109)); clear BK109; clear HB; have BK109 := n0_; have HB := n1_; have BK110 := n2_; have GW110 := n3_; have GE110 := n4_; have NB109_110 := n5_; have NB110_109 := n6_; clear n0_ n1_ n2_ n3_ n4_ n5_ n6_; clear hb hbox hg; have hnb21 := NB110_109.out; have hnc21 := NB109_110.out; have hcz22_0 : w20.cell? ⟨gb110, 0, none⟩ = some (.int .i64 0) := (Aj BK110.out 0).trans rfl; have hcz22_1 : w20.cell? ⟨gb110, 1, none⟩ = some (.int .i64 0) := (Aj BK110.out 1).trans rfl; have hcz22_2 : w20.cell? ⟨gb110, 2, none⟩ = some (.slice none 0 0) := (Aj BK110.out 2).trans rfl; have hcz22_3 : w20.cell? ⟨gb110, 3, none⟩ = some (.int .i64 0) := (Aj BK110.out 3).trans rfl; have hcz22_4 : w20.cell? ⟨gb110, 4, none⟩ = some (.int .i64 0) := (Aj BK110.out 4).trans rfl; have hcz22_5 : w20.cell? ⟨gb110, 5, none⟩ = some (.int .i64 0) := (Aj BK110.out 5).trans rfl; have hfz22_0 := Ag BK110.out 0; have hfz22_1 := Ag BK110.out 1; have hfz22_2 := Ag BK110.out 2; have hfz22_3 := Ag BK110.out 3; have hfz22_4 := Ag BK110.out 4; have hfz22_5 := Ag BK110.out 5) | ((with_reducible refine Bi (f := 31) rfl ?_); refine Bx (some 25) rfl rfl Try.func31 (by kernel_rfl) rfl #[.agg #[.int .i64 a0_0, .int .i64 a0_1, .slice A0_2 l0_2.length c0_2, .int .i64 a1, .int .i64 a2, .int .i64 a3], .int .i64 a4] rfl (by (try simp only [List.map_toArray, List.map_cons, List.map_nil]); first | done | rfl | (simp only [List.length_drop, List.length_take]; rfl)) ?_; (with_reducible refine (Ay.calls k a0_0 a0_1 _ _ l0_2 a1 a2 a3 a4 t111 _ ?side1 ?side2 A8.out).mono ?_); (case side1 => exact Kd.Bw HR0_2.out (by repeat (first | (with_reducible first | exact HB.out | apply Ah | apply Af | apply Ai | refine Ae ?_ GE109.out | refine Ae ?_ GE110.out) | exact HB.out))); (case side2 => exact HC0_2.out); rintro e w23 ⟨rfl, hb⟩; refine ⟨_, rfl, ?_⟩; have n0_ := Ad.mk (Ak (g := gb109) (o := .cells #[.int .i64 a0_0, .int .i64 a0_1, .slice A0_2 l0_2.length c0_2] 25 (0, 0)) (by (with_reducible repeat (first | refine Ab ?_ _ | refine Ac ?_ | refine Aa ?_ _)); refine Ao ?_ NB109_110.out _; (with_reducible repeat (first | refine Ab ?_ _ | refine Ac ?_ | refine Aa ?_ _)); refine Ao ?_ NB109_110.out _; (with_reducible repeat (first | refine Ab ?_ _ | refine Ac ?_ | refine Aa ?_ _)); refine Ao ?_ NB109_110.out _; (with_reducible repeat (first | refine Ab ?_ _ | refine Ac ?_ | refine Aa ?_ _)); refine Ao ?_ NB109_110.out _; (with_reducible repeat (first | refine Ab ?_ _ | refine Ac ?_ | refine Aa ?_ _)); refine Ao ?_ NB109_110.out _; (with_reducible repeat (first | refine Ab ?_ _ | refine Ac ?_ | refine Aa ?_ _)); refine Ao ?_ NB109_110.out _; (with_reducible repeat (first | refine Ab ?_ _ | refine Ac ?_ | refine Aa ?_ _)); exact BK109.out) hb); have n1_ := Ad.mk (Ak (g := gb110) (o := .cells #[.int .i64 a0_0, .int .i64 a0_1, .slice A0_2 l0_2.length c0_2, .int .i64 a1, .int .i64 a2, .int .i64 a3] 58 (0, 0)) (by (with_reducible repeat (first | refine Ab ?_ _ | refine Ac ?_ | refine Aa ?_ _)); refine As (cs := #[.int .i64 a0_0, .int .i64 a0_1, .slice A0_2 l0_2.length c0_2, .int .i64 a1, .int .i64 a2, .int .i64 0]) ?_ 5 _ rfl; (with_reducible repeat (first | refine Ab ?_ _ | refine Ac ?_ | refine Aa ?_ _)); refine As (cs := #[.int .i64 a0_0, .int .i64 a0_1, .slice A0_2 l0_2.length c0_2, .int .i64 a1, .int .i64 0, .int .i64 0]) ?_ 4 _ rfl; (with_reducible repeat (first | refine Ab ?_ _ | refine Ac ?_ | refine Aa ?_ _)); refine As (cs := #[.int .i64 a0_0, .int .i64 a0_1, .slice A0_2 l0_2.length c0_2, .int .i64 0, .int .i64 0, .int .i64 0]) ?_ 3 _ rfl; (with_reducible repeat (first | refine Ab ?_ _ | refine Ac ?_ | refine Aa ?_ _)); refine As (cs := #[.int .i64 a0_0, .int .i64 a0_1, .slice none 0 0, .int .i64 0, .int .i64 0, .int .i64 0]) ?_ 2 _ rfl; (with_reducible repeat (first | refine Ab ?_ _ | refine Ac ?_ | refine Aa ?_ _)); refine As (cs := #[.int .i64 a0_0, .int .i64 0, .slice none 0 0, .int .i64 0, .int .i64 0, .int .i64 0]) ?_ 1 _ rfl; (with_reducible repeat (first | refine Ab ?_ _ | refine Ac ?_ | refine Aa ?_ _)); refine As (cs := #[.int .i64 0, .int .i64 0, .slice none 0 0, .int .i64 0, .int .i64 0, .int .i64 0]) ?_ 0 _ rfl; (with_reducible repeat (first | refine Ab ?_ _ | refine Ac ?_ | refine Aa ?_ _)); exact BK110.out) hb); have n2_ := Ad.mk (Ar (by repeat (first | (with_reducible first | exact HB.out | apply Ah | apply Af | apply Ai | refine Ae ?_ GE109.out | refine Ae ?_ GE110.out) | exact HB.out)) hb); clear BK109; clear BK110; clear HB; have BK109 := n0_; have BK110 := n1_; have HB := n2_; clear n0_ n1_ n2_; (try clear hb); (try clear hb2); (try clear hk); (try clear hi)))
        go_ret2
        exact ⟨by first | rfl | (simp [Bb, Ba] <;> rfl) | (simp [*, Bb, Ba] <;> rfl), by repeat (first | (with_reducible first | exact HB.out | apply Ah | apply Af | apply Ai | refine Ae ?_ GE109.out | refine Ae ?_ GE110.out) | exact HB.out)⟩
      · rw [if_neg c17] at H
        have c17b0 : decide (a6 < 0) = false := decide_eq_false c17
        clear c17
        by_cases c24 : a5 ≥ a0_0
        · rw [if_pos c24] at H
          have c24b0 : decide (a0_0 ≤ a5) = true := decide_eq_true c24
          clear c24
          simp only [Option.some.injEq, Prod.mk.injEq] at H
          obtain ⟨rfl, rfl⟩ := H
          go_enter Try.func23, Try.ntmps23
          go_wp2_with (first | ((with_reducible refine Bj (N := 7) rfl ?_); refine Bh ?hg (N := 7) ?hd (cs := #[.int .i64 a0_0, .int .i64 a0_1, .slice A0_2 l0_2.length c0_2]) (t := 25) ?hr ?_; (case hd => rfl); (case hg => rfl); (case hr => first | (go_simp; done) | (go_simp; rfl)); intro gb109 hg w25 hbox hb; have n0_ := Ad.mk (Ar (by repeat (first | (with_reducible first | exact HB.out | apply Ah | apply Af | apply Ai) | exact HB.out)) hb); have n1_ := Ad.mk (hbox); have n2_ := Ad.mk ((by rw [hg]; exact (Ap (by repeat (first | (with_reducible first | exact HB.out | apply Ah | apply Af | apply Ai) | exact HB.out))) : w.heap.size ≤ gb109)); have n3_ := Ad.mk ((by rw [hg]; exact (Ap (by repeat (first | (with_reducible first | exact HB.out | apply Ah | apply Af | apply Ai) | exact HB.out))) : w.heap.size ≤ gb109)); clear HB; have HB := n0_; have BK109 := n1_; have GW109 := n2_; have GE109 := n3_; clear n0_ n1_ n2_ n3_; clear hb hbox hg; have hcz26_0 : w25.cell? ⟨gb109, 0, none⟩ = some (.int .i64 a0_0) := (Aj BK109.out 0).trans rfl; have hcz26_1 : w25.cell? ⟨gb109, 1, none⟩ = some (.int .i64 a0_1) := (Aj BK109.out 1).trans rfl; have hcz26_2 : w25.cell? ⟨gb109, 2, none⟩ = some (.slice A0_2 l0_2.length c0_2) := (Aj BK109.out 2).trans rfl; have hfz26_0 := Ag BK109.out 0; have hfz26_1 := Ag BK109.out 1; have hfz26_2 := Ag BK109.out 2) | ((with_reducible refine Bj (N := 16) rfl ?_); refine Bh ?hg (N := 16) ?hd (cs := #[.int .i64 0, .int .i64 0, .slice none 0 0, .int .i64 0, .int .i64 0, .int .i64 0]) (t := 58) ?hr ?_; (case hd => rfl); (case hg => rfl); (case hr => first | (go_simp; done) | (go_simp; rfl)); intro gb110 hg w27 hbox hb; have n0_ := Ad.mk (Ak (g := gb109) (o := .cells #[.int .i64 a0_0, .int .i64 a0_1, .slice A0_2 l0_2.length c0_2] 25 (0, 0)) (by (with_reducible repeat (first | refine Ab ?_ _ | refine Ac ?_ | refine Aa ?_ _)); exact BK109.out) hb); have n1_ := Ad.mk (Ar (by repeat (first | (with_reducible first | exact HB.out | apply Ah | apply Af | apply Ai | refine Ae ?_ GE109.out) | exact HB.out)) hb); have n2_ := Ad.mk (hbox); have n3_ := Ad.mk ((by rw [hg]; exact (Ap (by repeat (first | (with_reducible first | exact HB.out | apply Ah | apply Af | apply Ai | refine Ae ?_ GE109.out) | exact HB.out))) : w.heap.size ≤ gb110)); have n4_ := Ad.mk ((by rw [hg]; exact (Ap (by repeat (first | (with_reducible first | exact HB.out | apply Ah | apply Af | apply Ai | refine Ae ?_ GE109.out) | exact HB.out))) : w.heap.size ≤ gb110)); have n5_ := Ad.mk ((by rw [hg]; exact Nat.ne_of_lt (Aw (g := gb109) (o := .cells #[.int .i64 a0_0, .int .i64 a0_1, .slice A0_2 l0_2.length c0_2] 25 (0, 0)) (by (with_reducible repeat (first | refine Ab ?_ _ | refine Ac ?_ | refine Aa ?_ _)); exact BK109.out)) : gb109 ≠ gb110)); have n6_ := Ad.mk ((by rw [hg]; exact Nat.ne_of_gt (Aw (g := gb109) (o := .cells #[.int .i64 a0_0, .int .i64 a0_1, .slice A0_2 l0_2.length c0_2] 25 (0, 0)) (by (with_reducible repeat (first | refine Ab ?_ _ | refine Ac ?_ | refine Aa ?_ _)); exact BK109.out)) : gb110 ≠ gb109)); clear BK109; clear HB; have BK109 := n0_; have HB := n1_; have BK110 := n2_; have GW110 := n3_; have GE110 := n4_; have NB109_110 := n5_; have NB110_109 := n6_; clear n0_ n1_ n2_ n3_ n4_ n5_ n6_; clear hb hbox hg; have hnb28 := NB110_109.out; have hnc28 := NB109_110.out; have hcz29_0 : w27.cell? ⟨gb110, 0, none⟩ = some (.int .i64 0) := (Aj BK110.out 0).trans rfl; have hcz29_1 : w27.cell? ⟨gb110, 1, none⟩ = some (.int .i64 0) := (Aj BK110.out 1).trans rfl; have hcz29_2 : w27.cell? ⟨gb110, 2, none⟩ = some (.slice none 0 0) := (Aj BK110.out 2).trans rfl; have hcz29_3 : w27.cell? ⟨gb110, 3, none⟩ = some (.int .i64 0) := (Aj BK110.out 3).trans rfl; have hcz29_4 : w27.cell? ⟨gb110, 4, none⟩ = some (.int .i64 0) := (Aj BK110.out 4).trans rfl; have hcz29_5 : w27.cell? ⟨gb110, 5, none⟩ = some (.int .i64 0) := (Aj BK110.out 5).trans rfl; have hfz29_0 := Ag BK110.out 0; have hfz29_1 := Ag BK110.out 1; have hfz29_2 := Ag BK110.out 2; have hfz29_3 := Ag BK110.out 3; have hfz29_4 := Ag BK110.out 4; have hfz29_5 := Ag BK110.out 5) | ((with_reducible refine Bi (f := 31) rfl ?_); refine Bx (some 25) rfl rfl Try.func31 (by kernel_rfl) rfl #[.agg #[.int .i64 a0_0, .int .i64 a0_1, .slice A0_2 l0_2.length c0_2, .int .i64 a1, .int .i64 a2, .int .i64 a3], .int .i64 a4] rfl (by (try simp only [List.map_toArray, List.map_cons, List.map_nil]); first | done | rfl | (simp only [List.length_drop, List.length_take]; rfl)) ?_; (with_reducible refine (Ay.calls k a0_0 a0_1 _ _ l0_2 a1 a2 a3 a4 t111 _ ?side1 ?side2 A8.out).mono ?_); (case side1 => exact Kd.Bw HR0_2.out (by repeat (first | (with_reducible first | exact HB.out | apply Ah | apply Af | apply Ai | refine Ae ?_ GE109.out | refine Ae ?_ GE110.out) | exact HB.out))); (case side2 => exact HC0_2.out); rintro e w30 ⟨rfl, hb⟩; refine ⟨_, rfl, ?_⟩; have n0_ := Ad.mk (Ak (g := gb109) (o := .cells #[.int .i64 a0_0, .int .i64 a0_1, .slice A0_2 l0_2.length c0_2] 25 (0, 0)) (by (with_reducible repeat (first | refine Ab ?_ _ | refine Ac ?_ | refine Aa ?_ _)); refine Ao ?_ NB109_110.out _; (with_reducible repeat (first | refine Ab ?_ _ | refine Ac ?_ | refine Aa ?_ _)); refine Ao ?_ NB109_110.out _; (with_reducible repeat (first | refine Ab ?_ _ | refine Ac ?_ | refine Aa ?_ _)); refine Ao ?_ NB109_110.out _; (with_reducible repeat (first | refine Ab ?_ _ | refine Ac ?_ | refine Aa ?_ _)); refine Ao ?_ NB109_110.out _; (with_reducible repeat (first | refine Ab ?_ _ | refine Ac ?_ | refine Aa ?_ _)); refine Ao ?_ NB109_110.out _; (with_reducible repeat (first | refine Ab ?_ _ | refine Ac ?_ | refine Aa ?_ _)); refine Ao ?_ NB109_110.out _; (with_reducible repeat (first | refine Ab ?_ _ | refine Ac ?_ | refine Aa ?_ _)); exact BK109.out) hb); have n1_ := Ad.mk (Ak (g := gb110) (o := .cells #[.int .i64 a0_0, .int .i64 a0_1, .slice A0_2 l0_2.length c0_2, .int .i64 a1, .int .i64 a2, .int .i64 a3] 58 (0, 0)) (by (with_reducible repeat (first | refine Ab ?_ _ | refine Ac ?_ | refine Aa ?_ _)); refine As (cs := #[.int .i64 a0_0, .int .i64 a0_1, .slice A0_2 l0_2.length c0_2, .int .i64 a1, .int .i64 a2, .int .i64 0]) ?_ 5 _ rfl; (with_reducible repeat (first | refine Ab ?_ _ | refine Ac ?_ | refine Aa ?_ _)); refine As (cs := #[.int .i64 a0_0, .int .i64 a0_1, .slice A0_2 l0_2.length c0_2, .int .i64 a1, .int .i64 0, .int .i64 0]) ?_ 4 _ rfl; (with_reducible repeat (first | refine Ab ?_ _ | refine Ac ?_ | refine Aa ?_ _)); refine As (cs := #[.int .i64 a0_0, .int .i64 a0_1, .slice A0_2 l0_2.length c0_2, .int .i64 0, .int .i64 0, .int .i64 0]) ?_ 3 _ rfl; (with_reducible repeat (first | refine Ab ?_ _ | refine Ac ?_ | refine Aa ?_ _)); refine As (cs := #[.int .i64 a0_0, .int .i64 a0_1, .slice none 0 0, .int .i64 0, .int .i64 0, .int .i64 0]) ?_ 2 _ rfl; (with_reducible repeat (first | refine Ab ?_ _ | refine Ac ?_ | refine Aa ?_ _)); refine As (cs := #[.int .i64 a0_0, .int .i64 0, .slice none 0 0, .int .i64 0, .int .i64 0, .int .i64 0]) ?_ 1 _ rfl; (with_reducible repeat (first | refine Ab ?_ _ | refine Ac ?_ | refine Aa ?_ _)); refine As (cs := #[.int .i64 0, .int .i64 0, .slice none 0 0, .int .i64 0, .int .i64 0, .int .i64 0]) ?_ 0 _ rfl; (with_reducible repeat (first | refine Ab ?_ _ | refine Ac ?_ | refine Aa ?_ _)); exact BK110.out) hb); have n2_ := Ad.mk (Ar (by repeat (first | (with_reducible first | exact HB.out | apply Ah | apply Af | apply Ai | refine Ae ?_ GE109.out | refine Ae ?_ GE110.out) | exact HB.out)) hb); clear BK109; clear BK110; clear HB; have BK109 := n0_; have BK110 := n1_; have HB := n2_; clear n0_ n1_ n2_; (try clear hb); (try clear hb2); (try clear hk); (try clear hi); have hcz31_0 : w30.cell? ⟨gb109, 0, none⟩ = some (.int .i64 a0_0) := (Aj BK109.out 0).trans rfl; have hcz31_1 : w30.cell? ⟨gb109, 1, none⟩ = some (.int .i64 a0_1) := (Aj BK109.out 1).trans rfl; have hcz31_2 : w30.cell? ⟨gb109, 2, none⟩ = some (.slice A0_2 l0_2.length c0_2) := (Aj BK109.out 2).trans rfl; have hfz31_0 := Ag BK109.out 0; have hfz31_1 := Ag BK109.out 1; have hfz31_2 := Ag BK109.out 2))
          go_ret2
          exact ⟨by first | rfl | (simp [Bb, Ba] <;> rfl) | (simp [*, Bb, Ba] <;> rfl), by repeat (first | (with_reducible first | exact HB.out | apply Ah | apply Af | apply Ai | refine Ae ?_ GE109.out | refine Ae ?_ GE110.out) | exact HB.out)⟩
        · rw [if_neg c24] at H
          have c24b0 : decide (a0_0 ≤ a5) = false := decide_eq_false c24
          clear c24
          by_cases c32 : a6 ≥ a0_1
          · rw [if_pos c32] at H
            have c32b0 : decide (a0_1 ≤ a6) = true := decide_eq_true c32
            clear c32
            simp only [Option.some.injEq, Prod.mk.injEq] at H
            obtain ⟨rfl, rfl⟩ := H
            go_enter Try.func23, Try.ntmps23
            go_wp2_with (first | ((with_reducible refine Bj (N := 7) rfl ?_); refine Bh ?hg (N := 7) ?hd (cs := #[.int .i64 a0_0, .int .i64 a0_1, .slice A0_2 l0_2.length c0_2]) (t := 25) ?hr ?_; (case hd => rfl); (case hg => rfl); (case hr => first | (go_simp; done) | (go_simp; rfl)); intro gb109 hg w33 hbox hb; have n0_ := Ad.mk (Ar (by repeat (first | (with_reducible first | exact HB.out | apply Ah | apply Af | apply Ai) | exact HB.out)) hb); have n1_ := Ad.mk (hbox); have n2_ := Ad.mk ((by rw [hg]; exact (Ap (by repeat (first | (with_reducible first | exact HB.out | apply Ah | apply Af | apply Ai) | exact HB.out))) : w.heap.size ≤ gb109)); have n3_ := Ad.mk ((by rw [hg]; exact (Ap (by repeat (first | (with_reducible first | exact HB.out | apply Ah | apply Af | apply Ai) | exact HB.out))) : w.heap.size ≤ gb109)); clear HB; have HB := n0_; have BK109 := n1_; have GW109 := n2_; have GE109 := n3_; clear n0_ n1_ n2_ n3_; clear hb hbox hg; have hcz34_0 : w33.cell? ⟨gb109, 0, none⟩ = some (.int .i64 a0_0) := (Aj BK109.out 0).trans rfl; have hcz34_1 : w33.cell? ⟨gb109, 1, none⟩ = some (.int .i64 a0_1) := (Aj BK109.out 1).trans rfl; have hcz34_2 : w33.cell? ⟨gb109, 2, none⟩ = some (.slice A0_2 l0_2.length c0_2) := (Aj BK109.out 2).trans rfl; have hfz34_0 := Ag BK109.out 0; have hfz34_1 := Ag BK109.out 1; have hfz34_2 := Ag BK109.out 2) | ((with_reducible refine Bj (N := 16) rfl ?_); refine Bh ?hg (N := 16) ?hd (cs := #[.int .i64 0, .int .i64 0, .slice none 0 0, .int .i64 0, .int .i64 0, .int .i64 0]) (t := 58) ?hr ?_; (case hd => rfl); (case hg => rfl); (case hr => first | (go_simp; done) | (go_simp; rfl)); intro gb110 hg w35 hbox hb; have n0_ := Ad.mk (Ak (g := gb109) (o := .cells #[.int .i64 a0_0, .int .i64 a0_1, .slice A0_2 l0_2.length c0_2] 25 (0, 0)) (by (with_reducible repeat (first | refine Ab ?_ _ | refine Ac ?_ | refine Aa ?_ _)); exact BK109.out) hb); have n1_ := Ad.mk (Ar (by repeat (first | (with_reducible first | exact HB.out | apply Ah | apply Af | apply Ai | refine Ae ?_ GE109.out) | exact HB.out)) hb); have n2_ := Ad.mk (hbox); have n3_ := Ad.mk ((by rw [hg]; exact (Ap (by repeat (first | (with_reducible first | exact HB.out | apply Ah | apply Af | apply Ai | refine Ae ?_ GE109.out) | exact HB.out))) : w.heap.size ≤ gb110)); have n4_ := Ad.mk ((by rw [hg]; exact (Ap (by repeat (first | (with_reducible first | exact HB.out | apply Ah | apply Af | apply Ai | refine Ae ?_ GE109.out) | exact HB.out))) : w.heap.size ≤ gb110)); have n5_ := Ad.mk ((by rw [hg]; exact Nat.ne_of_lt (Aw (g := gb109) (o := .cells #[.int .i64 a0_0, .int .i64 a0_1, .slice A0_2 l0_2.length c0_2] 25 (0, 0)) (by (with_reducible repeat (first | refine Ab ?_ _ | refine Ac ?_ | refine Aa ?_ _)); exact BK109.out)) : gb109 ≠ gb110)); have n6_ := Ad.mk ((by rw [hg]; exact Nat.ne_of_gt (Aw (g := gb109) (o := .cells #[.int .i64 a0_0, .int .i64 a0_1, .slice A0_2 l0_2.length c0_2] 25 (0, 0)) (by (with_reducible repeat (first | refine Ab ?_ _ | refine Ac ?_ | refine Aa ?_ _)); exact BK109.out)) : gb110 ≠ gb109)); clear BK109; clear HB; have BK109 := n0_; have HB := n1_; have BK110 := n2_; have GW110 := n3_; have GE110 := n4_; have NB109_110 := n5_; have NB110_109 := n6_; clear n0_ n1_ n2_ n3_ n4_ n5_ n6_; clear hb hbox hg; have hnb36 := NB110_109.out; have hnc36 := NB109_110.out; have hcz37_0 : w35.cell? ⟨gb110, 0, none⟩ = some (.int .i64 0) := (Aj BK110.out 0).trans rfl; have hcz37_1 : w35.cell? ⟨gb110, 1, none⟩ = some (.int .i64 0) := (Aj BK110.out 1).trans rfl; have hcz37_2 : w35.cell? ⟨gb110, 2, none⟩ = some (.slice none 0 0) := (Aj BK110.out 2).trans rfl; have hcz37_3 : w35.cell? ⟨gb110, 3, none⟩ = some (.int .i64 0) := (Aj BK110.out 3).trans rfl; have hcz37_4 : w35.cell? ⟨gb110, 4, none⟩ = some (.int .i64 0) := (Aj BK110.out 4).trans rfl; have hcz37_5 : w35.cell? ⟨gb110, 5, none⟩ = some (.int .i64 0) := (Aj BK110.out 5).trans rfl; have hfz37_0 := Ag BK110.out 0; have hfz37_1 := Ag BK110.out 1; have hfz37_2 := Ag BK110.out 2; have hfz37_3 := Ag BK110.out 3; have hfz37_4 := Ag BK110.out 4; have hfz37_5 := Ag BK110.out 5) | ((with_reducible refine Bi (f := 31) rfl ?_); refine Bx (some 25) rfl rfl Try.func31 (by kernel_rfl) rfl #[.agg #[.int .i64 a0_0, .int .i64 a0_1, .slice A0_2 l0_2.length c0_2, .int .i64 a1, .int .i64 a2, .int .i64 a3], .int .i64 a4] rfl (by (try simp only [List.map_toArray, List.map_cons, List.map_nil]); first | done | rfl | (simp only [List.length_drop, List.length_take]; rfl)) ?_; (with_reducible refine (Ay.calls k a0_0 a0_1 _ _ l0_2 a1 a2 a3 a4 t111 _ ?side1 ?side2 A8.out).mono ?_); (case side1 => exact Kd.Bw HR0_2.out (by repeat (first | (with_reducible first | exact HB.out | apply Ah | apply Af | apply Ai | refine Ae ?_ GE109.out | refine Ae ?_ GE110.out) | exact HB.out))); (case side2 => exact HC0_2.out); rintro e w38 ⟨rfl, hb⟩; refine ⟨_, rfl, ?_⟩; have n0_ := Ad.mk (Ak (g := gb109) (o := .cells #[.int .i64 a0_0, .int .i64 a0_1, .slice A0_2 l0_2.length c0_2] 25 (0, 0)) (by (with_reducible repeat (first | refine Ab ?_ _ | refine Ac ?_ | refine Aa ?_ _)); refine Ao ?_ NB109_110.out _; (with_reducible repeat (first | refine Ab ?_ _ | refine Ac ?_ | refine Aa ?_ _)); refine Ao ?_ NB109_110.out _; (with_reducible repeat (first | refine Ab ?_ _ | refine Ac ?_ | refine Aa ?_ _)); refine Ao ?_ NB109_110.out _; (with_reducible repeat (first | refine Ab ?_ _ | refine Ac ?_ | refine Aa ?_ _)); refine Ao ?_ NB109_110.out _; (with_reducible repeat (first | refine Ab ?_ _ | refine Ac ?_ | refine Aa ?_ _)); refine Ao ?_ NB109_110.out _; (with_reducible repeat (first | refine Ab ?_ _ | refine Ac ?_ | refine Aa ?_ _)); refine Ao ?_ NB109_110.out _; (with_reducible repeat (first | refine Ab ?_ _ | refine Ac ?_ | refine Aa ?_ _)); exact BK109.out) hb); have n1_ := Ad.mk (Ak (g := gb110) (o := .cells #[.int .i64 a0_0, .int .i64 a0_1, .slice A0_2 l0_2.length c0_2, .int .i64 a1, .int .i64 a2, .int .i64 a3] 58 (0, 0)) (by (with_reducible repeat (first | refine Ab ?_ _ | refine Ac ?_ | refine Aa ?_ _)); refine As (cs := #[.int .i64 a0_0, .int .i64 a0_1, .slice A0_2 l0_2.length c0_2, .int .i64 a1, .int .i64 a2, .int .i64 0]) ?_ 5 _ rfl; (with_reducible repeat (first | refine Ab ?_ _ | refine Ac ?_ | refine Aa ?_ _)); refine As (cs := #[.int .i64 a0_0, .int .i64 a0_1, .slice A0_2 l0_2.length c0_2, .int .i64 a1, .int .i64 0, .int .i64 0]) ?_ 4 _ rfl; (with_reducible repeat (first | refine Ab ?_ _ | refine Ac ?_ | refine Aa ?_ _)); refine As (cs := #[.int .i64 a0_0, .int .i64 a0_1, .slice A0_2 l0_2.length c0_2, .int .i64 0, .int .i64 0, .int .i64 0]) ?_ 3 _ rfl; (with_reducible repeat (first | refine Ab ?_ _ | refine Ac ?_ | refine Aa ?_ _)); refine As (cs := #[.int .i64 a0_0, .int .i64 a0_1, .slice none 0 0, .int .i64 0, .int .i64 0, .int .i64 0]) ?_ 2 _ rfl; (with_reducible repeat (first | refine Ab ?_ _ | refine Ac ?_ | refine Aa ?_ _)); refine As (cs := #[.int .i64 a0_0, .int .i64 0, .slice none 0 0, .int .i64 0, .int .i64 0, .int .i64 0]) ?_ 1 _ rfl; (with_reducible repeat (first | refine Ab ?_ _ | refine Ac ?_ | refine Aa ?_ _)); refine As (cs := #[.int .i64 0, .int .i64 0, .slice none 0 0, .int .i64 0, .int .i64 0, .int .i64 0]) ?_ 0 _ rfl; (with_reducible repeat (first | refine Ab ?_ _ | refine Ac ?_ | refine Aa ?_ _)); exact BK110.out) hb); have n2_ := Ad.mk (Ar (by repeat (first | (with_reducible first | exact HB.out | apply Ah | apply Af | apply Ai | refine Ae ?_ GE109.out | refine Ae ?_ GE110.out) | exact HB.out)) hb); clear BK109; clear BK110; clear HB; have BK109 := n0_; have BK110 := n1_; have HB := n2_; clear n0_ n1_ n2_; (try clear hb); (try clear hb2); (try clear hk); (try clear hi); have hcz39_0 : w38.cell? ⟨gb109, 0, none⟩ = some (.int .i64 a0_0) := (Aj BK109.out 0).trans rfl; have hcz39_1 : w38.cell? ⟨gb109, 1, none⟩ = some (.int .i64 a0_1) := (Aj BK109.out 1).trans rfl; have hcz39_2 : w38.cell? ⟨gb109, 2, none⟩ = some (.slice A0_2 l0_2.length c0_2) := (Aj BK109.out 2).trans rfl; have hfz39_0 := Ag BK109.out 0; have hfz39_1 := Ag BK109.out 1; have hfz39_2 := Ag BK109.out 2))
            go_ret2
            exact ⟨by first | rfl | (simp [Bb, Ba] <;> rfl) | (simp [*, Bb, Ba] <;> rfl), by repeat (first | (with_reducible first | exact HB.out | apply Ah | apply Af | apply Ai | refine Ae ?_ GE109.out | refine Ae ?_ GE110.out) | exact HB.out)⟩
          · rw [if_neg c32] at H
            have c32b0 : decide (a0_1 ≤ a6) = false := decide_eq_false c32
            clear c32
            replace H := Option.bind_eq_some_iff.mp H
            obtain ⟨t112, A400, H⟩ := H
            replace H : (some (t112, 0)) = some (r1, r2) := H
            have A40 := Ad.mk A400
            clear A400
            simp only [Option.some.injEq, Prod.mk.injEq] at H
            obtain ⟨rfl, rfl⟩ := H
            go_enter Try.func23, Try.ntmps23
            go_wp2_with (first | ((with_reducible refine Bj (N := 7) rfl ?_); refine Bh ?hg (N := 7) ?hd (cs := #[.int .i64 a0_0, .int .i64 a0_1, .slice A0_2 l0_2.length c0_2]) (t := 25) ?hr ?_; (case hd => rfl); (case hg => rfl); (case hr => first | (go_simp; done) | (go_simp; rfl)); intro gb109 hg w41 hbox hb; have n0_ := Ad.mk (Ar (by repeat (first | (with_reducible first | exact HB.out | apply Ah | apply Af | apply Ai) | exact HB.out)) hb); have n1_ := Ad.mk (hbox); have n2_ := Ad.mk ((by rw [hg]; exact (Ap (by repeat (first | (with_reducible first | exact HB.out | apply Ah | apply Af | apply Ai) | exact HB.out))) : w.heap.size ≤ gb109)); have n3_ := Ad.mk ((by rw [hg]; exact (Ap (by repeat (first | (with_reducible first | exact HB.out | apply Ah | apply Af | apply Ai) | exact HB.out))) : w.heap.size ≤ gb109)); clear HB; have HB := n0_; have BK109 := n1_; have GW109 := n2_; have GE109 := n3_; clear n0_ n1_ n2_ n3_; clear hb hbox hg; have hcz42_0 : w41.cell? ⟨gb109, 0, none⟩ = some (.int .i64 a0_0) := (Aj BK109.out 0).trans rfl; have hcz42_1 : w41.cell? ⟨gb109, 1, none⟩ = some (.int .i64 a0_1) := (Aj BK109.out 1).trans rfl; have hcz42_2 : w41.cell? ⟨gb109, 2, none⟩ = some (.slice A0_2 l0_2.length c0_2) := (Aj BK109.out 2).trans rfl; have hfz42_0 := Ag BK109.out 0; have hfz42_1 := Ag BK109.out 1; have hfz42_2 := Ag BK109.out 2) | ((with_reducible refine Bj (N := 16) rfl ?_); refine Bh ?hg (N := 16) ?hd (cs := #[.int .i64 0, .int .i64 0, .slice none 0 0, .int .i64 0, .int .i64 0, .int .i64 0]) (t := 58) ?hr ?_; (case hd => rfl); (case hg => rfl); (case hr => first | (go_simp; done) | (go_simp; rfl)); intro gb110 hg w43 hbox hb; have n0_ := Ad.mk (Ak (g := gb109) (o := .cells #[.int .i64 a0_0, .int .i64 a0_1, .slice A0_2 l0_2.length c0_2] 25 (0, 0)) (by (with_reducible repeat (first | refine Ab ?_ _ | refine Ac ?_ | refine Aa ?_ _)); exact BK109.out) hb); have n1_ := Ad.mk (Ar (by repeat (first | (with_reducible first | exact HB.out | apply Ah | apply Af | apply Ai | refine Ae ?_ GE109.out) | exact HB.out)) hb); have n2_ := Ad.mk (hbox); have n3_ := Ad.mk ((by rw [hg]; exact (Ap (by repeat (first | (with_reducible first | exact HB.out | apply Ah | apply Af | apply Ai | refine Ae ?_ GE109.out) | exact HB.out))) : w.heap.size ≤ gb110)); have n4_ := Ad.mk ((by rw [hg]; exact (Ap (by repeat (first | (with_reducible first | exact HB.out | apply Ah | apply Af | apply Ai | refine Ae ?_ GE109.out) | exact HB.out))) : w.heap.size ≤ gb110)); have n5_ := Ad.mk ((by rw [hg]; exact Nat.ne_of_lt (Aw (g := gb109) (o := .cells #[.int .i64 a0_0, .int .i64 a0_1, .slice A0_2 l0_2.length c0_2] 25 (0, 0)) (by (with_reducible repeat (first | refine Ab ?_ _ | refine Ac ?_ | refine Aa ?_ _)); exact BK109.out)) : gb109 ≠ gb110)); have n6_ := Ad.mk ((by rw [hg]; exact Nat.ne_of_gt (Aw (g := gb109) (o := .cells #[.int .i64 a0_0, .int .i64 a0_1, .slice A0_2 l0_2.length c0_2] 25 (0, 0)) (by (with_reducible repeat (first | refine Ab ?_ _ | refine Ac ?_ | refine Aa ?_ _)); exact BK109.out)) : gb110 ≠ gb109)); clear BK109; clear HB; have BK109 := n0_; have HB := n1_; have BK110 := n2_; have GW110 := n3_; have GE110 := n4_; have NB109_110 := n5_; have NB110_109 := n6_; clear n0_ n1_ n2_ n3_ n4_ n5_ n6_; clear hb hbox hg; have hnb44 := NB110_109.out; have hnc44 := NB109_110.out; have hcz45_0 : w43.cell? ⟨gb110, 0, none⟩ = some (.int .i64 0) := (Aj BK110.out 0).trans rfl; have hcz45_1 : w43.cell? ⟨gb110, 1, none⟩ = some (.int .i64 0) := (Aj BK110.out 1).trans rfl; have hcz45_2 : w43.cell? ⟨gb110, 2, none⟩ = some (.slice none 0 0) := (Aj BK110.out 2).trans rfl; have hcz45_3 : w43.cell? ⟨gb110, 3, none⟩ = some (.int .i64 0) := (Aj BK110.out 3).trans rfl; have hcz45_4 : w43.cell? ⟨gb110, 4, none⟩ = some (.int .i64 0) := (Aj BK110.out 4).trans rfl; have hcz45_5 : w43.cell? ⟨gb110, 5, none⟩ = some (.int .i64 0) := (Aj BK110.out 5).trans rfl; have hfz45_0 := Ag BK110.out 0; have hfz45_1 := Ag BK110.out 1; have hfz45_2 := Ag BK110.out 2; have hfz45_3 := Ag BK110.out 3; have hfz45_4 := Ag BK110.out 4; have hfz45_5 := Ag BK110.out 5) | ((with_reducible refine Bi (f := 31) rfl ?_); refine Bx (some 25) rfl rfl Try.func31 (by kernel_rfl) rfl #[.agg #[.int .i64 a0_0, .int .i64 a0_1, .slice A0_2 l0_2.length c0_2, .int .i64 a1, .int .i64 a2, .int .i64 a3], .int .i64 a4] rfl (by (try simp only [List.map_toArray, List.map_cons, List.map_nil]); first | done | rfl | (simp only [List.length_drop, List.length_take]; rfl)) ?_; (with_reducible refine (Ay.calls k a0_0 a0_1 _ _ l0_2 a1 a2 a3 a4 t111 _ ?side1 ?side2 A8.out).mono ?_); (case side1 => exact Kd.Bw HR0_2.out (by repeat (first | (with_reducible first | exact HB.out | apply Ah | apply Af | apply Ai | refine Ae ?_ GE109.out | refine Ae ?_ GE110.out) | exact HB.out))); (case side2 => exact HC0_2.out); rintro e w46 ⟨rfl, hb⟩; refine ⟨_, rfl, ?_⟩; have n0_ := Ad.mk (Ak (g := gb109) (o := .cells #[.int .i64 a0_0, .int .i64 a0_1, .slice A0_2 l0_2.length c0_2] 25 (0, 0)) (by (with_reducible repeat (first | refine Ab ?_ _ | refine Ac ?_ | refine Aa ?_ _)); refine Ao ?_ NB109_110.out _; (with_reducible repeat (first | refine Ab ?_ _ | refine Ac ?_ | refine Aa ?_ _)); refine Ao ?_ NB109_110.out _; (with_reducible repeat (first | refine Ab ?_ _ | refine Ac ?_ | refine Aa ?_ _)); refine Ao ?_ NB109_110.out _; (with_reducible repeat (first | refine Ab ?_ _ | refine Ac ?_ | refine Aa ?_ _)); refine Ao ?_ NB109_110.out _; (with_reducible repeat (first | refine Ab ?_ _ | refine Ac ?_ | refine Aa ?_ _)); refine Ao ?_ NB109_110.out _; (with_reducible repeat (first | refine Ab ?_ _ | refine Ac ?_ | refine Aa ?_ _)); refine Ao ?_ NB109_110.out _; (with_reducible repeat (first | refine Ab ?_ _ | refine Ac ?_ | refine Aa ?_ _)); exact BK109.out) hb); have n1_ := Ad.mk (Ak (g := gb110) (o := .cells #[.int .i64 a0_0, .int .i64 a0_1, .slice A0_2 l0_2.length c0_2, .int .i64 a1, .int .i64 a2, .int .i64 a3] 58 (0, 0)) (by (with_reducible repeat (first | refine Ab ?_ _ | refine Ac ?_ | refine Aa ?_ _)); refine As (cs := #[.int .i64 a0_0, .int .i64 a0_1, .slice A0_2 l0_2.length c0_2, .int .i64 a1, .int .i64 a2, .int .i64 0]) ?_ 5 _ rfl; (with_reducible repeat (first | refine Ab ?_ _ | refine Ac ?_ | refine Aa ?_ _)); refine As (cs := #[.int .i64 a0_0, .int .i64 a0_1, .slice A0_2 l0_2.length c0_2, .int .i64 a1, .int .i64 0, .int .i64 0]) ?_ 4 _ rfl; (with_reducible repeat (first | refine Ab ?_ _ | refine Ac ?_ | refine Aa ?_ _)); refine As (cs := #[.int .i64 a0_0, .int .i64 a0_1, .slice A0_2 l0_2.length c0_2, .int .i64 0, .int .i64 0, .int .i64 0]) ?_ 3 _ rfl; (with_reducible repeat (first | refine Ab ?_ _ | refine Ac ?_ | refine Aa ?_ _)); refine As (cs := #[.int .i64 a0_0, .int .i64 a0_1, .slice none 0 0, .int .i64 0, .int .i64 0, .int .i64 0]) ?_ 2 _ rfl; (with_reducible repeat (first | refine Ab ?_ _ | refine Ac ?_ | refine Aa ?_ _)); refine As (cs := #[.int .i64 a0_0, .int .i64 0, .slice none 0 0, .int .i64 0, .int .i64 0, .int .i64 0]) ?_ 1 _ rfl; (with_reducible repeat (first | refine Ab ?_ _ | refine Ac ?_ | refine Aa ?_ _)); refine As (cs := #[.int .i64 0, .int .i64 0, .slice none 0 0, .int .i64 0, .int .i64 0, .int .i64 0]) ?_ 0 _ rfl; (with_reducible repeat (first | refine Ab ?_ _ | refine Ac ?_ | refine Aa ?_ _)); exact BK110.out) hb); have n2_ := Ad.mk (Ar (by repeat (first | (with_reducible first | exact HB.out | apply Ah | apply Af | apply Ai | refine Ae ?_ GE109.out | refine Ae ?_ GE110.out) | exact HB.out)) hb); clear BK109; clear BK110; clear HB; have BK109 := n0_; have BK110 := n1_; have HB := n2_; clear n0_ n1_ n2_; (try clear hb); (try clear hb2); (try clear hk); (try clear hi); have hcz47_0 : w46.cell? ⟨gb109, 0, none⟩ = some (.int .i64 a0_0) := (Aj BK109.out 0).trans rfl; have hcz47_1 : w46.cell? ⟨gb109, 1, none⟩ = some (.int .i64 a0_1) := (Aj BK109.out 1).trans rfl; have hcz47_2 : w46.cell? ⟨gb109, 2, none⟩ = some (.slice A0_2 l0_2.length c0_2) := (Aj BK109.out 2).trans rfl; have hfz47_0 := Ag BK109.out 0; have hfz47_1 := Ag BK109.out 1; have hfz47_2 := Ag BK109.out 2; have hcz48_0 : w46.cell? ⟨gb110, 0, none⟩ = some (.int .i64 a0_0) := (Aj BK110.out 0).trans rfl; have hcz48_1 : w46.cell? ⟨gb110, 1, none⟩ = some (.int .i64 a0_1) := (Aj BK110.out 1).trans rfl; have hcz48_2 : w46.cell? ⟨gb110, 2, none⟩ = some (.slice A0_2 l0_2.length c0_2) := (Aj BK110.out 2).trans rfl; have hcz48_3 : w46.cell? ⟨gb110, 3, none⟩ = some (.int .i64 a1) := (Aj BK110.out 3).trans rfl; have hcz48_4 : w46.cell? ⟨gb110, 4, none⟩ = some (.int .i64 a2) := (Aj BK110.out 4).trans rfl; have hcz48_5 : w46.cell? ⟨gb110, 5, none⟩ = some (.int .i64 a3) := (Aj BK110.out 5).trans rfl; have hfz48_0 := Ag BK110.out 0; have hfz48_1 := Ag BK110.out 1; have hfz48_2 := Ag BK110.out 2; have hfz48_3 := Ag BK110.out 3; have hfz48_4 := Ag BK110.out 4; have hfz48_5 := Ag BK110.out 5) | ((with_reducible refine Bi (f := 38) rfl ?_); refine Bx (some 51) rfl rfl Try.func38 (by kernel_rfl) rfl #[.agg #[.int .i64 a0_0, .int .i64 a0_1, .slice A0_2 l0_2.length c0_2, .int .i64 a1, .int .i64 a2, .int .i64 a3], .int .i64 a4, .int .i64 a5, .int .i64 a6] rfl (by (try simp only [List.map_toArray, List.map_cons, List.map_nil]); first | done | rfl | (simp only [List.length_drop, List.length_take]; rfl)) ?_; (with_reducible refine (Ch.calls a0_0 a0_1 _ _ l0_2 a1 a2 a3 a4 a5 a6 t112 _ ?side1 ?side2 A40.out).mono ?_); (case side1 => repeat (first | exact (Kd.Bw HR0_2.out HB.out) | (with_reducible refine Kd.B5 ?_ _) | (with_reducible refine Kd.B6 ?_ _) | (with_reducible refine Kd.Ca ?_))); (case side2 => exact HC0_2.out); rintro e w49 ⟨rfl, hb⟩; refine ⟨_, rfl, ?_⟩; have n0_ := Ad.mk (Ak (g := gb109) (o := .cells #[.int .i64 a0_0, .int .i64 a0_1, .slice A0_2 l0_2.length c0_2] 25 (0, 0)) (by (with_reducible repeat (first | refine Ab ?_ _ | refine Ac ?_ | refine Aa ?_ _)); exact BK109.out) hb); have n1_ := Ad.mk (Ak (g := gb110) (o := .cells #[.int .i64 a0_0, .int .i64 a0_1, .slice A0_2 l0_2.length c0_2, .int .i64 a1, .int .i64 a2, .int .i64 a3] 58 (0, 0)) (by (with_reducible repeat (first | refine Ab ?_ _ | refine Ac ?_ | refine Aa ?_ _)); exact BK110.out) hb); have n2_ := Ad.mk (Ar (by repeat (first | (with_reducible first | exact HB.out | apply Ah | apply Af | apply Ai | refine Ae ?_ GE109.out | refine Ae ?_ GE110.out) | exact HB.out)) hb); clear BK109; clear BK110; clear HB; have BK109 := n0_; have BK110 := n1_; have HB := n2_; clear n0_ n1_ n2_; (try clear hb); (try clear hb2); (try clear hk); (try clear hi)))
            go_ret2
            exact ⟨by first | rfl | (simp [Bb, Ba] <;> rfl) | (simp [*, Bb, Ba] <;> rfl), by repeat (first | (with_reducible first | exact HB.out | apply Ah | apply Af | apply Ai | refine Ae ?_ GE109.out | refine Ae ?_ GE110.out) | exact HB.out)⟩
  · rw [if_neg c9] at H
    have c9b0 : (t111 == 0) = false := beq_eq_false_iff_ne.mpr c9
    have c9b1 : (t111 != 0) = true := bne_iff_ne.mpr c9
    simp only [Option.some.injEq, Prod.mk.injEq] at H
    obtain ⟨rfl, rfl⟩ := H
    go_enter Try.func23, Try.ntmps23
    go_wp2_with (first | ((with_reducible refine Bj (N := 7) rfl ?_); refine Bh ?hg (N := 7) ?hd (cs := #[.int .i64 a0_0, .int .i64 a0_1, .slice A0_2 l0_2.length c0_2]) (t := 25) ?hr ?_; (case hd => rfl); (case hg => rfl); (case hr => first | (go_simp; done) | (go_simp; rfl)); intro gb109 hg w50 hbox hb; have n0_ := Ad.mk (Ar (by repeat (first | (with_reducible first | exact HB.out | apply Ah | apply Af | apply Ai) | exact HB.out)) hb); have n1_ := Ad.mk (hbox); have n2_ := Ad.mk ((by rw [hg]; exact (Ap (by repeat (first | (with_reducible first | exact HB.out | apply Ah | apply Af | apply Ai) | exact HB.out))) : w.heap.size ≤ gb109)); have n3_ := Ad.mk ((by rw [hg]; exact (Ap (by repeat (first | (with_reducible first | exact HB.out | apply Ah | apply Af | apply Ai) | exact HB.out))) : w.heap.size ≤ gb109)); clear HB; have HB := n0_; have BK109 := n1_; have GW109 := n2_; have GE109 := n3_; clear n0_ n1_ n2_ n3_; clear hb hbox hg; have hcz51_0 : w50.cell? ⟨gb109, 0, none⟩ = some (.int .i64 a0_0) := (Aj BK109.out 0).trans rfl; have hcz51_1 : w50.cell? ⟨gb109, 1, none⟩ = some (.int .i64 a0_1) := (Aj BK109.out 1).trans rfl; have hcz51_2 : w50.cell? ⟨gb109, 2, none⟩ = some (.slice A0_2 l0_2.length c0_2) := (Aj BK109.out 2).trans rfl; have hfz51_0 := Ag BK109.out 0; have hfz51_1 := Ag BK109.out 1; have hfz51_2 := Ag BK109.out 2) | ((with_reducible refine Bj (N := 16) rfl ?_); refine Bh ?hg (N := 16) ?hd (cs := #[.int .i64 0, .int .i64 0, .slice none 0 0, .int .i64 0, .int .i64 0, .int .i64 0]) (t := 58) ?hr ?_; (case hd => rfl); (case hg => rfl); (case hr => first | (go_simp; done) | (go_simp; rfl)); intro gb110 hg w52 hbox hb; have n0_ := Ad.mk (Ak (g := gb109) (o := .cells #[.int .i64 a0_0, .int .i64 a0_1, .slice A0_2 l0_2.length c0_2] 25 (0, 0)) (by (with_reducible repeat (first | refine Ab ?_ _ | refine Ac ?_ | refine Aa ?_ _)); exact BK109.out) hb); have n1_ := Ad.mk (Ar (by repeat (first | (with_reducible first | exact HB.out | apply Ah | apply Af | apply Ai | refine Ae ?_ GE109.out) | exact HB.out)) hb); have n2_ := Ad.mk (hbox); have n3_ := Ad.mk ((by rw [hg]; exact (Ap (by repeat (first | (with_reducible first | exact HB.out | apply Ah | apply Af | apply Ai | refine Ae ?_ GE109.out) | exact HB.out))) : w.heap.size ≤ gb110)); have n4_ := Ad.mk ((by rw [hg]; exact (Ap (by repeat (first | (with_reducible first | exact HB.out | apply Ah | apply Af | apply Ai | refine Ae ?_ GE109.out) | exact HB.out))) : w.heap.size ≤ gb110)); have n5_ := Ad.mk ((by rw [hg]; exact Nat.ne_of_lt (Aw (g := gb109) (o := .cells #[.int .i64 a0_0, .int .i64 a0_1, .slice A0_2 l0_2.length c0_2] 25 (0, 0)) (by (with_reducible repeat (first | refine Ab ?_ _ | refine Ac ?_ | refine Aa ?_ _)); exact BK109.out)) : gb109 ≠ gb110)); have n6_ := Ad.mk ((by rw [hg]; exact Nat.ne_of_gt (Aw (g := gb109) (o := .cells #[.int .i64 a0_0, .int .i64 a0_1, .slice A0_2 l0_2.length c0_2] 25 (0, 0)) (by (with_reducible repeat (first | refine Ab ?_ _ | refine Ac ?_ | refine Aa ?_ _)); exact BK109.out)) : gb110 ≠ gb109)); clear BK109; clear HB; have BK109 := n0_; have HB := n1_; have BK110 := n2_; have GW110 := n3_; have GE110 := n4_; have NB109_110 := n5_; have NB110_109 := n6_; clear n0_ n1_ n2_ n3_ n4_ n5_ n6_; clear hb hbox hg; have hnb53 := NB110_109.out; have hnc53 := NB109_110.out; have hcz54_0 : w52.cell? ⟨gb110, 0, none⟩ = some (.int .i64 0) := (Aj BK110.out 0).trans rfl; have hcz54_1 : w52.cell? ⟨gb110, 1, none⟩ = some (.int .i64 0) := (Aj BK110.out 1).trans rfl; have hcz54_2 : w52.cell? ⟨gb110, 2, none⟩ = some (.slice none 0 0) := (Aj BK110.out 2).trans rfl; have hcz54_3 : w52.cell? ⟨gb110, 3, none⟩ = some (.int .i64 0) := (Aj BK110.out 3).trans rfl; have hcz54_4 : w52.cell? ⟨gb110, 4, none⟩ = some (.int .i64 0) := (Aj BK110.out 4).trans rfl; have hcz54_5 : w52.cell? ⟨gb110, 5, none⟩ = some (.int .i64 0) := (Aj BK110.out 5).trans rfl; have hfz54_0 := Ag BK110.out 0; have hfz54_1 := Ag BK110.out 1; have hfz54_2 := Ag BK110.out 2; have hfz54_3 := Ag BK110.out 3; have hfz54_4 := Ag BK110.out 4; have hfz54_5 := Ag BK110.out 5) | ((with_reducible refine Bi (f := 31) rfl ?_); refine Bx (some 25) rfl rfl Try.func31 (by kernel_rfl) rfl #[.agg #[.int .i64 a0_0, .int .i64 a0_1, .slice A0_2 l0_2.length c0_2, .int .i64 a1, .int .i64 a2, .int .i64 a3], .int .i64 a4] rfl (by (try simp only [List.map_toArray, List.map_cons, List.map_nil]); first | done | rfl | (simp only [List.length_drop, List.length_take]; rfl)) ?_; (with_reducible refine (Ay.calls k a0_0 a0_1 _ _ l0_2 a1 a2 a3 a4 t111 _ ?side1 ?side2 A8.out).mono ?_); (case side1 => exact Kd.Bw HR0_2.out (by repeat (first | (with_reducible first | exact HB.out | apply Ah | apply Af | apply Ai | refine Ae ?_ GE109.out | refine Ae ?_ GE110.out) | exact HB.out))); (case side2 => exact HC0_2.out); rintro e w55 ⟨rfl, hb⟩; refine ⟨_, rfl, ?_⟩; have n0_ := Ad.mk (Ak (g := gb109) (o := .cells #[.int .i64 a0_0, .int .i64 a0_1, .slice A0_2 l0_2.length c0_2] 25 (0, 0)) (by (with_reducible repeat (first | refine Ab ?_ _ | refine Ac ?_ | refine Aa ?_ _)); refine Ao ?_ NB109_110.out _; (with_reducible repeat (first | refine Ab ?_ _ | refine Ac ?_ | refine Aa ?_ _)); refine Ao ?_ NB109_110.out _; (with_reducible repeat (first | refine Ab ?_ _ | refine Ac ?_ | refine Aa ?_ _)); refine Ao ?_ NB109_110.out _; (with_reducible repeat (first | refine Ab ?_ _ | refine Ac ?_ | refine Aa ?_ _)); refine Ao ?_ NB109_110.out _; (with_reducible repeat (first | refine Ab ?_ _ | refine Ac ?_ | refine Aa ?_ _)); refine Ao ?_ NB109_110.out _; (with_reducible repeat (first | refine Ab ?_ _ | refine Ac ?_ | refine Aa ?_ _)); refine Ao ?_ NB109_110.out _; (with_reducible repeat (first | refine Ab ?_ _ | refine Ac ?_ | refine Aa ?_ _)); exact BK109.out) hb); have n1_ := Ad.mk (Ak (g := gb110) (o := .cells #[.int .i64 a0_0, .int .i64 a0_1, .slice A0_2 l0_2.length c0_2, .int .i64 a1, .int .i64 a2, .int .i64 a3] 58 (0, 0)) (by (with_reducible repeat (first | refine Ab ?_ _ | refine Ac ?_ | refine Aa ?_ _)); refine As (cs := #[.int .i64 a0_0, .int .i64 a0_1, .slice A0_2 l0_2.length c0_2, .int .i64 a1, .int .i64 a2, .int .i64 0]) ?_ 5 _ rfl; (with_reducible repeat (first | refine Ab ?_ _ | refine Ac ?_ | refine Aa ?_ _)); refine As (cs := #[.int .i64 a0_0, .int .i64 a0_1, .slice A0_2 l0_2.length c0_2, .int .i64 a1, .int .i64 0, .int .i64 0]) ?_ 4 _ rfl; (with_reducible repeat (first | refine Ab ?_ _ | refine Ac ?_ | refine Aa ?_ _)); refine As (cs := #[.int .i64 a0_0, .int .i64 a0_1, .slice A0_2 l0_2.length c0_2, .int .i64 0, .int .i64 0, .int .i64 0]) ?_ 3 _ rfl; (with_reducible repeat (first | refine Ab ?_ _ | refine Ac ?_ | refine Aa ?_ _)); refine As (cs := #[.int .i64 a0_0, .int .i64 a0_1, .slice none 0 0, .int .i64 0, .int .i64 0, .int .i64 0]) ?_ 2 _ rfl; (with_reducible repeat (first | refine Ab ?_ _ | refine Ac ?_ | refine Aa ?_ _)); refine As (cs := #[.int .i64 a0_0, .int .i64 0, .slice none 0 0, .int .i64 0, .int .i64 0, .int .i64 0]) ?_ 1 _ rfl; (with_reducible repeat (first | refine Ab ?_ _ | refine Ac ?_ | refine Aa ?_ _)); refine As (cs := #[.int .i64 0, .int .i64 0, .slice none 0 0, .int .i64 0, .int .i64 0, .int .i64 0]) ?_ 0 _ rfl; (with_reducible repeat (first | refine Ab ?_ _ | refine Ac ?_ | refine Aa ?_ _)); exact BK110.out) hb); have n2_ := Ad.mk (Ar (by repeat (first | (with_reducible first | exact HB.out | apply Ah | apply Af | apply Ai | refine Ae ?_ GE109.out | refine Ae ?_ GE110.out) | exact HB.out)) hb); clear BK109; clear BK110; clear HB; have BK109 := n0_; have BK110 := n1_; have HB := n2_; clear n0_ n1_ n2_; (try clear hb); (try clear hb2); (try clear hk); (try clear hi)))
    go_ret2
    exact ⟨by first | rfl | (simp [Bb, Ba] <;> rfl) | (simp [*, Bb, Ba] <;> rfl), by repeat (first | (with_reducible first | exact HB.out | apply Ah | apply Af | apply Ai | refine Ae ?_ GE109.out | refine Ae ?_ GE110.out) | exact HB.out)⟩

end Go.Proofs.Ythpmkelcjlljmaa.PRB

