import Derived.Test.YthpmkelcjlljmaaPRDx0
import Derived.Test.YthpmkelcjlljmaaPRAx2
import Derived.Test.YthpmkelcjlljmaaPRAx3
import Derived.Test.YthpmkelcjlljmaaRH4
namespace Go.Proofs.Ythpmkelcjlljmaa.PRD
open Go.Proofs.Ythpmkelcjlljmaa.PRA Go.Proofs.Ythpmkelcjlljmaa.PRB
open Go.RowKit Go.Proofs.YthpmkelcjlljmaaW.PrintWords Go.Proofs.YthpmkelcjlljmaaW.PrintLast Go.Proofs.YthpmkelcjlljmaaW.PrintMore
attribute [local go_sem] max2_int min2_int max_two min_two max_three min_three max_four min_four   -- for this text's walks alone
set_option linter.unusedVariables false
set_option linter.unusedSimpArgs false

mutual
def Bm.l0 : Nat → Int → Int → Int → Int → Int → Int → List Int → Int → Int → Int → List Int → Option (Int)
  | 0, _, _, _, _, _, _, _, _, _, _, _ => none
  | k + 1, x1, x2, x3, x4, x5, x6, x15, x16, x102000, x102001, x102002 => if x16 < x3 then ((Bc.f k x1 x102001 (wrap64 ((wrap64 (x6 - (wrap64 (Int.tdiv x3 2)))) + x16))).bind fun bt106 => (Bm.l1 k x1 x2 x3 x4 x5 x6 x15 x16 bt106.1 0 x102000 x102001 x102002)) else ((Cm.f x15).bind fun t102 => (if 0 ≤ x4 then (if x4 < (t102.length : Int) then (some (rd t102 x4)) else (none)) else (none)))
def Bm.l1 : Nat → Int → Int → Int → Int → Int → Int → List Int → Int → Int → Int → Int → Int → List Int → Option (Int)
  | 0, _, _, _, _, _, _, _, _, _, _, _, _, _ => none
  | k + 1, x1, x2, x3, x4, x5, x6, x15, x16, x17, x19, x102000, x102001, x102002 => if x19 < x2 then ((Bc.f k x1 x102000 (wrap64 ((wrap64 (x5 - (wrap64 (Int.tdiv x2 2)))) + x19))).bind fun bt108 => (if 0 ≤ (wrap64 ((wrap64 (x17 * x102000)) + bt108.1)) then (if (wrap64 ((wrap64 (x17 * x102000)) + bt108.1)) < (x102002.length : Int) then (if x15.length < 35184372088832 then (Bm.l1 k x1 x2 x3 x4 x5 x6 (x15 ++ [rd x102002 (wrap64 ((wrap64 (x17 * x102000)) + bt108.1))]) x16 x17 (wrap64 (x19 + 1)) x102000 x102001 x102002) else (none)) else (none)) else (none))) else (Bm.l0 k x1 x2 x3 x4 x5 x6 x15 (wrap64 (x16 + 1)) x102000 x102001 x102002)
end
def Bm.f (k : Nat) (a0_0 : Int) (a0_1 : Int) (l0_2 : List Int) (a1 : Int) (a2 : Int) (a3 : Int) (a4 : Int) (a5 : Int) (a6 : Int) : Option (Int) := Bm.l0 k a1 a2 a3 a4 a5 a6 ([] : List Int) 0 a0_0 a0_1 l0_2
theorem Bm.mono_l : ∀ k, (∀ y0 y1 y2 y3 y4 y5 y6 y7 y8 y9 y10, LeO (Bm.l0 k y0 y1 y2 y3 y4 y5 y6 y7 y8 y9 y10) (Bm.l0 (k + 1) y0 y1 y2 y3 y4 y5 y6 y7 y8 y9 y10)) ∧ (∀ y0 y1 y2 y3 y4 y5 y6 y7 y8 y9 y10 y11 y12, LeO (Bm.l1 k y0 y1 y2 y3 y4 y5 y6 y7 y8 y9 y10 y11 y12) (Bm.l1 (k + 1) y0 y1 y2 y3 y4 y5 y6 y7 y8 y9 y10 y11 y12))
  | 0 => ⟨fun _ _ _ _ _ _ _ _ _ _ _ r h => by simp [Bm.l0] at h, fun _ _ _ _ _ _ _ _ _ _ _ _ _ r h => by simp [Bm.l1] at h⟩
  | k + 1 => by
    obtain ⟨ih0, ih1⟩ := Bm.mono_l k
    refine ⟨?_, ?_⟩
    · intro y0 y1 y2 y3 y4 y5 y6 y7 y8 y9 y10
      unfold Bm.l0
      repeat' first
      | (with_reducible exact ih0 _ _ _ _ _ _ _ _ _ _ _)
      | (with_reducible exact ih1 _ _ _ _ _ _ _ _ _ _ _ _ _)
      | (with_reducible exact Bc.mono _ _ _ _)
      | (with_reducible exact LeO.refl _)
      | (with_reducible exact LeO.none _)
      | (with_reducible refine LeO.ite ?_ ?_)
      | (with_reducible refine LeO.bind ?_ (fun _ => ?_))
      | exact ih0 _ _ _ _ _ _ _ _ _ _ _
      | exact ih1 _ _ _ _ _ _ _ _ _ _ _ _ _
      | exact Bc.mono _ _ _ _
      | exact LeO.none _
      | refine LeO.ite ?_ ?_
      | refine LeO.bind ?_ (fun _ => ?_)
    · intro y0 y1 y2 y3 y4 y5 y6 y7 y8 y9 y10 y11 y12
      unfold Bm.l1
      repeat' first
      | (with_reducible exact ih0 _ _ _ _ _ _ _ _ _ _ _)
      | (with_reducible exact ih1 _ _ _ _ _ _ _ _ _ _ _ _ _)
      | (with_reducible exact Bc.mono _ _ _ _)
      | (with_reducible exact LeO.refl _)
      | (with_reducible exact LeO.none _)
      | (with_reducible refine LeO.ite ?_ ?_)
      | (with_reducible refine LeO.bind ?_ (fun _ => ?_))
      | exact ih0 _ _ _ _ _ _ _ _ _ _ _
      | exact ih1 _ _ _ _ _ _ _ _ _ _ _ _ _
      | exact Bc.mono _ _ _ _
      | exact LeO.none _
      | refine LeO.ite ?_ ?_
      | refine LeO.bind ?_ (fun _ => ?_)
theorem Bm.mono : ∀ a0 a1 a2 a3 a4 a5 a6 a7 a8 k, LeO (Bm.f k a0 a1 a2 a3 a4 a5 a6 a7 a8) (Bm.f (k + 1) a0 a1 a2 a3 a4 a5 a6 a7 a8) := by
  intro a0 a1 a2 a3 a4 a5 a6 a7 a8 k
  obtain ⟨ih0, ih1⟩ := Bm.mono_l k
  unfold Bm.f
  repeat' first
      | (with_reducible exact ih0 _ _ _ _ _ _ _ _ _ _ _)
      | (with_reducible exact ih1 _ _ _ _ _ _ _ _ _ _ _ _ _)
      | (with_reducible exact Bc.mono _ _ _ _)
      | (with_reducible exact LeO.refl _)
      | (with_reducible exact LeO.none _)
      | (with_reducible refine LeO.ite ?_ ?_)
      | (with_reducible refine LeO.bind ?_ (fun _ => ?_))
      | exact ih0 _ _ _ _ _ _ _ _ _ _ _
      | exact ih1 _ _ _ _ _ _ _ _ _ _ _ _ _
      | exact Bc.mono _ _ _ _
      | exact LeO.none _
      | refine LeO.ite ?_ ?_
      | refine LeO.bind ?_ (fun _ => ?_)
set_option maxHeartbeats 8000000 in
set_option maxRecDepth 100000 in
theorem Bm.calls (k : Nat) (a0_0 : Int) (a0_1 : Int) (A0_2 : Option Addr) (c0_2 : Nat) (l0_2 : List Int) (a1 : Int) (a2 : Int) (a3 : Int) (a4 : Int) (a5 : Int) (a6 : Int) (r : Int) (w : World) (hr0_2 : Kd.C (Kd.int .u32) w A0_2 l0_2.length l0_2) (hc0_2 : l0_2.length ≤ c0_2) (h : Bm.f k a0_0 a0_1 l0_2 a1 a2 a3 a4 a5 a6 = some r) :
    Calls Try.prog 37 #[.agg #[.int .i64 a0_0, .int .i64 a0_1, .slice A0_2 l0_2.length c0_2], .int .i64 a1, .int .i64 a2, .int .i64 a3, .int .i64 a4, .int .i64 a5, .int .i64 a6] w fun e w' => e = .returned (.int .u32 r) ∧ Below w.heap.size w w' := by
  have hu25 := Try.underlying25
  have HR0_2 := Ad.mk hr0_2
  have HC0_2 := Ad.mk hc0_2
  clear hr0_2 hc0_2
  have HB := Ad.mk (Below.refl w.heap.size w)
  have H : (Bm.l0 k a1 a2 a3 a4 a5 a6 ([] : List Int) 0 a0_0 a0_1 l0_2) = some r := h
  clear h
  have H' := Ad.mk H
  clear H
  go_enter Try.func37, Try.ntmps37
  go_wp2_with (first | ((with_reducible refine Bj (N := 7) rfl ?_); refine Bh ?hg (N := 7) ?hd (cs := #[.int .i64 a0_0, .int .i64 a0_1, .slice A0_2 l0_2.length c0_2]) (t := 25) ?hr ?_; (case hd => rfl); (case hg => rfl); (case hr => first | (go_simp; done) | (go_simp; rfl)); intro gb101 hg w8 hbox hb; have n0_ := Ad.mk (Ar (by repeat (first | (with_reducible first | exact HB.out | apply Ah | apply Af | apply Ai) | exact HB.out)) hb); have n1_ := Ad.mk (hbox); have n2_ := Ad.mk ((by rw [hg]; exact (Ap (by repeat (first | (with_reducible first | exact HB.out | apply Ah | apply Af | apply Ai) | exact HB.out))) : w.heap.size ≤ gb101)); have n3_ := Ad.mk ((by rw [hg]; exact (Ap (by repeat (first | (with_reducible first | exact HB.out | apply Ah | apply Af | apply Ai) | exact HB.out))) : w.heap.size ≤ gb101)); clear HB; have HB := n0_; have BK101 := n1_; have GW101 := n2_; have GE101 := n3_; clear n0_ n1_ n2_ n3_; clear hb hbox hg))
  go_loopg [15, 16] k (fun kq v15 v16 w' => ∃ (x15_1 : List Int) (x16_1 : Int), v16 = .int .i64 x16_1 ∧ Ad (Bm.l0 kq a1 a2 a3 a4 a5 a6 x15_1 x16_1 a0_0 a0_1 l0_2 = some r) ∧ Ad (kq ≤ k) ∧ Ad (Kd.R (Kd.int .u32) 41 w' w.heap.size (fun _ => True) v15 x15_1) ∧ Ad (w'.heap[gb101]? = some (.cells #[.int .i64 a0_0, .int .i64 a0_1, (.slice A0_2 l0_2.length c0_2)] 25 (0, 0))) ∧ Ad (Below w.heap.size w w'))
  case atStart => exact ⟨(([] : List Int)), (0), (by first | rfl | (simp; done) | (simp [*]; done)), H', ⟨Nat.le_refl _⟩, ⟨by first | exact Kd.Ct _ _ _ _ _ | exact Kd.N_nil _ _ _ _ _ | exact Kd.V_nil _ _ _ _ _ | exact Kd.Q_nil _ _ _ _ _ | exact Kd.S_nil _ _ _ _ _⟩, ⟨by (with_reducible repeat (first | refine Ab ?_ _ | refine Ac ?_ | refine Aa ?_ _)); exact BK101.out⟩, ⟨by repeat (first | (with_reducible first | exact HB.out | apply Ah | apply Af | apply Ai | refine Ae ?_ GE101.out) | exact HB.out)⟩⟩
  case round =>
    clear H'
    try clear p2
    try clear c3
    obtain ⟨x15_1, x16_1, rfl, HA, HK1, HO_15, BK101, HB⟩ := hrel
    cases gk with
    | zero => exact absurd HA.out (by simp [Bm.l0])
    | succ k1 =>
      have H := HA.out
      clear HA
      simp only [Bm.l0] at H
      by_cases c9 : x16_1 < a3
      · rw [if_pos c9] at H
        have c9b0 : decide (x16_1 < a3) = true := decide_eq_true c9
        clear c9
        replace H := Option.bind_eq_some_iff.mp H
        obtain ⟨⟨t106, t107⟩, A100, H⟩ := H
        replace H : (Bm.l1 k1 a1 a2 a3 a4 a5 a6 x15_1 x16_1 t106 0 a0_0 a0_1 l0_2) = some r := H
        have A10 := Ad.mk A100
        clear A100
        have H' := Ad.mk H
        clear H
        have hcz11_0 : wr.cell? ⟨gb101, 0, none⟩ = some (.int .i64 a0_0) := (Aj BK101.out 0).trans rfl
        have hcz11_1 : wr.cell? ⟨gb101, 1, none⟩ = some (.int .i64 a0_1) := (Aj BK101.out 1).trans rfl
        have hcz11_2 : wr.cell? ⟨gb101, 2, none⟩ = some (.slice A0_2 l0_2.length c0_2) := (Aj BK101.out 2).trans rfl
        have hfz11_0 := Ag BK101.out 0
        have hfz11_1 := Ag BK101.out 1
        have hfz11_2 := Ag BK101.out 2
        go_wp2_with (first | ((with_reducible refine Bi (f := 44) rfl ?_); refine Bx (some 37) rfl rfl Try.func44 (by kernel_rfl) rfl #[.int .i64 a1, .int .i64 a0_1, .int .i64 (wrap64 ((wrap64 (a6 - (wrap64 (Int.tdiv a3 2)))) + x16_1))] rfl (by (try simp only [List.map_toArray, List.map_cons, List.map_nil]); first | done | rfl | (simp only [List.length_drop, List.length_take]; rfl)) ?_; (with_reducible refine (Bc.calls k1 a1 a0_1 (wrap64 ((wrap64 (a6 - (wrap64 (Int.tdiv a3 2)))) + x16_1)) t106 t107 _ A10.out).mono ?_); rintro e w12 ⟨rfl, hb⟩; refine ⟨_, rfl, ?_⟩; have n0_ := Ad.mk (Kd.Bn (by (with_reducible repeat (first | apply Kd.An | apply Kd.Am | apply Kd.Aq)); exact HO_15.out) hb); have n1_ := Ad.mk (Ak (g := gb101) (o := .cells #[.int .i64 a0_0, .int .i64 a0_1, .slice A0_2 l0_2.length c0_2] 25 (0, 0)) (by (with_reducible repeat (first | refine Ab ?_ _ | refine Ac ?_ | refine Aa ?_ _)); exact BK101.out) hb); have n2_ := Ad.mk (Ar (by repeat (first | (with_reducible first | exact HB.out | apply Ah | apply Af | apply Ai | refine Ae ?_ GE101.out) | exact HB.out)) hb); clear HO_15; clear BK101; clear HB; have HO_15 := n0_; have BK101 := n1_; have HB := n2_; clear n0_ n1_ n2_; (try clear hb); (try clear hb2); (try clear hk); (try clear hi)))
        go_loopg [15, 19] k1 (fun kq v15 v19 w' => ∃ (x15_2 : List Int) (x19_2 : Int), v19 = .int .i64 x19_2 ∧ Ad (Bm.l1 kq a1 a2 a3 a4 a5 a6 x15_2 x16_1 t106 x19_2 a0_0 a0_1 l0_2 = some r) ∧ Ad (kq ≤ k1) ∧ Ad (Kd.R (Kd.int .u32) 41 w' w.heap.size (fun _ => True) v15 x15_2) ∧ Ad (w'.heap[gb101]? = some (.cells #[.int .i64 a0_0, .int .i64 a0_1, (.slice A0_2 l0_2.length c0_2)] 25 (0, 0))) ∧ Ad (Below w.heap.size w w'))
        case atStart => exact ⟨(x15_1), (0), (by first | rfl | (simp; done) | (simp [*]; done)), H', ⟨Nat.le_refl _⟩, ⟨by (with_reducible repeat (first | apply Kd.An | apply Kd.Am | apply Kd.Aq)); exact HO_15.out⟩, ⟨by (with_reducible repeat (first | refine Ab ?_ _ | refine Ac ?_ | refine Aa ?_ _)); exact BK101.out⟩, ⟨by repeat (first | (with_reducible first | exact HB.out | apply Ah | apply Af | apply Ai | refine Ae ?_ GE101.out) | exact HB.out)⟩⟩
        case round =>
          clear H'
          try clear p2
          try clear c3
          try clear c4
          try clear p6
          try clear c9
          try clear c9b0
          try clear hcz11_0
          try clear hcz11_1
          try clear hcz11_2
          try clear hfz11_0
          try clear hfz11_1
          try clear hfz11_2
          try clear p2
          obtain ⟨x15_2, x19_2, rfl, HA, HK2, HO_15, BK101, HB⟩ := hrel
          cases gk with
          | zero => exact absurd HA.out (by simp [Bm.l1])
          | succ k2 =>
            have H := HA.out
            clear HA
            simp only [Bm.l1] at H
            by_cases c13 : x19_2 < a2
            · rw [if_pos c13] at H
              have c13b0 : decide (x19_2 < a2) = true := decide_eq_true c13
              clear c13
              replace H := Option.bind_eq_some_iff.mp H
              obtain ⟨⟨t108, t109⟩, A140, H⟩ := H
              replace H : (if 0 ≤ (wrap64 ((wrap64 (t106 * a0_0)) + t108)) then (if (wrap64 ((wrap64 (t106 * a0_0)) + t108)) < (l0_2.length : Int) then (if x15_2.length < 35184372088832 then (Bm.l1 k2 a1 a2 a3 a4 a5 a6 (x15_2 ++ [rd l0_2 (wrap64 ((wrap64 (t106 * a0_0)) + t108))]) x16_1 t106 (wrap64 (x19_2 + 1)) a0_0 a0_1 l0_2) else (none)) else (none)) else (none)) = some r := H
              have A14 := Ad.mk A140
              clear A140
              obtain ⟨ji15, hji15⟩ : ∃ j_ : Int, (wrap64 ((wrap64 (t106 * a0_0)) + t108)) = j_ := ⟨_, rfl⟩
              replace H : (if 0 ≤ (ji15) then (if (ji15) < (l0_2.length : Int) then (if x15_2.length < 35184372088832 then (Bm.l1 k2 a1 a2 a3 a4 a5 a6 (x15_2 ++ [rd l0_2 (ji15)]) x16_1 t106 (wrap64 (x19_2 + 1)) a0_0 a0_1 l0_2) else (none)) else (none)) else (none)) = some r := by first | (rw [hji15] at H; exact H) | (simp only [hji15] at H ⊢; exact H)
              (try rw [hji15] at A14)
              have hji15w : (IntKind.i64.wrap ((wrap64 (t106 * a0_0)) + t108)) = ji15 := (i64_w _).trans hji15
              by_cases c16 : 0 ≤ (ji15)
              · rw [if_pos c16] at H
                have c16b0 : decide (0 ≤ (ji15)) = true := decide_eq_true c16
                clear c16
                by_cases c17 : (ji15) < (l0_2.length : Int)
                · rw [if_pos c17] at H
                  have c17b0 : decide ((ji15) < (l0_2.length : Int)) = true := decide_eq_true c17
                  clear c17
                  by_cases c18 : x15_2.length < 35184372088832
                  · rw [if_pos c18] at H
                    have LMc18 := Ad.mk c18
                    clear c18
                    obtain ⟨y111, hy111⟩ : ∃ y_ : List Int, y_ = (x15_2 ++ [rd l0_2 (ji15)]) := ⟨_, rfl⟩
                    replace H : (Bm.l1 k2 a1 a2 a3 a4 a5 a6 y111 x16_1 t106 (wrap64 (x19_2 + 1)) a0_0 a0_1 l0_2) = some r := by first | (rw [hy111]; with_reducible exact H) | (have H2_ := (Option.bind_some _ _).symm.trans H; rw [hy111]; with_reducible exact H2_) | (have H2_ := (Option.bind_some _ _).symm.trans H; with_reducible exact H2_) | with_reducible exact H | (rw [hy111]; exact H) | exact H
                    have Ny111 := Ad.mk hy111
                    clear hy111
                    have H' := Ad.mk H
                    clear H
                    have hcz19_0 : wr.cell? ⟨gb101, 0, none⟩ = some (.int .i64 a0_0) := (Aj BK101.out 0).trans rfl
                    have hcz19_1 : wr.cell? ⟨gb101, 1, none⟩ = some (.int .i64 a0_1) := (Aj BK101.out 1).trans rfl
                    have hcz19_2 : wr.cell? ⟨gb101, 2, none⟩ = some (.slice A0_2 l0_2.length c0_2) := (Aj BK101.out 2).trans rfl
                    have hfz19_0 := Ag BK101.out 0
                    have hfz19_1 := Ag BK101.out 1
                    have hfz19_2 := Ag BK101.out 2
                    go_wp2_with (first | ((with_reducible refine Bi (f := 44) rfl ?_); refine Bx (some 55) rfl rfl Try.func44 (by kernel_rfl) rfl #[.int .i64 a1, .int .i64 a0_0, .int .i64 (wrap64 ((wrap64 (a5 - (wrap64 (Int.tdiv a2 2)))) + x19_2))] rfl (by (try simp only [List.map_toArray, List.map_cons, List.map_nil]); first | done | rfl | (simp only [List.length_drop, List.length_take]; rfl)) ?_; (with_reducible refine (Bc.calls k2 a1 a0_0 (wrap64 ((wrap64 (a5 - (wrap64 (Int.tdiv a2 2)))) + x19_2)) t108 t109 _ A14.out).mono ?_); rintro e w20 ⟨rfl, hb⟩; refine ⟨_, rfl, ?_⟩; have n0_ := Ad.mk (Kd.Bn (by (with_reducible repeat (first | apply Kd.An | apply Kd.Am | apply Kd.Aq)); exact HO_15.out) hb); have n1_ := Ad.mk (Ak (g := gb101) (o := .cells #[.int .i64 a0_0, .int .i64 a0_1, .slice A0_2 l0_2.length c0_2] 25 (0, 0)) (by (with_reducible repeat (first | refine Ab ?_ _ | refine Ac ?_ | refine Aa ?_ _)); exact BK101.out) hb); have n2_ := Ad.mk (Ar (by repeat (first | (with_reducible first | exact HB.out | apply Ah | apply Af | apply Ai | refine Ae ?_ GE101.out) | exact HB.out)) hb); clear HO_15; clear BK101; clear HB; have HO_15 := n0_; have BK101 := n1_; have HB := n2_; clear n0_ n1_ n2_; (try clear hb); (try clear hb2); (try clear hk); (try clear hi); have hcz21_0 : w20.cell? ⟨gb101, 0, none⟩ = some (.int .i64 a0_0) := (Aj BK101.out 0).trans rfl; have hcz21_1 : w20.cell? ⟨gb101, 1, none⟩ = some (.int .i64 a0_1) := (Aj BK101.out 1).trans rfl; have hcz21_2 : w20.cell? ⟨gb101, 2, none⟩ = some (.slice A0_2 l0_2.length c0_2) := (Aj BK101.out 2).trans rfl; have hfz21_0 := Ag BK101.out 0; have hfz21_1 := Ag BK101.out 1; have hfz21_2 := Ag BK101.out 2; have p110 : 0 ≤ ((ji15) : Int) := of_decide_eq_true (by first | (with_reducible assumption) | assumption); have q110 : (ji15) < (l0_2.length : Int) := of_decide_eq_true (by first | (with_reducible assumption) | assumption); obtain ⟨ad110, e110, hx110_0⟩ := Kd.at_int HR0_2.out (ji15) p110 q110; cases e110; replace hx110_0 := (HB.out.cell (World.block_lt_of_cell? w _ hx110_0)).trans hx110_0; replace p110 := eq_true p110; replace q110 := eq_true q110) | ((with_reducible refine Cr (b := .append) (xs := #[.tmp 58, .tmp 69]) rfl ?_); at_builtin; refine Kd.R_append (Kd.int .u32) (w0 := w) w.heap.size rfl (.tmp 58) (.tmp 69) 23 41 (.int .u32 0) 4 rfl Try.underlying23 info41 rfl (by decide) (by omega) u15 x15_2 (rd l0_2 (ji15)) [.int .u32 (rd l0_2 (ji15))] (fun _ => True) (fun _ => False) rfl rfl ?aP (fun _ hk => hk.elim) ?aF ?aO ?aB ?aS ?aL ?_; (case aP => exact rfl); (case aB => exact (by repeat (first | (with_reducible first | exact HB.out | apply Ah | apply Af | apply Ai | refine Ae ?_ GE101.out) | exact HB.out))); (case aF => exact (fun _ _ => trivial)); (case aO => exact (by (with_reducible repeat (first | apply Kd.An | apply Kd.Am | apply Kd.Aq)); exact HO_15.out)); (case aS => exact (Ap (by repeat (first | (with_reducible first | exact HB.out | apply Ah | apply Af | apply Ai | refine Ae ?_ GE101.out) | exact HB.out)))); (case aL => have := LMc18.out; omega); intro v112 w22 ho hb hg hat; rw [← Ny111.out] at ho; have n0_ := Ad.mk (Cq (g := gb101) (o := .cells #[.int .i64 a0_0, .int .i64 a0_1, .slice (some ad110) l0_2.length c0_2] 25 (0, 0)) (by (with_reducible repeat (first | refine Ab ?_ _ | refine Ac ?_ | refine Aa ?_ _)); exact BK101.out) hg (Kd.R_ne HO_15.out BK101.out (by decide))); have n1_ := Ad.mk (hb); have n2_ := Ad.mk (ho); clear BK101; clear HB; clear HO_15; have BK101 := n0_; have HB := n1_; have HO113 := n2_; clear n0_ n1_ n2_; clear ho hb hg hat))
                    go_roundg k2
                    case measure => have := HK1.out; have := HK2.out; omega
                    case rel => exact ⟨(y111), (wrap64 (x19_2 + 1)), (by first | rfl | (simp; done) | (simp [*]; done)), H', ⟨by have := HK1.out; have := HK2.out; omega⟩, ⟨by (with_reducible repeat (first | apply Kd.An | apply Kd.Am | apply Kd.Aq)); exact HO113.out⟩, ⟨by (with_reducible repeat (first | refine Ab ?_ _ | refine Ac ?_ | refine Aa ?_ _)); exact BK101.out⟩, ⟨by repeat (first | (with_reducible first | exact HB.out | apply Ah | apply Af | apply Ai | refine Ae ?_ GE101.out) | exact HB.out)⟩⟩
                  · rw [if_neg c18] at H
                    exact absurd H (by simp)
                · rw [if_neg c17] at H
                  exact absurd H (by simp)
              · rw [if_neg c16] at H
                exact absurd H (by simp)
            · rw [if_neg c13] at H
              have c13b0 : decide (x19_2 < a2) = false := decide_eq_false c13
              clear c13
              have H' := Ad.mk H
              clear H
              go_wp2
              go_roundg k2
              case measure => have := HK1.out; have := HK2.out; omega
              case rel => exact ⟨(x15_2), (wrap64 (x16_1 + 1)), (by first | rfl | (simp; done) | (simp [*]; done)), H', ⟨by have := HK1.out; have := HK2.out; omega⟩, ⟨by (with_reducible repeat (first | apply Kd.An | apply Kd.Am | apply Kd.Aq)); exact HO_15.out⟩, ⟨by (with_reducible repeat (first | refine Ab ?_ _ | refine Ac ?_ | refine Aa ?_ _)); exact BK101.out⟩, ⟨by repeat (first | (with_reducible first | exact HB.out | apply Ah | apply Af | apply Ai | refine Ae ?_ GE101.out) | exact HB.out)⟩⟩
      · rw [if_neg c9] at H
        have c9b0 : decide (x16_1 < a3) = false := decide_eq_false c9
        clear c9
        replace H := Option.bind_eq_some_iff.mp H
        obtain ⟨t102, A230, H⟩ := H
        replace H : (if 0 ≤ a4 then (if a4 < (t102.length : Int) then (some (rd t102 a4)) else (none)) else (none)) = some r := H
        have A23 := Ad.mk A230
        clear A230
        by_cases c24 : 0 ≤ a4
        · rw [if_pos c24] at H
          have c24b0 : decide (0 ≤ a4) = true := decide_eq_true c24
          clear c24
          by_cases c25 : a4 < (t102.length : Int)
          · rw [if_pos c25] at H
            have c25b0 : decide (a4 < (t102.length : Int)) = true := decide_eq_true c25
            clear c25
            obtain rfl := Option.some.inj H
            obtain ⟨Ao26, co26, eo26⟩ := Kd.Bz HO_15.out
            subst eo26
            go_wp2_with (first | ((with_reducible refine Bi (f := 26) rfl ?_); refine Bx (some 72) rfl rfl Try.func26 (by kernel_rfl) rfl #[.slice Ao26 x15_1.length co26] rfl (by (try simp only [List.map_toArray, List.map_cons, List.map_nil]); first | done | rfl | (simp only [List.length_drop, List.length_take]; rfl)) ?_; (with_reducible refine (Cm.calls _ _ x15_1 t102 _ ?side1 ?side2 A23.out).mono ?_); (case side1 => repeat (first | exact (Kd.Bu HO_15.out).2.2 | (with_reducible refine Kd.B5 ?_ _) | (with_reducible refine Kd.B6 ?_ _) | (with_reducible refine Kd.Ca ?_))); (case side2 => exact (Kd.Bu HO_15.out).2.1); rintro e w27 ⟨v103, rfl, ho0, hb⟩; refine ⟨_, rfl, ?_⟩; have n0_ := Ad.mk (Kd.Bd (by (with_reducible repeat (first | apply Kd.An | apply Kd.Am | apply Kd.Aq)); exact HO_15.out) (Kd.Bp ho0) hb); have n1_ := Ad.mk (Kd.B3 (Kd.Bo ho0 (Kd.B0 (by (with_reducible repeat (first | apply Kd.An | apply Kd.Am | apply Kd.Aq)); exact HO_15.out))) (Ap (by repeat (first | (with_reducible first | exact HB.out | apply Ah | apply Af | apply Ai | refine Ae ?_ GE101.out) | exact HB.out)))); have n2_ := Ad.mk (Ak (g := gb101) (o := .cells #[.int .i64 a0_0, .int .i64 a0_1, .slice A0_2 l0_2.length c0_2] 25 (0, 0)) (by (with_reducible repeat (first | refine Ab ?_ _ | refine Ac ?_ | refine Aa ?_ _)); exact BK101.out) hb); have n3_ := Ad.mk (Ar (by repeat (first | (with_reducible first | exact HB.out | apply Ah | apply Af | apply Ai | refine Ae ?_ GE101.out) | exact HB.out)) hb); clear HO_15; clear BK101; clear HB; have HO_15 := n0_; have HO104 := n1_; have BK101 := n2_; have HB := n3_; clear n0_ n1_ n2_ n3_; (try clear hb); (try clear hb2); (try clear hk); (try clear hi); (try clear ho0); obtain ⟨Ao28, co28, eo28⟩ := Kd.Bz HO104.out; subst eo28; have p105 : 0 ≤ (a4 : Int) := of_decide_eq_true (by first | (with_reducible assumption) | assumption); have q105 : a4 < (t102.length : Int) := of_decide_eq_true (by first | (with_reducible assumption) | assumption); obtain ⟨ad105, e105, hx105_0⟩ := Kd.at_int (Kd.Bu HO104.out).2.2 a4 p105 q105; cases e105; replace p105 := eq_true p105; replace q105 := eq_true q105))
            go_ret
            exact ⟨by first | rfl | (simp [Bb, Ba] <;> rfl) | (simp [*, Bb, Ba] <;> rfl), by repeat (first | (with_reducible first | exact HB.out | apply Ah | apply Af | apply Ai | refine Ae ?_ GE101.out) | exact HB.out)⟩
          · rw [if_neg c25] at H
            exact absurd H (by simp)
        · rw [if_neg c24] at H
          exact absurd H (by simp)

end Go.Proofs.Ythpmkelcjlljmaa.PRD

