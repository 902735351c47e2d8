import Derived.Test.YthpmkelcjlljmaaPRAx0
import Derived.Test.YthpmkelcjlljmaaPRAx2
namespace Go.Proofs.Ythpmkelcjlljmaa.PRA
open Go.RowKit Go.Proofs.YthpmkelcjlljmaaW.PrintWords Go.Proofs.YthpmkelcjlljmaaW.PrintLast Go.Proofs.YthpmkelcjlljmaaW.PrintMore
attribute [local go_sem] max2_int min2_int max_two min_two max_three min_three max_four min_four   -- for this text's walks alone
set_option linter.unusedVariables false
set_option linter.unusedSimpArgs false

def Bf.j0 : Nat → Int → Int → Int → Int → Bool → Option (Int)
  | 0, _, _, _, _, _ => none
  | k + 1, x1, x2, x3, x4, x30 => if x30 = true then (some 120) else (if x4 < 0 then (some 121) else (if x4 ≥ (wrap64 (x2 * x3)) then (some 121) else ((Bc.f k x1 1 0).bind fun bt123 => (some bt123.2))))
def Bf.f (k : Nat) (a0_0 : Int) (a0_1 : Int) (l0_2 : List Int) (a1 : Int) (a2 : Int) (a3 : Int) (a4 : Int) : Option (Int) := (Cn.f a0_0 a0_1 l0_2).bind fun t122 => (if t122 = 0 then (if a2 < 1 then (Bf.j0 k a1 a2 a3 a4 true) else (if a3 < 1 then (Bf.j0 k a1 a2 a3 a4 true) else (if a2 > 15 then (Bf.j0 k a1 a2 a3 a4 true) else (Bf.j0 k a1 a2 a3 a4 (decide (a3 > 15)))))) else (some t122))
theorem Bf.mono_l : ∀ k, (∀ y0 y1 y2 y3 y4, LeO (Bf.j0 k y0 y1 y2 y3 y4) (Bf.j0 (k + 1) y0 y1 y2 y3 y4))
  | 0 => fun _ _ _ _ _ r h => by simp [Bf.j0] at h
  | k + 1 => by
    have ih0 := Bf.mono_l k
    · intro y0 y1 y2 y3 y4
      unfold Bf.j0
      repeat' first
      | (with_reducible exact ih0 _ _ _ _ _)
      | (with_reducible exact Bc.mono _ _ _ _)
      | (with_reducible exact LeO.refl _)
      | (with_reducible exact LeO.none _)
      | (with_reducible refine LeO.ite ?_ ?_)
      | (with_reducible refine LeO.bind ?_ (fun _ => ?_))
      | exact ih0 _ _ _ _ _
      | exact Bc.mono _ _ _ _
      | exact LeO.none _
      | refine LeO.ite ?_ ?_
      | refine LeO.bind ?_ (fun _ => ?_)
theorem Bf.mono : ∀ a0 a1 a2 a3 a4 a5 a6 k, LeO (Bf.f k a0 a1 a2 a3 a4 a5 a6) (Bf.f (k + 1) a0 a1 a2 a3 a4 a5 a6) := by
  intro a0 a1 a2 a3 a4 a5 a6 k
  have ih0 := Bf.mono_l k
  unfold Bf.f
  repeat' first
      | (with_reducible exact ih0 _ _ _ _ _)
      | (with_reducible exact Bc.mono _ _ _ _)
      | (with_reducible exact LeO.refl _)
      | (with_reducible exact LeO.none _)
      | (with_reducible refine LeO.ite ?_ ?_)
      | (with_reducible refine LeO.bind ?_ (fun _ => ?_))
      | exact ih0 _ _ _ _ _
      | exact Bc.mono _ _ _ _
      | exact LeO.none _
      | refine LeO.ite ?_ ?_
      | refine LeO.bind ?_ (fun _ => ?_)
set_option maxHeartbeats 8000000 in
set_option maxRecDepth 100000 in
theorem Bf.calls (k : Nat) (a0_0 : Int) (a0_1 : Int) (A0_2 : Option Addr) (c0_2 : Nat) (l0_2 : List Int) (a1 : Int) (a2 : Int) (a3 : Int) (a4 : Int) (r : Int) (w : World) (hr0_2 : Kd.C (Kd.int .u32) w A0_2 l0_2.length l0_2) (hc0_2 : l0_2.length ≤ c0_2) (h : Bf.f k a0_0 a0_1 l0_2 a1 a2 a3 a4 = some r) :
    Calls Try.prog 30 #[.agg #[.int .i64 a0_0, .int .i64 a0_1, .slice A0_2 l0_2.length c0_2], .int .i64 a1, .int .i64 a2, .int .i64 a3, .int .i64 a4] w fun e w' => e = .returned (.int .i64 r) ∧ Below w.heap.size w w' := by
  have hu25 := Try.underlying25
  have HR0_2 := Ad.mk hr0_2
  have HC0_2 := Ad.mk hc0_2
  clear hr0_2 hc0_2
  have HB := Ad.mk (Below.refl w.heap.size w)
  have H : ((Cn.f a0_0 a0_1 l0_2).bind fun t122 => (if t122 = 0 then (if a2 < 1 then (Bf.j0 k a1 a2 a3 a4 true) else (if a3 < 1 then (Bf.j0 k a1 a2 a3 a4 true) else (if a2 > 15 then (Bf.j0 k a1 a2 a3 a4 true) else (Bf.j0 k a1 a2 a3 a4 (decide (a3 > 15)))))) else (some t122))) = some r := h
  clear h
  replace H := Option.bind_eq_some_iff.mp H
  obtain ⟨t122, A60, H⟩ := H
  replace H : (if t122 = 0 then (if a2 < 1 then (Bf.j0 k a1 a2 a3 a4 true) else (if a3 < 1 then (Bf.j0 k a1 a2 a3 a4 true) else (if a2 > 15 then (Bf.j0 k a1 a2 a3 a4 true) else (Bf.j0 k a1 a2 a3 a4 (decide (a3 > 15)))))) else (some t122)) = some r := H
  have A6 := Ad.mk A60
  clear A60
  by_cases c7 : t122 = 0
  · rw [if_pos c7] at H
    have c7b0 : (t122 == 0) = true := beq_iff_eq.mpr c7
    have c7b1 : (t122 != 0) = false := bne_eq_false_iff_eq.mpr c7
    clear c7
    have HC8 := Ad.mk H
    clear H
    go_enter Try.func30, Try.ntmps30
    go_upto_region 4 with (first | ((with_reducible refine Bj (N := 5) rfl ?_); refine Bh ?hg (N := 5) ?hd (cs := #[.int .i64 a0_0, .int .i64 a0_1, .slice A0_2 l0_2.length c0_2]) (t := 25) ?hr ?_; (case hd => rfl); (case hg => rfl); (case hr => first | (go_simp; done) | (go_simp; rfl)); intro gb121 hg w9 hbox hb; have n0_ := Ad.mk (Ar (by repeat (first | (with_reducible first | exact HB.out | apply Ah | apply Af | apply Ai) | exact HB.out)) hb); have n1_ := Ad.mk (hbox); have n2_ := Ad.mk ((by rw [hg]; exact (Ap (by repeat (first | (with_reducible first | exact HB.out | apply Ah | apply Af | apply Ai) | exact HB.out))) : w.heap.size ≤ gb121)); have n3_ := Ad.mk ((by rw [hg]; exact (Ap (by repeat (first | (with_reducible first | exact HB.out | apply Ah | apply Af | apply Ai) | exact HB.out))) : w.heap.size ≤ gb121)); clear HB; have HB := n0_; have BK121 := n1_; have GW121 := n2_; have GE121 := n3_; clear n0_ n1_ n2_ n3_; clear hb hbox hg; have hcz10_0 : w9.cell? ⟨gb121, 0, none⟩ = some (.int .i64 a0_0) := (Aj BK121.out 0).trans rfl; have hcz10_1 : w9.cell? ⟨gb121, 1, none⟩ = some (.int .i64 a0_1) := (Aj BK121.out 1).trans rfl; have hcz10_2 : w9.cell? ⟨gb121, 2, none⟩ = some (.slice A0_2 l0_2.length c0_2) := (Aj BK121.out 2).trans rfl; have hfz10_0 := Ag BK121.out 0; have hfz10_1 := Ag BK121.out 1; have hfz10_2 := Ag BK121.out 2) | ((with_reducible refine Bi (f := 43) rfl ?_); refine Bx (some 13) rfl rfl Try.func43 (by kernel_rfl) rfl #[.agg #[.int .i64 a0_0, .int .i64 a0_1, .slice A0_2 l0_2.length c0_2]] rfl (by (try simp only [List.map_toArray, List.map_cons, List.map_nil]); first | done | rfl | (simp only [List.length_drop, List.length_take]; rfl)) ?_; (with_reducible refine (Cn.calls a0_0 a0_1 _ _ l0_2 t122 _ ?side1 ?side2 A6.out).mono ?_); (case side1 => repeat (first | exact (Kd.Bw HR0_2.out HB.out) | (with_reducible refine Kd.B5 ?_ _) | (with_reducible refine Kd.B6 ?_ _) | (with_reducible refine Kd.Ca ?_))); (case side2 => exact HC0_2.out); rintro e w11 ⟨rfl, hb⟩; refine ⟨_, rfl, ?_⟩; have n0_ := Ad.mk (Ak (g := gb121) (o := .cells #[.int .i64 a0_0, .int .i64 a0_1, .slice A0_2 l0_2.length c0_2] 25 (0, 0)) (by (with_reducible repeat (first | refine Ab ?_ _ | refine Ac ?_ | refine Aa ?_ _)); exact BK121.out) hb); have n1_ := Ad.mk (Ar (by repeat (first | (with_reducible first | exact HB.out | apply Ah | apply Af | apply Ai | refine Ae ?_ GE121.out) | exact HB.out)) hb); clear BK121; clear HB; have BK121 := n0_; have HB := n1_; clear n0_ n1_; (try clear hb); (try clear hb2); (try clear hk); (try clear hi)))
    (try simp only [Act.put, List.setIfInBounds_toArray, List.set_cons_zero, List.set_cons_succ])
    go_cut [30] (fun v30 wc => ∃ (kq : Nat) (x30_7 : Bool), v30 = .bool x30_7 ∧ Ad (Bf.j0 kq a1 a2 a3 a4 x30_7 = some r) ∧ Ad (kq ≤ k) ∧ Ad (wc.heap[gb121]? = some (.cells #[.int .i64 a0_0, .int .i64 a0_1, (.slice A0_2 l0_2.length c0_2)] 25 (0, 0))) ∧ Ad (Below w.heap.size w wc))
    case first =>
      have H := HC8.out
      clear HC8
      by_cases c12 : a2 < 1
      · rw [if_pos c12] at H
        have c12b0 : decide (a2 < 1) = true := decide_eq_true c12
        clear c12
        (first | rw [c12b0] | (simp only [i64_w, i32_w]; rw [c12b0]) | skip)
        have H' := Ad.mk H
        clear H
        go_wp2
        go_meet
        case rel => exact ⟨_, (true), (by first | rfl | (simp; done) | (simp [*]; done)), H', ⟨by first | omega | exact Nat.le_refl _⟩, ⟨by (with_reducible repeat (first | refine Ab ?_ _ | refine Ac ?_ | refine Aa ?_ _)); exact BK121.out⟩, ⟨by repeat (first | (with_reducible first | exact HB.out | apply Ah | apply Af | apply Ai | refine Ae ?_ GE121.out) | exact HB.out)⟩⟩
      · rw [if_neg c12] at H
        have c12b0 : decide (a2 < 1) = false := decide_eq_false c12
        clear c12
        (first | rw [c12b0] | (simp only [i64_w, i32_w]; rw [c12b0]) | skip)
        by_cases c13 : a3 < 1
        · rw [if_pos c13] at H
          have c13b0 : decide (a3 < 1) = true := decide_eq_true c13
          clear c13
          have H' := Ad.mk H
          clear H
          go_wp2
          go_meet
          case rel => exact ⟨_, (true), (by first | rfl | (simp; done) | (simp [*]; done)), H', ⟨by first | omega | exact Nat.le_refl _⟩, ⟨by (with_reducible repeat (first | refine Ab ?_ _ | refine Ac ?_ | refine Aa ?_ _)); exact BK121.out⟩, ⟨by repeat (first | (with_reducible first | exact HB.out | apply Ah | apply Af | apply Ai | refine Ae ?_ GE121.out) | exact HB.out)⟩⟩
        · rw [if_neg c13] at H
          have c13b0 : decide (a3 < 1) = false := decide_eq_false c13
          clear c13
          by_cases c14 : a2 > 15
          · rw [if_pos c14] at H
            have c14b0 : decide (15 < a2) = true := decide_eq_true c14
            clear c14
            have H' := Ad.mk H
            clear H
            go_wp2
            go_meet
            case rel => exact ⟨_, (true), (by first | rfl | (simp; done) | (simp [*]; done)), H', ⟨by first | omega | exact Nat.le_refl _⟩, ⟨by (with_reducible repeat (first | refine Ab ?_ _ | refine Ac ?_ | refine Aa ?_ _)); exact BK121.out⟩, ⟨by repeat (first | (with_reducible first | exact HB.out | apply Ah | apply Af | apply Ai | refine Ae ?_ GE121.out) | exact HB.out)⟩⟩
          · rw [if_neg c14] at H
            have c14b0 : decide (15 < a2) = false := decide_eq_false c14
            clear c14
            have H' := Ad.mk H
            clear H
            go_wp2
            go_meet
            case rel => exact ⟨_, (decide (a3 > 15)), (by first | rfl | (simp; done) | (simp [*]; done)), H', ⟨by first | omega | exact Nat.le_refl _⟩, ⟨by (with_reducible repeat (first | refine Ab ?_ _ | refine Ac ?_ | refine Aa ?_ _)); exact BK121.out⟩, ⟨by repeat (first | (with_reducible first | exact HB.out | apply Ah | apply Af | apply Ai | refine Ae ?_ GE121.out) | exact HB.out)⟩⟩
    case rest =>
      clear HC8
      try clear c1
      try clear p2
      try clear c3
      try clear c4
      try clear c7
      try clear c7b0
      try clear c7b1
      try clear c12
      try clear c12b0
      try clear c13
      try clear c13b0
      try clear c14
      try clear c14b0
      try clear hcz10_0
      try clear hcz10_1
      try clear hcz10_2
      try clear hfz10_0
      try clear hfz10_1
      try clear hfz10_2
      obtain ⟨kq, x30_7, rfl, HA, HJ7, BK121, HB⟩ := hcut
      cases kq with
      | zero => exact absurd HA.out (by simp [Bf.j0])
      | succ kj7 =>
        have H := HA.out
        clear HA
        simp only [Bf.j0] at H
        by_cases c15 : x30_7 = true
        · subst c15
          have H1 : (some 120) = some r := by rw [if_pos rfl] at H; exact H
          clear H
          have H := H1
          clear H1
          obtain rfl := Option.some.inj H
          go_wp2
          go_ret
          exact ⟨by first | rfl | (simp [Bb, Ba] <;> rfl) | (simp [*, Bb, Ba] <;> rfl), by repeat (first | (with_reducible first | exact HB.out | apply Ah | apply Af | apply Ai | refine Ae ?_ GE121.out) | exact HB.out)⟩
        · replace c15 := Bool.eq_false_iff.mpr c15
          subst c15
          have H1 : (if a4 < 0 then (some 121) else (if a4 ≥ (wrap64 (a2 * a3)) then (some 121) else ((Bc.f kj7 a1 1 0).bind fun bt123 => (some bt123.2)))) = some r := by rw [if_neg (show ¬ (false = true) by decide)] at H; exact H
          clear H
          have H := H1
          clear H1
          by_cases c16 : a4 < 0
          · rw [if_pos c16] at H
            have c16b0 : decide (a4 < 0) = true := decide_eq_true c16
            clear c16
            obtain rfl := Option.some.inj H
            go_wp2
            go_ret
            exact ⟨by first | rfl | (simp [Bb, Ba] <;> rfl) | (simp [*, Bb, Ba] <;> rfl), by repeat (first | (with_reducible first | exact HB.out | apply Ah | apply Af | apply Ai | refine Ae ?_ GE121.out) | exact HB.out)⟩
          · rw [if_neg c16] at H
            have c16b0 : decide (a4 < 0) = false := decide_eq_false c16
            clear c16
            by_cases c17 : a4 ≥ (wrap64 (a2 * a3))
            · rw [if_pos c17] at H
              have c17b0 : decide ((wrap64 (a2 * a3)) ≤ a4) = true := decide_eq_true c17
              clear c17
              obtain rfl := Option.some.inj H
              go_wp2
              go_ret
              exact ⟨by first | rfl | (simp [Bb, Ba] <;> rfl) | (simp [*, Bb, Ba] <;> rfl), by repeat (first | (with_reducible first | exact HB.out | apply Ah | apply Af | apply Ai | refine Ae ?_ GE121.out) | exact HB.out)⟩
            · rw [if_neg c17] at H
              have c17b0 : decide ((wrap64 (a2 * a3)) ≤ a4) = false := decide_eq_false c17
              clear c17
              replace H := Option.bind_eq_some_iff.mp H
              obtain ⟨⟨t123, t124⟩, A180, H⟩ := H
              replace H : (some t124) = some r := H
              have A18 := Ad.mk A180
              clear A180
              obtain rfl := Option.some.inj H
              go_wp2_with (first | ((with_reducible refine Bi (f := 44) rfl ?_); refine Bx (some 42) rfl rfl Try.func44 (by kernel_rfl) rfl #[.int .i64 a1, .int .i64 1, .int .i64 0] rfl (by (try simp only [List.map_toArray, List.map_cons, List.map_nil]); first | done | rfl | (simp only [List.length_drop, List.length_take]; rfl)) ?_; (with_reducible refine (Bc.calls kj7 a1 1 0 t123 t124 _ A18.out).mono ?_); rintro e w19 ⟨rfl, hb⟩; refine ⟨_, rfl, ?_⟩; have n0_ := Ad.mk (Ak (g := gb121) (o := .cells #[.int .i64 a0_0, .int .i64 a0_1, .slice A0_2 l0_2.length c0_2] 25 (0, 0)) (by (with_reducible repeat (first | refine Ab ?_ _ | refine Ac ?_ | refine Aa ?_ _)); exact BK121.out) hb); have n1_ := Ad.mk (Ar (by repeat (first | (with_reducible first | exact HB.out | apply Ah | apply Af | apply Ai | refine Ae ?_ GE121.out) | exact HB.out)) hb); clear BK121; clear HB; have BK121 := n0_; have HB := n1_; clear n0_ n1_; (try clear hb); (try clear hb2); (try clear hk); (try clear hi)))
              go_ret
              exact ⟨by first | rfl | (simp [Bb, Ba] <;> rfl) | (simp [*, Bb, Ba] <;> rfl), by repeat (first | (with_reducible first | exact HB.out | apply Ah | apply Af | apply Ai | refine Ae ?_ GE121.out) | exact HB.out)⟩
  · rw [if_neg c7] at H
    have c7b0 : (t122 == 0) = false := beq_eq_false_iff_ne.mpr c7
    have c7b1 : (t122 != 0) = true := bne_iff_ne.mpr c7
    obtain rfl := Option.some.inj H
    go_enter Try.func30, Try.ntmps30
    go_wp2_with (first | ((with_reducible refine Bj (N := 5) rfl ?_); refine Bh ?hg (N := 5) ?hd (cs := #[.int .i64 a0_0, .int .i64 a0_1, .slice A0_2 l0_2.length c0_2]) (t := 25) ?hr ?_; (case hd => rfl); (case hg => rfl); (case hr => first | (go_simp; done) | (go_simp; rfl)); intro gb121 hg w20 hbox hb; have n0_ := Ad.mk (Ar (by repeat (first | (with_reducible first | exact HB.out | apply Ah | apply Af | apply Ai) | exact HB.out)) hb); have n1_ := Ad.mk (hbox); have n2_ := Ad.mk ((by rw [hg]; exact (Ap (by repeat (first | (with_reducible first | exact HB.out | apply Ah | apply Af | apply Ai) | exact HB.out))) : w.heap.size ≤ gb121)); have n3_ := Ad.mk ((by rw [hg]; exact (Ap (by repeat (first | (with_reducible first | exact HB.out | apply Ah | apply Af | apply Ai) | exact HB.out))) : w.heap.size ≤ gb121)); clear HB; have HB := n0_; have BK121 := n1_; have GW121 := n2_; have GE121 := n3_; clear n0_ n1_ n2_ n3_; clear hb hbox hg; have hcz21_0 : w20.cell? ⟨gb121, 0, none⟩ = some (.int .i64 a0_0) := (Aj BK121.out 0).trans rfl; have hcz21_1 : w20.cell? ⟨gb121, 1, none⟩ = some (.int .i64 a0_1) := (Aj BK121.out 1).trans rfl; have hcz21_2 : w20.cell? ⟨gb121, 2, none⟩ = some (.slice A0_2 l0_2.length c0_2) := (Aj BK121.out 2).trans rfl; have hfz21_0 := Ag BK121.out 0; have hfz21_1 := Ag BK121.out 1; have hfz21_2 := Ag BK121.out 2) | ((with_reducible refine Bi (f := 43) rfl ?_); refine Bx (some 13) rfl rfl Try.func43 (by kernel_rfl) rfl #[.agg #[.int .i64 a0_0, .int .i64 a0_1, .slice A0_2 l0_2.length c0_2]] rfl (by (try simp only [List.map_toArray, List.map_cons, List.map_nil]); first | done | rfl | (simp only [List.length_drop, List.length_take]; rfl)) ?_; (with_reducible refine (Cn.calls a0_0 a0_1 _ _ l0_2 t122 _ ?side1 ?side2 A6.out).mono ?_); (case side1 => repeat (first | exact (Kd.Bw HR0_2.out HB.out) | (with_reducible refine Kd.B5 ?_ _) | (with_reducible refine Kd.B6 ?_ _) | (with_reducible refine Kd.Ca ?_))); (case side2 => exact HC0_2.out); rintro e w22 ⟨rfl, hb⟩; refine ⟨_, rfl, ?_⟩; have n0_ := Ad.mk (Ak (g := gb121) (o := .cells #[.int .i64 a0_0, .int .i64 a0_1, .slice A0_2 l0_2.length c0_2] 25 (0, 0)) (by (with_reducible repeat (first | refine Ab ?_ _ | refine Ac ?_ | refine Aa ?_ _)); exact BK121.out) hb); have n1_ := Ad.mk (Ar (by repeat (first | (with_reducible first | exact HB.out | apply Ah | apply Af | apply Ai | refine Ae ?_ GE121.out) | exact HB.out)) hb); clear BK121; clear HB; have BK121 := n0_; have HB := n1_; clear n0_ n1_; (try clear hb); (try clear hb2); (try clear hk); (try clear hi)))
    go_ret
    exact ⟨by first | rfl | (simp [Bb, Ba] <;> rfl) | (simp [*, Bb, Ba] <;> rfl), by repeat (first | (with_reducible first | exact HB.out | apply Ah | apply Af | apply Ai | refine Ae ?_ GE121.out) | exact HB.out)⟩

def Ci.f (a0 : Int) : Option (Int) := if (a0 / 2147483648) = 0 then (some ((a0 + 2147483648) % 4294967296)) else (some ((4294967295 - a0) % 4294967296))
set_option maxHeartbeats 8000000 in
set_option maxRecDepth 100000 in
theorem Ci.calls (a0 : Int) (r : Int) (w : World) (h : Ci.f a0 = some r) :
    Calls Try.prog 41 #[.int .u32 a0] w fun e w' => e = .returned (.int .u32 r) ∧ Drawn0 w w' := by
  have H : (if (a0 / 2147483648) = 0 then (some ((a0 + 2147483648) % 4294967296)) else (some ((4294967295 - a0) % 4294967296))) = some r := h
  clear h
  by_cases c2 : (a0 / 2147483648) = 0
  · rw [if_pos c2] at H
    have c2b0 : ((a0 / 2147483648) == 0) = true := beq_iff_eq.mpr c2
    have c2b1 : ((a0 / 2147483648) != 0) = false := bne_eq_false_iff_eq.mpr c2
    clear c2
    obtain rfl := Option.some.inj H
    go_enter Try.func41, Try.ntmps41
    go_wp2
    go_ret
    exact ⟨by first | rfl | (simp; done) | (simp [*]; done), by repeat (first | exact Drawn0.refl _ | apply Drawn0.step)⟩
  · rw [if_neg c2] at H
    have c2b0 : ((a0 / 2147483648) == 0) = false := beq_eq_false_iff_ne.mpr c2
    have c2b1 : ((a0 / 2147483648) != 0) = true := bne_iff_ne.mpr c2
    obtain rfl := Option.some.inj H
    go_enter Try.func41, Try.ntmps41
    go_wp2
    go_ret
    exact ⟨by first | rfl | (simp; done) | (simp [*]; done), by repeat (first | exact Drawn0.refl _ | apply Drawn0.step)⟩

def Cf.f (a0_0 : Int) (a0_1 : Int) (l0_2 : List Int) : Option (Bool) := if (l0_2.length : Int) ≤ 2000 then (if a0_0 ≤ 4000 then (some (decide (a0_1 ≤ 4000))) else (some false)) else (some false)
set_option maxHeartbeats 8000000 in
set_option maxRecDepth 100000 in
theorem Cf.calls (a0_0 : Int) (a0_1 : Int) (A0_2 : Option Addr) (c0_2 : Nat) (l0_2 : List Int) (r : Bool) (w : World) (hr0_2 : Kd.C (Kd.int .u32) w A0_2 l0_2.length l0_2) (hc0_2 : l0_2.length ≤ c0_2) (h : Cf.f a0_0 a0_1 l0_2 = some r) :
    Calls Try.prog 11 #[.agg #[.int .i64 a0_0, .int .i64 a0_1, .slice A0_2 l0_2.length c0_2]] w fun e w' => e = .returned (.bool r) ∧ Below w.heap.size w w' := by
  have hu25 := Try.underlying25
  have HR0_2 := Ad.mk hr0_2
  have HC0_2 := Ad.mk hc0_2
  clear hr0_2 hc0_2
  have HB := Ad.mk (Below.refl w.heap.size w)
  have H : (if (l0_2.length : Int) ≤ 2000 then (if a0_0 ≤ 4000 then (some (decide (a0_1 ≤ 4000))) else (some false)) else (some false)) = some r := h
  clear h
  by_cases c2 : (l0_2.length : Int) ≤ 2000
  · rw [if_pos c2] at H
    have c2b0 : decide ((l0_2.length : Int) ≤ 2000) = true := decide_eq_true c2
    have c2b1 : decide (l0_2.length ≤ 2000) = true := decide_eq_true (by omega)
    clear c2
    by_cases c3 : a0_0 ≤ 4000
    · rw [if_pos c3] at H
      have c3b0 : decide (a0_0 ≤ 4000) = true := decide_eq_true c3
      clear c3
      obtain rfl := Option.some.inj H
      go_enter Try.func11, Try.ntmps11
      go_wp2_with (first | ((with_reducible refine Bj (N := 1) rfl ?_); refine Bh ?hg (N := 1) ?hd (cs := #[.int .i64 a0_0, .int .i64 a0_1, .slice A0_2 l0_2.length c0_2]) (t := 25) ?hr ?_; (case hd => rfl); (case hg => rfl); (case hr => first | (go_simp; done) | (go_simp; rfl)); intro gb125 hg w4 hbox hb; have n0_ := Ad.mk (Ar (by repeat (first | (with_reducible first | exact HB.out | apply Ah | apply Af | apply Ai) | exact HB.out)) hb); have n1_ := Ad.mk (hbox); have n2_ := Ad.mk ((by rw [hg]; exact (Ap (by repeat (first | (with_reducible first | exact HB.out | apply Ah | apply Af | apply Ai) | exact HB.out))) : w.heap.size ≤ gb125)); have n3_ := Ad.mk ((by rw [hg]; exact (Ap (by repeat (first | (with_reducible first | exact HB.out | apply Ah | apply Af | apply Ai) | exact HB.out))) : w.heap.size ≤ gb125)); clear HB; have HB := n0_; have BK125 := n1_; have GW125 := n2_; have GE125 := n3_; clear n0_ n1_ n2_ n3_; clear hb hbox hg; have hcz5_0 : w4.cell? ⟨gb125, 0, none⟩ = some (.int .i64 a0_0) := (Aj BK125.out 0).trans rfl; have hcz5_1 : w4.cell? ⟨gb125, 1, none⟩ = some (.int .i64 a0_1) := (Aj BK125.out 1).trans rfl; have hcz5_2 : w4.cell? ⟨gb125, 2, none⟩ = some (.slice A0_2 l0_2.length c0_2) := (Aj BK125.out 2).trans rfl; have hfz5_0 := Ag BK125.out 0; have hfz5_1 := Ag BK125.out 1; have hfz5_2 := Ag BK125.out 2))
      go_ret
      exact ⟨by first | rfl | (simp [Bb, Ba] <;> rfl) | (simp [*, Bb, Ba] <;> rfl), by repeat (first | (with_reducible first | exact HB.out | apply Ah | apply Af | apply Ai | refine Ae ?_ GE125.out) | exact HB.out)⟩
    · rw [if_neg c3] at H
      have c3b0 : decide (a0_0 ≤ 4000) = false := decide_eq_false c3
      clear c3
      obtain rfl := Option.some.inj H
      go_enter Try.func11, Try.ntmps11
      go_wp2_with (first | ((with_reducible refine Bj (N := 1) rfl ?_); refine Bh ?hg (N := 1) ?hd (cs := #[.int .i64 a0_0, .int .i64 a0_1, .slice A0_2 l0_2.length c0_2]) (t := 25) ?hr ?_; (case hd => rfl); (case hg => rfl); (case hr => first | (go_simp; done) | (go_simp; rfl)); intro gb125 hg w6 hbox hb; have n0_ := Ad.mk (Ar (by repeat (first | (with_reducible first | exact HB.out | apply Ah | apply Af | apply Ai) | exact HB.out)) hb); have n1_ := Ad.mk (hbox); have n2_ := Ad.mk ((by rw [hg]; exact (Ap (by repeat (first | (with_reducible first | exact HB.out | apply Ah | apply Af | apply Ai) | exact HB.out))) : w.heap.size ≤ gb125)); have n3_ := Ad.mk ((by rw [hg]; exact (Ap (by repeat (first | (with_reducible first | exact HB.out | apply Ah | apply Af | apply Ai) | exact HB.out))) : w.heap.size ≤ gb125)); clear HB; have HB := n0_; have BK125 := n1_; have GW125 := n2_; have GE125 := n3_; clear n0_ n1_ n2_ n3_; clear hb hbox hg; have hcz7_0 : w6.cell? ⟨gb125, 0, none⟩ = some (.int .i64 a0_0) := (Aj BK125.out 0).trans rfl; have hcz7_1 : w6.cell? ⟨gb125, 1, none⟩ = some (.int .i64 a0_1) := (Aj BK125.out 1).trans rfl; have hcz7_2 : w6.cell? ⟨gb125, 2, none⟩ = some (.slice A0_2 l0_2.length c0_2) := (Aj BK125.out 2).trans rfl; have hfz7_0 := Ag BK125.out 0; have hfz7_1 := Ag BK125.out 1; have hfz7_2 := Ag BK125.out 2))
      go_ret
      exact ⟨by first | rfl | (simp [Bb, Ba] <;> rfl) | (simp [*, Bb, Ba] <;> rfl), by repeat (first | (with_reducible first | exact HB.out | apply Ah | apply Af | apply Ai | refine Ae ?_ GE125.out) | exact HB.out)⟩
  · rw [if_neg c2] at H
    have c2b0 : decide ((l0_2.length : Int) ≤ 2000) = false := decide_eq_false c2
    have c2b1 : decide (l0_2.length ≤ 2000) = false := decide_eq_false (by omega)
    clear c2
    obtain rfl := Option.some.inj H
    go_enter Try.func11, Try.ntmps11
    go_wp2_with (first | ((with_reducible refine Bj (N := 1) rfl ?_); refine Bh ?hg (N := 1) ?hd (cs := #[.int .i64 a0_0, .int .i64 a0_1, .slice A0_2 l0_2.length c0_2]) (t := 25) ?hr ?_; (case hd => rfl); (case hg => rfl); (case hr => first | (go_simp; done) | (go_simp; rfl)); intro gb125 hg w8 hbox hb; have n0_ := Ad.mk (Ar (by repeat (first | (with_reducible first | exact HB.out | apply Ah | apply Af | apply Ai) | exact HB.out)) hb); have n1_ := Ad.mk (hbox); have n2_ := Ad.mk ((by rw [hg]; exact (Ap (by repeat (first | (with_reducible first | exact HB.out | apply Ah | apply Af | apply Ai) | exact HB.out))) : w.heap.size ≤ gb125)); have n3_ := Ad.mk ((by rw [hg]; exact (Ap (by repeat (first | (with_reducible first | exact HB.out | apply Ah | apply Af | apply Ai) | exact HB.out))) : w.heap.size ≤ gb125)); clear HB; have HB := n0_; have BK125 := n1_; have GW125 := n2_; have GE125 := n3_; clear n0_ n1_ n2_ n3_; clear hb hbox hg; have hcz9_0 : w8.cell? ⟨gb125, 0, none⟩ = some (.int .i64 a0_0) := (Aj BK125.out 0).trans rfl; have hcz9_1 : w8.cell? ⟨gb125, 1, none⟩ = some (.int .i64 a0_1) := (Aj BK125.out 1).trans rfl; have hcz9_2 : w8.cell? ⟨gb125, 2, none⟩ = some (.slice A0_2 l0_2.length c0_2) := (Aj BK125.out 2).trans rfl; have hfz9_0 := Ag BK125.out 0; have hfz9_1 := Ag BK125.out 1; have hfz9_2 := Ag BK125.out 2))
    go_ret
    exact ⟨by first | rfl | (simp [Bb, Ba] <;> rfl) | (simp [*, Bb, Ba] <;> rfl), by repeat (first | (with_reducible first | exact HB.out | apply Ah | apply Af | apply Ai | refine Ae ?_ GE125.out) | exact HB.out)⟩

end Go.Proofs.Ythpmkelcjlljmaa.PRA

