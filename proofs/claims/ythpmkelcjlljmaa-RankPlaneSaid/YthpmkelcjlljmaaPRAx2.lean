import Derived.Test.YthpmkelcjlljmaaPRAx0
namespace Go.Proofs.Ythpmkelcjlljmaa.PRA
open Go.RowKit Go.Proofs.YthpmkelcjlljmaaW.PrintWords Go.Proofs.YthpmkelcjlljmaaW.PrintLast Go.Proofs.YthpmkelcjlljmaaW.PrintMore
attribute [local go_sem] max2_int min2_int max_two min_two max_three min_three max_four min_four   -- for this text's walks alone
set_option linter.unusedVariables false
set_option linter.unusedSimpArgs false

def At.l0 : Nat → List Int → List Int → Int → Option (Bool)
  | 0, _, _, _ => none
  | k + 1, x0, x1, x5 => if x5 < (x0.length : Int) then (if 0 ≤ x5 then (if x5 < (x1.length : Int) then (if (rd x0 x5) = (rd x1 x5) then (At.l0 k x0 x1 (wrap64 (x5 + 1))) else (some false)) else (none)) else (none)) else (some true)
def At.f (k : Nat) (l0 : List Int) (l1 : List Int) : Option (Bool) := if (l0.length : Int) = (l1.length : Int) then (At.l0 k l0 l1 0) else (some false)
theorem At.mono_l : ∀ k, (∀ y0 y1 y2, LeO (At.l0 k y0 y1 y2) (At.l0 (k + 1) y0 y1 y2))
  | 0 => fun _ _ _ r h => by simp [At.l0] at h
  | k + 1 => by
    have ih0 := At.mono_l k
    · intro y0 y1 y2
      unfold At.l0
      repeat' first
      | (with_reducible exact ih0 _ _ _)
      | (with_reducible exact LeO.refl _)
      | (with_reducible exact LeO.none _)
      | (with_reducible refine LeO.ite ?_ ?_)
      | (with_reducible refine LeO.bind ?_ (fun _ => ?_))
      | exact ih0 _ _ _
      | exact LeO.none _
      | refine LeO.ite ?_ ?_
      | refine LeO.bind ?_ (fun _ => ?_)
theorem At.mono : ∀ a0 a1 k, LeO (At.f k a0 a1) (At.f (k + 1) a0 a1) := by
  intro a0 a1 k
  have ih0 := At.mono_l k
  unfold At.f
  repeat' first
      | (with_reducible exact ih0 _ _ _)
      | (with_reducible exact LeO.refl _)
      | (with_reducible exact LeO.none _)
      | (with_reducible refine LeO.ite ?_ ?_)
      | (with_reducible refine LeO.bind ?_ (fun _ => ?_))
      | exact ih0 _ _ _
      | exact LeO.none _
      | refine LeO.ite ?_ ?_
      | refine LeO.bind ?_ (fun _ => ?_)
set_option maxHeartbeats 8000000 in
set_option maxRecDepth 100000 in
theorem At.calls (k : Nat) (A0 : Option Addr) (c0 : Nat) (l0 : List Int) (A1 : Option Addr) (c1 : Nat) (l1 : List Int) (r : Bool) (w : World) (hr0 : Kd.C (Kd.int .u32) w A0 l0.length l0) (hc0 : l0.length ≤ c0) (hr1 : Kd.C (Kd.int .u32) w A1 l1.length l1) (hc1 : l1.length ≤ c1) (h : At.f k l0 l1 = some r) :
    Calls Try.prog 25 #[.slice A0 l0.length c0, .slice A1 l1.length c1] w fun e w' => e = .returned (.bool r) ∧ Drawn0 w w' := by
  have HR0 := Ad.mk hr0
  have HC0 := Ad.mk hc0
  clear hr0 hc0
  have HR1 := Ad.mk hr1
  have HC1 := Ad.mk hc1
  clear hr1 hc1
  have H : (if (l0.length : Int) = (l1.length : Int) then (At.l0 k l0 l1 0) else (some false)) = some r := h
  clear h
  by_cases c3 : (l0.length : Int) = (l1.length : Int)
  · rw [if_pos c3] at H
    have c3b0 : ((l0.length : Int) == (l1.length : Int)) = true := beq_iff_eq.mpr c3
    have c3b1 : ((l0.length : Int) != (l1.length : Int)) = false := bne_eq_false_iff_eq.mpr c3
    have c3b2 : (l0.length == l1.length) = true := by first | simpa using c3 | (simp at c3 ⊢; omega)
    clear c3
    have H' := Ad.mk H
    clear H
    go_enter Try.func25, Try.ntmps25
    go_wp2
    repeat (go_quiet (fail); try go_wp2)
    go_loopg [5] k (fun kq v5 w' => ∃ (x5_1 : Int), v5 = .int .i64 x5_1 ∧ Ad (At.l0 kq l0 l1 x5_1 = some r) ∧ Ad (kq ≤ k) ∧ Drawn0 w w')
    case atStart => exact ⟨(0), (by first | rfl | (simp; done) | (simp [*]; done)), H', ⟨Nat.le_refl _⟩, by repeat (first | exact Drawn0.refl _ | apply Drawn0.step)⟩
    case round =>
      clear H'
      try clear c1
      try clear c2
      try clear p2
      try clear c3
      try clear c3b0
      try clear c3b1
      try clear c3b2
      obtain ⟨x5_1, rfl, HA, HK1, ⟨m1, rfl⟩⟩ := hrel
      cases gk with
      | zero => exact absurd HA.out (by simp [At.l0])
      | succ k1 =>
        have H := HA.out
        clear HA
        simp only [At.l0] at H
        by_cases c4 : x5_1 < (l0.length : Int)
        · rw [if_pos c4] at H
          have c4b0 : decide (x5_1 < (l0.length : Int)) = true := decide_eq_true c4
          clear c4
          by_cases c5 : 0 ≤ x5_1
          · rw [if_pos c5] at H
            have c5b0 : decide (0 ≤ x5_1) = true := decide_eq_true c5
            clear c5
            by_cases c6 : x5_1 < (l1.length : Int)
            · rw [if_pos c6] at H
              have c6b0 : decide (x5_1 < (l1.length : Int)) = true := decide_eq_true c6
              clear c6
              by_cases c7 : (rd l0 x5_1) = (rd l1 x5_1)
              · rw [if_pos c7] at H
                have c7b0 : ((rd l0 x5_1) == (rd l1 x5_1)) = true := beq_iff_eq.mpr c7
                have c7b1 : ((rd l0 x5_1) != (rd l1 x5_1)) = false := bne_eq_false_iff_eq.mpr c7
                clear c7
                have H' := Ad.mk H
                clear H
                have p111 : 0 ≤ (x5_1 : Int) := of_decide_eq_true (by first | (with_reducible assumption) | assumption)
                have q111 : x5_1 < (l0.length : Int) := of_decide_eq_true (by first | (with_reducible assumption) | assumption)
                obtain ⟨ad111, e111, hx111_0⟩ := Kd.at_int HR0.out x5_1 p111 q111
                cases e111
                replace p111 := eq_true p111
                replace q111 := eq_true q111
                have p112 : 0 ≤ (x5_1 : Int) := of_decide_eq_true (by first | (with_reducible assumption) | assumption)
                have q112 : x5_1 < (l1.length : Int) := of_decide_eq_true (by first | (with_reducible assumption) | assumption)
                obtain ⟨ad112, e112, hx112_0⟩ := Kd.at_int HR1.out x5_1 p112 q112
                cases e112
                replace p112 := eq_true p112
                replace q112 := eq_true q112
                go_wp2
                repeat (go_quiet (fail); try go_wp2)
                go_roundg k1
                case measure => have := HK1.out; omega
                case rel => exact ⟨(wrap64 (x5_1 + 1)), (by first | rfl | (simp; done) | (simp [*]; done)), H', ⟨by have := HK1.out; omega⟩, by repeat (first | exact Drawn0.refl _ | apply Drawn0.step)⟩
              · rw [if_neg c7] at H
                have c7b0 : ((rd l0 x5_1) == (rd l1 x5_1)) = false := beq_eq_false_iff_ne.mpr c7
                have c7b1 : ((rd l0 x5_1) != (rd l1 x5_1)) = true := bne_iff_ne.mpr c7
                obtain rfl := Option.some.inj H
                have p111 : 0 ≤ (x5_1 : Int) := of_decide_eq_true (by first | (with_reducible assumption) | assumption)
                have q111 : x5_1 < (l0.length : Int) := of_decide_eq_true (by first | (with_reducible assumption) | assumption)
                obtain ⟨ad111, e111, hx111_0⟩ := Kd.at_int HR0.out x5_1 p111 q111
                cases e111
                replace p111 := eq_true p111
                replace q111 := eq_true q111
                have p112 : 0 ≤ (x5_1 : Int) := of_decide_eq_true (by first | (with_reducible assumption) | assumption)
                have q112 : x5_1 < (l1.length : Int) := of_decide_eq_true (by first | (with_reducible assumption) | assumption)
                obtain ⟨ad112, e112, hx112_0⟩ := Kd.at_int HR1.out x5_1 p112 q112
                cases e112
                replace p112 := eq_true p112
                replace q112 := eq_true q112
                go_wp2
                repeat (go_quiet (fail); try go_wp2)
                go_ret
                exact ⟨by first | rfl | (simp; done) | (simp [*]; done), by repeat (first | exact Drawn0.refl _ | apply Drawn0.step)⟩
            · rw [if_neg c6] at H
              exact absurd H (by simp)
          · rw [if_neg c5] at H
            exact absurd H (by simp)
        · rw [if_neg c4] at H
          have c4b0 : decide (x5_1 < (l0.length : Int)) = false := decide_eq_false c4
          clear c4
          obtain rfl := Option.some.inj H
          go_wp2
          repeat (go_quiet (fail); try go_wp2)
          go_ret
          exact ⟨by first | rfl | (simp; done) | (simp [*]; done), by repeat (first | exact Drawn0.refl _ | apply Drawn0.step)⟩
  · rw [if_neg c3] at H
    have c3b0 : ((l0.length : Int) == (l1.length : Int)) = false := beq_eq_false_iff_ne.mpr c3
    have c3b1 : ((l0.length : Int) != (l1.length : Int)) = true := bne_iff_ne.mpr c3
    have c3b2 : (l0.length == l1.length) = false := by first | simpa using c3 | (simp at c3 ⊢; omega)
    obtain rfl := Option.some.inj H
    go_enter Try.func25, Try.ntmps25
    go_wp2
    repeat (go_quiet (fail); try go_wp2)
    go_ret
    exact ⟨by first | rfl | (simp; done) | (simp [*]; done), by repeat (first | exact Drawn0.refl _ | apply Drawn0.step)⟩

def Be.f (k : Nat) (a0_0 : Int) (a0_1 : Int) (l0_2 : List Int) (a1_0 : Int) (a1_1 : Int) (l1_2 : List Int) : Option (Bool) := if a0_0 = a1_0 then (if a0_1 = a1_1 then ((At.f k l0_2 l1_2).bind fun t115 => (some t115)) else (some false)) else (some false)
set_option maxHeartbeats 8000000 in
set_option maxRecDepth 100000 in
theorem Be.calls (k : Nat) (a0_0 : Int) (a0_1 : Int) (A0_2 : Option Addr) (c0_2 : Nat) (l0_2 : List Int) (a1_0 : Int) (a1_1 : Int) (A1_2 : Option Addr) (c1_2 : Nat) (l1_2 : List Int) (r : Bool) (w : World) (hr0_2 : Kd.C (Kd.int .u32) w A0_2 l0_2.length l0_2) (hc0_2 : l0_2.length ≤ c0_2) (hr1_2 : Kd.C (Kd.int .u32) w A1_2 l1_2.length l1_2) (hc1_2 : l1_2.length ≤ c1_2) (h : Be.f k a0_0 a0_1 l0_2 a1_0 a1_1 l1_2 = some r) :
    Calls Try.prog 15 #[.agg #[.int .i64 a0_0, .int .i64 a0_1, .slice A0_2 l0_2.length c0_2], .agg #[.int .i64 a1_0, .int .i64 a1_1, .slice A1_2 l1_2.length c1_2]] w fun e w' => e = .returned (.bool r) ∧ Below w.heap.size w w' := by
  have hu25 := Try.underlying25
  have HR0_2 := Ad.mk hr0_2
  have HC0_2 := Ad.mk hc0_2
  clear hr0_2 hc0_2
  have HR1_2 := Ad.mk hr1_2
  have HC1_2 := Ad.mk hc1_2
  clear hr1_2 hc1_2
  have HB := Ad.mk (Below.refl w.heap.size w)
  have H : (if a0_0 = a1_0 then (if a0_1 = a1_1 then ((At.f k l0_2 l1_2).bind fun t115 => (some t115)) else (some false)) else (some false)) = some r := h
  clear h
  by_cases c3 : a0_0 = a1_0
  · rw [if_pos c3] at H
    have c3b0 : (a0_0 == a1_0) = true := beq_iff_eq.mpr c3
    have c3b1 : (a0_0 != a1_0) = false := bne_eq_false_iff_eq.mpr c3
    clear c3
    by_cases c4 : a0_1 = a1_1
    · rw [if_pos c4] at H
      have c4b0 : (a0_1 == a1_1) = true := beq_iff_eq.mpr c4
      have c4b1 : (a0_1 != a1_1) = false := bne_eq_false_iff_eq.mpr c4
      clear c4
      replace H := Option.bind_eq_some_iff.mp H
      obtain ⟨t115, A50, H⟩ := H
      replace H : (some t115) = some r := H
      have A5 := Ad.mk A50
      clear A50
      obtain rfl := Option.some.inj H
      go_enter Try.func15, Try.ntmps15
      go_wp2_with (first | ((with_reducible refine Bj (N := 2) rfl ?_); refine Bh ?hg (N := 2) ?hd (cs := #[.int .i64 a0_0, .int .i64 a0_1, .slice A0_2 l0_2.length c0_2]) (t := 25) ?hr ?_; (case hd => rfl); (case hg => rfl); (case hr => first | (go_simp; done) | (go_simp; rfl)); intro gb113 hg w6 hbox hb; have n0_ := Ad.mk (Ar (by repeat (first | (with_reducible first | exact HB.out | apply Ah | apply Af | apply Ai) | exact HB.out)) hb); have n1_ := Ad.mk (hbox); have n2_ := Ad.mk ((by rw [hg]; exact (Ap (by repeat (first | (with_reducible first | exact HB.out | apply Ah | apply Af | apply Ai) | exact HB.out))) : w.heap.size ≤ gb113)); have n3_ := Ad.mk ((by rw [hg]; exact (Ap (by repeat (first | (with_reducible first | exact HB.out | apply Ah | apply Af | apply Ai) | exact HB.out))) : w.heap.size ≤ gb113)); clear HB; have HB := n0_; have BK113 := n1_; have GW113 := n2_; have GE113 := n3_; clear n0_ n1_ n2_ n3_; clear hb hbox hg) | ((with_reducible refine Bj (N := 3) rfl ?_); refine Bh ?hg (N := 3) ?hd (cs := #[.int .i64 a1_0, .int .i64 a1_1, .slice A1_2 l1_2.length c1_2]) (t := 25) ?hr ?_; (case hd => rfl); (case hg => rfl); (case hr => first | (go_simp; done) | (go_simp; rfl)); intro gb114 hg w7 hbox hb; have n0_ := Ad.mk (Ak (g := gb113) (o := .cells #[.int .i64 a0_0, .int .i64 a0_1, .slice A0_2 l0_2.length c0_2] 25 (0, 0)) (by (with_reducible repeat (first | refine Ab ?_ _ | refine Ac ?_ | refine Aa ?_ _)); exact BK113.out) hb); have n1_ := Ad.mk (Ar (by repeat (first | (with_reducible first | exact HB.out | apply Ah | apply Af | apply Ai | refine Ae ?_ GE113.out) | exact HB.out)) hb); have n2_ := Ad.mk (hbox); have n3_ := Ad.mk ((by rw [hg]; exact (Ap (by repeat (first | (with_reducible first | exact HB.out | apply Ah | apply Af | apply Ai | refine Ae ?_ GE113.out) | exact HB.out))) : w.heap.size ≤ gb114)); have n4_ := Ad.mk ((by rw [hg]; exact (Ap (by repeat (first | (with_reducible first | exact HB.out | apply Ah | apply Af | apply Ai | refine Ae ?_ GE113.out) | exact HB.out))) : w.heap.size ≤ gb114)); have n5_ := Ad.mk ((by rw [hg]; exact Nat.ne_of_lt (Aw (g := gb113) (o := .cells #[.int .i64 a0_0, .int .i64 a0_1, .slice A0_2 l0_2.length c0_2] 25 (0, 0)) (by (with_reducible repeat (first | refine Ab ?_ _ | refine Ac ?_ | refine Aa ?_ _)); exact BK113.out)) : gb113 ≠ gb114)); have n6_ := Ad.mk ((by rw [hg]; exact Nat.ne_of_gt (Aw (g := gb113) (o := .cells #[.int .i64 a0_0, .int .i64 a0_1, .slice A0_2 l0_2.length c0_2] 25 (0, 0)) (by (with_reducible repeat (first | refine Ab ?_ _ | refine Ac ?_ | refine Aa ?_ _)); exact BK113.out)) : gb114 ≠ gb113)); clear BK113; clear HB; have BK113 := n0_; have HB := n1_; have BK114 := n2_; have GW114 := n3_; have GE114 := n4_; have NB113_114 := n5_; have NB114_113 := n6_; clear n0_ n1_ n2_ n3_ n4_ n5_ n6_; clear hb hbox hg; have hnb8 := NB113_114.out; have hnc8 := NB114_113.out; have hcz9_0 : w7.cell? ⟨gb113, 0, none⟩ = some (.int .i64 a0_0) := (Aj BK113.out 0).trans rfl; have hcz9_1 : w7.cell? ⟨gb113, 1, none⟩ = some (.int .i64 a0_1) := (Aj BK113.out 1).trans rfl; have hcz9_2 : w7.cell? ⟨gb113, 2, none⟩ = some (.slice A0_2 l0_2.length c0_2) := (Aj BK113.out 2).trans rfl; have hfz9_0 := Ag BK113.out 0; have hfz9_1 := Ag BK113.out 1; have hfz9_2 := Ag BK113.out 2; have hcz10_0 : w7.cell? ⟨gb114, 0, none⟩ = some (.int .i64 a1_0) := (Aj BK114.out 0).trans rfl; have hcz10_1 : w7.cell? ⟨gb114, 1, none⟩ = some (.int .i64 a1_1) := (Aj BK114.out 1).trans rfl; have hcz10_2 : w7.cell? ⟨gb114, 2, none⟩ = some (.slice A1_2 l1_2.length c1_2) := (Aj BK114.out 2).trans rfl; have hfz10_0 := Ag BK114.out 0; have hfz10_1 := Ag BK114.out 1; have hfz10_2 := Ag BK114.out 2) | (go_at_call 25; (with_reducible refine (At.calls k _ _ l0_2 _ _ l1_2 t115 _ ?side1 ?side2 ?side3 ?side4 A5.out).mono ?_); (case side1 => repeat (first | exact (Kd.Bw HR0_2.out HB.out) | (with_reducible refine Kd.B5 ?_ _) | (with_reducible refine Kd.B6 ?_ _) | (with_reducible refine Kd.Ca ?_))); (case side2 => exact HC0_2.out); (case side3 => repeat (first | exact (Kd.Bw HR1_2.out HB.out) | (with_reducible refine Kd.B5 ?_ _) | (with_reducible refine Kd.B6 ?_ _) | (with_reducible refine Kd.Ca ?_))); (case side4 => exact HC1_2.out); rintro e w' ⟨rfl, ⟨nd, rfl⟩⟩))
      go_ret
      exact ⟨by first | rfl | (simp [Bb, Ba] <;> rfl) | (simp [*, Bb, Ba] <;> rfl), by repeat (first | (with_reducible first | exact HB.out | apply Ah | apply Af | apply Ai | refine Ae ?_ GE113.out | refine Ae ?_ GE114.out) | exact HB.out)⟩
    · rw [if_neg c4] at H
      have c4b0 : (a0_1 == a1_1) = false := beq_eq_false_iff_ne.mpr c4
      have c4b1 : (a0_1 != a1_1) = true := bne_iff_ne.mpr c4
      obtain rfl := Option.some.inj H
      go_enter Try.func15, Try.ntmps15
      go_wp2_with (first | ((with_reducible refine Bj (N := 2) rfl ?_); refine Bh ?hg (N := 2) ?hd (cs := #[.int .i64 a0_0, .int .i64 a0_1, .slice A0_2 l0_2.length c0_2]) (t := 25) ?hr ?_; (case hd => rfl); (case hg => rfl); (case hr => first | (go_simp; done) | (go_simp; rfl)); intro gb113 hg w11 hbox hb; have n0_ := Ad.mk (Ar (by repeat (first | (with_reducible first | exact HB.out | apply Ah | apply Af | apply Ai) | exact HB.out)) hb); have n1_ := Ad.mk (hbox); have n2_ := Ad.mk ((by rw [hg]; exact (Ap (by repeat (first | (with_reducible first | exact HB.out | apply Ah | apply Af | apply Ai) | exact HB.out))) : w.heap.size ≤ gb113)); have n3_ := Ad.mk ((by rw [hg]; exact (Ap (by repeat (first | (with_reducible first | exact HB.out | apply Ah | apply Af | apply Ai) | exact HB.out))) : w.heap.size ≤ gb113)); clear HB; have HB := n0_; have BK113 := n1_; have GW113 := n2_; have GE113 := n3_; clear n0_ n1_ n2_ n3_; clear hb hbox hg) | ((with_reducible refine Bj (N := 3) rfl ?_); refine Bh ?hg (N := 3) ?hd (cs := #[.int .i64 a1_0, .int .i64 a1_1, .slice A1_2 l1_2.length c1_2]) (t := 25) ?hr ?_; (case hd => rfl); (case hg => rfl); (case hr => first | (go_simp; done) | (go_simp; rfl)); intro gb114 hg w12 hbox hb; have n0_ := Ad.mk (Ak (g := gb113) (o := .cells #[.int .i64 a0_0, .int .i64 a0_1, .slice A0_2 l0_2.length c0_2] 25 (0, 0)) (by (with_reducible repeat (first | refine Ab ?_ _ | refine Ac ?_ | refine Aa ?_ _)); exact BK113.out) hb); have n1_ := Ad.mk (Ar (by repeat (first | (with_reducible first | exact HB.out | apply Ah | apply Af | apply Ai | refine Ae ?_ GE113.out) | exact HB.out)) hb); have n2_ := Ad.mk (hbox); have n3_ := Ad.mk ((by rw [hg]; exact (Ap (by repeat (first | (with_reducible first | exact HB.out | apply Ah | apply Af | apply Ai | refine Ae ?_ GE113.out) | exact HB.out))) : w.heap.size ≤ gb114)); have n4_ := Ad.mk ((by rw [hg]; exact (Ap (by repeat (first | (with_reducible first | exact HB.out | apply Ah | apply Af | apply Ai | refine Ae ?_ GE113.out) | exact HB.out))) : w.heap.size ≤ gb114)); have n5_ := Ad.mk ((by rw [hg]; exact Nat.ne_of_lt (Aw (g := gb113) (o := .cells #[.int .i64 a0_0, .int .i64 a0_1, .slice A0_2 l0_2.length c0_2] 25 (0, 0)) (by (with_reducible repeat (first | refine Ab ?_ _ | refine Ac ?_ | refine Aa ?_ _)); exact BK113.out)) : gb113 ≠ gb114)); have n6_ := Ad.mk ((by rw [hg]; exact Nat.ne_of_gt (Aw (g := gb113) (o := .cells #[.int .i64 a0_0, .int .i64 a0_1, .slice A0_2 l0_2.length c0_2] 25 (0, 0)) (by (with_reducible repeat (first | refine Ab ?_ _ | refine Ac ?_ | refine Aa ?_ _)); exact BK113.out)) : gb114 ≠ gb113)); clear BK113; clear HB; have BK113 := n0_; have HB := n1_; have BK114 := n2_; have GW114 := n3_; have GE114 := n4_; have NB113_114 := n5_; have NB114_113 := n6_; clear n0_ n1_ n2_ n3_ n4_ n5_ n6_; clear hb hbox hg; have hnb13 := NB113_114.out; have hnc13 := NB114_113.out; have hcz14_0 : w12.cell? ⟨gb113, 0, none⟩ = some (.int .i64 a0_0) := (Aj BK113.out 0).trans rfl; have hcz14_1 : w12.cell? ⟨gb113, 1, none⟩ = some (.int .i64 a0_1) := (Aj BK113.out 1).trans rfl; have hcz14_2 : w12.cell? ⟨gb113, 2, none⟩ = some (.slice A0_2 l0_2.length c0_2) := (Aj BK113.out 2).trans rfl; have hfz14_0 := Ag BK113.out 0; have hfz14_1 := Ag BK113.out 1; have hfz14_2 := Ag BK113.out 2; have hcz15_0 : w12.cell? ⟨gb114, 0, none⟩ = some (.int .i64 a1_0) := (Aj BK114.out 0).trans rfl; have hcz15_1 : w12.cell? ⟨gb114, 1, none⟩ = some (.int .i64 a1_1) := (Aj BK114.out 1).trans rfl; have hcz15_2 : w12.cell? ⟨gb114, 2, none⟩ = some (.slice A1_2 l1_2.length c1_2) := (Aj BK114.out 2).trans rfl; have hfz15_0 := Ag BK114.out 0; have hfz15_1 := Ag BK114.out 1; have hfz15_2 := Ag BK114.out 2))
      go_ret
      exact ⟨by first | rfl | (simp [Bb, Ba] <;> rfl) | (simp [*, Bb, Ba] <;> rfl), by repeat (first | (with_reducible first | exact HB.out | apply Ah | apply Af | apply Ai | refine Ae ?_ GE113.out | refine Ae ?_ GE114.out) | exact HB.out)⟩
  · rw [if_neg c3] at H
    have c3b0 : (a0_0 == a1_0) = false := beq_eq_false_iff_ne.mpr c3
    have c3b1 : (a0_0 != a1_0) = true := bne_iff_ne.mpr c3
    obtain rfl := Option.some.inj H
    go_enter Try.func15, Try.ntmps15
    go_wp2_with (first | ((with_reducible refine Bj (N := 2) rfl ?_); refine Bh ?hg (N := 2) ?hd (cs := #[.int .i64 a0_0, .int .i64 a0_1, .slice A0_2 l0_2.length c0_2]) (t := 25) ?hr ?_; (case hd => rfl); (case hg => rfl); (case hr => first | (go_simp; done) | (go_simp; rfl)); intro gb113 hg w16 hbox hb; have n0_ := Ad.mk (Ar (by repeat (first | (with_reducible first | exact HB.out | apply Ah | apply Af | apply Ai) | exact HB.out)) hb); have n1_ := Ad.mk (hbox); have n2_ := Ad.mk ((by rw [hg]; exact (Ap (by repeat (first | (with_reducible first | exact HB.out | apply Ah | apply Af | apply Ai) | exact HB.out))) : w.heap.size ≤ gb113)); have n3_ := Ad.mk ((by rw [hg]; exact (Ap (by repeat (first | (with_reducible first | exact HB.out | apply Ah | apply Af | apply Ai) | exact HB.out))) : w.heap.size ≤ gb113)); clear HB; have HB := n0_; have BK113 := n1_; have GW113 := n2_; have GE113 := n3_; clear n0_ n1_ n2_ n3_; clear hb hbox hg) | ((with_reducible refine Bj (N := 3) rfl ?_); refine Bh ?hg (N := 3) ?hd (cs := #[.int .i64 a1_0, .int .i64 a1_1, .slice A1_2 l1_2.length c1_2]) (t := 25) ?hr ?_; (case hd => rfl); (case hg => rfl); (case hr => first | (go_simp; done) | (go_simp; rfl)); intro gb114 hg w17 hbox hb; have n0_ := Ad.mk (Ak (g := gb113) (o := .cells #[.int .i64 a0_0, .int .i64 a0_1, .slice A0_2 l0_2.length c0_2] 25 (0, 0)) (by (with_reducible repeat (first | refine Ab ?_ _ | refine Ac ?_ | refine Aa ?_ _)); exact BK113.out) hb); have n1_ := Ad.mk (Ar (by repeat (first | (with_reducible first | exact HB.out | apply Ah | apply Af | apply Ai | refine Ae ?_ GE113.out) | exact HB.out)) hb); have n2_ := Ad.mk (hbox); have n3_ := Ad.mk ((by rw [hg]; exact (Ap (by repeat (first | (with_reducible first | exact HB.out | apply Ah | apply Af | apply Ai | refine Ae ?_ GE113.out) | exact HB.out))) : w.heap.size ≤ gb114)); have n4_ := Ad.mk ((by rw [hg]; exact (Ap (by repeat (first | (with_reducible first | exact HB.out | apply Ah | apply Af | apply Ai | refine Ae ?_ GE113.out) | exact HB.out))) : w.heap.size ≤ gb114)); have n5_ := Ad.mk ((by rw [hg]; exact Nat.ne_of_lt (Aw (g := gb113) (o := .cells #[.int .i64 a0_0, .int .i64 a0_1, .slice A0_2 l0_2.length c0_2] 25 (0, 0)) (by (with_reducible repeat (first | refine Ab ?_ _ | refine Ac ?_ | refine Aa ?_ _)); exact BK113.out)) : gb113 ≠ gb114)); have n6_ := Ad.mk ((by rw [hg]; exact Nat.ne_of_gt (Aw (g := gb113) (o := .cells #[.int .i64 a0_0, .int .i64 a0_1, .slice A0_2 l0_2.length c0_2] 25 (0, 0)) (by (with_reducible repeat (first | refine Ab ?_ _ | refine Ac ?_ | refine Aa ?_ _)); exact BK113.out)) : gb114 ≠ gb113)); clear BK113; clear HB; have BK113 := n0_; have HB := n1_; have BK114 := n2_; have GW114 := n3_; have GE114 := n4_; have NB113_114 := n5_; have NB114_113 := n6_; clear n0_ n1_ n2_ n3_ n4_ n5_ n6_; clear hb hbox hg; have hnb18 := NB113_114.out; have hnc18 := NB114_113.out; have hcz19_0 : w17.cell? ⟨gb113, 0, none⟩ = some (.int .i64 a0_0) := (Aj BK113.out 0).trans rfl; have hcz19_1 : w17.cell? ⟨gb113, 1, none⟩ = some (.int .i64 a0_1) := (Aj BK113.out 1).trans rfl; have hcz19_2 : w17.cell? ⟨gb113, 2, none⟩ = some (.slice A0_2 l0_2.length c0_2) := (Aj BK113.out 2).trans rfl; have hfz19_0 := Ag BK113.out 0; have hfz19_1 := Ag BK113.out 1; have hfz19_2 := Ag BK113.out 2; have hcz20_0 : w17.cell? ⟨gb114, 0, none⟩ = some (.int .i64 a1_0) := (Aj BK114.out 0).trans rfl; have hcz20_1 : w17.cell? ⟨gb114, 1, none⟩ = some (.int .i64 a1_1) := (Aj BK114.out 1).trans rfl; have hcz20_2 : w17.cell? ⟨gb114, 2, none⟩ = some (.slice A1_2 l1_2.length c1_2) := (Aj BK114.out 2).trans rfl; have hfz20_0 := Ag BK114.out 0; have hfz20_1 := Ag BK114.out 1; have hfz20_2 := Ag BK114.out 2))
    go_ret
    exact ⟨by first | rfl | (simp [Bb, Ba] <;> rfl) | (simp [*, Bb, Ba] <;> rfl), by repeat (first | (with_reducible first | exact HB.out | apply Ah | apply Af | apply Ai | refine Ae ?_ GE113.out | refine Ae ?_ GE114.out) | exact HB.out)⟩

def Bv.l0 : Nat → Int → Int → Int → List Int → Option (List Int)
  | 0, _, _, _, _ => none
  | k + 1, x2, x117000, x117001, x117002 => if x2 < (x117002.length : Int) then (if 0 ≤ x2 then (Bv.l0 k (wrap64 (x2 + 1)) x117000 x117001 (x117002.set (x2 : Int).toNat (Go.bits .xor .u32 (rd x117002 x2) 1515870810))) else (none)) else (some x117002)
def Bv.f (k : Nat) (a0_0 : Int) (a0_1 : Int) (l0_2 : List Int) : Option (List Int) := Bv.l0 k 0 a0_0 a0_1 l0_2
def Bv.T4 : Bool × List (List Nat × List Nat) := (true, [([], []), ([0], [0]), ([], []), ([], []), ([3], [3]), ([], []), ([4, 5], [4, 5]), ([6], [6]), ([7], [7]), ([1, 2, 0, 1, 2, 3, 4, 5, 6, 7, 8], [1, 2]), ([9, 8, 0, 1, 2, 3, 4, 5, 6, 7, 8], [8, 9])])
def Bv.B4 : List Nat := [0, 1, 0, 0, 8, 0, 56, 120, 248, 511, 1023]
theorem Bv.tab4 : rtab .any (opsOf Try.f16 4) = Bv.T4 := by kernel_rfl
theorem Bv.bits4 : waitsOk Bv.T4.2 Bv.B4 = true := by kernel_rfl
set_option maxHeartbeats 8000000 in
set_option maxRecDepth 100000 in
theorem Bv.calls (k : Nat) (a0_0 : Int) (a0_1 : Int) (P0_2_ : Nat → Prop) (u9000_ : Value) (l0_2 : List Int) (r : List Int) (w0 w : World) (hB : Below w0.heap.size w0 w) (ho0_2 : Kd.R (Kd.int .u32) 41 w w0.heap.size P0_2_ u9000_ l0_2) (h : Bv.f k a0_0 a0_1 l0_2 = some r) :
    Calls Try.prog 16 #[.agg #[.int .i64 a0_0, .int .i64 a0_1, u9000_]] w fun e w' => e = .returned (.tuple #[]) ∧ Kd.R (Kd.int .u32) 41 w' w0.heap.size (fun k_ => (P0_2_ k_ ∨ w.heap.size ≤ k_)) u9000_ r ∧ Below w0.heap.size w0 w' ∧ Kept w w' (fun k_ => P0_2_ k_) := by
  have hu25 := Try.underlying25
  have HO0_2 := Ad.mk (show Kd.R (Kd.int .u32) 41 w w0.heap.size (fun k_ => (P0_2_ k_ ∨ w.heap.size ≤ k_)) u9000_ l0_2 from Kd.Bk ho0_2 (fun k_ hk => (.inl hk)))
  have HK := Ad.mk (Kept.refl w (fun k_ => P0_2_ k_))
  have HW0 := Ad.mk hB.size
  have HB := Ad.mk hB
  clear hB
  have H : (Bv.l0 k 0 a0_0 a0_1 l0_2) = some r := h
  clear h
  have H' := Ad.mk H
  clear H
  obtain ⟨Ao2, co2, eo2⟩ := Kd.Bz HO0_2.out
  subst eo2
  go_enter Try.func16, Try.ntmps16
  go_wp2_with (first | ((with_reducible refine Bj (N := 1) rfl ?_); refine Bh ?hg (N := 1) ?hd (cs := #[.int .i64 a0_0, .int .i64 a0_1, .slice Ao2 l0_2.length co2]) (t := 25) ?hr ?_; (case hd => rfl); (case hg => rfl); (case hr => first | (go_simp; done) | (go_simp; rfl)); intro gb116 hg w3 hbox hb; have n0_ := Ad.mk (Kd.Bn (by (with_reducible repeat (first | apply Kd.An | apply Kd.Am | apply Kd.Aq)); exact HO0_2.out) hb); have n1_ := Ad.mk (Kept.below (S := (fun k_ => P0_2_ k_)) (by repeat (first | (with_reducible first | exact HK.out | apply Kept.alloc | apply Kept.drewN | apply Kept.drew) | exact HK.out)) hb); have n2_ := Ad.mk (Ar (by repeat (first | (with_reducible first | exact HB.out | apply Ah | apply Af | apply Ai) | exact HB.out)) hb); have n3_ := Ad.mk (hbox); have n4_ := Ad.mk ((by rw [hg]; exact (by first | exact HK.out.1 | exact (show Kept w _ (fun k_ => P0_2_ k_) from by repeat (first | (with_reducible first | exact HK.out | apply Kept.alloc | apply Kept.drewN | apply Kept.drew) | exact HK.out)).1) : w.heap.size ≤ gb116)); have n5_ := Ad.mk ((by rw [hg]; exact (Ap (by repeat (first | (with_reducible first | exact HB.out | apply Ah | apply Af | apply Ai) | exact HB.out))) : w0.heap.size ≤ gb116)); clear HO0_2; clear HK; clear HB; have HO0_2 := n0_; have HK := n1_; have HB := n2_; have BK116 := n3_; have GW116 := n4_; have GE116 := n5_; clear n0_ n1_ n2_ n3_ n4_ n5_; clear hb hbox hg))
  go_loopg [2] k (fun kq v2 w' => ∃ (x2_1 : Int) (x117002_1 : List Int), v2 = .int .i64 x2_1 ∧ Ad (Bv.l0 kq x2_1 a0_0 a0_1 x117002_1 = some r) ∧ Ad (kq ≤ k) ∧ Ad (Kd.R (Kd.int .u32) 41 w' w0.heap.size (fun k_ => (P0_2_ k_ ∨ w.heap.size ≤ k_)) (.slice Ao2 l0_2.length co2) x117002_1) ∧ Ad (w'.heap[gb116]? = some (.cells #[.int .i64 a0_0, .int .i64 a0_1, (.slice Ao2 l0_2.length co2)] 25 (0, 0))) ∧ Ad (Kept w w' (fun k_ => P0_2_ k_)) ∧ Ad (Below w0.heap.size w0 w'))
  case atStart => exact ⟨(0), (l0_2), (by first | rfl | (simp; done) | (simp [*]; done)), H', ⟨Nat.le_refl _⟩, ⟨by (with_reducible repeat (first | apply Kd.An | apply Kd.Am | apply Kd.Aq)); exact HO0_2.out⟩, ⟨by (with_reducible repeat (first | refine Ab ?_ _ | refine Ac ?_ | refine Aa ?_ _)); exact BK116.out⟩, ⟨by repeat (first | (with_reducible first | exact HK.out | apply Kept.alloc | apply Kept.drewN | apply Kept.drew | refine Kept.setCell ?_ (.inr GW116.out) _) | exact HK.out)⟩, ⟨by repeat (first | (with_reducible first | exact HB.out | apply Ah | apply Af | apply Ai | refine Ae ?_ GE116.out) | exact HB.out)⟩⟩
  case round =>
    clear H'
    try clear c1
    try clear p2
    obtain ⟨x2_1, x117002_1, rfl, HA, HK1, HO_117002, BK116, HK, HB⟩ := hrel
    have hl117002_1 := (Kd.Bu HO_117002.out).1
    rw [hl117002_1] at HO_117002
    (try simp only [hl117002_1])
    (try simp only [hl117002_1] at BK116)
    cases gk with
    | zero => exact absurd HA.out (by simp [Bv.l0])
    | succ k1 =>
      have H := HA.out
      clear HA
      simp only [Bv.l0] at H
      by_cases c4 : x2_1 < (x117002_1.length : Int)
      · rw [if_pos c4] at H
        have c4b0 : decide (x2_1 < (x117002_1.length : Int)) = true := decide_eq_true c4
        clear c4
        by_cases c5 : 0 ≤ x2_1
        · rw [if_pos c5] at H
          have c5b0 : decide (0 ≤ x2_1) = true := decide_eq_true c5
          clear c5
          obtain ⟨y118, hy118⟩ : ∃ y_ : List Int, y_ = (x117002_1.set (x2_1 : Int).toNat (Go.bits .xor .u32 (rd x117002_1 x2_1) 1515870810)) := ⟨_, rfl⟩
          replace H : (Bv.l0 k1 (wrap64 (x2_1 + 1)) a0_0 a0_1 y118) = some r := by first | (rw [hy118]; with_reducible exact H) | (have H2_ := (Option.bind_some _ _).symm.trans H; rw [hy118]; with_reducible exact H2_) | (have H2_ := (Option.bind_some _ _).symm.trans H; with_reducible exact H2_) | with_reducible exact H | (rw [hy118]; exact H) | exact H
          have Ny118 := Ad.mk hy118
          clear hy118
          have H' := Ad.mk H
          clear H
          have hcz7_0 : wr.cell? ⟨gb116, 0, none⟩ = some (.int .i64 a0_0) := (Aj BK116.out 0).trans rfl
          have hcz7_1 : wr.cell? ⟨gb116, 1, none⟩ = some (.int .i64 a0_1) := (Aj BK116.out 1).trans rfl
          have hcz7_2 : wr.cell? ⟨gb116, 2, none⟩ = some (.slice Ao2 x117002_1.length co2) := (Aj BK116.out 2).trans rfl
          have hfz7_0 := Ag BK116.out 0
          have hfz7_1 := Ag BK116.out 1
          have hfz7_2 := Ag BK116.out 2
          try go_wp2
          have n0_ := Ad.mk (Kd.Aq HO_117002.out)
          have n1_ := Ad.mk (Ac BK116.out)
          have n2_ := Ad.mk (Kept.drew HK.out)
          have n3_ := Ad.mk (Ai HB.out)
          clear HO_117002
          clear BK116
          clear HK
          clear HB
          have HO_117002 := n0_
          have BK116 := n1_
          have HK := n2_
          have HB := n3_
          clear n0_ n1_ n2_ n3_
          have p117 : 0 ≤ (x2_1 : Int) := of_decide_eq_true (by first | (with_reducible assumption) | assumption)
          have q117 : x2_1 < (x117002_1.length : Int) := of_decide_eq_true (by first | (with_reducible assumption) | assumption)
          obtain ⟨ad117, e117, hx117_0⟩ := Kd.at_int (Kd.Bu HO_117002.out).2.2 x2_1 p117 q117
          cases e117
          replace p117 := eq_true p117
          replace q117 := eq_true q117
          have p6 : 0 ≤ (x2_1 : Int) := of_decide_eq_true (by first | (with_reducible assumption) | assumption)
          have q6 : (x2_1 : Int) < ((x117002_1.length : Int) : Int) := of_decide_eq_true (by first | (with_reducible assumption) | assumption)
          obtain ⟨go6, co6, eo6, gb6, gl6, cl6, HG6⟩ := Kd.R_form HO_117002.out (by omega)
          (first | cases eo6 | (injection eo6 with ea_ en_ ec_; (first | subst ea_ | (injection ea_ with ea_; subst ea_)); subst ec_; clear en_))
          have GB6 := Ad.mk gb6
          have GG6 := Ad.mk HG6
          clear gb6 gl6 HG6
          have HMgo6 := Ad.mk (show (P0_2_ go6 ∨ w.heap.size ≤ go6) from (HO_117002.out.1 _ rfl))
          (first | simp only [add_plain] at hx117_0 | skip)
          obtain ⟨hx6_0, hf6_0⟩ := Kd.R_celln 0 HO_117002.out (x2_1 : Int) p6 q6
          replace p6 := eq_true p6
          replace q6 := eq_true q6
          have HP9 := Kd.R_putn HO_117002.out (x2_1 : Int) (Go.bits .xor .u32 (rd x117002_1 x2_1) 1515870810)
          rw [← Ny118.out] at HP9
          have HQ9 := Ad.mk HP9
          clear HP9
          refine start_ (n := 11) (S := fun w' => w'.cell? ⟨gb116, 0, none⟩ = some (.int .i64 a0_0) ∧ w'.cell? ⟨gb116, 1, none⟩ = some (.int .i64 a0_1) ∧ w'.cell? ⟨gb116, 2, none⟩ = some (.slice (some ⟨go6, 0, none⟩) x117002_1.length co2) ∧ w'.cell? ⟨go6, (x2_1).toNat, none⟩ = some (.int .u32 (rd x117002_1 x2_1))) (ds := [10]) #[false, false, false, false, false, false, false, false, false, false, false] (by kernel_rfl) rfl rfl ⟨(Aj BK116.out 0).trans rfl, (Aj BK116.out 1).trans rfl, (Aj BK116.out 2).trans rfl, hx117_0⟩ (fun hHeld => ?_); refine with_tabW Bv.tab4 Bv.bits4 (fun HT_ HW_ => ?_)
          generalize wr.drew = w8 at HO_117002 BK116 HK HB GG6 HQ9 hf6_0 hx117_0 hx6_0 hHeld ⊢
          refine pure_ (i := 0) (N := some 10) (v := ?_) (a' := ?_) #[true, false, false, false, false, false, false, false, false, false, false] rfl rfl (any_of HT_.out (by kernel_rfl)) (fun _ _ _ h => h) (Or.inl ⟨by rfl, ?_⟩) ?_ ?_
          rotate_left
          · intro w'
            go_simp
            with_reducible rfl
          rotate_left
          · simp only [Act.put, List.setIfInBounds_toArray, List.set_cons_zero, List.set_cons_succ, i64_w, i32_w]
            rfl
          refine pure_ (i := 2) (N := some 12) (v := ?_) (a' := ?_) #[true, false, true, false, false, false, false, false, false, false, false] rfl rfl (any_of HT_.out (by kernel_rfl)) (fun _ _ _ h => h) (Or.inl ⟨by rfl, ?_⟩) ?_ ?_
          rotate_left
          · intro w'
            go_simp
            with_reducible rfl
          rotate_left
          · simp only [Act.put, List.setIfInBounds_toArray, List.set_cons_zero, List.set_cons_succ, i64_w, i32_w]
            rfl
          refine pure_ (i := 3) (N := some 13) (v := ?_) (a' := ?_) #[true, false, true, true, false, false, false, false, false, false, false] rfl rfl (any_of HT_.out (by kernel_rfl)) (fun _ _ _ h => h) (Or.inl ⟨by rfl, ?_⟩) ?_ ?_
          rotate_left
          · intro w'
            go_simp
            with_reducible rfl
          rotate_left
          · simp only [Act.put, List.setIfInBounds_toArray, List.set_cons_zero, List.set_cons_succ, i64_w, i32_w]
            rfl
          refine pure_ (i := 5) (N := some 15) (v := ?_) (a' := ?_) #[true, false, true, true, false, true, false, false, false, false, false] rfl rfl (any_of HT_.out (by kernel_rfl)) (fun _ _ _ h => h) (Or.inl ⟨by rfl, ?_⟩) ?_ ?_
          rotate_left
          · intro w'
            go_simp
            with_reducible rfl
          rotate_left
          · simp only [Act.put, List.setIfInBounds_toArray, List.set_cons_zero, List.set_cons_succ, i64_w, i32_w]
            rfl
          refine take_ (i := 1) (N := some 11) (v := ?_) (a' := ?_) #[true, true, true, true, false, true, false, false, false, false, false] rfl rfl (take_ofW HT_.out HW_.out (by kernel_rfl)) (fun _ _ _ h => h) (Or.inl ⟨by rfl, ?_⟩) hHeld ?_ ?_
          rotate_left
          · rintro w' ⟨s0, s1, s2, s3⟩
            go_simp
            with_reducible rfl
          rotate_left
          · simp only [Act.put, List.setIfInBounds_toArray, List.set_cons_zero, List.set_cons_succ, i64_w, i32_w]
            rfl
          refine take_ (i := 4) (N := some 14) (v := ?_) (a' := ?_) #[true, true, true, true, true, true, false, false, false, false, false] rfl rfl (take_ofW HT_.out HW_.out (by kernel_rfl)) (fun _ _ _ h => h) (Or.inl ⟨by rfl, ?_⟩) hHeld ?_ ?_
          rotate_left
          · rintro w' ⟨s0, s1, s2, s3⟩
            go_simp
            with_reducible rfl
          rotate_left
          · simp only [Act.put, List.setIfInBounds_toArray, List.set_cons_zero, List.set_cons_succ, i64_w, i32_w]
            rfl
          refine pure_ (i := 6) (N := some 16) (v := ?_) (a' := ?_) #[true, true, true, true, true, true, true, false, false, false, false] rfl rfl (any_of HT_.out (by kernel_rfl)) (fun _ _ _ h => h) (Or.inl ⟨by rfl, ?_⟩) ?_ ?_
          rotate_left
          · intro w'
            go_simp
            with_reducible rfl
          rotate_left
          · simp only [Act.put, List.setIfInBounds_toArray, List.set_cons_zero, List.set_cons_succ, i64_w, i32_w]
            rfl
          refine take_ (i := 7) (N := some 17) (v := ?_) (a' := ?_) #[true, true, true, true, true, true, true, true, false, false, false] rfl rfl (take_ofW HT_.out HW_.out (by kernel_rfl)) (fun _ _ _ h => h) (Or.inl ⟨by rfl, ?_⟩) hHeld ?_ ?_
          rotate_left
          · rintro w' ⟨s0, s1, s2, s3⟩
            go_simp
            with_reducible rfl
          rotate_left
          · simp only [Act.put, List.setIfInBounds_toArray, List.set_cons_zero, List.set_cons_succ, i64_w, i32_w]
            rfl
          refine pure_ (i := 8) (N := some 18) (v := ?_) (a' := ?_) #[true, true, true, true, true, true, true, true, true, false, false] rfl rfl (any_of HT_.out (by kernel_rfl)) (fun _ _ _ h => h) (Or.inl ⟨by rfl, ?_⟩) ?_ ?_
          rotate_left
          · intro w'
            go_simp
            with_reducible rfl
          rotate_left
          · simp only [Act.put, List.setIfInBounds_toArray, List.set_cons_zero, List.set_cons_succ, i64_w, i32_w]
            rfl
          refine pure_ (i := 9) (N := some 19) (v := ?_) (a' := ?_) #[true, true, true, true, true, true, true, true, true, true, false] rfl rfl (any_of HT_.out (by kernel_rfl)) (fun _ _ _ h => h) (Or.inl ⟨by rfl, ?_⟩) ?_ ?_
          rotate_left
          · intro w'
            go_simp
            with_reducible rfl
          rotate_left
          · simp only [Act.put, List.setIfInBounds_toArray, List.set_cons_zero, List.set_cons_succ, i64_w, i32_w]
            rfl
          refine last_ (i := 10) (N := none) #[true, true, true, true, true, true, true, true, true, true, true] rfl rfl (one_of HT_.out (by kernel_rfl)) (by decide) (fun K hK => ?_)
          refine skip_ (w1 := ?_) (by rfl) rfl ?_ ?_
          rotate_left
          · go_simp
            rfl
          refine hK.out _ _ ?_
          clear hK K
          refine done_ (done_of HT_.out (by kernel_rfl)) ?_
          try go_wp2
          (try simp only [← hl117002_1])
          go_roundg k1
          case measure => have := HK1.out; omega
          case rel => exact ⟨(wrap64 (x2_1 + 1)), (y118), (by first | rfl | (simp; done) | (simp [*]; done)), H', ⟨by have := HK1.out; omega⟩, ⟨by (try simp only [hl117002_1]); (with_reducible repeat (first | apply Kd.An | apply Kd.Am | apply Kd.Aq)); exact HQ9.out⟩, ⟨by (try simp only [hl117002_1]); (with_reducible repeat (first | refine Ab ?_ _ | refine Ac ?_ | refine Aa ?_ _)); refine Ao ?_ (by have h_ := Kd.R_ne HO_117002.out BK116.out (by decide); intro e_; exact h_ (by rw [e_]; rfl)) _; (with_reducible repeat (first | refine Ab ?_ _ | refine Ac ?_ | refine Aa ?_ _)); exact BK116.out⟩, ⟨by repeat (first | (with_reducible first | exact HK.out | apply Kept.alloc | apply Kept.drewN | apply Kept.drew | refine Kept.setCell ?_ HMgo6.out _ | refine Kept.setCell ?_ (.inr GW116.out) _) | exact HK.out)⟩, ⟨by repeat (first | (with_reducible first | exact HB.out | apply Ah | apply Af | apply Ai | refine Ae ?_ GB6.out | refine Ae ?_ GE116.out) | exact HB.out)⟩⟩
        · rw [if_neg c5] at H
          exact absurd H (by simp)
      · rw [if_neg c4] at H
        have c4b0 : decide (x2_1 < (x117002_1.length : Int)) = false := decide_eq_false c4
        clear c4
        obtain rfl := Option.some.inj H
        have hcz10_0 : wr.cell? ⟨gb116, 0, none⟩ = some (.int .i64 a0_0) := (Aj BK116.out 0).trans rfl
        have hcz10_1 : wr.cell? ⟨gb116, 1, none⟩ = some (.int .i64 a0_1) := (Aj BK116.out 1).trans rfl
        have hcz10_2 : wr.cell? ⟨gb116, 2, none⟩ = some (.slice Ao2 x117002_1.length co2) := (Aj BK116.out 2).trans rfl
        have hfz10_0 := Ag BK116.out 0
        have hfz10_1 := Ag BK116.out 1
        have hfz10_2 := Ag BK116.out 2
        go_wp2
        first | go_end0 | ((try simp only [Exit.inBlock, Exit.then]); refine bodyPost_ret (results_none rfl _ _ _) rfl ?_)
        exact ⟨by first | rfl | (simp [Bb, Ba] <;> rfl) | (simp [*, Bb, Ba] <;> rfl), (by first | exact (by (with_reducible repeat (first | apply Kd.An | apply Kd.Am | apply Kd.Aq)); exact HO_117002.out) | (simp only [hl117002_1]; exact (by (with_reducible repeat (first | apply Kd.An | apply Kd.Am | apply Kd.Aq)); exact HO_117002.out))), by repeat (first | (with_reducible first | exact HB.out | apply Ah | apply Af | apply Ai | refine Ae ?_ GE116.out) | exact HB.out), by repeat (first | (with_reducible first | exact HK.out | apply Kept.alloc | apply Kept.drewN | apply Kept.drew | refine Kept.setCell ?_ (.inr GW116.out) _) | exact HK.out)⟩

def Ck.f (a0 : Int) (a1 : Int) : Option (Bool) := if a0 ≥ 1 then (if a0 ≤ 1024 then (if a1 ≥ 1 then (if a1 ≤ 1024 then (some (decide ((wrap64 (a0 * a1)) ≤ 65536))) else (some false)) else (some false)) else (some false)) else (some false)
set_option maxHeartbeats 8000000 in
set_option maxRecDepth 100000 in
theorem Ck.calls (a0 : Int) (a1 : Int) (r : Bool) (w : World) (h : Ck.f a0 a1 = some r) :
    Calls Try.prog 51 #[.int .i64 a0, .int .i64 a1] w fun e w' => e = .returned (.bool r) ∧ Drawn0 w w' := by
  have H : (if a0 ≥ 1 then (if a0 ≤ 1024 then (if a1 ≥ 1 then (if a1 ≤ 1024 then (some (decide ((wrap64 (a0 * a1)) ≤ 65536))) else (some false)) else (some false)) else (some false)) else (some false)) = some r := h
  clear h
  by_cases c3 : a0 ≥ 1
  · rw [if_pos c3] at H
    have c3b0 : decide (1 ≤ a0) = true := decide_eq_true c3
    clear c3
    by_cases c4 : a0 ≤ 1024
    · rw [if_pos c4] at H
      have c4b0 : decide (a0 ≤ 1024) = true := decide_eq_true c4
      clear c4
      by_cases c5 : a1 ≥ 1
      · rw [if_pos c5] at H
        have c5b0 : decide (1 ≤ a1) = true := decide_eq_true c5
        clear c5
        by_cases c6 : a1 ≤ 1024
        · rw [if_pos c6] at H
          have c6b0 : decide (a1 ≤ 1024) = true := decide_eq_true c6
          clear c6
          obtain rfl := Option.some.inj H
          go_enter Try.func51, Try.ntmps51
          go_wp2
          go_ret
          exact ⟨by first | rfl | (simp; done) | (simp [*]; done), by repeat (first | exact Drawn0.refl _ | apply Drawn0.step)⟩
        · rw [if_neg c6] at H
          have c6b0 : decide (a1 ≤ 1024) = false := decide_eq_false c6
          clear c6
          obtain rfl := Option.some.inj H
          go_enter Try.func51, Try.ntmps51
          go_wp2
          go_ret
          exact ⟨by first | rfl | (simp; done) | (simp [*]; done), by repeat (first | exact Drawn0.refl _ | apply Drawn0.step)⟩
      · rw [if_neg c5] at H
        have c5b0 : decide (1 ≤ a1) = false := decide_eq_false c5
        clear c5
        obtain rfl := Option.some.inj H
        go_enter Try.func51, Try.ntmps51
        go_wp2
        go_ret
        exact ⟨by first | rfl | (simp; done) | (simp [*]; done), by repeat (first | exact Drawn0.refl _ | apply Drawn0.step)⟩
    · rw [if_neg c4] at H
      have c4b0 : decide (a0 ≤ 1024) = false := decide_eq_false c4
      clear c4
      obtain rfl := Option.some.inj H
      go_enter Try.func51, Try.ntmps51
      go_wp2
      go_ret
      exact ⟨by first | rfl | (simp; done) | (simp [*]; done), by repeat (first | exact Drawn0.refl _ | apply Drawn0.step)⟩
  · rw [if_neg c3] at H
    have c3b0 : decide (1 ≤ a0) = false := decide_eq_false c3
    clear c3
    obtain rfl := Option.some.inj H
    go_enter Try.func51, Try.ntmps51
    go_wp2
    go_ret
    exact ⟨by first | rfl | (simp; done) | (simp [*]; done), by repeat (first | exact Drawn0.refl _ | apply Drawn0.step)⟩

def Cn.f (a0_0 : Int) (a0_1 : Int) (l0_2 : List Int) : Option (Int) := (Ck.f a0_0 a0_1).bind fun t120 => (if t120 = true then (if (l0_2.length : Int) = (wrap64 (a0_0 * a0_1)) then (some 0) else (some 51)) else (some 50))
set_option maxHeartbeats 8000000 in
set_option maxRecDepth 100000 in
theorem Cn.calls (a0_0 : Int) (a0_1 : Int) (A0_2 : Option Addr) (c0_2 : Nat) (l0_2 : List Int) (r : Int) (w : World) (hr0_2 : Kd.C (Kd.int .u32) w A0_2 l0_2.length l0_2) (hc0_2 : l0_2.length ≤ c0_2) (h : Cn.f a0_0 a0_1 l0_2 = some r) :
    Calls Try.prog 43 #[.agg #[.int .i64 a0_0, .int .i64 a0_1, .slice A0_2 l0_2.length c0_2]] w fun e w' => e = .returned (.int .i64 r) ∧ Below w.heap.size w w' := by
  have hu25 := Try.underlying25
  have HR0_2 := Ad.mk hr0_2
  have HC0_2 := Ad.mk hc0_2
  clear hr0_2 hc0_2
  have HB := Ad.mk (Below.refl w.heap.size w)
  have H : ((Ck.f a0_0 a0_1).bind fun t120 => (if t120 = true then (if (l0_2.length : Int) = (wrap64 (a0_0 * a0_1)) then (some 0) else (some 51)) else (some 50))) = some r := h
  clear h
  replace H := Option.bind_eq_some_iff.mp H
  obtain ⟨t120, A20, H⟩ := H
  replace H : (if t120 = true then (if (l0_2.length : Int) = (wrap64 (a0_0 * a0_1)) then (some 0) else (some 51)) else (some 50)) = some r := H
  have A2 := Ad.mk A20
  clear A20
  by_cases c3 : t120 = true
  · subst c3
    have H1 : (if (l0_2.length : Int) = (wrap64 (a0_0 * a0_1)) then (some 0) else (some 51)) = some r := by rw [if_pos rfl] at H; exact H
    clear H
    have H := H1
    clear H1
    by_cases c4 : (l0_2.length : Int) = (wrap64 (a0_0 * a0_1))
    · rw [if_pos c4] at H
      have c4b0 : ((l0_2.length : Int) == (wrap64 (a0_0 * a0_1))) = true := beq_iff_eq.mpr c4
      have c4b1 : ((l0_2.length : Int) != (wrap64 (a0_0 * a0_1))) = false := bne_eq_false_iff_eq.mpr c4
      clear c4
      obtain rfl := Option.some.inj H
      go_enter Try.func43, Try.ntmps43
      go_wp2_with (first | ((with_reducible refine Bj (N := 1) rfl ?_); refine Bh ?hg (N := 1) ?hd (cs := #[.int .i64 a0_0, .int .i64 a0_1, .slice A0_2 l0_2.length c0_2]) (t := 25) ?hr ?_; (case hd => rfl); (case hg => rfl); (case hr => first | (go_simp; done) | (go_simp; rfl)); intro gb119 hg w5 hbox hb; have n0_ := Ad.mk (Ar (by repeat (first | (with_reducible first | exact HB.out | apply Ah | apply Af | apply Ai) | exact HB.out)) hb); have n1_ := Ad.mk (hbox); have n2_ := Ad.mk ((by rw [hg]; exact (Ap (by repeat (first | (with_reducible first | exact HB.out | apply Ah | apply Af | apply Ai) | exact HB.out))) : w.heap.size ≤ gb119)); have n3_ := Ad.mk ((by rw [hg]; exact (Ap (by repeat (first | (with_reducible first | exact HB.out | apply Ah | apply Af | apply Ai) | exact HB.out))) : w.heap.size ≤ gb119)); clear HB; have HB := n0_; have BK119 := n1_; have GW119 := n2_; have GE119 := n3_; clear n0_ n1_ n2_ n3_; clear hb hbox hg; have hcz6_0 : w5.cell? ⟨gb119, 0, none⟩ = some (.int .i64 a0_0) := (Aj BK119.out 0).trans rfl; have hcz6_1 : w5.cell? ⟨gb119, 1, none⟩ = some (.int .i64 a0_1) := (Aj BK119.out 1).trans rfl; have hcz6_2 : w5.cell? ⟨gb119, 2, none⟩ = some (.slice A0_2 l0_2.length c0_2) := (Aj BK119.out 2).trans rfl; have hfz6_0 := Ag BK119.out 0; have hfz6_1 := Ag BK119.out 1; have hfz6_2 := Ag BK119.out 2) | ((with_reducible refine Bi (f := 51) rfl ?_); refine Bx (some 7) rfl rfl Try.func51 (by kernel_rfl) rfl #[.int .i64 a0_0, .int .i64 a0_1] rfl (by (try simp only [List.map_toArray, List.map_cons, List.map_nil]); first | done | rfl | (simp only [List.length_drop, List.length_take]; rfl)) ?_; (with_reducible refine (Ck.calls a0_0 a0_1 true _ A2.out).mono ?_); rintro e w' ⟨rfl, ⟨nd, rfl⟩⟩; refine ⟨_, rfl, ?_⟩))
      go_ret
      exact ⟨by first | rfl | (simp [Bb, Ba] <;> rfl) | (simp [*, Bb, Ba] <;> rfl), by repeat (first | (with_reducible first | exact HB.out | apply Ah | apply Af | apply Ai | refine Ae ?_ GE119.out) | exact HB.out)⟩
    · rw [if_neg c4] at H
      have c4b0 : ((l0_2.length : Int) == (wrap64 (a0_0 * a0_1))) = false := beq_eq_false_iff_ne.mpr c4
      have c4b1 : ((l0_2.length : Int) != (wrap64 (a0_0 * a0_1))) = true := bne_iff_ne.mpr c4
      obtain rfl := Option.some.inj H
      go_enter Try.func43, Try.ntmps43
      go_wp2_with (first | ((with_reducible refine Bj (N := 1) rfl ?_); refine Bh ?hg (N := 1) ?hd (cs := #[.int .i64 a0_0, .int .i64 a0_1, .slice A0_2 l0_2.length c0_2]) (t := 25) ?hr ?_; (case hd => rfl); (case hg => rfl); (case hr => first | (go_simp; done) | (go_simp; rfl)); intro gb119 hg w7 hbox hb; have n0_ := Ad.mk (Ar (by repeat (first | (with_reducible first | exact HB.out | apply Ah | apply Af | apply Ai) | exact HB.out)) hb); have n1_ := Ad.mk (hbox); have n2_ := Ad.mk ((by rw [hg]; exact (Ap (by repeat (first | (with_reducible first | exact HB.out | apply Ah | apply Af | apply Ai) | exact HB.out))) : w.heap.size ≤ gb119)); have n3_ := Ad.mk ((by rw [hg]; exact (Ap (by repeat (first | (with_reducible first | exact HB.out | apply Ah | apply Af | apply Ai) | exact HB.out))) : w.heap.size ≤ gb119)); clear HB; have HB := n0_; have BK119 := n1_; have GW119 := n2_; have GE119 := n3_; clear n0_ n1_ n2_ n3_; clear hb hbox hg; have hcz8_0 : w7.cell? ⟨gb119, 0, none⟩ = some (.int .i64 a0_0) := (Aj BK119.out 0).trans rfl; have hcz8_1 : w7.cell? ⟨gb119, 1, none⟩ = some (.int .i64 a0_1) := (Aj BK119.out 1).trans rfl; have hcz8_2 : w7.cell? ⟨gb119, 2, none⟩ = some (.slice A0_2 l0_2.length c0_2) := (Aj BK119.out 2).trans rfl; have hfz8_0 := Ag BK119.out 0; have hfz8_1 := Ag BK119.out 1; have hfz8_2 := Ag BK119.out 2) | ((with_reducible refine Bi (f := 51) rfl ?_); refine Bx (some 7) rfl rfl Try.func51 (by kernel_rfl) rfl #[.int .i64 a0_0, .int .i64 a0_1] rfl (by (try simp only [List.map_toArray, List.map_cons, List.map_nil]); first | done | rfl | (simp only [List.length_drop, List.length_take]; rfl)) ?_; (with_reducible refine (Ck.calls a0_0 a0_1 true _ A2.out).mono ?_); rintro e w' ⟨rfl, ⟨nd, rfl⟩⟩; refine ⟨_, rfl, ?_⟩))
      go_ret
      exact ⟨by first | rfl | (simp [Bb, Ba] <;> rfl) | (simp [*, Bb, Ba] <;> rfl), by repeat (first | (with_reducible first | exact HB.out | apply Ah | apply Af | apply Ai | refine Ae ?_ GE119.out) | exact HB.out)⟩
  · replace c3 := Bool.eq_false_iff.mpr c3
    subst c3
    have H1 : (some 50) = some r := by rw [if_neg (show ¬ (false = true) by decide)] at H; exact H
    clear H
    have H := H1
    clear H1
    obtain rfl := Option.some.inj H
    go_enter Try.func43, Try.ntmps43
    go_wp2_with (first | ((with_reducible refine Bj (N := 1) rfl ?_); refine Bh ?hg (N := 1) ?hd (cs := #[.int .i64 a0_0, .int .i64 a0_1, .slice A0_2 l0_2.length c0_2]) (t := 25) ?hr ?_; (case hd => rfl); (case hg => rfl); (case hr => first | (go_simp; done) | (go_simp; rfl)); intro gb119 hg w9 hbox hb; have n0_ := Ad.mk (Ar (by repeat (first | (with_reducible first | exact HB.out | apply Ah | apply Af | apply Ai) | exact HB.out)) hb); have n1_ := Ad.mk (hbox); have n2_ := Ad.mk ((by rw [hg]; exact (Ap (by repeat (first | (with_reducible first | exact HB.out | apply Ah | apply Af | apply Ai) | exact HB.out))) : w.heap.size ≤ gb119)); have n3_ := Ad.mk ((by rw [hg]; exact (Ap (by repeat (first | (with_reducible first | exact HB.out | apply Ah | apply Af | apply Ai) | exact HB.out))) : w.heap.size ≤ gb119)); clear HB; have HB := n0_; have BK119 := n1_; have GW119 := n2_; have GE119 := n3_; clear n0_ n1_ n2_ n3_; clear hb hbox hg; have hcz10_0 : w9.cell? ⟨gb119, 0, none⟩ = some (.int .i64 a0_0) := (Aj BK119.out 0).trans rfl; have hcz10_1 : w9.cell? ⟨gb119, 1, none⟩ = some (.int .i64 a0_1) := (Aj BK119.out 1).trans rfl; have hcz10_2 : w9.cell? ⟨gb119, 2, none⟩ = some (.slice A0_2 l0_2.length c0_2) := (Aj BK119.out 2).trans rfl; have hfz10_0 := Ag BK119.out 0; have hfz10_1 := Ag BK119.out 1; have hfz10_2 := Ag BK119.out 2) | ((with_reducible refine Bi (f := 51) rfl ?_); refine Bx (some 7) rfl rfl Try.func51 (by kernel_rfl) rfl #[.int .i64 a0_0, .int .i64 a0_1] rfl (by (try simp only [List.map_toArray, List.map_cons, List.map_nil]); first | done | rfl | (simp only [List.length_drop, List.length_take]; rfl)) ?_; (with_reducible refine (Ck.calls a0_0 a0_1 false _ A2.out).mono ?_); rintro e w' ⟨rfl, ⟨nd, rfl⟩⟩; refine ⟨_, rfl, ?_⟩))
    go_ret
    exact ⟨by first | rfl | (simp [Bb, Ba] <;> rfl) | (simp [*, Bb, Ba] <;> rfl), by repeat (first | (with_reducible first | exact HB.out | apply Ah | apply Af | apply Ai | refine Ae ?_ GE119.out) | exact HB.out)⟩

mutual
def Bc.j0 : Nat → Int → Int → Int → Bool → Option (Int × Int)
  | 0, _, _, _, _ => none
  | k + 1, x0, x1, x2, x19 => if x19 = true then (some (0, 53)) else (if x1 < 1 then (Bc.j1 k x0 x1 x2 true) else (Bc.j1 k x0 x1 x2 (decide (x1 > 1024))))
def Bc.j1 : Nat → Int → Int → Int → Bool → Option (Int × Int)
  | 0, _, _, _, _ => none
  | k + 1, x0, x1, x2, x25 => if x25 = true then (some (0, 50)) else (if x0 = 1 then (some (mx 0 (mn x2 (wrap64 (x1 - 1))), 0)) else (if x0 = 3 then (if x1 = 0 then (none) else (some (Int.tmod (wrap64 ((Int.tmod x2 x1) + x1)) x1, 0))) else (if x1 = 1 then (some (0, 0)) else (if (wrap64 (2 * (wrap64 (x1 - 1)))) = 0 then (none) else (if (Int.tmod (wrap64 ((Int.tmod x2 (wrap64 (2 * (wrap64 (x1 - 1))))) + (wrap64 (2 * (wrap64 (x1 - 1)))))) (wrap64 (2 * (wrap64 (x1 - 1))))) < x1 then (some (Int.tmod (wrap64 ((Int.tmod x2 (wrap64 (2 * (wrap64 (x1 - 1))))) + (wrap64 (2 * (wrap64 (x1 - 1)))))) (wrap64 (2 * (wrap64 (x1 - 1)))), 0)) else (some (wrap64 ((wrap64 (2 * (wrap64 (x1 - 1)))) - (Int.tmod (wrap64 ((Int.tmod x2 (wrap64 (2 * (wrap64 (x1 - 1))))) + (wrap64 (2 * (wrap64 (x1 - 1)))))) (wrap64 (2 * (wrap64 (x1 - 1)))))), 0)))))))
end
def Bc.f (k : Nat) (a0 : Int) (a1 : Int) (a2 : Int) : Option (Int × Int) := if a0 = 1 then (Bc.j0 k a0 a1 a2 false) else (if a0 = 2 then (Bc.j0 k a0 a1 a2 false) else (Bc.j0 k a0 a1 a2 (a0 != 3)))
theorem Bc.mono_l : ∀ k, (∀ y0 y1 y2 y3, LeO (Bc.j0 k y0 y1 y2 y3) (Bc.j0 (k + 1) y0 y1 y2 y3)) ∧ (∀ y0 y1 y2 y3, LeO (Bc.j1 k y0 y1 y2 y3) (Bc.j1 (k + 1) y0 y1 y2 y3))
  | 0 => ⟨fun _ _ _ _ r h => by simp [Bc.j0] at h, fun _ _ _ _ r h => by simp [Bc.j1] at h⟩
  | k + 1 => by
    obtain ⟨ih0, ih1⟩ := Bc.mono_l k
    refine ⟨?_, ?_⟩
    · intro y0 y1 y2 y3
      unfold Bc.j0
      repeat' first
      | (with_reducible exact ih0 _ _ _ _)
      | (with_reducible exact ih1 _ _ _ _)
      | (with_reducible exact LeO.refl _)
      | (with_reducible exact LeO.none _)
      | (with_reducible refine LeO.ite ?_ ?_)
      | (with_reducible refine LeO.bind ?_ (fun _ => ?_))
      | exact ih0 _ _ _ _
      | exact ih1 _ _ _ _
      | exact LeO.none _
      | refine LeO.ite ?_ ?_
      | refine LeO.bind ?_ (fun _ => ?_)
    · intro y0 y1 y2 y3
      unfold Bc.j1
      repeat' first
      | (with_reducible exact ih0 _ _ _ _)
      | (with_reducible exact ih1 _ _ _ _)
      | (with_reducible exact LeO.refl _)
      | (with_reducible exact LeO.none _)
      | (with_reducible refine LeO.ite ?_ ?_)
      | (with_reducible refine LeO.bind ?_ (fun _ => ?_))
      | exact ih0 _ _ _ _
      | exact ih1 _ _ _ _
      | exact LeO.none _
      | refine LeO.ite ?_ ?_
      | refine LeO.bind ?_ (fun _ => ?_)
theorem Bc.mono : ∀ a0 a1 a2 k, LeO (Bc.f k a0 a1 a2) (Bc.f (k + 1) a0 a1 a2) := by
  intro a0 a1 a2 k
  obtain ⟨ih0, ih1⟩ := Bc.mono_l k
  unfold Bc.f
  repeat' first
      | (with_reducible exact ih0 _ _ _ _)
      | (with_reducible exact ih1 _ _ _ _)
      | (with_reducible exact LeO.refl _)
      | (with_reducible exact LeO.none _)
      | (with_reducible refine LeO.ite ?_ ?_)
      | (with_reducible refine LeO.bind ?_ (fun _ => ?_))
      | exact ih0 _ _ _ _
      | exact ih1 _ _ _ _
      | exact LeO.none _
      | refine LeO.ite ?_ ?_
      | refine LeO.bind ?_ (fun _ => ?_)
set_option maxHeartbeats 8000000 in
set_option maxRecDepth 100000 in
theorem Bc.calls (k : Nat) (a0 : Int) (a1 : Int) (a2 : Int) (r1 : Int) (r2 : Int) (w : World) (h : Bc.f k a0 a1 a2 = some (r1, r2)) :
    Calls Try.prog 44 #[.int .i64 a0, .int .i64 a1, .int .i64 a2] w fun e w' => e = .returned (.tuple #[.int .i64 r1, .int .i64 r2]) ∧ Below w.heap.size w w' := by
  have HB := Ad.mk (Below.refl w.heap.size w)
  have H : (if a0 = 1 then (Bc.j0 k a0 a1 a2 false) else (if a0 = 2 then (Bc.j0 k a0 a1 a2 false) else (Bc.j0 k a0 a1 a2 (a0 != 3)))) = some (r1, r2) := h
  clear h
  have HC4 := Ad.mk H
  clear H
  go_enter Try.func44, Try.ntmps44
  go_upto_region 1 with (fail)
  go_cut [19] (fun v19 wc => ∃ (kq : Nat) (x19_3 : Bool), v19 = .bool x19_3 ∧ Ad (Bc.j0 kq a0 a1 a2 x19_3 = some (r1, r2)) ∧ Ad (kq ≤ k) ∧ Ad (Below w.heap.size w wc))
  case first =>
    have H := HC4.out
    clear HC4
    by_cases c5 : a0 = 1
    · rw [if_pos c5] at H
      have c5b0 : (a0 == 1) = true := beq_iff_eq.mpr c5
      have c5b1 : (a0 != 1) = false := bne_eq_false_iff_eq.mpr c5
      clear c5
      (first | rw [c5b0] | (simp only [i64_w, i32_w]; rw [c5b0]) | skip)
      have H' := Ad.mk H
      clear H
      go_wp2
      go_meet
      case rel => exact ⟨_, (false), (by first | rfl | (simp; done) | (simp [*]; done)), H', ⟨by first | omega | exact Nat.le_refl _⟩, ⟨by repeat (first | (with_reducible first | exact HB.out | apply Ah | apply Af | apply Ai) | exact HB.out)⟩⟩
    · rw [if_neg c5] at H
      have c5b0 : (a0 == 1) = false := beq_eq_false_iff_ne.mpr c5
      have c5b1 : (a0 != 1) = true := bne_iff_ne.mpr c5
      (first | rw [c5b0] | (simp only [i64_w, i32_w]; rw [c5b0]) | skip)
      by_cases c6 : a0 = 2
      · rw [if_pos c6] at H
        have c6b0 : (a0 == 2) = true := beq_iff_eq.mpr c6
        have c6b1 : (a0 != 2) = false := bne_eq_false_iff_eq.mpr c6
        clear c6
        have H' := Ad.mk H
        clear H
        go_wp2
        go_meet
        case rel => exact ⟨_, (false), (by first | rfl | (simp; done) | (simp [*]; done)), H', ⟨by first | omega | exact Nat.le_refl _⟩, ⟨by repeat (first | (with_reducible first | exact HB.out | apply Ah | apply Af | apply Ai) | exact HB.out)⟩⟩
      · rw [if_neg c6] at H
        have c6b0 : (a0 == 2) = false := beq_eq_false_iff_ne.mpr c6
        have c6b1 : (a0 != 2) = true := bne_iff_ne.mpr c6
        have H' := Ad.mk H
        clear H
        go_wp2
        go_meet
        case rel => exact ⟨_, ((a0 != 3)), (by first | rfl | (simp; done) | (simp [*]; done)), H', ⟨by first | omega | exact Nat.le_refl _⟩, ⟨by repeat (first | (with_reducible first | exact HB.out | apply Ah | apply Af | apply Ai) | exact HB.out)⟩⟩
  case rest =>
    clear HC4
    try clear p2
    try clear c4
    try clear c5
    try clear c5b0
    try clear c5b1
    try clear c6
    try clear c6b0
    try clear c6b1
    obtain ⟨kq, x19_3, rfl, HA, HJ3, HB⟩ := hcut
    cases kq with
    | zero => exact absurd HA.out (by simp [Bc.j0])
    | succ kj3 =>
      have H := HA.out
      clear HA
      simp only [Bc.j0] at H
      by_cases c7 : x19_3 = true
      · subst c7
        have H1 : (some (0, 53)) = some (r1, r2) := by rw [if_pos rfl] at H; exact H
        clear H
        have H := H1
        clear H1
        simp only [Option.some.injEq, Prod.mk.injEq] at H
        obtain ⟨rfl, rfl⟩ := H
        go_wp2
        go_ret2
        exact ⟨by first | rfl | (simp [Bb, Ba] <;> rfl) | (simp [*, Bb, Ba] <;> rfl), by repeat (first | (with_reducible first | exact HB.out | apply Ah | apply Af | apply Ai) | exact HB.out)⟩
      · replace c7 := Bool.eq_false_iff.mpr c7
        subst c7
        have H1 : (if a1 < 1 then (Bc.j1 kj3 a0 a1 a2 true) else (Bc.j1 kj3 a0 a1 a2 (decide (a1 > 1024)))) = some (r1, r2) := by rw [if_neg (show ¬ (false = true) by decide)] at H; exact H
        clear H
        have H := H1
        clear H1
        have HC8 := Ad.mk H
        clear H
        go_upto_region 3 with (fail)
        go_cut [25] (fun v25 wc => ∃ (kq : Nat) (x25_7 : Bool), v25 = .bool x25_7 ∧ Ad (Bc.j1 kq a0 a1 a2 x25_7 = some (r1, r2)) ∧ Ad (kq ≤ kj3) ∧ Ad (Below w.heap.size w wc))
        case first =>
          have H := HC8.out
          clear HC8
          by_cases c9 : a1 < 1
          · rw [if_pos c9] at H
            have c9b0 : decide (a1 < 1) = true := decide_eq_true c9
            clear c9
            (first | rw [c9b0] | (simp only [i64_w, i32_w]; rw [c9b0]) | skip)
            have H' := Ad.mk H
            clear H
            go_wp2
            go_meet
            case rel => exact ⟨_, (true), (by first | rfl | (simp; done) | (simp [*]; done)), H', ⟨by have := HJ3.out; first | omega | exact Nat.le_refl _⟩, ⟨by repeat (first | (with_reducible first | exact HB.out | apply Ah | apply Af | apply Ai) | exact HB.out)⟩⟩
          · rw [if_neg c9] at H
            have c9b0 : decide (a1 < 1) = false := decide_eq_false c9
            clear c9
            (first | rw [c9b0] | (simp only [i64_w, i32_w]; rw [c9b0]) | skip)
            have H' := Ad.mk H
            clear H
            go_wp2
            go_meet
            case rel => exact ⟨_, (decide (a1 > 1024)), (by first | rfl | (simp; done) | (simp [*]; done)), H', ⟨by have := HJ3.out; first | omega | exact Nat.le_refl _⟩, ⟨by repeat (first | (with_reducible first | exact HB.out | apply Ah | apply Af | apply Ai) | exact HB.out)⟩⟩
        case rest =>
          clear HC8
          try clear p2
          try clear c4
          try clear c5
          try clear c5b0
          try clear c5b1
          try clear c6
          try clear c6b0
          try clear c6b1
          try clear c7
          try clear c9
          try clear c9b0
          try clear p2
          obtain ⟨kq, x25_7, rfl, HA, HJ7, HB⟩ := hcut
          cases kq with
          | zero => exact absurd HA.out (by simp [Bc.j1])
          | succ kj7 =>
            have H := HA.out
            clear HA
            simp only [Bc.j1] at H
            by_cases c10 : x25_7 = true
            · subst c10
              have H1 : (some (0, 50)) = some (r1, r2) := by rw [if_pos rfl] at H; exact H
              clear H
              have H := H1
              clear H1
              simp only [Option.some.injEq, Prod.mk.injEq] at H
              obtain ⟨rfl, rfl⟩ := H
              go_wp2
              go_ret2
              exact ⟨by first | rfl | (simp [Bb, Ba] <;> rfl) | (simp [*, Bb, Ba] <;> rfl), by repeat (first | (with_reducible first | exact HB.out | apply Ah | apply Af | apply Ai) | exact HB.out)⟩
            · replace c10 := Bool.eq_false_iff.mpr c10
              subst c10
              have H1 : (if a0 = 1 then (some (mx 0 (mn a2 (wrap64 (a1 - 1))), 0)) else (if a0 = 3 then (if a1 = 0 then (none) else (some (Int.tmod (wrap64 ((Int.tmod a2 a1) + a1)) a1, 0))) else (if a1 = 1 then (some (0, 0)) else (if (wrap64 (2 * (wrap64 (a1 - 1)))) = 0 then (none) else (if (Int.tmod (wrap64 ((Int.tmod a2 (wrap64 (2 * (wrap64 (a1 - 1))))) + (wrap64 (2 * (wrap64 (a1 - 1)))))) (wrap64 (2 * (wrap64 (a1 - 1))))) < a1 then (some (Int.tmod (wrap64 ((Int.tmod a2 (wrap64 (2 * (wrap64 (a1 - 1))))) + (wrap64 (2 * (wrap64 (a1 - 1)))))) (wrap64 (2 * (wrap64 (a1 - 1)))), 0)) else (some (wrap64 ((wrap64 (2 * (wrap64 (a1 - 1)))) - (Int.tmod (wrap64 ((Int.tmod a2 (wrap64 (2 * (wrap64 (a1 - 1))))) + (wrap64 (2 * (wrap64 (a1 - 1)))))) (wrap64 (2 * (wrap64 (a1 - 1)))))), 0))))))) = some (r1, r2) := by rw [if_neg (show ¬ (false = true) by decide)] at H; exact H
              clear H
              have H := H1
              clear H1
              by_cases c11 : a0 = 1
              · rw [if_pos c11] at H
                have c11b0 : (a0 == 1) = true := beq_iff_eq.mpr c11
                have c11b1 : (a0 != 1) = false := bne_eq_false_iff_eq.mpr c11
                clear c11
                obtain ⟨ji12, hji12⟩ : ∃ j_ : Int, (mn a2 (wrap64 (a1 - 1))) = j_ := ⟨_, rfl⟩
                replace H : (some (mx 0 (ji12), 0)) = some (r1, r2) := by first | (rw [hji12] at H; exact H) | (simp only [hji12] at H ⊢; exact H)
                have hji12_ : (if (wrap64 (a1 - 1)) < a2 then (wrap64 (a1 - 1)) else a2) = ji12 := hji12
                obtain ⟨ji13, hji13⟩ : ∃ j_ : Int, (mx 0 (ji12)) = j_ := ⟨_, rfl⟩
                replace H : (some (ji13, 0)) = some (r1, r2) := by first | (rw [hji13] at H; exact H) | (simp only [hji13] at H ⊢; exact H)
                have hji13_ : (if 0 < (ji12) then (ji12) else 0) = ji13 := hji13
                simp only [Option.some.injEq, Prod.mk.injEq] at H
                obtain ⟨rfl, rfl⟩ := H
                go_wp2
                go_ret2
                exact ⟨by first | rfl | (simp [Bb, Ba] <;> rfl) | (simp only [← hji12, ← hji13]; first | rfl | (simp [Bb, Ba] <;> rfl)) | (simp [*, Bb, Ba] <;> rfl), by repeat (first | (with_reducible first | exact HB.out | apply Ah | apply Af | apply Ai) | exact HB.out)⟩
              · rw [if_neg c11] at H
                have c11b0 : (a0 == 1) = false := beq_eq_false_iff_ne.mpr c11
                have c11b1 : (a0 != 1) = true := bne_iff_ne.mpr c11
                by_cases c14 : a0 = 3
                · rw [if_pos c14] at H
                  have c14b0 : (a0 == 3) = true := beq_iff_eq.mpr c14
                  have c14b1 : (a0 != 3) = false := bne_eq_false_iff_eq.mpr c14
                  clear c14
                  by_cases c15 : a1 = 0
                  · rw [if_pos c15] at H
                    exact absurd H (by simp)
                  · rw [if_neg c15] at H
                    have c15b0 : (a1 == 0) = false := beq_eq_false_iff_ne.mpr c15
                    have c15b1 : (a1 != 0) = true := bne_iff_ne.mpr c15
                    simp only [Option.some.injEq, Prod.mk.injEq] at H
                    obtain ⟨rfl, rfl⟩ := H
                    go_wp2
                    go_ret2
                    exact ⟨by first | rfl | (simp [Bb, Ba] <;> rfl) | (simp [*, Bb, Ba] <;> rfl), by repeat (first | (with_reducible first | exact HB.out | apply Ah | apply Af | apply Ai) | exact HB.out)⟩
                · rw [if_neg c14] at H
                  have c14b0 : (a0 == 3) = false := beq_eq_false_iff_ne.mpr c14
                  have c14b1 : (a0 != 3) = true := bne_iff_ne.mpr c14
                  by_cases c16 : a1 = 1
                  · rw [if_pos c16] at H
                    have c16b0 : (a1 == 1) = true := beq_iff_eq.mpr c16
                    have c16b1 : (a1 != 1) = false := bne_eq_false_iff_eq.mpr c16
                    clear c16
                    simp only [Option.some.injEq, Prod.mk.injEq] at H
                    obtain ⟨rfl, rfl⟩ := H
                    go_wp2
                    go_ret2
                    exact ⟨by first | rfl | (simp [Bb, Ba] <;> rfl) | (simp [*, Bb, Ba] <;> rfl), by repeat (first | (with_reducible first | exact HB.out | apply Ah | apply Af | apply Ai) | exact HB.out)⟩
                  · rw [if_neg c16] at H
                    have c16b0 : (a1 == 1) = false := beq_eq_false_iff_ne.mpr c16
                    have c16b1 : (a1 != 1) = true := bne_iff_ne.mpr c16
                    by_cases c17 : (wrap64 (2 * (wrap64 (a1 - 1)))) = 0
                    · rw [if_pos c17] at H
                      exact absurd H (by simp)
                    · rw [if_neg c17] at H
                      have c17b0 : ((wrap64 (2 * (wrap64 (a1 - 1)))) == 0) = false := beq_eq_false_iff_ne.mpr c17
                      have c17b1 : ((wrap64 (2 * (wrap64 (a1 - 1)))) != 0) = true := bne_iff_ne.mpr c17
                      by_cases c18 : (Int.tmod (wrap64 ((Int.tmod a2 (wrap64 (2 * (wrap64 (a1 - 1))))) + (wrap64 (2 * (wrap64 (a1 - 1)))))) (wrap64 (2 * (wrap64 (a1 - 1))))) < a1
                      · rw [if_pos c18] at H
                        have c18b0 : decide ((Int.tmod (wrap64 ((Int.tmod a2 (wrap64 (2 * (wrap64 (a1 - 1))))) + (wrap64 (2 * (wrap64 (a1 - 1)))))) (wrap64 (2 * (wrap64 (a1 - 1))))) < a1) = true := decide_eq_true c18
                        clear c18
                        simp only [Option.some.injEq, Prod.mk.injEq] at H
                        obtain ⟨rfl, rfl⟩ := H
                        go_wp2
                        go_ret2
                        exact ⟨by first | rfl | (simp [Bb, Ba] <;> rfl) | (simp [*, Bb, Ba] <;> rfl), by repeat (first | (with_reducible first | exact HB.out | apply Ah | apply Af | apply Ai) | exact HB.out)⟩
                      · rw [if_neg c18] at H
                        have c18b0 : decide ((Int.tmod (wrap64 ((Int.tmod a2 (wrap64 (2 * (wrap64 (a1 - 1))))) + (wrap64 (2 * (wrap64 (a1 - 1)))))) (wrap64 (2 * (wrap64 (a1 - 1))))) < a1) = false := decide_eq_false c18
                        clear c18
                        simp only [Option.some.injEq, Prod.mk.injEq] at H
                        obtain ⟨rfl, rfl⟩ := H
                        go_wp2
                        go_ret2
                        exact ⟨by first | rfl | (simp [Bb, Ba] <;> rfl) | (simp [*, Bb, Ba] <;> rfl), by repeat (first | (with_reducible first | exact HB.out | apply Ah | apply Af | apply Ai) | exact HB.out)⟩

end Go.Proofs.Ythpmkelcjlljmaa.PRA

