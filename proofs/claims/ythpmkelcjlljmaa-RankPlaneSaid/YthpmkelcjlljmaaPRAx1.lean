import Derived.Test.YthpmkelcjlljmaaPRAx0
namespace Go.Proofs.Ythpmkelcjlljmaa.PRA
open Go.RowKit Go.Proofs.YthpmkelcjlljmaaW.PrintWords Go.Proofs.YthpmkelcjlljmaaW.PrintLast Go.Proofs.YthpmkelcjlljmaaW.PrintMore
attribute [local go_sem] max2_int min2_int max_two min_two max_three min_three max_four min_four   -- for this text's walks alone
set_option linter.unusedVariables false
set_option linter.unusedSimpArgs false

def Cg.f (a0 : Int) (a1 : Int) : Option (Bool) := if a0 ≥ 1 then (if a1 ≥ 1 then (if a0 ≤ 1024 then (if a1 ≤ 1024 then (some (decide ((wrap64 (a0 * a1)) ≤ 65536))) else (some false)) else (some false)) else (some false)) else (some false)
set_option maxHeartbeats 8000000 in
set_option maxRecDepth 100000 in
theorem Cg.calls (a0 : Int) (a1 : Int) (r : Bool) (w : World) (h : Cg.f a0 a1 = some r) :
    Calls Try.prog 52 #[.int .i64 a0, .int .i64 a1] w fun e w' => e = .returned (.bool r) ∧ Drawn0 w w' := by
  have H : (if a0 ≥ 1 then (if a1 ≥ 1 then (if a0 ≤ 1024 then (if a1 ≤ 1024 then (some (decide ((wrap64 (a0 * a1)) ≤ 65536))) else (some false)) else (some false)) else (some false)) else (some false)) = some r := h
  clear h
  by_cases c3 : a0 ≥ 1
  · rw [if_pos c3] at H
    have c3b0 : decide (1 ≤ a0) = true := decide_eq_true c3
    clear c3
    by_cases c4 : a1 ≥ 1
    · rw [if_pos c4] at H
      have c4b0 : decide (1 ≤ a1) = true := decide_eq_true c4
      clear c4
      by_cases c5 : a0 ≤ 1024
      · rw [if_pos c5] at H
        have c5b0 : decide (a0 ≤ 1024) = true := decide_eq_true c5
        clear c5
        by_cases c6 : a1 ≤ 1024
        · rw [if_pos c6] at H
          have c6b0 : decide (a1 ≤ 1024) = true := decide_eq_true c6
          clear c6
          obtain rfl := Option.some.inj H
          go_enter Try.func52, Try.ntmps52
          go_wp2
          go_ret
          exact ⟨by first | rfl | (simp; done) | (simp [*]; done), by repeat (first | exact Drawn0.refl _ | apply Drawn0.step)⟩
        · rw [if_neg c6] at H
          have c6b0 : decide (a1 ≤ 1024) = false := decide_eq_false c6
          clear c6
          obtain rfl := Option.some.inj H
          go_enter Try.func52, Try.ntmps52
          go_wp2
          go_ret
          exact ⟨by first | rfl | (simp; done) | (simp [*]; done), by repeat (first | exact Drawn0.refl _ | apply Drawn0.step)⟩
      · rw [if_neg c5] at H
        have c5b0 : decide (a0 ≤ 1024) = false := decide_eq_false c5
        clear c5
        obtain rfl := Option.some.inj H
        go_enter Try.func52, Try.ntmps52
        go_wp2
        go_ret
        exact ⟨by first | rfl | (simp; done) | (simp [*]; done), by repeat (first | exact Drawn0.refl _ | apply Drawn0.step)⟩
    · rw [if_neg c4] at H
      have c4b0 : decide (1 ≤ a1) = false := decide_eq_false c4
      clear c4
      obtain rfl := Option.some.inj H
      go_enter Try.func52, Try.ntmps52
      go_wp2
      go_ret
      exact ⟨by first | rfl | (simp; done) | (simp [*]; done), by repeat (first | exact Drawn0.refl _ | apply Drawn0.step)⟩
  · rw [if_neg c3] at H
    have c3b0 : decide (1 ≤ a0) = false := decide_eq_false c3
    clear c3
    obtain rfl := Option.some.inj H
    go_enter Try.func52, Try.ntmps52
    go_wp2
    go_ret
    exact ⟨by first | rfl | (simp; done) | (simp [*]; done), by repeat (first | exact Drawn0.refl _ | apply Drawn0.step)⟩

def B9.f (a0_0 : Int) (a0_1 : Int) (l0_2 : List Int) : Option (Int) := (Cg.f a0_0 a0_1).bind fun t102 => (if t102 = true then (if (l0_2.length : Int) = (wrap64 (a0_0 * a0_1)) then (some 0) else (some 51)) else (some 50))
set_option maxHeartbeats 8000000 in
set_option maxRecDepth 100000 in
theorem B9.calls (a0_0 : Int) (a0_1 : Int) (A0_2 : Option Addr) (c0_2 : Nat) (l0_2 : List Int) (r : Int) (w : World) (hr0_2 : Kd.C (Kd.int .u32) w A0_2 l0_2.length l0_2) (hc0_2 : l0_2.length ≤ c0_2) (h : B9.f a0_0 a0_1 l0_2 = some r) :
    Calls Try.prog 45 #[.agg #[.int .i64 a0_0, .int .i64 a0_1, .slice A0_2 l0_2.length c0_2]] w fun e w' => e = .returned (.int .i64 r) ∧ Below w.heap.size w w' := by
  have hu25 := Try.underlying25
  have HR0_2 := Ad.mk hr0_2
  have HC0_2 := Ad.mk hc0_2
  clear hr0_2 hc0_2
  have HB := Ad.mk (Below.refl w.heap.size w)
  have H : ((Cg.f a0_0 a0_1).bind fun t102 => (if t102 = true then (if (l0_2.length : Int) = (wrap64 (a0_0 * a0_1)) then (some 0) else (some 51)) else (some 50))) = some r := h
  clear h
  replace H := Option.bind_eq_some_iff.mp H
  obtain ⟨t102, A20, H⟩ := H
  replace H : (if t102 = true then (if (l0_2.length : Int) = (wrap64 (a0_0 * a0_1)) then (some 0) else (some 51)) else (some 50)) = some r := H
  have A2 := Ad.mk A20
  clear A20
  by_cases c3 : t102 = true
  · subst c3
    have H1 : (if (l0_2.length : Int) = (wrap64 (a0_0 * a0_1)) then (some 0) else (some 51)) = some r := by rw [if_pos rfl] at H; exact H
    clear H
    have H := H1
    clear H1
    by_cases c4 : (l0_2.length : Int) = (wrap64 (a0_0 * a0_1))
    · rw [if_pos c4] at H
      have c4b0 : ((l0_2.length : Int) == (wrap64 (a0_0 * a0_1))) = true := beq_iff_eq.mpr c4
      have c4b1 : ((l0_2.length : Int) != (wrap64 (a0_0 * a0_1))) = false := bne_eq_false_iff_eq.mpr c4
      clear c4
      obtain rfl := Option.some.inj H
      go_enter Try.func45, Try.ntmps45
      go_wp2_with (first | ((with_reducible refine Bj (N := 1) rfl ?_); refine Bh ?hg (N := 1) ?hd (cs := #[.int .i64 a0_0, .int .i64 a0_1, .slice A0_2 l0_2.length c0_2]) (t := 25) ?hr ?_; (case hd => rfl); (case hg => rfl); (case hr => first | (go_simp; done) | (go_simp; rfl)); intro gb101 hg w5 hbox hb; have n0_ := Ad.mk (Ar (by repeat (first | (with_reducible first | exact HB.out | apply Ah | apply Af | apply Ai) | exact HB.out)) hb); have n1_ := Ad.mk (hbox); have n2_ := Ad.mk ((by rw [hg]; exact (Ap (by repeat (first | (with_reducible first | exact HB.out | apply Ah | apply Af | apply Ai) | exact HB.out))) : w.heap.size ≤ gb101)); have n3_ := Ad.mk ((by rw [hg]; exact (Ap (by repeat (first | (with_reducible first | exact HB.out | apply Ah | apply Af | apply Ai) | exact HB.out))) : w.heap.size ≤ gb101)); clear HB; have HB := n0_; have BK101 := n1_; have GW101 := n2_; have GE101 := n3_; clear n0_ n1_ n2_ n3_; clear hb hbox hg; have hcz6_0 : w5.cell? ⟨gb101, 0, none⟩ = some (.int .i64 a0_0) := (Aj BK101.out 0).trans rfl; have hcz6_1 : w5.cell? ⟨gb101, 1, none⟩ = some (.int .i64 a0_1) := (Aj BK101.out 1).trans rfl; have hcz6_2 : w5.cell? ⟨gb101, 2, none⟩ = some (.slice A0_2 l0_2.length c0_2) := (Aj BK101.out 2).trans rfl; have hfz6_0 := Ag BK101.out 0; have hfz6_1 := Ag BK101.out 1; have hfz6_2 := Ag BK101.out 2) | ((with_reducible refine Bi (f := 52) rfl ?_); refine Bx (some 8) rfl rfl Try.func52 (by kernel_rfl) rfl #[.int .i64 a0_0, .int .i64 a0_1] rfl (by (try simp only [List.map_toArray, List.map_cons, List.map_nil]); first | done | rfl | (simp only [List.length_drop, List.length_take]; rfl)) ?_; (with_reducible refine (Cg.calls a0_0 a0_1 true _ A2.out).mono ?_); rintro e w' ⟨rfl, ⟨nd, rfl⟩⟩; refine ⟨_, rfl, ?_⟩))
      go_ret
      exact ⟨by first | rfl | (simp [Bb, Ba] <;> rfl) | (simp [*, Bb, Ba] <;> rfl), by repeat (first | (with_reducible first | exact HB.out | apply Ah | apply Af | apply Ai | refine Ae ?_ GE101.out) | exact HB.out)⟩
    · rw [if_neg c4] at H
      have c4b0 : ((l0_2.length : Int) == (wrap64 (a0_0 * a0_1))) = false := beq_eq_false_iff_ne.mpr c4
      have c4b1 : ((l0_2.length : Int) != (wrap64 (a0_0 * a0_1))) = true := bne_iff_ne.mpr c4
      obtain rfl := Option.some.inj H
      go_enter Try.func45, Try.ntmps45
      go_wp2_with (first | ((with_reducible refine Bj (N := 1) rfl ?_); refine Bh ?hg (N := 1) ?hd (cs := #[.int .i64 a0_0, .int .i64 a0_1, .slice A0_2 l0_2.length c0_2]) (t := 25) ?hr ?_; (case hd => rfl); (case hg => rfl); (case hr => first | (go_simp; done) | (go_simp; rfl)); intro gb101 hg w7 hbox hb; have n0_ := Ad.mk (Ar (by repeat (first | (with_reducible first | exact HB.out | apply Ah | apply Af | apply Ai) | exact HB.out)) hb); have n1_ := Ad.mk (hbox); have n2_ := Ad.mk ((by rw [hg]; exact (Ap (by repeat (first | (with_reducible first | exact HB.out | apply Ah | apply Af | apply Ai) | exact HB.out))) : w.heap.size ≤ gb101)); have n3_ := Ad.mk ((by rw [hg]; exact (Ap (by repeat (first | (with_reducible first | exact HB.out | apply Ah | apply Af | apply Ai) | exact HB.out))) : w.heap.size ≤ gb101)); clear HB; have HB := n0_; have BK101 := n1_; have GW101 := n2_; have GE101 := n3_; clear n0_ n1_ n2_ n3_; clear hb hbox hg; have hcz8_0 : w7.cell? ⟨gb101, 0, none⟩ = some (.int .i64 a0_0) := (Aj BK101.out 0).trans rfl; have hcz8_1 : w7.cell? ⟨gb101, 1, none⟩ = some (.int .i64 a0_1) := (Aj BK101.out 1).trans rfl; have hcz8_2 : w7.cell? ⟨gb101, 2, none⟩ = some (.slice A0_2 l0_2.length c0_2) := (Aj BK101.out 2).trans rfl; have hfz8_0 := Ag BK101.out 0; have hfz8_1 := Ag BK101.out 1; have hfz8_2 := Ag BK101.out 2) | ((with_reducible refine Bi (f := 52) rfl ?_); refine Bx (some 8) rfl rfl Try.func52 (by kernel_rfl) rfl #[.int .i64 a0_0, .int .i64 a0_1] rfl (by (try simp only [List.map_toArray, List.map_cons, List.map_nil]); first | done | rfl | (simp only [List.length_drop, List.length_take]; rfl)) ?_; (with_reducible refine (Cg.calls a0_0 a0_1 true _ A2.out).mono ?_); rintro e w' ⟨rfl, ⟨nd, rfl⟩⟩; refine ⟨_, rfl, ?_⟩))
      go_ret
      exact ⟨by first | rfl | (simp [Bb, Ba] <;> rfl) | (simp [*, Bb, Ba] <;> rfl), by repeat (first | (with_reducible first | exact HB.out | apply Ah | apply Af | apply Ai | refine Ae ?_ GE101.out) | exact HB.out)⟩
  · replace c3 := Bool.eq_false_iff.mpr c3
    subst c3
    have H1 : (some 50) = some r := by rw [if_neg (show ¬ (false = true) by decide)] at H; exact H
    clear H
    have H := H1
    clear H1
    obtain rfl := Option.some.inj H
    go_enter Try.func45, Try.ntmps45
    go_wp2_with (first | ((with_reducible refine Bj (N := 1) rfl ?_); refine Bh ?hg (N := 1) ?hd (cs := #[.int .i64 a0_0, .int .i64 a0_1, .slice A0_2 l0_2.length c0_2]) (t := 25) ?hr ?_; (case hd => rfl); (case hg => rfl); (case hr => first | (go_simp; done) | (go_simp; rfl)); intro gb101 hg w9 hbox hb; have n0_ := Ad.mk (Ar (by repeat (first | (with_reducible first | exact HB.out | apply Ah | apply Af | apply Ai) | exact HB.out)) hb); have n1_ := Ad.mk (hbox); have n2_ := Ad.mk ((by rw [hg]; exact (Ap (by repeat (first | (with_reducible first | exact HB.out | apply Ah | apply Af | apply Ai) | exact HB.out))) : w.heap.size ≤ gb101)); have n3_ := Ad.mk ((by rw [hg]; exact (Ap (by repeat (first | (with_reducible first | exact HB.out | apply Ah | apply Af | apply Ai) | exact HB.out))) : w.heap.size ≤ gb101)); clear HB; have HB := n0_; have BK101 := n1_; have GW101 := n2_; have GE101 := n3_; clear n0_ n1_ n2_ n3_; clear hb hbox hg; have hcz10_0 : w9.cell? ⟨gb101, 0, none⟩ = some (.int .i64 a0_0) := (Aj BK101.out 0).trans rfl; have hcz10_1 : w9.cell? ⟨gb101, 1, none⟩ = some (.int .i64 a0_1) := (Aj BK101.out 1).trans rfl; have hcz10_2 : w9.cell? ⟨gb101, 2, none⟩ = some (.slice A0_2 l0_2.length c0_2) := (Aj BK101.out 2).trans rfl; have hfz10_0 := Ag BK101.out 0; have hfz10_1 := Ag BK101.out 1; have hfz10_2 := Ag BK101.out 2) | ((with_reducible refine Bi (f := 52) rfl ?_); refine Bx (some 8) rfl rfl Try.func52 (by kernel_rfl) rfl #[.int .i64 a0_0, .int .i64 a0_1] rfl (by (try simp only [List.map_toArray, List.map_cons, List.map_nil]); first | done | rfl | (simp only [List.length_drop, List.length_take]; rfl)) ?_; (with_reducible refine (Cg.calls a0_0 a0_1 false _ A2.out).mono ?_); rintro e w' ⟨rfl, ⟨nd, rfl⟩⟩; refine ⟨_, rfl, ?_⟩))
    go_ret
    exact ⟨by first | rfl | (simp [Bb, Ba] <;> rfl) | (simp [*, Bb, Ba] <;> rfl), by repeat (first | (with_reducible first | exact HB.out | apply Ah | apply Af | apply Ai | refine Ae ?_ GE101.out) | exact HB.out)⟩

def Cp.f (a0 : Int) (a1 : Int) : Option (Int) := if a1 = 0 then (none) else (some (Int.tmod (wrap64 ((Int.tmod a0 a1) + a1)) a1))
set_option maxHeartbeats 8000000 in
set_option maxRecDepth 100000 in
theorem Cp.calls (a0 : Int) (a1 : Int) (r : Int) (w : World) (h : Cp.f a0 a1 = some r) :
    Calls Try.prog 53 #[.int .i64 a0, .int .i64 a1] w fun e w' => e = .returned (.int .i64 r) ∧ Drawn0 w w' := by
  have H : (if a1 = 0 then (none) else (some (Int.tmod (wrap64 ((Int.tmod a0 a1) + a1)) a1))) = some r := h
  clear h
  by_cases c3 : a1 = 0
  · rw [if_pos c3] at H
    exact absurd H (by simp)
  · rw [if_neg c3] at H
    have c3b0 : (a1 == 0) = false := beq_eq_false_iff_ne.mpr c3
    have c3b1 : (a1 != 0) = true := bne_iff_ne.mpr c3
    obtain rfl := Option.some.inj H
    go_enter Try.func53, Try.ntmps53
    go_wp2
    go_ret
    exact ⟨by first | rfl | (simp; done) | (simp [*]; done), by repeat (first | exact Drawn0.refl _ | apply Drawn0.step)⟩

mutual
def Br.j0 : Nat → Int → Int → Int → Bool → Option (Int × Int)
  | 0, _, _, _, _ => none
  | k + 1, x0, x1, x2, x9 => if x9 = true then (some (0, 53)) else (if x1 < 1 then (Br.j1 k x0 x1 x2 true) else (Br.j1 k x0 x1 x2 (decide (x1 > 1024))))
def Br.j1 : Nat → Int → Int → Int → Bool → Option (Int × Int)
  | 0, _, _, _, _ => none
  | k + 1, x0, x1, x2, x16 => if x16 = true then (some (0, 50)) else (if x0 = 1 then (some (mn (mx x2 0) (wrap64 (x1 - 1)), 0)) else (if x0 = 3 then ((Cp.f x2 x1).bind fun t103 => (some (t103, 0))) else (if x1 = 1 then (some (0, 0)) else ((Cp.f x2 (wrap64 (2 * (wrap64 (x1 - 1))))).bind fun t104 => (some (mn t104 (wrap64 ((wrap64 (2 * (wrap64 (x1 - 1)))) - t104)), 0))))))
end
def Br.f (k : Nat) (a0 : Int) (a1 : Int) (a2 : Int) : Option (Int × Int) := if a0 < 1 then (Br.j0 k a0 a1 a2 true) else (Br.j0 k a0 a1 a2 (decide (a0 > 3)))
theorem Br.mono_l : ∀ k, (∀ y0 y1 y2 y3, LeO (Br.j0 k y0 y1 y2 y3) (Br.j0 (k + 1) y0 y1 y2 y3)) ∧ (∀ y0 y1 y2 y3, LeO (Br.j1 k y0 y1 y2 y3) (Br.j1 (k + 1) y0 y1 y2 y3))
  | 0 => ⟨fun _ _ _ _ r h => by simp [Br.j0] at h, fun _ _ _ _ r h => by simp [Br.j1] at h⟩
  | k + 1 => by
    obtain ⟨ih0, ih1⟩ := Br.mono_l k
    refine ⟨?_, ?_⟩
    · intro y0 y1 y2 y3
      unfold Br.j0
      repeat' first
      | (with_reducible exact ih0 _ _ _ _)
      | (with_reducible exact ih1 _ _ _ _)
      | (with_reducible exact LeO.refl _)
      | (with_reducible exact LeO.none _)
      | (with_reducible refine LeO.ite ?_ ?_)
      | (with_reducible refine LeO.bind ?_ (fun _ => ?_))
      | exact ih0 _ _ _ _
      | exact ih1 _ _ _ _
      | exact LeO.none _
      | refine LeO.ite ?_ ?_
      | refine LeO.bind ?_ (fun _ => ?_)
    · intro y0 y1 y2 y3
      unfold Br.j1
      repeat' first
      | (with_reducible exact ih0 _ _ _ _)
      | (with_reducible exact ih1 _ _ _ _)
      | (with_reducible exact LeO.refl _)
      | (with_reducible exact LeO.none _)
      | (with_reducible refine LeO.ite ?_ ?_)
      | (with_reducible refine LeO.bind ?_ (fun _ => ?_))
      | exact ih0 _ _ _ _
      | exact ih1 _ _ _ _
      | exact LeO.none _
      | refine LeO.ite ?_ ?_
      | refine LeO.bind ?_ (fun _ => ?_)
theorem Br.mono : ∀ a0 a1 a2 k, LeO (Br.f k a0 a1 a2) (Br.f (k + 1) a0 a1 a2) := by
  intro a0 a1 a2 k
  obtain ⟨ih0, ih1⟩ := Br.mono_l k
  unfold Br.f
  repeat' first
      | (with_reducible exact ih0 _ _ _ _)
      | (with_reducible exact ih1 _ _ _ _)
      | (with_reducible exact LeO.refl _)
      | (with_reducible exact LeO.none _)
      | (with_reducible refine LeO.ite ?_ ?_)
      | (with_reducible refine LeO.bind ?_ (fun _ => ?_))
      | exact ih0 _ _ _ _
      | exact ih1 _ _ _ _
      | exact LeO.none _
      | refine LeO.ite ?_ ?_
      | refine LeO.bind ?_ (fun _ => ?_)
set_option maxHeartbeats 8000000 in
set_option maxRecDepth 100000 in
theorem Br.calls (k : Nat) (a0 : Int) (a1 : Int) (a2 : Int) (r1 : Int) (r2 : Int) (w : World) (h : Br.f k a0 a1 a2 = some (r1, r2)) :
    Calls Try.prog 46 #[.int .i64 a0, .int .i64 a1, .int .i64 a2] w fun e w' => e = .returned (.tuple #[.int .i64 r1, .int .i64 r2]) ∧ Below w.heap.size w w' := by
  have HB := Ad.mk (Below.refl w.heap.size w)
  have H : (if a0 < 1 then (Br.j0 k a0 a1 a2 true) else (Br.j0 k a0 a1 a2 (decide (a0 > 3)))) = some (r1, r2) := h
  clear h
  have HC4 := Ad.mk H
  clear H
  go_enter Try.func46, Try.ntmps46
  go_upto_region 1 with (fail)
  go_cut [9] (fun v9 wc => ∃ (kq : Nat) (x9_3 : Bool), v9 = .bool x9_3 ∧ Ad (Br.j0 kq a0 a1 a2 x9_3 = some (r1, r2)) ∧ Ad (kq ≤ k) ∧ Ad (Below w.heap.size w wc))
  case first =>
    have H := HC4.out
    clear HC4
    by_cases c5 : a0 < 1
    · rw [if_pos c5] at H
      have c5b0 : decide (a0 < 1) = true := decide_eq_true c5
      clear c5
      (first | rw [c5b0] | (simp only [i64_w, i32_w]; rw [c5b0]) | skip)
      have H' := Ad.mk H
      clear H
      go_wp2
      go_meet
      case rel => exact ⟨_, (true), (by first | rfl | (simp; done) | (simp [*]; done)), H', ⟨by first | omega | exact Nat.le_refl _⟩, ⟨by repeat (first | (with_reducible first | exact HB.out | apply Ah | apply Af | apply Ai) | exact HB.out)⟩⟩
    · rw [if_neg c5] at H
      have c5b0 : decide (a0 < 1) = false := decide_eq_false c5
      clear c5
      (first | rw [c5b0] | (simp only [i64_w, i32_w]; rw [c5b0]) | skip)
      have H' := Ad.mk H
      clear H
      go_wp2
      go_meet
      case rel => exact ⟨_, (decide (a0 > 3)), (by first | rfl | (simp; done) | (simp [*]; done)), H', ⟨by first | omega | exact Nat.le_refl _⟩, ⟨by repeat (first | (with_reducible first | exact HB.out | apply Ah | apply Af | apply Ai) | exact HB.out)⟩⟩
  case rest =>
    clear HC4
    try clear p2
    try clear c4
    try clear c5
    try clear c5b0
    obtain ⟨kq, x9_3, rfl, HA, HJ3, HB⟩ := hcut
    cases kq with
    | zero => exact absurd HA.out (by simp [Br.j0])
    | succ kj3 =>
      have H := HA.out
      clear HA
      simp only [Br.j0] at H
      by_cases c6 : x9_3 = true
      · subst c6
        have H1 : (some (0, 53)) = some (r1, r2) := by rw [if_pos rfl] at H; exact H
        clear H
        have H := H1
        clear H1
        simp only [Option.some.injEq, Prod.mk.injEq] at H
        obtain ⟨rfl, rfl⟩ := H
        go_wp2
        go_ret2
        exact ⟨by first | rfl | (simp [Bb, Ba] <;> rfl) | (simp [*, Bb, Ba] <;> rfl), by repeat (first | (with_reducible first | exact HB.out | apply Ah | apply Af | apply Ai) | exact HB.out)⟩
      · replace c6 := Bool.eq_false_iff.mpr c6
        subst c6
        have H1 : (if a1 < 1 then (Br.j1 kj3 a0 a1 a2 true) else (Br.j1 kj3 a0 a1 a2 (decide (a1 > 1024)))) = some (r1, r2) := by rw [if_neg (show ¬ (false = true) by decide)] at H; exact H
        clear H
        have H := H1
        clear H1
        have HC7 := Ad.mk H
        clear H
        go_upto_region 3 with (fail)
        go_cut [16] (fun v16 wc => ∃ (kq : Nat) (x16_6 : Bool), v16 = .bool x16_6 ∧ Ad (Br.j1 kq a0 a1 a2 x16_6 = some (r1, r2)) ∧ Ad (kq ≤ kj3) ∧ Ad (Below w.heap.size w wc))
        case first =>
          have H := HC7.out
          clear HC7
          by_cases c8 : a1 < 1
          · rw [if_pos c8] at H
            have c8b0 : decide (a1 < 1) = true := decide_eq_true c8
            clear c8
            (first | rw [c8b0] | (simp only [i64_w, i32_w]; rw [c8b0]) | skip)
            have H' := Ad.mk H
            clear H
            go_wp2
            go_meet
            case rel => exact ⟨_, (true), (by first | rfl | (simp; done) | (simp [*]; done)), H', ⟨by have := HJ3.out; first | omega | exact Nat.le_refl _⟩, ⟨by repeat (first | (with_reducible first | exact HB.out | apply Ah | apply Af | apply Ai) | exact HB.out)⟩⟩
          · rw [if_neg c8] at H
            have c8b0 : decide (a1 < 1) = false := decide_eq_false c8
            clear c8
            (first | rw [c8b0] | (simp only [i64_w, i32_w]; rw [c8b0]) | skip)
            have H' := Ad.mk H
            clear H
            go_wp2
            go_meet
            case rel => exact ⟨_, (decide (a1 > 1024)), (by first | rfl | (simp; done) | (simp [*]; done)), H', ⟨by have := HJ3.out; first | omega | exact Nat.le_refl _⟩, ⟨by repeat (first | (with_reducible first | exact HB.out | apply Ah | apply Af | apply Ai) | exact HB.out)⟩⟩
        case rest =>
          clear HC7
          try clear p2
          try clear c4
          try clear c5
          try clear c5b0
          try clear c6
          try clear c8
          try clear c8b0
          try clear p2
          obtain ⟨kq, x16_6, rfl, HA, HJ6, HB⟩ := hcut
          cases kq with
          | zero => exact absurd HA.out (by simp [Br.j1])
          | succ kj6 =>
            have H := HA.out
            clear HA
            simp only [Br.j1] at H
            by_cases c9 : x16_6 = true
            · subst c9
              have H1 : (some (0, 50)) = some (r1, r2) := by rw [if_pos rfl] at H; exact H
              clear H
              have H := H1
              clear H1
              simp only [Option.some.injEq, Prod.mk.injEq] at H
              obtain ⟨rfl, rfl⟩ := H
              go_wp2
              go_ret2
              exact ⟨by first | rfl | (simp [Bb, Ba] <;> rfl) | (simp [*, Bb, Ba] <;> rfl), by repeat (first | (with_reducible first | exact HB.out | apply Ah | apply Af | apply Ai) | exact HB.out)⟩
            · replace c9 := Bool.eq_false_iff.mpr c9
              subst c9
              have H1 : (if a0 = 1 then (some (mn (mx a2 0) (wrap64 (a1 - 1)), 0)) else (if a0 = 3 then ((Cp.f a2 a1).bind fun t103 => (some (t103, 0))) else (if a1 = 1 then (some (0, 0)) else ((Cp.f a2 (wrap64 (2 * (wrap64 (a1 - 1))))).bind fun t104 => (some (mn t104 (wrap64 ((wrap64 (2 * (wrap64 (a1 - 1)))) - t104)), 0)))))) = some (r1, r2) := by rw [if_neg (show ¬ (false = true) by decide)] at H; exact H
              clear H
              have H := H1
              clear H1
              by_cases c10 : a0 = 1
              · rw [if_pos c10] at H
                have c10b0 : (a0 == 1) = true := beq_iff_eq.mpr c10
                have c10b1 : (a0 != 1) = false := bne_eq_false_iff_eq.mpr c10
                clear c10
                obtain ⟨ji11, hji11⟩ : ∃ j_ : Int, (mx a2 0) = j_ := ⟨_, rfl⟩
                replace H : (some (mn (ji11) (wrap64 (a1 - 1)), 0)) = some (r1, r2) := by first | (rw [hji11] at H; exact H) | (simp only [hji11] at H ⊢; exact H)
                have hji11_ : (if a2 < 0 then 0 else a2) = ji11 := hji11
                obtain ⟨ji12, hji12⟩ : ∃ j_ : Int, (mn (ji11) (wrap64 (a1 - 1))) = j_ := ⟨_, rfl⟩
                replace H : (some (ji12, 0)) = some (r1, r2) := by first | (rw [hji12] at H; exact H) | (simp only [hji12] at H ⊢; exact H)
                have hji12_ : (if (wrap64 (a1 - 1)) < (ji11) then (wrap64 (a1 - 1)) else (ji11)) = ji12 := hji12
                simp only [Option.some.injEq, Prod.mk.injEq] at H
                obtain ⟨rfl, rfl⟩ := H
                go_wp2
                go_ret2
                exact ⟨by first | rfl | (simp [Bb, Ba] <;> rfl) | (simp only [← hji11, ← hji12]; first | rfl | (simp [Bb, Ba] <;> rfl)) | (simp [*, Bb, Ba] <;> rfl), by repeat (first | (with_reducible first | exact HB.out | apply Ah | apply Af | apply Ai) | exact HB.out)⟩
              · rw [if_neg c10] at H
                have c10b0 : (a0 == 1) = false := beq_eq_false_iff_ne.mpr c10
                have c10b1 : (a0 != 1) = true := bne_iff_ne.mpr c10
                by_cases c13 : a0 = 3
                · rw [if_pos c13] at H
                  have c13b0 : (a0 == 3) = true := beq_iff_eq.mpr c13
                  have c13b1 : (a0 != 3) = false := bne_eq_false_iff_eq.mpr c13
                  clear c13
                  replace H := Option.bind_eq_some_iff.mp H
                  obtain ⟨t103, A140, H⟩ := H
                  replace H : (some (t103, 0)) = some (r1, r2) := H
                  have A14 := Ad.mk A140
                  clear A140
                  simp only [Option.some.injEq, Prod.mk.injEq] at H
                  obtain ⟨rfl, rfl⟩ := H
                  go_wp2_with (first | ((with_reducible refine Bi (f := 53) rfl ?_); refine Bx (some 36) rfl rfl Try.func53 (by kernel_rfl) rfl #[.int .i64 a2, .int .i64 a1] rfl (by (try simp only [List.map_toArray, List.map_cons, List.map_nil]); first | done | rfl | (simp only [List.length_drop, List.length_take]; rfl)) ?_; (with_reducible refine (Cp.calls a2 a1 t103 _ A14.out).mono ?_); rintro e w' ⟨rfl, ⟨nd, rfl⟩⟩; refine ⟨_, rfl, ?_⟩))
                  go_ret2
                  exact ⟨by first | rfl | (simp [Bb, Ba] <;> rfl) | (simp [*, Bb, Ba] <;> rfl), by repeat (first | (with_reducible first | exact HB.out | apply Ah | apply Af | apply Ai) | exact HB.out)⟩
                · rw [if_neg c13] at H
                  have c13b0 : (a0 == 3) = false := beq_eq_false_iff_ne.mpr c13
                  have c13b1 : (a0 != 3) = true := bne_iff_ne.mpr c13
                  by_cases c15 : a1 = 1
                  · rw [if_pos c15] at H
                    have c15b0 : (a1 == 1) = true := beq_iff_eq.mpr c15
                    have c15b1 : (a1 != 1) = false := bne_eq_false_iff_eq.mpr c15
                    clear c15
                    simp only [Option.some.injEq, Prod.mk.injEq] at H
                    obtain ⟨rfl, rfl⟩ := H
                    go_wp2
                    go_ret2
                    exact ⟨by first | rfl | (simp [Bb, Ba] <;> rfl) | (simp [*, Bb, Ba] <;> rfl), by repeat (first | (with_reducible first | exact HB.out | apply Ah | apply Af | apply Ai) | exact HB.out)⟩
                  · rw [if_neg c15] at H
                    have c15b0 : (a1 == 1) = false := beq_eq_false_iff_ne.mpr c15
                    have c15b1 : (a1 != 1) = true := bne_iff_ne.mpr c15
                    replace H := Option.bind_eq_some_iff.mp H
                    obtain ⟨t104, A160, H⟩ := H
                    replace H : (some (mn t104 (wrap64 ((wrap64 (2 * (wrap64 (a1 - 1)))) - t104)), 0)) = some (r1, r2) := H
                    have A16 := Ad.mk A160
                    clear A160
                    obtain ⟨ji17, hji17⟩ : ∃ j_ : Int, (mn t104 (wrap64 ((wrap64 (2 * (wrap64 (a1 - 1)))) - t104))) = j_ := ⟨_, rfl⟩
                    replace H : (some (ji17, 0)) = some (r1, r2) := by first | (rw [hji17] at H; exact H) | (simp only [hji17] at H ⊢; exact H)
                    (try rw [hji17] at A16)
                    have hji17_ : (if (wrap64 ((wrap64 (2 * (wrap64 (a1 - 1)))) - t104)) < t104 then (wrap64 ((wrap64 (2 * (wrap64 (a1 - 1)))) - t104)) else t104) = ji17 := hji17
                    simp only [Option.some.injEq, Prod.mk.injEq] at H
                    obtain ⟨rfl, rfl⟩ := H
                    go_wp2_with (first | ((with_reducible refine Bi (f := 53) rfl ?_); refine Bx (some 44) rfl rfl Try.func53 (by kernel_rfl) rfl #[.int .i64 a2, .int .i64 (wrap64 (2 * (wrap64 (a1 - 1))))] rfl (by (try simp only [List.map_toArray, List.map_cons, List.map_nil]); first | done | rfl | (simp only [List.length_drop, List.length_take]; rfl)) ?_; (with_reducible refine (Cp.calls a2 (wrap64 (2 * (wrap64 (a1 - 1)))) t104 _ A16.out).mono ?_); rintro e w' ⟨rfl, ⟨nd, rfl⟩⟩; refine ⟨_, rfl, ?_⟩))
                    go_ret2
                    exact ⟨by first | rfl | (simp [Bb, Ba] <;> rfl) | (simp only [← hji17]; first | rfl | (simp [Bb, Ba] <;> rfl)) | (simp [*, Bb, Ba] <;> rfl), by repeat (first | (with_reducible first | exact HB.out | apply Ah | apply Af | apply Ai) | exact HB.out)⟩

def Ay.j0 : Nat → Int → Bool → Int → Int → List Int → Int → Int → Int → Option (Int)
  | 0, _, _, _, _, _, _, _, _ => none
  | k + 1, x1, x14, x106000, x106001, x106002, x106003, x106004, x106005 => if x14 = true then (some 120) else (if x1 < 0 then (some 121) else (if x1 ≥ (wrap64 (x106004 * x106005)) then (some 121) else ((Br.f k x106003 1 0).bind fun bt107 => (some bt107.2))))
def Ay.f (k : Nat) (a0_0 : Int) (a0_1 : Int) (l0_2 : List Int) (a0_3 : Int) (a0_4 : Int) (a0_5 : Int) (a1 : Int) : Option (Int) := (B9.f a0_0 a0_1 l0_2).bind fun t106 => (if t106 = 0 then (if a0_4 < 1 then (Ay.j0 k a1 true a0_0 a0_1 l0_2 a0_3 a0_4 a0_5) else (if a0_5 < 1 then (Ay.j0 k a1 true a0_0 a0_1 l0_2 a0_3 a0_4 a0_5) else (if a0_4 > 15 then (Ay.j0 k a1 true a0_0 a0_1 l0_2 a0_3 a0_4 a0_5) else (Ay.j0 k a1 (decide (a0_5 > 15)) a0_0 a0_1 l0_2 a0_3 a0_4 a0_5)))) else (some t106))
theorem Ay.mono_l : ∀ k, (∀ y0 y1 y2 y3 y4 y5 y6 y7, LeO (Ay.j0 k y0 y1 y2 y3 y4 y5 y6 y7) (Ay.j0 (k + 1) y0 y1 y2 y3 y4 y5 y6 y7))
  | 0 => fun _ _ _ _ _ _ _ _ r h => by simp [Ay.j0] at h
  | k + 1 => by
    have ih0 := Ay.mono_l k
    · intro y0 y1 y2 y3 y4 y5 y6 y7
      unfold Ay.j0
      repeat' first
      | (with_reducible exact ih0 _ _ _ _ _ _ _ _)
      | (with_reducible exact Br.mono _ _ _ _)
      | (with_reducible exact LeO.refl _)
      | (with_reducible exact LeO.none _)
      | (with_reducible refine LeO.ite ?_ ?_)
      | (with_reducible refine LeO.bind ?_ (fun _ => ?_))
      | exact ih0 _ _ _ _ _ _ _ _
      | exact Br.mono _ _ _ _
      | exact LeO.none _
      | refine LeO.ite ?_ ?_
      | refine LeO.bind ?_ (fun _ => ?_)
theorem Ay.mono : ∀ a0 a1 a2 a3 a4 a5 a6 k, LeO (Ay.f k a0 a1 a2 a3 a4 a5 a6) (Ay.f (k + 1) a0 a1 a2 a3 a4 a5 a6) := by
  intro a0 a1 a2 a3 a4 a5 a6 k
  have ih0 := Ay.mono_l k
  unfold Ay.f
  repeat' first
      | (with_reducible exact ih0 _ _ _ _ _ _ _ _)
      | (with_reducible exact Br.mono _ _ _ _)
      | (with_reducible exact LeO.refl _)
      | (with_reducible exact LeO.none _)
      | (with_reducible refine LeO.ite ?_ ?_)
      | (with_reducible refine LeO.bind ?_ (fun _ => ?_))
      | exact ih0 _ _ _ _ _ _ _ _
      | exact Br.mono _ _ _ _
      | exact LeO.none _
      | refine LeO.ite ?_ ?_
      | refine LeO.bind ?_ (fun _ => ?_)
set_option maxHeartbeats 8000000 in
set_option maxRecDepth 100000 in
theorem Ay.calls (k : Nat) (a0_0 : Int) (a0_1 : Int) (A0_2 : Option Addr) (c0_2 : Nat) (l0_2 : List Int) (a0_3 : Int) (a0_4 : Int) (a0_5 : Int) (a1 : Int) (r : Int) (w : World) (hr0_2 : Kd.C (Kd.int .u32) w A0_2 l0_2.length l0_2) (hc0_2 : l0_2.length ≤ c0_2) (h : Ay.f k a0_0 a0_1 l0_2 a0_3 a0_4 a0_5 a1 = some r) :
    Calls Try.prog 31 #[.agg #[.int .i64 a0_0, .int .i64 a0_1, .slice A0_2 l0_2.length c0_2, .int .i64 a0_3, .int .i64 a0_4, .int .i64 a0_5], .int .i64 a1] w fun e w' => e = .returned (.int .i64 r) ∧ Below w.heap.size w w' := by
  have hu58 := Try.underlying58
  have hu25 := Try.underlying25
  have HR0_2 := Ad.mk hr0_2
  have HC0_2 := Ad.mk hc0_2
  clear hr0_2 hc0_2
  have HB := Ad.mk (Below.refl w.heap.size w)
  have H : ((B9.f a0_0 a0_1 l0_2).bind fun t106 => (if t106 = 0 then (if a0_4 < 1 then (Ay.j0 k a1 true a0_0 a0_1 l0_2 a0_3 a0_4 a0_5) else (if a0_5 < 1 then (Ay.j0 k a1 true a0_0 a0_1 l0_2 a0_3 a0_4 a0_5) else (if a0_4 > 15 then (Ay.j0 k a1 true a0_0 a0_1 l0_2 a0_3 a0_4 a0_5) else (Ay.j0 k a1 (decide (a0_5 > 15)) a0_0 a0_1 l0_2 a0_3 a0_4 a0_5)))) else (some t106))) = some r := h
  clear h
  replace H := Option.bind_eq_some_iff.mp H
  obtain ⟨t106, A30, H⟩ := H
  replace H : (if t106 = 0 then (if a0_4 < 1 then (Ay.j0 k a1 true a0_0 a0_1 l0_2 a0_3 a0_4 a0_5) else (if a0_5 < 1 then (Ay.j0 k a1 true a0_0 a0_1 l0_2 a0_3 a0_4 a0_5) else (if a0_4 > 15 then (Ay.j0 k a1 true a0_0 a0_1 l0_2 a0_3 a0_4 a0_5) else (Ay.j0 k a1 (decide (a0_5 > 15)) a0_0 a0_1 l0_2 a0_3 a0_4 a0_5)))) else (some t106)) = some r := H
  have A3 := Ad.mk A30
  clear A30
  by_cases c4 : t106 = 0
  · rw [if_pos c4] at H
    have c4b0 : (t106 == 0) = true := beq_iff_eq.mpr c4
    have c4b1 : (t106 != 0) = false := bne_eq_false_iff_eq.mpr c4
    clear c4
    have HC5 := Ad.mk H
    clear H
    go_enter Try.func31, Try.ntmps31
    go_upto_region 4 with (first | ((with_reducible refine Bj (N := 2) rfl ?_); refine Bh ?hg (N := 2) ?hd (cs := #[.int .i64 a0_0, .int .i64 a0_1, .slice A0_2 l0_2.length c0_2, .int .i64 a0_3, .int .i64 a0_4, .int .i64 a0_5]) (t := 58) ?hr ?_; (case hd => rfl); (case hg => rfl); (case hr => first | (go_simp; done) | (go_simp; rfl)); intro gb105 hg w6 hbox hb; have n0_ := Ad.mk (Ar (by repeat (first | (with_reducible first | exact HB.out | apply Ah | apply Af | apply Ai) | exact HB.out)) hb); have n1_ := Ad.mk (hbox); have n2_ := Ad.mk ((by rw [hg]; exact (Ap (by repeat (first | (with_reducible first | exact HB.out | apply Ah | apply Af | apply Ai) | exact HB.out))) : w.heap.size ≤ gb105)); have n3_ := Ad.mk ((by rw [hg]; exact (Ap (by repeat (first | (with_reducible first | exact HB.out | apply Ah | apply Af | apply Ai) | exact HB.out))) : w.heap.size ≤ gb105)); clear HB; have HB := n0_; have BK105 := n1_; have GW105 := n2_; have GE105 := n3_; clear n0_ n1_ n2_ n3_; clear hb hbox hg; have hcz7_0 : w6.cell? ⟨gb105, 0, none⟩ = some (.int .i64 a0_0) := (Aj BK105.out 0).trans rfl; have hcz7_1 : w6.cell? ⟨gb105, 1, none⟩ = some (.int .i64 a0_1) := (Aj BK105.out 1).trans rfl; have hcz7_2 : w6.cell? ⟨gb105, 2, none⟩ = some (.slice A0_2 l0_2.length c0_2) := (Aj BK105.out 2).trans rfl; have hcz7_3 : w6.cell? ⟨gb105, 3, none⟩ = some (.int .i64 a0_3) := (Aj BK105.out 3).trans rfl; have hcz7_4 : w6.cell? ⟨gb105, 4, none⟩ = some (.int .i64 a0_4) := (Aj BK105.out 4).trans rfl; have hcz7_5 : w6.cell? ⟨gb105, 5, none⟩ = some (.int .i64 a0_5) := (Aj BK105.out 5).trans rfl; have hfz7_0 := Ag BK105.out 0; have hfz7_1 := Ag BK105.out 1; have hfz7_2 := Ag BK105.out 2; have hfz7_3 := Ag BK105.out 3; have hfz7_4 := Ag BK105.out 4; have hfz7_5 := Ag BK105.out 5) | ((with_reducible refine Bi (f := 45) rfl ?_); refine Bx (some 10) rfl rfl Try.func45 (by kernel_rfl) rfl #[.agg #[.int .i64 a0_0, .int .i64 a0_1, .slice A0_2 l0_2.length c0_2]] rfl (by (try simp only [List.map_toArray, List.map_cons, List.map_nil]); first | done | rfl | (simp only [List.length_drop, List.length_take]; rfl)) ?_; (with_reducible refine (B9.calls a0_0 a0_1 _ _ l0_2 t106 _ ?side1 ?side2 A3.out).mono ?_); (case side1 => repeat (first | exact (Kd.Bw HR0_2.out HB.out) | (with_reducible refine Kd.B5 ?_ _) | (with_reducible refine Kd.B6 ?_ _) | (with_reducible refine Kd.Ca ?_))); (case side2 => exact HC0_2.out); rintro e w8 ⟨rfl, hb⟩; refine ⟨_, rfl, ?_⟩; have n0_ := Ad.mk (Ak (g := gb105) (o := .cells #[.int .i64 a0_0, .int .i64 a0_1, .slice A0_2 l0_2.length c0_2, .int .i64 a0_3, .int .i64 a0_4, .int .i64 a0_5] 58 (0, 0)) (by (with_reducible repeat (first | refine Ab ?_ _ | refine Ac ?_ | refine Aa ?_ _)); exact BK105.out) hb); have n1_ := Ad.mk (Ar (by repeat (first | (with_reducible first | exact HB.out | apply Ah | apply Af | apply Ai | refine Ae ?_ GE105.out) | exact HB.out)) hb); clear BK105; clear HB; have BK105 := n0_; have HB := n1_; clear n0_ n1_; (try clear hb); (try clear hb2); (try clear hk); (try clear hi)))
    (try simp only [Act.put, List.setIfInBounds_toArray, List.set_cons_zero, List.set_cons_succ])
    go_cut [14] (fun v14 wc => ∃ (kq : Nat) (x14_4 : Bool), v14 = .bool x14_4 ∧ Ad (Ay.j0 kq a1 x14_4 a0_0 a0_1 l0_2 a0_3 a0_4 a0_5 = some r) ∧ Ad (kq ≤ k) ∧ Ad (wc.heap[gb105]? = some (.cells #[.int .i64 a0_0, .int .i64 a0_1, (.slice A0_2 l0_2.length c0_2), .int .i64 a0_3, .int .i64 a0_4, .int .i64 a0_5] 58 (0, 0))) ∧ Ad (Below w.heap.size w wc))
    case first =>
      have H := HC5.out
      clear HC5
      by_cases c9 : a0_4 < 1
      · rw [if_pos c9] at H
        have c9b0 : decide (a0_4 < 1) = true := decide_eq_true c9
        clear c9
        (first | rw [c9b0] | (simp only [i64_w, i32_w]; rw [c9b0]) | skip)
        have H' := Ad.mk H
        clear H
        have hcz10_0 : w8.cell? ⟨gb105, 0, none⟩ = some (.int .i64 a0_0) := (Aj BK105.out 0).trans rfl
        have hcz10_1 : w8.cell? ⟨gb105, 1, none⟩ = some (.int .i64 a0_1) := (Aj BK105.out 1).trans rfl
        have hcz10_2 : w8.cell? ⟨gb105, 2, none⟩ = some (.slice A0_2 l0_2.length c0_2) := (Aj BK105.out 2).trans rfl
        have hcz10_3 : w8.cell? ⟨gb105, 3, none⟩ = some (.int .i64 a0_3) := (Aj BK105.out 3).trans rfl
        have hcz10_4 : w8.cell? ⟨gb105, 4, none⟩ = some (.int .i64 a0_4) := (Aj BK105.out 4).trans rfl
        have hcz10_5 : w8.cell? ⟨gb105, 5, none⟩ = some (.int .i64 a0_5) := (Aj BK105.out 5).trans rfl
        have hfz10_0 := Ag BK105.out 0
        have hfz10_1 := Ag BK105.out 1
        have hfz10_2 := Ag BK105.out 2
        have hfz10_3 := Ag BK105.out 3
        have hfz10_4 := Ag BK105.out 4
        have hfz10_5 := Ag BK105.out 5
        go_wp2
        go_meet
        case rel => exact ⟨_, (true), (by first | rfl | (simp; done) | (simp [*]; done)), H', ⟨by first | omega | exact Nat.le_refl _⟩, ⟨by (with_reducible repeat (first | refine Ab ?_ _ | refine Ac ?_ | refine Aa ?_ _)); exact BK105.out⟩, ⟨by repeat (first | (with_reducible first | exact HB.out | apply Ah | apply Af | apply Ai | refine Ae ?_ GE105.out) | exact HB.out)⟩⟩
      · rw [if_neg c9] at H
        have c9b0 : decide (a0_4 < 1) = false := decide_eq_false c9
        clear c9
        (first | rw [c9b0] | (simp only [i64_w, i32_w]; rw [c9b0]) | skip)
        by_cases c11 : a0_5 < 1
        · rw [if_pos c11] at H
          have c11b0 : decide (a0_5 < 1) = true := decide_eq_true c11
          clear c11
          have H' := Ad.mk H
          clear H
          have hcz12_0 : w8.cell? ⟨gb105, 0, none⟩ = some (.int .i64 a0_0) := (Aj BK105.out 0).trans rfl
          have hcz12_1 : w8.cell? ⟨gb105, 1, none⟩ = some (.int .i64 a0_1) := (Aj BK105.out 1).trans rfl
          have hcz12_2 : w8.cell? ⟨gb105, 2, none⟩ = some (.slice A0_2 l0_2.length c0_2) := (Aj BK105.out 2).trans rfl
          have hcz12_3 : w8.cell? ⟨gb105, 3, none⟩ = some (.int .i64 a0_3) := (Aj BK105.out 3).trans rfl
          have hcz12_4 : w8.cell? ⟨gb105, 4, none⟩ = some (.int .i64 a0_4) := (Aj BK105.out 4).trans rfl
          have hcz12_5 : w8.cell? ⟨gb105, 5, none⟩ = some (.int .i64 a0_5) := (Aj BK105.out 5).trans rfl
          have hfz12_0 := Ag BK105.out 0
          have hfz12_1 := Ag BK105.out 1
          have hfz12_2 := Ag BK105.out 2
          have hfz12_3 := Ag BK105.out 3
          have hfz12_4 := Ag BK105.out 4
          have hfz12_5 := Ag BK105.out 5
          go_wp2
          go_meet
          case rel => exact ⟨_, (true), (by first | rfl | (simp; done) | (simp [*]; done)), H', ⟨by first | omega | exact Nat.le_refl _⟩, ⟨by (with_reducible repeat (first | refine Ab ?_ _ | refine Ac ?_ | refine Aa ?_ _)); exact BK105.out⟩, ⟨by repeat (first | (with_reducible first | exact HB.out | apply Ah | apply Af | apply Ai | refine Ae ?_ GE105.out) | exact HB.out)⟩⟩
        · rw [if_neg c11] at H
          have c11b0 : decide (a0_5 < 1) = false := decide_eq_false c11
          clear c11
          by_cases c13 : a0_4 > 15
          · rw [if_pos c13] at H
            have c13b0 : decide (15 < a0_4) = true := decide_eq_true c13
            clear c13
            have H' := Ad.mk H
            clear H
            have hcz14_0 : w8.cell? ⟨gb105, 0, none⟩ = some (.int .i64 a0_0) := (Aj BK105.out 0).trans rfl
            have hcz14_1 : w8.cell? ⟨gb105, 1, none⟩ = some (.int .i64 a0_1) := (Aj BK105.out 1).trans rfl
            have hcz14_2 : w8.cell? ⟨gb105, 2, none⟩ = some (.slice A0_2 l0_2.length c0_2) := (Aj BK105.out 2).trans rfl
            have hcz14_3 : w8.cell? ⟨gb105, 3, none⟩ = some (.int .i64 a0_3) := (Aj BK105.out 3).trans rfl
            have hcz14_4 : w8.cell? ⟨gb105, 4, none⟩ = some (.int .i64 a0_4) := (Aj BK105.out 4).trans rfl
            have hcz14_5 : w8.cell? ⟨gb105, 5, none⟩ = some (.int .i64 a0_5) := (Aj BK105.out 5).trans rfl
            have hfz14_0 := Ag BK105.out 0
            have hfz14_1 := Ag BK105.out 1
            have hfz14_2 := Ag BK105.out 2
            have hfz14_3 := Ag BK105.out 3
            have hfz14_4 := Ag BK105.out 4
            have hfz14_5 := Ag BK105.out 5
            go_wp2
            go_meet
            case rel => exact ⟨_, (true), (by first | rfl | (simp; done) | (simp [*]; done)), H', ⟨by first | omega | exact Nat.le_refl _⟩, ⟨by (with_reducible repeat (first | refine Ab ?_ _ | refine Ac ?_ | refine Aa ?_ _)); exact BK105.out⟩, ⟨by repeat (first | (with_reducible first | exact HB.out | apply Ah | apply Af | apply Ai | refine Ae ?_ GE105.out) | exact HB.out)⟩⟩
          · rw [if_neg c13] at H
            have c13b0 : decide (15 < a0_4) = false := decide_eq_false c13
            clear c13
            have H' := Ad.mk H
            clear H
            have hcz15_0 : w8.cell? ⟨gb105, 0, none⟩ = some (.int .i64 a0_0) := (Aj BK105.out 0).trans rfl
            have hcz15_1 : w8.cell? ⟨gb105, 1, none⟩ = some (.int .i64 a0_1) := (Aj BK105.out 1).trans rfl
            have hcz15_2 : w8.cell? ⟨gb105, 2, none⟩ = some (.slice A0_2 l0_2.length c0_2) := (Aj BK105.out 2).trans rfl
            have hcz15_3 : w8.cell? ⟨gb105, 3, none⟩ = some (.int .i64 a0_3) := (Aj BK105.out 3).trans rfl
            have hcz15_4 : w8.cell? ⟨gb105, 4, none⟩ = some (.int .i64 a0_4) := (Aj BK105.out 4).trans rfl
            have hcz15_5 : w8.cell? ⟨gb105, 5, none⟩ = some (.int .i64 a0_5) := (Aj BK105.out 5).trans rfl
            have hfz15_0 := Ag BK105.out 0
            have hfz15_1 := Ag BK105.out 1
            have hfz15_2 := Ag BK105.out 2
            have hfz15_3 := Ag BK105.out 3
            have hfz15_4 := Ag BK105.out 4
            have hfz15_5 := Ag BK105.out 5
            go_wp2
            go_meet
            case rel => exact ⟨_, (decide (a0_5 > 15)), (by first | rfl | (simp; done) | (simp [*]; done)), H', ⟨by first | omega | exact Nat.le_refl _⟩, ⟨by (with_reducible repeat (first | refine Ab ?_ _ | refine Ac ?_ | refine Aa ?_ _)); exact BK105.out⟩, ⟨by repeat (first | (with_reducible first | exact HB.out | apply Ah | apply Af | apply Ai | refine Ae ?_ GE105.out) | exact HB.out)⟩⟩
    case rest =>
      clear HC5
      try clear c1
      try clear p2
      try clear c3
      try clear c4
      try clear c4b0
      try clear c4b1
      try clear c9
      try clear c9b0
      try clear c11
      try clear c11b0
      try clear c13
      try clear c13b0
      try clear hcz10_0
      try clear hcz10_1
      try clear hcz10_2
      try clear hcz10_3
      try clear hcz10_4
      try clear hcz10_5
      try clear hcz12_0
      try clear hcz12_1
      try clear hcz12_2
      try clear hcz12_3
      try clear hcz12_4
      try clear hcz12_5
      try clear hcz14_0
      try clear hcz14_1
      try clear hcz14_2
      try clear hcz14_3
      try clear hcz14_4
      try clear hcz14_5
      try clear hcz15_0
      try clear hcz15_1
      try clear hcz15_2
      try clear hcz15_3
      try clear hcz15_4
      try clear hcz15_5
      try clear hcz7_0
      try clear hcz7_1
      try clear hcz7_2
      try clear hcz7_3
      try clear hcz7_4
      try clear hcz7_5
      try clear hfz10_0
      try clear hfz10_1
      try clear hfz10_2
      try clear hfz10_3
      try clear hfz10_4
      try clear hfz10_5
      try clear hfz12_0
      try clear hfz12_1
      try clear hfz12_2
      try clear hfz12_3
      try clear hfz12_4
      try clear hfz12_5
      try clear hfz14_0
      try clear hfz14_1
      try clear hfz14_2
      try clear hfz14_3
      try clear hfz14_4
      try clear hfz14_5
      try clear hfz15_0
      try clear hfz15_1
      try clear hfz15_2
      try clear hfz15_3
      try clear hfz15_4
      try clear hfz15_5
      try clear hfz7_0
      try clear hfz7_1
      try clear hfz7_2
      try clear hfz7_3
      try clear hfz7_4
      try clear hfz7_5
      obtain ⟨kq, x14_4, rfl, HA, HJ4, BK105, HB⟩ := hcut
      cases kq with
      | zero => exact absurd HA.out (by simp [Ay.j0])
      | succ kj4 =>
        have H := HA.out
        clear HA
        simp only [Ay.j0] at H
        by_cases c16 : x14_4 = true
        · subst c16
          have H1 : (some 120) = some r := by rw [if_pos rfl] at H; exact H
          clear H
          have H := H1
          clear H1
          obtain rfl := Option.some.inj H
          go_wp2
          go_ret
          exact ⟨by first | rfl | (simp [Bb, Ba] <;> rfl) | (simp [*, Bb, Ba] <;> rfl), by repeat (first | (with_reducible first | exact HB.out | apply Ah | apply Af | apply Ai | refine Ae ?_ GE105.out) | exact HB.out)⟩
        · replace c16 := Bool.eq_false_iff.mpr c16
          subst c16
          have H1 : (if a1 < 0 then (some 121) else (if a1 ≥ (wrap64 (a0_4 * a0_5)) then (some 121) else ((Br.f kj4 a0_3 1 0).bind fun bt107 => (some bt107.2)))) = some r := by rw [if_neg (show ¬ (false = true) by decide)] at H; exact H
          clear H
          have H := H1
          clear H1
          by_cases c17 : a1 < 0
          · rw [if_pos c17] at H
            have c17b0 : decide (a1 < 0) = true := decide_eq_true c17
            clear c17
            obtain rfl := Option.some.inj H
            go_wp2
            go_ret
            exact ⟨by first | rfl | (simp [Bb, Ba] <;> rfl) | (simp [*, Bb, Ba] <;> rfl), by repeat (first | (with_reducible first | exact HB.out | apply Ah | apply Af | apply Ai | refine Ae ?_ GE105.out) | exact HB.out)⟩
          · rw [if_neg c17] at H
            have c17b0 : decide (a1 < 0) = false := decide_eq_false c17
            clear c17
            by_cases c18 : a1 ≥ (wrap64 (a0_4 * a0_5))
            · rw [if_pos c18] at H
              have c18b0 : decide ((wrap64 (a0_4 * a0_5)) ≤ a1) = true := decide_eq_true c18
              clear c18
              obtain rfl := Option.some.inj H
              have hcz19_0 : wc.cell? ⟨gb105, 0, none⟩ = some (.int .i64 a0_0) := (Aj BK105.out 0).trans rfl
              have hcz19_1 : wc.cell? ⟨gb105, 1, none⟩ = some (.int .i64 a0_1) := (Aj BK105.out 1).trans rfl
              have hcz19_2 : wc.cell? ⟨gb105, 2, none⟩ = some (.slice A0_2 l0_2.length c0_2) := (Aj BK105.out 2).trans rfl
              have hcz19_3 : wc.cell? ⟨gb105, 3, none⟩ = some (.int .i64 a0_3) := (Aj BK105.out 3).trans rfl
              have hcz19_4 : wc.cell? ⟨gb105, 4, none⟩ = some (.int .i64 a0_4) := (Aj BK105.out 4).trans rfl
              have hcz19_5 : wc.cell? ⟨gb105, 5, none⟩ = some (.int .i64 a0_5) := (Aj BK105.out 5).trans rfl
              have hfz19_0 := Ag BK105.out 0
              have hfz19_1 := Ag BK105.out 1
              have hfz19_2 := Ag BK105.out 2
              have hfz19_3 := Ag BK105.out 3
              have hfz19_4 := Ag BK105.out 4
              have hfz19_5 := Ag BK105.out 5
              go_wp2
              go_ret
              exact ⟨by first | rfl | (simp [Bb, Ba] <;> rfl) | (simp [*, Bb, Ba] <;> rfl), by repeat (first | (with_reducible first | exact HB.out | apply Ah | apply Af | apply Ai | refine Ae ?_ GE105.out) | exact HB.out)⟩
            · rw [if_neg c18] at H
              have c18b0 : decide ((wrap64 (a0_4 * a0_5)) ≤ a1) = false := decide_eq_false c18
              clear c18
              replace H := Option.bind_eq_some_iff.mp H
              obtain ⟨⟨t107, t108⟩, A200, H⟩ := H
              replace H : (some t108) = some r := H
              have A20 := Ad.mk A200
              clear A200
              obtain rfl := Option.some.inj H
              have hcz21_0 : wc.cell? ⟨gb105, 0, none⟩ = some (.int .i64 a0_0) := (Aj BK105.out 0).trans rfl
              have hcz21_1 : wc.cell? ⟨gb105, 1, none⟩ = some (.int .i64 a0_1) := (Aj BK105.out 1).trans rfl
              have hcz21_2 : wc.cell? ⟨gb105, 2, none⟩ = some (.slice A0_2 l0_2.length c0_2) := (Aj BK105.out 2).trans rfl
              have hcz21_3 : wc.cell? ⟨gb105, 3, none⟩ = some (.int .i64 a0_3) := (Aj BK105.out 3).trans rfl
              have hcz21_4 : wc.cell? ⟨gb105, 4, none⟩ = some (.int .i64 a0_4) := (Aj BK105.out 4).trans rfl
              have hcz21_5 : wc.cell? ⟨gb105, 5, none⟩ = some (.int .i64 a0_5) := (Aj BK105.out 5).trans rfl
              have hfz21_0 := Ag BK105.out 0
              have hfz21_1 := Ag BK105.out 1
              have hfz21_2 := Ag BK105.out 2
              have hfz21_3 := Ag BK105.out 3
              have hfz21_4 := Ag BK105.out 4
              have hfz21_5 := Ag BK105.out 5
              go_wp2_with (first | ((with_reducible refine Bi (f := 46) rfl ?_); refine Bx (some 48) rfl rfl Try.func46 (by kernel_rfl) rfl #[.int .i64 a0_3, .int .i64 1, .int .i64 0] rfl (by (try simp only [List.map_toArray, List.map_cons, List.map_nil]); first | done | rfl | (simp only [List.length_drop, List.length_take]; rfl)) ?_; (with_reducible refine (Br.calls kj4 a0_3 1 0 t107 t108 _ A20.out).mono ?_); rintro e w22 ⟨rfl, hb⟩; refine ⟨_, rfl, ?_⟩; have n0_ := Ad.mk (Ak (g := gb105) (o := .cells #[.int .i64 a0_0, .int .i64 a0_1, .slice A0_2 l0_2.length c0_2, .int .i64 a0_3, .int .i64 a0_4, .int .i64 a0_5] 58 (0, 0)) (by (with_reducible repeat (first | refine Ab ?_ _ | refine Ac ?_ | refine Aa ?_ _)); exact BK105.out) hb); have n1_ := Ad.mk (Ar (by repeat (first | (with_reducible first | exact HB.out | apply Ah | apply Af | apply Ai | refine Ae ?_ GE105.out) | exact HB.out)) hb); clear BK105; clear HB; have BK105 := n0_; have HB := n1_; clear n0_ n1_; (try clear hb); (try clear hb2); (try clear hk); (try clear hi)))
              go_ret
              exact ⟨by first | rfl | (simp [Bb, Ba] <;> rfl) | (simp [*, Bb, Ba] <;> rfl), by repeat (first | (with_reducible first | exact HB.out | apply Ah | apply Af | apply Ai | refine Ae ?_ GE105.out) | exact HB.out)⟩
  · rw [if_neg c4] at H
    have c4b0 : (t106 == 0) = false := beq_eq_false_iff_ne.mpr c4
    have c4b1 : (t106 != 0) = true := bne_iff_ne.mpr c4
    obtain rfl := Option.some.inj H
    go_enter Try.func31, Try.ntmps31
    go_wp2_with (first | ((with_reducible refine Bj (N := 2) rfl ?_); refine Bh ?hg (N := 2) ?hd (cs := #[.int .i64 a0_0, .int .i64 a0_1, .slice A0_2 l0_2.length c0_2, .int .i64 a0_3, .int .i64 a0_4, .int .i64 a0_5]) (t := 58) ?hr ?_; (case hd => rfl); (case hg => rfl); (case hr => first | (go_simp; done) | (go_simp; rfl)); intro gb105 hg w23 hbox hb; have n0_ := Ad.mk (Ar (by repeat (first | (with_reducible first | exact HB.out | apply Ah | apply Af | apply Ai) | exact HB.out)) hb); have n1_ := Ad.mk (hbox); have n2_ := Ad.mk ((by rw [hg]; exact (Ap (by repeat (first | (with_reducible first | exact HB.out | apply Ah | apply Af | apply Ai) | exact HB.out))) : w.heap.size ≤ gb105)); have n3_ := Ad.mk ((by rw [hg]; exact (Ap (by repeat (first | (with_reducible first | exact HB.out | apply Ah | apply Af | apply Ai) | exact HB.out))) : w.heap.size ≤ gb105)); clear HB; have HB := n0_; have BK105 := n1_; have GW105 := n2_; have GE105 := n3_; clear n0_ n1_ n2_ n3_; clear hb hbox hg; have hcz24_0 : w23.cell? ⟨gb105, 0, none⟩ = some (.int .i64 a0_0) := (Aj BK105.out 0).trans rfl; have hcz24_1 : w23.cell? ⟨gb105, 1, none⟩ = some (.int .i64 a0_1) := (Aj BK105.out 1).trans rfl; have hcz24_2 : w23.cell? ⟨gb105, 2, none⟩ = some (.slice A0_2 l0_2.length c0_2) := (Aj BK105.out 2).trans rfl; have hcz24_3 : w23.cell? ⟨gb105, 3, none⟩ = some (.int .i64 a0_3) := (Aj BK105.out 3).trans rfl; have hcz24_4 : w23.cell? ⟨gb105, 4, none⟩ = some (.int .i64 a0_4) := (Aj BK105.out 4).trans rfl; have hcz24_5 : w23.cell? ⟨gb105, 5, none⟩ = some (.int .i64 a0_5) := (Aj BK105.out 5).trans rfl; have hfz24_0 := Ag BK105.out 0; have hfz24_1 := Ag BK105.out 1; have hfz24_2 := Ag BK105.out 2; have hfz24_3 := Ag BK105.out 3; have hfz24_4 := Ag BK105.out 4; have hfz24_5 := Ag BK105.out 5) | ((with_reducible refine Bi (f := 45) rfl ?_); refine Bx (some 10) rfl rfl Try.func45 (by kernel_rfl) rfl #[.agg #[.int .i64 a0_0, .int .i64 a0_1, .slice A0_2 l0_2.length c0_2]] rfl (by (try simp only [List.map_toArray, List.map_cons, List.map_nil]); first | done | rfl | (simp only [List.length_drop, List.length_take]; rfl)) ?_; (with_reducible refine (B9.calls a0_0 a0_1 _ _ l0_2 t106 _ ?side1 ?side2 A3.out).mono ?_); (case side1 => repeat (first | exact (Kd.Bw HR0_2.out HB.out) | (with_reducible refine Kd.B5 ?_ _) | (with_reducible refine Kd.B6 ?_ _) | (with_reducible refine Kd.Ca ?_))); (case side2 => exact HC0_2.out); rintro e w25 ⟨rfl, hb⟩; refine ⟨_, rfl, ?_⟩; have n0_ := Ad.mk (Ak (g := gb105) (o := .cells #[.int .i64 a0_0, .int .i64 a0_1, .slice A0_2 l0_2.length c0_2, .int .i64 a0_3, .int .i64 a0_4, .int .i64 a0_5] 58 (0, 0)) (by (with_reducible repeat (first | refine Ab ?_ _ | refine Ac ?_ | refine Aa ?_ _)); exact BK105.out) hb); have n1_ := Ad.mk (Ar (by repeat (first | (with_reducible first | exact HB.out | apply Ah | apply Af | apply Ai | refine Ae ?_ GE105.out) | exact HB.out)) hb); clear BK105; clear HB; have BK105 := n0_; have HB := n1_; clear n0_ n1_; (try clear hb); (try clear hb2); (try clear hk); (try clear hi)))
    go_ret
    exact ⟨by first | rfl | (simp [Bb, Ba] <;> rfl) | (simp [*, Bb, Ba] <;> rfl), by repeat (first | (with_reducible first | exact HB.out | apply Ah | apply Af | apply Ai | refine Ae ?_ GE105.out) | exact HB.out)⟩

def bits_Key.f (a0 : Int) : Option (Int) := if a0 < 2147483648 then (some ((a0 + 2147483648) % 4294967296)) else (some ((4294967295 - a0) % 4294967296))
set_option maxHeartbeats 8000000 in
set_option maxRecDepth 100000 in
theorem bits_Key.calls (a0 : Int) (r : Int) (w : World) (h : bits_Key.f a0 = some r) :
    Calls Try.prog 50 #[.int .u32 a0] w fun e w' => e = .returned (.int .u32 r) ∧ Drawn0 w w' := by
  have H : (if a0 < 2147483648 then (some ((a0 + 2147483648) % 4294967296)) else (some ((4294967295 - a0) % 4294967296))) = some r := h
  clear h
  by_cases c2 : a0 < 2147483648
  · rw [if_pos c2] at H
    have c2b0 : decide (a0 < 2147483648) = true := decide_eq_true c2
    clear c2
    obtain rfl := Option.some.inj H
    go_enter Try.func50, Try.ntmps50
    go_wp2
    go_ret
    exact ⟨by first | rfl | (simp; done) | (simp [*]; done), by repeat (first | exact Drawn0.refl _ | apply Drawn0.step)⟩
  · rw [if_neg c2] at H
    have c2b0 : decide (a0 < 2147483648) = false := decide_eq_false c2
    clear c2
    obtain rfl := Option.some.inj H
    go_enter Try.func50, Try.ntmps50
    go_wp2
    go_ret
    exact ⟨by first | rfl | (simp; done) | (simp [*]; done), by repeat (first | exact Drawn0.refl _ | apply Drawn0.step)⟩

def cmp_isNaN_uint32.f (a0 : Int) : Option (Bool) := some (a0 != a0)
set_option maxHeartbeats 8000000 in
set_option maxRecDepth 100000 in
theorem cmp_isNaN_uint32.calls (a0 : Int) (r : Bool) (w : World) (h : cmp_isNaN_uint32.f a0 = some r) :
    Calls Try.prog 56 #[.int .u32 a0] w fun e w' => e = .returned (.bool r) ∧ Drawn0 w w' := by
  have H : (some (a0 != a0)) = some r := h
  clear h
  obtain rfl := Option.some.inj H
  go_enter Try.func56, Try.ntmps56
  go_wp2
  go_ret
  exact ⟨by first | rfl | (simp; done) | (simp [*]; done), by repeat (first | exact Drawn0.refl _ | apply Drawn0.step)⟩

def cmp_Compare_uint32.f (a0 : Int) (a1 : Int) : Option (Int) := (cmp_isNaN_uint32.f a0).bind fun t109 => ((cmp_isNaN_uint32.f a1).bind fun t110 => (if t109 = true then (if t110 = true then (some 0) else (some (-1))) else (if t110 = true then (some 1) else (if a0 < a1 then (some (-1)) else (if a0 > a1 then (some 1) else (some 0))))))
set_option maxHeartbeats 8000000 in
set_option maxRecDepth 100000 in
theorem cmp_Compare_uint32.calls (a0 : Int) (a1 : Int) (r : Int) (w : World) (h : cmp_Compare_uint32.f a0 a1 = some r) :
    Calls Try.prog 49 #[.int .u32 a0, .int .u32 a1] w fun e w' => e = .returned (.int .i64 r) ∧ Drawn0 w w' := by
  have H : ((cmp_isNaN_uint32.f a0).bind fun t109 => ((cmp_isNaN_uint32.f a1).bind fun t110 => (if t109 = true then (if t110 = true then (some 0) else (some (-1))) else (if t110 = true then (some 1) else (if a0 < a1 then (some (-1)) else (if a0 > a1 then (some 1) else (some 0))))))) = some r := h
  clear h
  replace H := Option.bind_eq_some_iff.mp H
  obtain ⟨t109, A30, H⟩ := H
  replace H : ((cmp_isNaN_uint32.f a1).bind fun t110 => (if t109 = true then (if t110 = true then (some 0) else (some (-1))) else (if t110 = true then (some 1) else (if a0 < a1 then (some (-1)) else (if a0 > a1 then (some 1) else (some 0)))))) = some r := H
  have A3 := Ad.mk A30
  clear A30
  replace H := Option.bind_eq_some_iff.mp H
  obtain ⟨t110, A40, H⟩ := H
  replace H : (if t109 = true then (if t110 = true then (some 0) else (some (-1))) else (if t110 = true then (some 1) else (if a0 < a1 then (some (-1)) else (if a0 > a1 then (some 1) else (some 0))))) = some r := H
  have A4 := Ad.mk A40
  clear A40
  by_cases c5 : t109 = true
  · subst c5
    have H1 : (if t110 = true then (some 0) else (some (-1))) = some r := by rw [if_pos rfl] at H; exact H
    clear H
    have H := H1
    clear H1
    by_cases c6 : t110 = true
    · subst c6
      have H1 : (some 0) = some r := by rw [if_pos rfl] at H; exact H
      clear H
      have H := H1
      clear H1
      obtain rfl := Option.some.inj H
      go_enter Try.func49, Try.ntmps49
      go_wp2_with (first | ((with_reducible refine Bi (f := 56) rfl ?_); refine Bx (some 8) rfl rfl Try.func56 (by kernel_rfl) rfl #[.int .u32 a0] rfl (by (try simp only [List.map_toArray, List.map_cons, List.map_nil]); first | done | rfl | (simp only [List.length_drop, List.length_take]; rfl)) ?_; (with_reducible refine (cmp_isNaN_uint32.calls a0 true _ A3.out).mono ?_); rintro e w' ⟨rfl, ⟨nd, rfl⟩⟩; refine ⟨_, rfl, ?_⟩) | ((with_reducible refine Bi (f := 56) rfl ?_); refine Bx (some 10) rfl rfl Try.func56 (by kernel_rfl) rfl #[.int .u32 a1] rfl (by (try simp only [List.map_toArray, List.map_cons, List.map_nil]); first | done | rfl | (simp only [List.length_drop, List.length_take]; rfl)) ?_; (with_reducible refine (cmp_isNaN_uint32.calls a1 true _ A4.out).mono ?_); rintro e w' ⟨rfl, ⟨nd, rfl⟩⟩; refine ⟨_, rfl, ?_⟩))
      go_ret
      exact ⟨by first | rfl | (simp; done) | (simp [*]; done), by repeat (first | exact Drawn0.refl _ | apply Drawn0.step)⟩
    · replace c6 := Bool.eq_false_iff.mpr c6
      subst c6
      have H1 : (some (-1)) = some r := by rw [if_neg (show ¬ (false = true) by decide)] at H; exact H
      clear H
      have H := H1
      clear H1
      obtain rfl := Option.some.inj H
      go_enter Try.func49, Try.ntmps49
      go_wp2_with (first | ((with_reducible refine Bi (f := 56) rfl ?_); refine Bx (some 8) rfl rfl Try.func56 (by kernel_rfl) rfl #[.int .u32 a0] rfl (by (try simp only [List.map_toArray, List.map_cons, List.map_nil]); first | done | rfl | (simp only [List.length_drop, List.length_take]; rfl)) ?_; (with_reducible refine (cmp_isNaN_uint32.calls a0 true _ A3.out).mono ?_); rintro e w' ⟨rfl, ⟨nd, rfl⟩⟩; refine ⟨_, rfl, ?_⟩) | ((with_reducible refine Bi (f := 56) rfl ?_); refine Bx (some 10) rfl rfl Try.func56 (by kernel_rfl) rfl #[.int .u32 a1] rfl (by (try simp only [List.map_toArray, List.map_cons, List.map_nil]); first | done | rfl | (simp only [List.length_drop, List.length_take]; rfl)) ?_; (with_reducible refine (cmp_isNaN_uint32.calls a1 false _ A4.out).mono ?_); rintro e w' ⟨rfl, ⟨nd, rfl⟩⟩; refine ⟨_, rfl, ?_⟩))
      go_ret
      exact ⟨by first | rfl | (simp; done) | (simp [*]; done), by repeat (first | exact Drawn0.refl _ | apply Drawn0.step)⟩
  · replace c5 := Bool.eq_false_iff.mpr c5
    subst c5
    have H1 : (if t110 = true then (some 1) else (if a0 < a1 then (some (-1)) else (if a0 > a1 then (some 1) else (some 0)))) = some r := by rw [if_neg (show ¬ (false = true) by decide)] at H; exact H
    clear H
    have H := H1
    clear H1
    by_cases c7 : t110 = true
    · subst c7
      have H1 : (some 1) = some r := by rw [if_pos rfl] at H; exact H
      clear H
      have H := H1
      clear H1
      obtain rfl := Option.some.inj H
      go_enter Try.func49, Try.ntmps49
      go_wp2_with (first | ((with_reducible refine Bi (f := 56) rfl ?_); refine Bx (some 8) rfl rfl Try.func56 (by kernel_rfl) rfl #[.int .u32 a0] rfl (by (try simp only [List.map_toArray, List.map_cons, List.map_nil]); first | done | rfl | (simp only [List.length_drop, List.length_take]; rfl)) ?_; (with_reducible refine (cmp_isNaN_uint32.calls a0 false _ A3.out).mono ?_); rintro e w' ⟨rfl, ⟨nd, rfl⟩⟩; refine ⟨_, rfl, ?_⟩) | ((with_reducible refine Bi (f := 56) rfl ?_); refine Bx (some 10) rfl rfl Try.func56 (by kernel_rfl) rfl #[.int .u32 a1] rfl (by (try simp only [List.map_toArray, List.map_cons, List.map_nil]); first | done | rfl | (simp only [List.length_drop, List.length_take]; rfl)) ?_; (with_reducible refine (cmp_isNaN_uint32.calls a1 true _ A4.out).mono ?_); rintro e w' ⟨rfl, ⟨nd, rfl⟩⟩; refine ⟨_, rfl, ?_⟩))
      go_ret
      exact ⟨by first | rfl | (simp; done) | (simp [*]; done), by repeat (first | exact Drawn0.refl _ | apply Drawn0.step)⟩
    · replace c7 := Bool.eq_false_iff.mpr c7
      subst c7
      have H1 : (if a0 < a1 then (some (-1)) else (if a0 > a1 then (some 1) else (some 0))) = some r := by rw [if_neg (show ¬ (false = true) by decide)] at H; exact H
      clear H
      have H := H1
      clear H1
      by_cases c8 : a0 < a1
      · rw [if_pos c8] at H
        have c8b0 : decide (a0 < a1) = true := decide_eq_true c8
        clear c8
        obtain rfl := Option.some.inj H
        go_enter Try.func49, Try.ntmps49
        go_wp2_with (first | ((with_reducible refine Bi (f := 56) rfl ?_); refine Bx (some 8) rfl rfl Try.func56 (by kernel_rfl) rfl #[.int .u32 a0] rfl (by (try simp only [List.map_toArray, List.map_cons, List.map_nil]); first | done | rfl | (simp only [List.length_drop, List.length_take]; rfl)) ?_; (with_reducible refine (cmp_isNaN_uint32.calls a0 false _ A3.out).mono ?_); rintro e w' ⟨rfl, ⟨nd, rfl⟩⟩; refine ⟨_, rfl, ?_⟩) | ((with_reducible refine Bi (f := 56) rfl ?_); refine Bx (some 10) rfl rfl Try.func56 (by kernel_rfl) rfl #[.int .u32 a1] rfl (by (try simp only [List.map_toArray, List.map_cons, List.map_nil]); first | done | rfl | (simp only [List.length_drop, List.length_take]; rfl)) ?_; (with_reducible refine (cmp_isNaN_uint32.calls a1 false _ A4.out).mono ?_); rintro e w' ⟨rfl, ⟨nd, rfl⟩⟩; refine ⟨_, rfl, ?_⟩))
        go_ret
        exact ⟨by first | rfl | (simp; done) | (simp [*]; done), by repeat (first | exact Drawn0.refl _ | apply Drawn0.step)⟩
      · rw [if_neg c8] at H
        have c8b0 : decide (a0 < a1) = false := decide_eq_false c8
        clear c8
        by_cases c9 : a0 > a1
        · rw [if_pos c9] at H
          have c9b0 : decide (a1 < a0) = true := decide_eq_true c9
          clear c9
          obtain rfl := Option.some.inj H
          go_enter Try.func49, Try.ntmps49
          go_wp2_with (first | ((with_reducible refine Bi (f := 56) rfl ?_); refine Bx (some 8) rfl rfl Try.func56 (by kernel_rfl) rfl #[.int .u32 a0] rfl (by (try simp only [List.map_toArray, List.map_cons, List.map_nil]); first | done | rfl | (simp only [List.length_drop, List.length_take]; rfl)) ?_; (with_reducible refine (cmp_isNaN_uint32.calls a0 false _ A3.out).mono ?_); rintro e w' ⟨rfl, ⟨nd, rfl⟩⟩; refine ⟨_, rfl, ?_⟩) | ((with_reducible refine Bi (f := 56) rfl ?_); refine Bx (some 10) rfl rfl Try.func56 (by kernel_rfl) rfl #[.int .u32 a1] rfl (by (try simp only [List.map_toArray, List.map_cons, List.map_nil]); first | done | rfl | (simp only [List.length_drop, List.length_take]; rfl)) ?_; (with_reducible refine (cmp_isNaN_uint32.calls a1 false _ A4.out).mono ?_); rintro e w' ⟨rfl, ⟨nd, rfl⟩⟩; refine ⟨_, rfl, ?_⟩))
          go_ret
          exact ⟨by first | rfl | (simp; done) | (simp [*]; done), by repeat (first | exact Drawn0.refl _ | apply Drawn0.step)⟩
        · rw [if_neg c9] at H
          have c9b0 : decide (a1 < a0) = false := decide_eq_false c9
          clear c9
          obtain rfl := Option.some.inj H
          go_enter Try.func49, Try.ntmps49
          go_wp2_with (first | ((with_reducible refine Bi (f := 56) rfl ?_); refine Bx (some 8) rfl rfl Try.func56 (by kernel_rfl) rfl #[.int .u32 a0] rfl (by (try simp only [List.map_toArray, List.map_cons, List.map_nil]); first | done | rfl | (simp only [List.length_drop, List.length_take]; rfl)) ?_; (with_reducible refine (cmp_isNaN_uint32.calls a0 false _ A3.out).mono ?_); rintro e w' ⟨rfl, ⟨nd, rfl⟩⟩; refine ⟨_, rfl, ?_⟩) | ((with_reducible refine Bi (f := 56) rfl ?_); refine Bx (some 10) rfl rfl Try.func56 (by kernel_rfl) rfl #[.int .u32 a1] rfl (by (try simp only [List.map_toArray, List.map_cons, List.map_nil]); first | done | rfl | (simp only [List.length_drop, List.length_take]; rfl)) ?_; (with_reducible refine (cmp_isNaN_uint32.calls a1 false _ A4.out).mono ?_); rintro e w' ⟨rfl, ⟨nd, rfl⟩⟩; refine ⟨_, rfl, ?_⟩))
          go_ret
          exact ⟨by first | rfl | (simp; done) | (simp [*]; done), by repeat (first | exact Drawn0.refl _ | apply Drawn0.step)⟩

end Go.Proofs.Ythpmkelcjlljmaa.PRA

