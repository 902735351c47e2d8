import Derived.Test.YteamphcehoaleaaZPFAx0
namespace Go.Proofs.Yteamphcehoaleaa.PFA
open Go.RowKit Go.Proofs.YteamphcehoaleaaW.PrintWords Go.Proofs.YteamphcehoaleaaW.PrintLast Go.Proofs.YteamphcehoaleaaW.PrintMore
attribute [local go_sem] max2_int min2_int max_two min_two max_three min_three max_four min_four   -- for this text's walks alone
set_option linter.unusedVariables false
set_option linter.unusedSimpArgs false

mutual
def Ax.j0 : Nat → Bool → Int → Int → List Bool → Int → Int → List Bool → Option (Bool)
 | 0, _, _, _, _, _, _, _ => none
 | k + 1, x26, x190000, x190001, x190002, x191000, x191001, x191002 => if x26 = true then (some false) else (Ax.l0 k 0 x190000 x190001 x190002 x191000 x191001 x191002)
def Ax.l0 : Nat → Int → Int → Int → List Bool → Int → Int → List Bool → Option (Bool)
 | 0, _, _, _, _, _, _, _ => none
 | k + 1, x5, x190000, x190001, x190002, x191000, x191001, x191002 => if x5 < (x190002.length : Int) then (if 0 ≤ x5 then (if x5 < (x191002.length : Int) then (if ((rdOf false x190002 x5) != (rdOf false x191002 x5)) = true then (some false) else (Ax.l0 k (wrap64 (x5 + 1)) x190000 x190001 x190002 x191000 x191001 x191002)) else (none)) else (none)) else (some true)
end
def Ax.f (k : Nat) (a0_0 : Int) (a0_1 : Int) (l0_2 : List Bool) (a1_0 : Int) (a1_1 : Int) (l1_2 : List Bool) : Option (Bool) := if a0_0 = a1_0 then (if a0_1 = a1_1 then (Ax.j0 k ((l0_2.length : Int) != (l1_2.length : Int)) a0_0 a0_1 l0_2 a1_0 a1_1 l1_2) else (Ax.j0 k true a0_0 a0_1 l0_2 a1_0 a1_1 l1_2)) else (Ax.j0 k true a0_0 a0_1 l0_2 a1_0 a1_1 l1_2)
theorem Ax.mono_l : ∀ k, (∀ y0 y1 y2 y3 y4 y5 y6, LeO (Ax.j0 k y0 y1 y2 y3 y4 y5 y6) (Ax.j0 (k + 1) y0 y1 y2 y3 y4 y5 y6)) ∧ (∀ y0 y1 y2 y3 y4 y5 y6, LeO (Ax.l0 k y0 y1 y2 y3 y4 y5 y6) (Ax.l0 (k + 1) y0 y1 y2 y3 y4 y5 y6))
 | 0 => ⟨fun _ _ _ _ _ _ _ r h => by simp [Ax.j0] at h, fun _ _ _ _ _ _ _ r h => by simp [Ax.l0] at h⟩
 | k + 1 => by
  obtain ⟨ih0, ih1⟩ := Ax.mono_l k
  refine ⟨?_, ?_⟩
  ·intro y0 y1 y2 y3 y4 y5 y6
   unfold Ax.j0
   repeat' first
   | (with_reducible exact ih0 _ _ _ _ _ _ _)
   | (with_reducible exact ih1 _ _ _ _ _ _ _)
   | (with_reducible exact LeO.refl _)
   | (with_reducible exact LeO.none _)
   | (with_reducible refine LeO.ite ?_ ?_)
   | (with_reducible refine LeO.bind ?_ (fun _ => ?_))
   | exact ih0 _ _ _ _ _ _ _
   | exact ih1 _ _ _ _ _ _ _
   | exact LeO.none _
   | refine LeO.ite ?_ ?_
   | refine LeO.bind ?_ (fun _ => ?_)
  ·intro y0 y1 y2 y3 y4 y5 y6
   unfold Ax.l0
   repeat' first
   | (with_reducible exact ih0 _ _ _ _ _ _ _)
   | (with_reducible exact ih1 _ _ _ _ _ _ _)
   | (with_reducible exact LeO.refl _)
   | (with_reducible exact LeO.none _)
   | (with_reducible refine LeO.ite ?_ ?_)
   | (with_reducible refine LeO.bind ?_ (fun _ => ?_))
   | exact ih0 _ _ _ _ _ _ _
   | exact ih1 _ _ _ _ _ _ _
   | exact LeO.none _
   | refine LeO.ite ?_ ?_
   | refine LeO.bind ?_ (fun _ => ?_)
theorem Ax.mono : ∀ a0 a1 a2 a3 a4 a5 k, LeO (Ax.f k a0 a1 a2 a3 a4 a5) (Ax.f (k + 1) a0 a1 a2 a3 a4 a5) := by
 intro a0 a1 a2 a3 a4 a5 k
 obtain ⟨ih0, ih1⟩ := Ax.mono_l k
 unfold Ax.f
 repeat' first
   | (with_reducible exact ih0 _ _ _ _ _ _ _)
   | (with_reducible exact ih1 _ _ _ _ _ _ _)
   | (with_reducible exact LeO.refl _)
   | (with_reducible exact LeO.none _)
   | (with_reducible refine LeO.ite ?_ ?_)
   | (with_reducible refine LeO.bind ?_ (fun _ => ?_))
   | exact ih0 _ _ _ _ _ _ _
   | exact ih1 _ _ _ _ _ _ _
   | exact LeO.none _
   | refine LeO.ite ?_ ?_
   | refine LeO.bind ?_ (fun _ => ?_)
set_option maxHeartbeats 8000000 in
set_option maxRecDepth 100000 in
theorem Ax.calls (k : Nat) (a0_0 : Int) (a0_1 : Int) (A0_2 : Option Addr) (c0_2 : Nat) (l0_2 : List Bool) (a1_0 : Int) (a1_1 : Int) (A1_2 : Option Addr) (c1_2 : Nat) (l1_2 : List Bool) (r : Bool) (w : World) (hr0_2 : Kd.C Kd.bool w A0_2 l0_2.length l0_2) (hc0_2 : l0_2.length ≤ c0_2) (hr1_2 : Kd.C Kd.bool w A1_2 l1_2.length l1_2) (hc1_2 : l1_2.length ≤ c1_2) (h : Ax.f k a0_0 a0_1 l0_2 a1_0 a1_1 l1_2 = some r) :
  Calls Try.prog 40 #[.agg #[.int .i64 a0_0, .int .i64 a0_1, .slice A0_2 l0_2.length c0_2], .agg #[.int .i64 a1_0, .int .i64 a1_1, .slice A1_2 l1_2.length c1_2]] w fun e w' => e = .returned (.bool r) ∧ Below w.heap.size w w' := by
 have hu50 := Try.underlying50
 have HR0_2 := Aa.mk hr0_2
 have HC0_2 := Aa.mk hc0_2
 clear hr0_2 hc0_2
 have HR1_2 := Aa.mk hr1_2
 have HC1_2 := Aa.mk hc1_2
 clear hr1_2 hc1_2
 have HB := Aa.mk (Below.refl w.heap.size w)
 have H : (if a0_0 = a1_0 then (if a0_1 = a1_1 then (Ax.j0 k ((l0_2.length : Int) != (l1_2.length : Int)) a0_0 a0_1 l0_2 a1_0 a1_1 l1_2) else (Ax.j0 k true a0_0 a0_1 l0_2 a1_0 a1_1 l1_2)) else (Ax.j0 k true a0_0 a0_1 l0_2 a1_0 a1_1 l1_2)) = some r := h
 clear h
 have HC3 := Aa.mk H
 clear H
 go_enter Try.func40, Try.ntmps40
 go_upto_region 1 with (first | ((with_reducible refine Bk (N := 2) rfl ?_); (try (refine Cx (by rfl) ?_; dsimp only)); refine Bp ?hg (N := 2) ?hd (cs := #[.int .i64 a0_0, .int .i64 a0_1, .slice A0_2 l0_2.length c0_2]) (t := 50) ?hr ?_; (case hd => rfl); (case hg => rfl); (case hr => first | (go_simp; done) | (go_simp; rfl)); intro gb189 hg w4 hbox hb; have n0_ := Aa.mk (Ar (lU HB.out) hb); have n1_ := Aa.mk (hbox); have n2_ := Aa.mk ((by rw [hg]; exact (Ak (lU HB.out)) : w.heap.size ≤ gb189)); have n3_ := Aa.mk ((by rw [hg]; exact (Ak (lU HB.out)) : w.heap.size ≤ gb189)); clear HB; have HB := n0_; have BK189 := n1_; have GW189 := n2_; have GE189 := n3_; clear n0_ n1_ n2_ n3_; clear hb hbox hg) | ((with_reducible refine Bk (N := 3) rfl ?_); (try (refine Cx (by rfl) ?_; dsimp only)); refine Bp ?hg (N := 3) ?hd (cs := #[.int .i64 a1_0, .int .i64 a1_1, .slice A1_2 l1_2.length c1_2]) (t := 50) ?hr ?_; (case hd => rfl); (case hg => rfl); (case hr => first | (go_simp; done) | (go_simp; rfl)); intro gb190 hg w5 hbox hb; have n0_ := Aa.mk (An (g := gb189) (o := .cells #[.int .i64 a0_0, .int .i64 a0_1, .slice A0_2 l0_2.length c0_2] 50 (0, 0)) (by exact bU <| BK189.out) hb); have n1_ := Aa.mk (Ar (by repeat (first | (with_reducible first | exact HB.out | apply Ad | apply Ac | apply Ah | refine Af ?_ GE189.out) | exact HB.out)) hb); have n2_ := Aa.mk (hbox); have n3_ := Aa.mk ((by rw [hg]; exact (Ak (by repeat (first | (with_reducible first | exact HB.out | apply Ad | apply Ac | apply Ah | refine Af ?_ GE189.out) | exact HB.out))) : w.heap.size ≤ gb190)); have n4_ := Aa.mk ((by rw [hg]; exact (Ak (by repeat (first | (with_reducible first | exact HB.out | apply Ad | apply Ac | apply Ah | refine Af ?_ GE189.out) | exact HB.out))) : w.heap.size ≤ gb190)); have n5_ := Aa.mk ((by rw [hg]; exact Nat.ne_of_lt (Br (g := gb189) (o := .cells #[.int .i64 a0_0, .int .i64 a0_1, .slice A0_2 l0_2.length c0_2] 50 (0, 0)) (by exact bU <| BK189.out)) : gb189 ≠ gb190)); have n6_ := Aa.mk ((by rw [hg]; exact Nat.ne_of_gt (Br (g := gb189) (o := .cells #[.int .i64 a0_0, .int .i64 a0_1, .slice A0_2 l0_2.length c0_2] 50 (0, 0)) (by exact bU <| BK189.out)) : gb190 ≠ gb189)); clear BK189; clear HB; have BK189 := n0_; have HB := n1_; have BK190 := n2_; have GW190 := n3_; have GE190 := n4_; have NB189_190 := n5_; have NB190_189 := n6_; clear n0_ n1_ n2_ n3_ n4_ n5_ n6_; clear hb hbox hg))
 repeat (go_quiet (fail); go_upto_region 1 with (fail))
 (try simp only [Act.put, sA, sB, sC])
 go_cut [26] (fun v26 wc => ∃ (kq : Nat) (x26_2 : Bool), v26 = .bool x26_2 ∧ Aa (Ax.j0 kq x26_2 a0_0 a0_1 l0_2 a1_0 a1_1 l1_2 = some r) ∧ Aa (kq ≤ k) ∧ Aa (wc.heap[gb189]? = some (.cells #[.int .i64 a0_0, .int .i64 a0_1, (.slice A0_2 l0_2.length c0_2)] 50 (0, 0))) ∧ Aa (wc.heap[gb190]? = some (.cells #[.int .i64 a1_0, .int .i64 a1_1, (.slice A1_2 l1_2.length c1_2)] 50 (0, 0))) ∧ Aa (Below w.heap.size w wc))
 case first =>
  have H := HC3.out
  clear HC3
  by_cases c6 : a0_0 = a1_0
  ·rw [if_pos c6] at H
   have c6b0 : (a0_0 == a1_0) = true := beq_iff_eq.mpr c6
   have c6b1 : (a0_0 != a1_0) = false := bne_eq_false_iff_eq.mpr c6
   clear c6
   (first | rw [c6b0] | (simp only [i64_w, i32_w]; rw [c6b0]) | skip)
   by_cases c7 : a0_1 = a1_1
   ·rw [if_pos c7] at H
    have c7b0 : (a0_1 == a1_1) = true := beq_iff_eq.mpr c7
    have c7b1 : (a0_1 != a1_1) = false := bne_eq_false_iff_eq.mpr c7
    clear c7
    have H' := Aa.mk H
    clear H
    have hnb8 := NB189_190.out
    have hnc8 := NB190_189.out
    have hcz9_0 : w5.cell? ⟨gb189, 0, none⟩ = some (.int .i64 a0_0) := (Ae BK189.out 0).trans rfl
    have hcz9_1 : w5.cell? ⟨gb189, 1, none⟩ = some (.int .i64 a0_1) := (Ae BK189.out 1).trans rfl
    have hcz9_2 : w5.cell? ⟨gb189, 2, none⟩ = some (.slice A0_2 l0_2.length c0_2) := (Ae BK189.out 2).trans rfl
    have hfz9_0 := Ag BK189.out 0
    have hfz9_1 := Ag BK189.out 1
    have hfz9_2 := Ag BK189.out 2
    have hcz10_0 : w5.cell? ⟨gb190, 0, none⟩ = some (.int .i64 a1_0) := (Ae BK190.out 0).trans rfl
    have hcz10_1 : w5.cell? ⟨gb190, 1, none⟩ = some (.int .i64 a1_1) := (Ae BK190.out 1).trans rfl
    have hcz10_2 : w5.cell? ⟨gb190, 2, none⟩ = some (.slice A1_2 l1_2.length c1_2) := (Ae BK190.out 2).trans rfl
    have hfz10_0 := Ag BK190.out 0
    have hfz10_1 := Ag BK190.out 1
    have hfz10_2 := Ag BK190.out 2
    go_wp2
    repeat (go_quiet (fail); try go_wp2)
    go_meet
    case rel => exact ⟨_, (((l0_2.length : Int) != (l1_2.length : Int))), (by first | rfl | (simp; done) | (simp [*]; done)), H', ⟨by first | omega | exact Nat.le_refl _⟩, ⟨by exact bU <| BK189.out⟩, ⟨by exact bU <| BK190.out⟩, ⟨by repeat (first | (with_reducible first | exact HB.out | apply Ad | apply Ac | apply Ah | refine Af ?_ GE189.out | refine Af ?_ GE190.out) | exact HB.out)⟩⟩
   ·rw [if_neg c7] at H
    have c7b0 : (a0_1 == a1_1) = false := beq_eq_false_iff_ne.mpr c7
    have c7b1 : (a0_1 != a1_1) = true := bne_iff_ne.mpr c7
    have H' := Aa.mk H
    clear H
    have hnb11 := NB189_190.out
    have hnc11 := NB190_189.out
    have hcz12_0 : w5.cell? ⟨gb189, 0, none⟩ = some (.int .i64 a0_0) := (Ae BK189.out 0).trans rfl
    have hcz12_1 : w5.cell? ⟨gb189, 1, none⟩ = some (.int .i64 a0_1) := (Ae BK189.out 1).trans rfl
    have hcz12_2 : w5.cell? ⟨gb189, 2, none⟩ = some (.slice A0_2 l0_2.length c0_2) := (Ae BK189.out 2).trans rfl
    have hfz12_0 := Ag BK189.out 0
    have hfz12_1 := Ag BK189.out 1
    have hfz12_2 := Ag BK189.out 2
    have hcz13_0 : w5.cell? ⟨gb190, 0, none⟩ = some (.int .i64 a1_0) := (Ae BK190.out 0).trans rfl
    have hcz13_1 : w5.cell? ⟨gb190, 1, none⟩ = some (.int .i64 a1_1) := (Ae BK190.out 1).trans rfl
    have hcz13_2 : w5.cell? ⟨gb190, 2, none⟩ = some (.slice A1_2 l1_2.length c1_2) := (Ae BK190.out 2).trans rfl
    have hfz13_0 := Ag BK190.out 0
    have hfz13_1 := Ag BK190.out 1
    have hfz13_2 := Ag BK190.out 2
    go_wp2
    repeat (go_quiet (fail); try go_wp2)
    go_meet
    case rel => exact ⟨_, (true), (by first | rfl | (simp; done) | (simp [*]; done)), H', ⟨by first | omega | exact Nat.le_refl _⟩, ⟨by exact bU <| BK189.out⟩, ⟨by exact bU <| BK190.out⟩, ⟨by repeat (first | (with_reducible first | exact HB.out | apply Ad | apply Ac | apply Ah | refine Af ?_ GE189.out | refine Af ?_ GE190.out) | exact HB.out)⟩⟩
  ·rw [if_neg c6] at H
   have c6b0 : (a0_0 == a1_0) = false := beq_eq_false_iff_ne.mpr c6
   have c6b1 : (a0_0 != a1_0) = true := bne_iff_ne.mpr c6
   (first | rw [c6b0] | (simp only [i64_w, i32_w]; rw [c6b0]) | skip)
   have H' := Aa.mk H
   clear H
   have hnb14 := NB189_190.out
   have hnc14 := NB190_189.out
   have hcz15_0 : w5.cell? ⟨gb189, 0, none⟩ = some (.int .i64 a0_0) := (Ae BK189.out 0).trans rfl
   have hcz15_1 : w5.cell? ⟨gb189, 1, none⟩ = some (.int .i64 a0_1) := (Ae BK189.out 1).trans rfl
   have hcz15_2 : w5.cell? ⟨gb189, 2, none⟩ = some (.slice A0_2 l0_2.length c0_2) := (Ae BK189.out 2).trans rfl
   have hfz15_0 := Ag BK189.out 0
   have hfz15_1 := Ag BK189.out 1
   have hfz15_2 := Ag BK189.out 2
   have hcz16_0 : w5.cell? ⟨gb190, 0, none⟩ = some (.int .i64 a1_0) := (Ae BK190.out 0).trans rfl
   have hcz16_1 : w5.cell? ⟨gb190, 1, none⟩ = some (.int .i64 a1_1) := (Ae BK190.out 1).trans rfl
   have hcz16_2 : w5.cell? ⟨gb190, 2, none⟩ = some (.slice A1_2 l1_2.length c1_2) := (Ae BK190.out 2).trans rfl
   have hfz16_0 := Ag BK190.out 0
   have hfz16_1 := Ag BK190.out 1
   have hfz16_2 := Ag BK190.out 2
   go_wp2
   repeat (go_quiet (fail); try go_wp2)
   go_meet
   case rel => exact ⟨_, (true), (by first | rfl | (simp; done) | (simp [*]; done)), H', ⟨by first | omega | exact Nat.le_refl _⟩, ⟨by exact bU <| BK189.out⟩, ⟨by exact bU <| BK190.out⟩, ⟨by repeat (first | (with_reducible first | exact HB.out | apply Ad | apply Ac | apply Ah | refine Af ?_ GE189.out | refine Af ?_ GE190.out) | exact HB.out)⟩⟩
 case rest =>
  clear HC3
  try clear c1
  try clear p2
  try clear c4
  try clear c6
  try clear c6b0
  try clear c6b1
  try clear c7
  try clear c7b0
  try clear c7b1
  try clear c8
  try clear c11
  try clear c14
  try clear hcz10_0
  try clear hcz10_1
  try clear hcz10_2
  try clear hcz12_0
  try clear hcz12_1
  try clear hcz12_2
  try clear hcz13_0
  try clear hcz13_1
  try clear hcz13_2
  try clear hcz15_0
  try clear hcz15_1
  try clear hcz15_2
  try clear hcz16_0
  try clear hcz16_1
  try clear hcz16_2
  try clear hcz9_0
  try clear hcz9_1
  try clear hcz9_2
  try clear hfz10_0
  try clear hfz10_1
  try clear hfz10_2
  try clear hfz12_0
  try clear hfz12_1
  try clear hfz12_2
  try clear hfz13_0
  try clear hfz13_1
  try clear hfz13_2
  try clear hfz15_0
  try clear hfz15_1
  try clear hfz15_2
  try clear hfz16_0
  try clear hfz16_1
  try clear hfz16_2
  try clear hfz9_0
  try clear hfz9_1
  try clear hfz9_2
  obtain ⟨kq, x26_2, rfl, HA, HJ2, BK189, BK190, HB⟩ := hcut
  cases kq with
  | zero => exact absurd HA.out (by simp [Ax.j0])
  | succ kj2 =>
   have H := HA.out
   clear HA
   simp only [Ax.j0] at H
   by_cases c17 : x26_2 = true
   ·subst c17
    have H1 : (some false) = some r := by rw [if_pos rfl] at H; exact H
    clear H
    have H := H1
    clear H1
    obtain rfl := Option.some.inj H
    go_wp2
    repeat (go_quiet (fail); try go_wp2)
    go_ret
    exact ⟨by first | rfl | (simp [Az, Ba] <;> rfl) | (simp [*, Az, Ba] <;> rfl), by repeat (first | (with_reducible first | exact HB.out | apply Ad | apply Ac | apply Ah | refine Af ?_ GE189.out | refine Af ?_ GE190.out) | exact HB.out)⟩
   ·replace c17 := Bool.eq_false_iff.mpr c17
    subst c17
    have H1 : (Ax.l0 kj2 0 a0_0 a0_1 l0_2 a1_0 a1_1 l1_2) = some r := by rw [if_neg (show ¬ (false = true) by decide)] at H; exact H
    clear H
    have H := H1
    clear H1
    have H' := Aa.mk H
    clear H
    go_wp2
    repeat (go_quiet (fail); try go_wp2)
    go_loopg [5] kj2 (fun kq v5 w' => ∃ (x5_2 : Int), v5 = .int .i64 x5_2 ∧ Aa (Ax.l0 kq x5_2 a0_0 a0_1 l0_2 a1_0 a1_1 l1_2 = some r) ∧ Aa (kq ≤ kj2) ∧ Aa (w'.heap[gb189]? = some (.cells #[.int .i64 a0_0, .int .i64 a0_1, (.slice A0_2 l0_2.length c0_2)] 50 (0, 0))) ∧ Aa (w'.heap[gb190]? = some (.cells #[.int .i64 a1_0, .int .i64 a1_1, (.slice A1_2 l1_2.length c1_2)] 50 (0, 0))) ∧ Aa (Below w.heap.size w w'))
    case atStart => exact ⟨(0), (by first | rfl | (simp; done) | (simp [*]; done)), H', ⟨Nat.le_refl _⟩, ⟨by exact bU <| BK189.out⟩, ⟨by exact bU <| BK190.out⟩, ⟨by repeat (first | (with_reducible first | exact HB.out | apply Ad | apply Ac | apply Ah | refine Af ?_ GE189.out | refine Af ?_ GE190.out) | exact HB.out)⟩⟩
    case round =>
     clear H'
     try clear c1
     try clear p2
     try clear c4
     try clear c6
     try clear c6b0
     try clear c6b1
     try clear c7
     try clear c7b0
     try clear c7b1
     try clear c8
     try clear c11
     try clear c14
     try clear c17
     try clear hcz10_0
     try clear hcz10_1
     try clear hcz10_2
     try clear hcz12_0
     try clear hcz12_1
     try clear hcz12_2
     try clear hcz13_0
     try clear hcz13_1
     try clear hcz13_2
     try clear hcz15_0
     try clear hcz15_1
     try clear hcz15_2
     try clear hcz16_0
     try clear hcz16_1
     try clear hcz16_2
     try clear hcz9_0
     try clear hcz9_1
     try clear hcz9_2
     try clear hfz10_0
     try clear hfz10_1
     try clear hfz10_2
     try clear hfz12_0
     try clear hfz12_1
     try clear hfz12_2
     try clear hfz13_0
     try clear hfz13_1
     try clear hfz13_2
     try clear hfz15_0
     try clear hfz15_1
     try clear hfz15_2
     try clear hfz16_0
     try clear hfz16_1
     try clear hfz16_2
     try clear hfz9_0
     try clear hfz9_1
     try clear hfz9_2
     try clear p2
     obtain ⟨x5_2, rfl, HA, HK2, BK189, BK190, HB⟩ := hrel
     cases gk with
     | zero => exact absurd HA.out (by simp [Ax.l0])
     | succ k2 =>
      have H := HA.out
      clear HA
      simp only [Ax.l0] at H
      by_cases c18 : x5_2 < (l0_2.length : Int)
      ·rw [if_pos c18] at H
       have c18b0 : decide (x5_2 < (l0_2.length : Int)) = true := decide_eq_true c18
       clear c18
       by_cases c19 : 0 ≤ x5_2
       ·rw [if_pos c19] at H
        have c19b0 : decide (0 ≤ x5_2) = true := decide_eq_true c19
        clear c19
        by_cases c20 : x5_2 < (l1_2.length : Int)
        ·rw [if_pos c20] at H
         have c20b0 : decide (x5_2 < (l1_2.length : Int)) = true := decide_eq_true c20
         clear c20
         by_cases c21 : ((rdOf false l0_2 x5_2) != (rdOf false l1_2 x5_2)) = true
         ·rw [if_pos c21] at H
          have c21b0 : ((rdOf false l0_2 x5_2) != (rdOf false l1_2 x5_2)) = true := c21
          (try (have c21b1 : decide ((rdOf false l0_2 x5_2) = (rdOf false l1_2 x5_2)) = false := by simpa using c21))
          (try (have c21b2 : ((rdOf false l0_2 x5_2) == (rdOf false l1_2 x5_2)) = false := by simpa using c21))
          (try (have c21b3 : ¬ ((rdOf false l0_2 x5_2) = (rdOf false l1_2 x5_2)) := by simpa using c21))
          clear c21
          obtain rfl := Option.some.inj H
          have hnb22 := NB189_190.out
          have hnc22 := NB190_189.out
          have hcz23_0 : wr.cell? ⟨gb189, 0, none⟩ = some (.int .i64 a0_0) := (Ae BK189.out 0).trans rfl
          have hcz23_1 : wr.cell? ⟨gb189, 1, none⟩ = some (.int .i64 a0_1) := (Ae BK189.out 1).trans rfl
          have hcz23_2 : wr.cell? ⟨gb189, 2, none⟩ = some (.slice A0_2 l0_2.length c0_2) := (Ae BK189.out 2).trans rfl
          have hfz23_0 := Ag BK189.out 0
          have hfz23_1 := Ag BK189.out 1
          have hfz23_2 := Ag BK189.out 2
          have p191 : 0 ≤ (x5_2 : Int) := of_decide_eq_true (by first | (with_reducible assumption) | assumption)
          have q191 : x5_2 < (l0_2.length : Int) := of_decide_eq_true (by first | (with_reducible assumption) | assumption)
          obtain ⟨ad191, e191, hx191_0⟩ := Kd.at_bool HR0_2.out x5_2 p191 q191
          cases e191
          replace hx191_0 := (HB.out.cell (World.block_lt_of_cell? w _ hx191_0)).trans hx191_0
          replace p191 := eq_true p191
          replace q191 := eq_true q191
          have hcz24_0 : wr.cell? ⟨gb190, 0, none⟩ = some (.int .i64 a1_0) := (Ae BK190.out 0).trans rfl
          have hcz24_1 : wr.cell? ⟨gb190, 1, none⟩ = some (.int .i64 a1_1) := (Ae BK190.out 1).trans rfl
          have hcz24_2 : wr.cell? ⟨gb190, 2, none⟩ = some (.slice A1_2 l1_2.length c1_2) := (Ae BK190.out 2).trans rfl
          have hfz24_0 := Ag BK190.out 0
          have hfz24_1 := Ag BK190.out 1
          have hfz24_2 := Ag BK190.out 2
          have p192 : 0 ≤ (x5_2 : Int) := of_decide_eq_true (by first | (with_reducible assumption) | assumption)
          have q192 : x5_2 < (l1_2.length : Int) := of_decide_eq_true (by first | (with_reducible assumption) | assumption)
          obtain ⟨ad192, e192, hx192_0⟩ := Kd.at_bool HR1_2.out x5_2 p192 q192
          cases e192
          replace hx192_0 := (HB.out.cell (World.block_lt_of_cell? w _ hx192_0)).trans hx192_0
          replace p192 := eq_true p192
          replace q192 := eq_true q192
          go_wp2
          repeat (go_quiet (fail); try go_wp2)
          go_ret
          exact ⟨by first | rfl | (simp [Az, Ba] <;> rfl) | (simp [*, Az, Ba] <;> rfl), by repeat (first | (with_reducible first | exact HB.out | apply Ad | apply Ac | apply Ah | refine Af ?_ GE189.out | refine Af ?_ GE190.out) | exact HB.out)⟩
         ·rw [if_neg c21] at H
          have c21b0 : ((rdOf false l0_2 x5_2) != (rdOf false l1_2 x5_2)) = false := by simpa using c21
          (try (have c21b1 : decide ((rdOf false l0_2 x5_2) = (rdOf false l1_2 x5_2)) = true := by simpa using c21))
          (try (have c21b2 : ((rdOf false l0_2 x5_2) == (rdOf false l1_2 x5_2)) = true := by simpa using c21))
          clear c21
          have H' := Aa.mk H
          clear H
          have hnb25 := NB189_190.out
          have hnc25 := NB190_189.out
          have hcz26_0 : wr.cell? ⟨gb189, 0, none⟩ = some (.int .i64 a0_0) := (Ae BK189.out 0).trans rfl
          have hcz26_1 : wr.cell? ⟨gb189, 1, none⟩ = some (.int .i64 a0_1) := (Ae BK189.out 1).trans rfl
          have hcz26_2 : wr.cell? ⟨gb189, 2, none⟩ = some (.slice A0_2 l0_2.length c0_2) := (Ae BK189.out 2).trans rfl
          have hfz26_0 := Ag BK189.out 0
          have hfz26_1 := Ag BK189.out 1
          have hfz26_2 := Ag BK189.out 2
          have p191 : 0 ≤ (x5_2 : Int) := of_decide_eq_true (by first | (with_reducible assumption) | assumption)
          have q191 : x5_2 < (l0_2.length : Int) := of_decide_eq_true (by first | (with_reducible assumption) | assumption)
          obtain ⟨ad191, e191, hx191_0⟩ := Kd.at_bool HR0_2.out x5_2 p191 q191
          cases e191
          replace hx191_0 := (HB.out.cell (World.block_lt_of_cell? w _ hx191_0)).trans hx191_0
          replace p191 := eq_true p191
          replace q191 := eq_true q191
          have hcz27_0 : wr.cell? ⟨gb190, 0, none⟩ = some (.int .i64 a1_0) := (Ae BK190.out 0).trans rfl
          have hcz27_1 : wr.cell? ⟨gb190, 1, none⟩ = some (.int .i64 a1_1) := (Ae BK190.out 1).trans rfl
          have hcz27_2 : wr.cell? ⟨gb190, 2, none⟩ = some (.slice A1_2 l1_2.length c1_2) := (Ae BK190.out 2).trans rfl
          have hfz27_0 := Ag BK190.out 0
          have hfz27_1 := Ag BK190.out 1
          have hfz27_2 := Ag BK190.out 2
          have p192 : 0 ≤ (x5_2 : Int) := of_decide_eq_true (by first | (with_reducible assumption) | assumption)
          have q192 : x5_2 < (l1_2.length : Int) := of_decide_eq_true (by first | (with_reducible assumption) | assumption)
          obtain ⟨ad192, e192, hx192_0⟩ := Kd.at_bool HR1_2.out x5_2 p192 q192
          cases e192
          replace hx192_0 := (HB.out.cell (World.block_lt_of_cell? w _ hx192_0)).trans hx192_0
          replace p192 := eq_true p192
          replace q192 := eq_true q192
          go_wp2
          repeat (go_quiet (fail); try go_wp2)
          go_roundg k2
          case measure => have := HJ2.out; have := HK2.out; omega
          case rel => exact ⟨(wrap64 (x5_2 + 1)), (by first | rfl | (simp; done) | (simp [*]; done)), H', ⟨by have := HJ2.out; have := HK2.out; omega⟩, ⟨by exact bU <| BK189.out⟩, ⟨by exact bU <| BK190.out⟩, ⟨by repeat (first | (with_reducible first | exact HB.out | apply Ad | apply Ac | apply Ah | refine Af ?_ GE189.out | refine Af ?_ GE190.out) | exact HB.out)⟩⟩
        ·rw [if_neg c20] at H
         exact absurd H (by simp)
       ·rw [if_neg c19] at H
        exact absurd H (by simp)
      ·rw [if_neg c18] at H
       have c18b0 : decide (x5_2 < (l0_2.length : Int)) = false := decide_eq_false c18
       clear c18
       obtain rfl := Option.some.inj H
       have hnb28 := NB189_190.out
       have hnc28 := NB190_189.out
       have hcz29_0 : wr.cell? ⟨gb189, 0, none⟩ = some (.int .i64 a0_0) := (Ae BK189.out 0).trans rfl
       have hcz29_1 : wr.cell? ⟨gb189, 1, none⟩ = some (.int .i64 a0_1) := (Ae BK189.out 1).trans rfl
       have hcz29_2 : wr.cell? ⟨gb189, 2, none⟩ = some (.slice A0_2 l0_2.length c0_2) := (Ae BK189.out 2).trans rfl
       have hfz29_0 := Ag BK189.out 0
       have hfz29_1 := Ag BK189.out 1
       have hfz29_2 := Ag BK189.out 2
       go_wp2
       repeat (go_quiet (fail); try go_wp2)
       go_ret
       exact ⟨by first | rfl | (simp [Az, Ba] <;> rfl) | (simp [*, Az, Ba] <;> rfl), by repeat (first | (with_reducible first | exact HB.out | apply Ad | apply Ac | apply Ah | refine Af ?_ GE189.out | refine Af ?_ GE190.out) | exact HB.out)⟩

def Bw.f (a0 : Int) (a1 : Int) : Option (Int × Int × List Bool) := if 0 ≤ (wrap64 (a0 * a1)) then (if (wrap64 (a0 * a1) : Int).toNat ≤ 281474976710656 then (some (a0, a1, (List.replicate (wrap64 (a0 * a1) : Int).toNat false))) else (none)) else (none)
set_option maxHeartbeats 8000000 in
set_option maxRecDepth 100000 in
theorem Bw.calls (a0 : Int) (a1 : Int) (r1 : Int) (r2 : Int) (r3 : List Bool) (w : World) (h : Bw.f a0 a1 = some (r1, r2, r3)) :
  Calls Try.prog 58 #[.int .i64 a0, .int .i64 a1] w fun e w' => ∃ v2_ : Value, e = .returned (.agg #[.int .i64 r1, .int .i64 r2, v2_]) ∧ Kd.R Kd.bool 4 w' w.heap.size (fun _ => True) v2_ r3 ∧ Below w.heap.size w w' := by
 have hu50 := Try.underlying50
 have HB := Aa.mk (Below.refl w.heap.size w)
 have H : (if 0 ≤ (wrap64 (a0 * a1)) then (if (wrap64 (a0 * a1) : Int).toNat ≤ 281474976710656 then (some (a0, a1, (List.replicate (wrap64 (a0 * a1) : Int).toNat false))) else (none)) else (none)) = some (r1, r2, r3) := h
 clear h
 obtain ⟨ji3, hji3⟩ : ∃ j_ : Int, (wrap64 (a0 * a1)) = j_ := ⟨_, rfl⟩
 replace H : (if 0 ≤ (ji3) then (if (ji3 : Int).toNat ≤ 281474976710656 then (some (a0, a1, (List.replicate (ji3 : Int).toNat false))) else (none)) else (none)) = some (r1, r2, r3) := by first | (rw [hji3] at H; exact H) | (simp only [hji3] at H ⊢; exact H)
 have hji3w : (IntKind.i64.wrap (a0 * a1)) = ji3 := (i64_w _).trans hji3
 by_cases c4 : 0 ≤ (ji3)
 ·rw [if_pos c4] at H
  have c4b0 := eq_true c4
  have c4b1 : decide (0 ≤ (ji3)) = true := decide_eq_true c4
  clear c4
  by_cases c5 : (ji3 : Int).toNat ≤ 281474976710656
  ·rw [if_pos c5] at H
   have c5b0 := eq_true c5
   have c5b1 : decide ((ji3 : Int).toNat ≤ 281474976710656) = true := decide_eq_true c5
   clear c5
   obtain ⟨y194, hy194⟩ : ∃ y_ : List Bool, y_ = (List.replicate (ji3 : Int).toNat false) := ⟨_, rfl⟩
   replace H : (some (a0, a1, y194)) = some (r1, r2, r3) := by first | (rw [hy194]; with_reducible exact H) | (have H2_ := (Option.bind_some _ _).symm.trans H; rw [hy194]; with_reducible exact H2_) | (have H2_ := (Option.bind_some _ _).symm.trans H; with_reducible exact H2_) | with_reducible exact H | (rw [hy194]; exact H) | exact H
   have Ny194 := Aa.mk hy194
   clear hy194
   simp only [Option.some.injEq, Prod.mk.injEq] at H
   obtain ⟨rfl, rfl, rfl⟩ := H
   go_enter Try.func58, Try.ntmps58
   go_wp2_with (first | ((with_reducible refine Bk (N := 4) rfl ?_); refine Bp ?hg (N := 4) ?hd (cs := #[.int .i64 0, .int .i64 0, .slice none 0 0]) (t := 50) ?hr ?_; (case hd => rfl); (case hg => rfl); (case hr => first | (go_simp; done) | (go_simp; rfl)); intro gb193 hg w6 hbox hb; have n0_ := Aa.mk (Ar (lU HB.out) hb); have n1_ := Aa.mk (hbox); have n2_ := Aa.mk ((by rw [hg]; exact (Ak (lU HB.out)) : w.heap.size ≤ gb193)); have n3_ := Aa.mk ((by rw [hg]; exact (Ak (lU HB.out)) : w.heap.size ≤ gb193)); clear HB; have HB := n0_; have BK193 := n1_; have GW193 := n2_; have GE193 := n3_; clear n0_ n1_ n2_ n3_; clear hb hbox hg) | ((with_reducible refine Bk (N := 10) rfl ?_); refine Kd.R_make Kd.bool _ 4 rfl (N := 10) rfl 48 _ _ rfl ji3 rfl rfl Try.underlying48 (.bool false) 1 info4 rfl (by decide) (by omega) false (ok := fun _ => True) (okp := fun _ => True) rfl (fun _ hk => hk) trivial (of_decide_eq_true (by first | (with_reducible assumption) | assumption)) (Nat.le_trans (Nat.mul_le_mul_right _ (of_decide_eq_true (by first | (with_reducible assumption) | assumption) : ji3.toNat ≤ 281474976710656)) (by omega)) (Below.refl _ _) (Nat.le_refl _) ?_; intro v195 w7 ho8 hb hg_ hnew_; clear hg_ hnew_; (first | rw [← Ny194.out] at ho8 | (simp only [Int.reduceToNat] at ho8; rw [← Ny194.out] at ho8)); have n0_ := Aa.mk (Kd.B6 ho8 (Ak (by repeat (first | (with_reducible first | exact HB.out | apply Ad | apply Ac | apply Ah | refine Af ?_ GE193.out) | exact HB.out)))); have n1_ := Aa.mk (An (g := gb193) (o := .cells #[.int .i64 0, .int .i64 0, .slice none 0 0] 50 (0, 0)) (by exact bU <| BK193.out) hb); have n2_ := Aa.mk (Ar (by repeat (first | (with_reducible first | exact HB.out | apply Ad | apply Ac | apply Ah | refine Af ?_ GE193.out) | exact HB.out)) hb); clear BK193; clear HB; have HO196 := n0_; have BK193 := n1_; have HB := n2_; clear n0_ n1_ n2_; clear hb ho8; obtain ⟨Ao9, co9, eo9⟩ := Kd.Bz HO196.out; subst eo9; have hcz10_0 : w7.cell? ⟨gb193, 0, none⟩ = some (.int .i64 0) := (Ae BK193.out 0).trans rfl; have hcz10_1 : w7.cell? ⟨gb193, 1, none⟩ = some (.int .i64 0) := (Ae BK193.out 1).trans rfl; have hcz10_2 : w7.cell? ⟨gb193, 2, none⟩ = some (.slice none 0 0) := (Ae BK193.out 2).trans rfl; have hfz10_0 := Ag BK193.out 0; have hfz10_1 := Ag BK193.out 1; have hfz10_2 := Ag BK193.out 2))
   refine bodyPost_ret (results_cell_row rfl _ _ gb193 50 #[.int .i64 a0, .int .i64 a1, .slice Ao9 y194.length co9] (0, 0) _ rfl (by (with_reducible repeat (first | refine As ?_ _ | refine At ?_ | refine Aj ?_ _)); refine Bd (cs := #[.int .i64 a0, .int .i64 a1, .slice none 0 0]) ?_ 2 _ rfl; (with_reducible repeat (first | refine As ?_ _ | refine At ?_ | refine Aj ?_ _)); refine Bd (cs := #[.int .i64 a0, .int .i64 0, .slice none 0 0]) ?_ 1 _ rfl; (with_reducible repeat (first | refine As ?_ _ | refine At ?_ | refine Aj ?_ _)); refine Bd (cs := #[.int .i64 0, .int .i64 0, .slice none 0 0]) ?_ 0 _ rfl; exact bU <| BK193.out) Try.underlying50 rfl (by kernel_rfl)) rfl ?_
   exact ⟨_, by first | rfl | (simp [Az, Ba] <;> rfl) | (simp only [← hji3]; first | rfl | (simp [Az, Ba] <;> rfl)) | (simp [*, Az, Ba] <;> rfl), by exact rU <| Kd.Bj (Kd.Be (p := ⟨gb193, 2, none⟩) (Kd.Be (p := ⟨gb193, 1, none⟩) (Kd.Be (p := ⟨gb193, 0, none⟩) (Kd.B4 HO196.out BK193.out (by decide)) (fun _ hk => hk.2) (.int .i64 a0)) (fun _ hk => hk.2) (.int .i64 a1)) (fun _ hk => hk.2) (.slice Ao9 y194.length co9)) (fun _ hk => trivial), by repeat (first | (with_reducible first | exact HB.out | apply Ad | apply Ac | apply Ah | refine Af ?_ GE193.out) | exact HB.out)⟩
  ·rw [if_neg c5] at H
   exact absurd H (by simp)
 ·rw [if_neg c4] at H
  exact absurd H (by simp)

def Bc.l0 : Nat → Int → Int → Int → List Bool → Int → Int → List Bool → Option (Int × Int × List Bool)
 | 0, _, _, _, _, _, _, _ => none
 | k + 1, x4, x198000, x198001, x198002, x205000, x205001, x205002 => if x4 < (x198002.length : Int) then (if 0 ≤ x4 then (if x4 < (x205002.length : Int) then (Bc.l0 k (wrap64 (x4 + 1)) x198000 x198001 x198002 x205000 x205001 (x205002.set (x4 : Int).toNat (!(rdOf false x198002 x4)))) else (none)) else (none)) else (some (x205000, x205001, x205002))
def Bc.f (k : Nat) (a0_0 : Int) (a0_1 : Int) (l0_2 : List Bool) : Option (Int × Int × List Bool) := (Bw.f a0_0 a0_1).bind fun bt199 => (Bc.l0 k 0 a0_0 a0_1 l0_2 bt199.1 bt199.2.1 bt199.2.2)
theorem Bc.mono_l : ∀ k, (∀ y0 y1 y2 y3 y4 y5 y6, LeO (Bc.l0 k y0 y1 y2 y3 y4 y5 y6) (Bc.l0 (k + 1) y0 y1 y2 y3 y4 y5 y6))
 | 0 => fun _ _ _ _ _ _ _ r h => by simp [Bc.l0] at h
 | k + 1 => by
  have ih0 := Bc.mono_l k
  ·intro y0 y1 y2 y3 y4 y5 y6
   unfold Bc.l0
   repeat' first
   | (with_reducible exact ih0 _ _ _ _ _ _ _)
   | (with_reducible exact LeO.refl _)
   | (with_reducible exact LeO.none _)
   | (with_reducible refine LeO.ite ?_ ?_)
   | (with_reducible refine LeO.bind ?_ (fun _ => ?_))
   | exact ih0 _ _ _ _ _ _ _
   | exact LeO.none _
   | refine LeO.ite ?_ ?_
   | refine LeO.bind ?_ (fun _ => ?_)
theorem Bc.mono : ∀ a0 a1 a2 k, LeO (Bc.f k a0 a1 a2) (Bc.f (k + 1) a0 a1 a2) := by
 intro a0 a1 a2 k
 have ih0 := Bc.mono_l k
 unfold Bc.f
 repeat' first
   | (with_reducible exact ih0 _ _ _ _ _ _ _)
   | (with_reducible exact LeO.refl _)
   | (with_reducible exact LeO.none _)
   | (with_reducible refine LeO.ite ?_ ?_)
   | (with_reducible refine LeO.bind ?_ (fun _ => ?_))
   | exact ih0 _ _ _ _ _ _ _
   | exact LeO.none _
   | refine LeO.ite ?_ ?_
   | refine LeO.bind ?_ (fun _ => ?_)
def Bc.T5 : Bool × List (List Nat × List Nat) := (true, [([], []), ([0], [0]), ([], []), ([], []), ([3], [3]), ([], []), ([4, 5], [4, 5]), ([6], [6]), ([7], [7]), ([1, 2, 0, 1, 2, 3, 4, 5, 6, 7, 8], [1, 2]), ([9, 8, 0, 1, 2, 3, 4, 5, 6, 7, 8], [8, 9])])
def Bc.B5 : List Nat := [0, 1, 0, 0, 8, 0, 56, 120, 248, 511, 1023]
theorem Bc.tab5 : rtab .any (opsOf Try.f57 5) = Bc.T5 := by kernel_rfl
theorem Bc.bits5 : waitsOk Bc.T5.2 Bc.B5 = true := by kernel_rfl
set_option maxHeartbeats 8000000 in
set_option maxRecDepth 100000 in
theorem Bc.calls (k : Nat) (a0_0 : Int) (a0_1 : Int) (A0_2 : Option Addr) (c0_2 : Nat) (l0_2 : List Bool) (r1 : Int) (r2 : Int) (r3 : List Bool) (w : World) (hr0_2 : Kd.C Kd.bool w A0_2 l0_2.length l0_2) (hc0_2 : l0_2.length ≤ c0_2) (h : Bc.f k a0_0 a0_1 l0_2 = some (r1, r2, r3)) :
  Calls Try.prog 57 #[.agg #[.int .i64 a0_0, .int .i64 a0_1, .slice A0_2 l0_2.length c0_2]] w fun e w' => ∃ v2_ : Value, e = .returned (.agg #[.int .i64 r1, .int .i64 r2, v2_]) ∧ Kd.R Kd.bool 4 w' w.heap.size (fun _ => True) v2_ r3 ∧ Below w.heap.size w w' := by
 have hu50 := Try.underlying50
 have HR0_2 := Aa.mk hr0_2
 have HC0_2 := Aa.mk hc0_2
 clear hr0_2 hc0_2
 have HB := Aa.mk (Below.refl w.heap.size w)
 have H : ((Bw.f a0_0 a0_1).bind fun bt199 => (Bc.l0 k 0 a0_0 a0_1 l0_2 bt199.1 bt199.2.1 bt199.2.2)) = some (r1, r2, r3) := h
 clear h
 replace H := Option.bind_eq_some_iff.mp H
 obtain ⟨⟨t199, t200, t201⟩, A20, H⟩ := H
 replace H : (Bc.l0 k 0 a0_0 a0_1 l0_2 t199 t200 t201) = some (r1, r2, r3) := H
 have A2 := Aa.mk A20
 clear A20
 have H' := Aa.mk H
 clear H
 go_enter Try.func57, Try.ntmps57
 go_wp2_with (first | ((with_reducible refine Bk (N := 1) rfl ?_); refine Bp ?hg (N := 1) ?hd (cs := #[.int .i64 a0_0, .int .i64 a0_1, .slice A0_2 l0_2.length c0_2]) (t := 50) ?hr ?_; (case hd => rfl); (case hg => rfl); (case hr => first | (go_simp; done) | (go_simp; rfl)); intro gb197 hg w3 hbox hb; have n0_ := Aa.mk (Ar (lU HB.out) hb); have n1_ := Aa.mk (hbox); have n2_ := Aa.mk ((by rw [hg]; exact (Ak (lU HB.out)) : w.heap.size ≤ gb197)); have n3_ := Aa.mk ((by rw [hg]; exact (Ak (lU HB.out)) : w.heap.size ≤ gb197)); clear HB; have HB := n0_; have BK197 := n1_; have GW197 := n2_; have GE197 := n3_; clear n0_ n1_ n2_ n3_; clear hb hbox hg) | ((with_reducible refine Bk (N := 2) rfl ?_); refine Bp ?hg (N := 2) ?hd (cs := #[.int .i64 0, .int .i64 0, .slice none 0 0]) (t := 50) ?hr ?_; (case hd => rfl); (case hg => rfl); (case hr => first | (go_simp; done) | (go_simp; rfl)); intro gb198 hg w4 hbox hb; have n0_ := Aa.mk (An (g := gb197) (o := .cells #[.int .i64 a0_0, .int .i64 a0_1, .slice A0_2 l0_2.length c0_2] 50 (0, 0)) (by exact bU <| BK197.out) hb); have n1_ := Aa.mk (Ar (by repeat (first | (with_reducible first | exact HB.out | apply Ad | apply Ac | apply Ah | refine Af ?_ GE197.out) | exact HB.out)) hb); have n2_ := Aa.mk (hbox); have n3_ := Aa.mk ((by rw [hg]; exact (Ak (by repeat (first | (with_reducible first | exact HB.out | apply Ad | apply Ac | apply Ah | refine Af ?_ GE197.out) | exact HB.out))) : w.heap.size ≤ gb198)); have n4_ := Aa.mk ((by rw [hg]; exact (Ak (by repeat (first | (with_reducible first | exact HB.out | apply Ad | apply Ac | apply Ah | refine Af ?_ GE197.out) | exact HB.out))) : w.heap.size ≤ gb198)); have n5_ := Aa.mk ((by rw [hg]; exact Nat.ne_of_lt (Br (g := gb197) (o := .cells #[.int .i64 a0_0, .int .i64 a0_1, .slice A0_2 l0_2.length c0_2] 50 (0, 0)) (by exact bU <| BK197.out)) : gb197 ≠ gb198)); have n6_ := Aa.mk ((by rw [hg]; exact Nat.ne_of_gt (Br (g := gb197) (o := .cells #[.int .i64 a0_0, .int .i64 a0_1, .slice A0_2 l0_2.length c0_2] 50 (0, 0)) (by exact bU <| BK197.out)) : gb198 ≠ gb197)); clear BK197; clear HB; have BK197 := n0_; have HB := n1_; have BK198 := n2_; have GW198 := n3_; have GE198 := n4_; have NB197_198 := n5_; have NB198_197 := n6_; clear n0_ n1_ n2_ n3_ n4_ n5_ n6_; clear hb hbox hg; have hnb5 := NB197_198.out; have hnc5 := NB198_197.out; have hcz6_0 : w4.cell? ⟨gb197, 0, none⟩ = some (.int .i64 a0_0) := (Ae BK197.out 0).trans rfl; have hcz6_1 : w4.cell? ⟨gb197, 1, none⟩ = some (.int .i64 a0_1) := (Ae BK197.out 1).trans rfl; have hcz6_2 : w4.cell? ⟨gb197, 2, none⟩ = some (.slice A0_2 l0_2.length c0_2) := (Ae BK197.out 2).trans rfl; have hfz6_0 := Ag BK197.out 0; have hfz6_1 := Ag BK197.out 1; have hfz6_2 := Ag BK197.out 2) | ((with_reducible refine Bn (f := 58) rfl ?_); refine Ca (some 9) rfl rfl Try.func58 (by kernel_rfl) rfl #[.int .i64 a0_0, .int .i64 a0_1] rfl (by (try simp only [List.map_toArray, List.map_cons, List.map_nil]); first | done | rfl | (simp only [List.length_drop, List.length_take]; rfl)) ?_; (with_reducible refine (Bw.calls a0_0 a0_1 t199 t200 t201 _ A2.out).mono ?_); rintro e w7 ⟨v202, rfl, ho0, hb⟩; refine ⟨_, rfl, ?_⟩; have n0_ := Aa.mk (Kd.B6 ho0 (Ak (by repeat (first | (with_reducible first | exact HB.out | apply Ad | apply Ac | apply Ah | refine Af ?_ GE197.out | refine Af ?_ GE198.out) | exact HB.out)))); have n1_ := Aa.mk (An (g := gb197) (o := .cells #[.int .i64 a0_0, .int .i64 a0_1, .slice A0_2 l0_2.length c0_2] 50 (0, 0)) (by exact bU <| BK197.out) hb); have n2_ := Aa.mk (An (g := gb198) (o := .cells #[.int .i64 0, .int .i64 0, .slice none 0 0] 50 (0, 0)) (by exact bU <| BK198.out) hb); have n3_ := Aa.mk (Ar (by repeat (first | (with_reducible first | exact HB.out | apply Ad | apply Ac | apply Ah | refine Af ?_ GE197.out | refine Af ?_ GE198.out) | exact HB.out)) hb); clear BK197; clear BK198; clear HB; have HO203 := n0_; have BK197 := n1_; have BK198 := n2_; have HB := n3_; clear n0_ n1_ n2_ n3_; (try clear hb); (try clear hb2); (try clear hk); (try clear hi); (try clear ho0)) | ((with_reducible refine Bk (N := 3) rfl ?_); refine Bp ?hg (N := 3) ?hd (cs := #[.int .i64 0, .int .i64 0, .slice none 0 0]) (t := 50) ?hr ?_; (case hd => rfl); (case hg => rfl); (case hr => first | (go_simp; done) | (go_simp; rfl)); intro gb204 hg w8 hbox hb; have n0_ := Aa.mk (Kd.Au (by exact rU <| HO203.out) hb); have n1_ := Aa.mk (An (g := gb197) (o := .cells #[.int .i64 a0_0, .int .i64 a0_1, .slice A0_2 l0_2.length c0_2] 50 (0, 0)) (by exact bU <| BK197.out) hb); have n2_ := Aa.mk (An (g := gb198) (o := .cells #[.int .i64 0, .int .i64 0, .slice none 0 0] 50 (0, 0)) (by exact bU <| BK198.out) hb); have n3_ := Aa.mk (Ar (by repeat (first | (with_reducible first | exact HB.out | apply Ad | apply Ac | apply Ah | refine Af ?_ GE197.out | refine Af ?_ GE198.out) | exact HB.out)) hb); have n4_ := Aa.mk (hbox); have n5_ := Aa.mk ((by rw [hg]; exact (Ak (by repeat (first | (with_reducible first | exact HB.out | apply Ad | apply Ac | apply Ah | refine Af ?_ GE197.out | refine Af ?_ GE198.out) | exact HB.out))) : w.heap.size ≤ gb204)); have n6_ := Aa.mk ((by rw [hg]; exact (Ak (by repeat (first | (with_reducible first | exact HB.out | apply Ad | apply Ac | apply Ah | refine Af ?_ GE197.out | refine Af ?_ GE198.out) | exact HB.out))) : w.heap.size ≤ gb204)); have n7_ := Aa.mk ((by rw [hg]; exact Nat.ne_of_lt (Br (g := gb197) (o := .cells #[.int .i64 a0_0, .int .i64 a0_1, .slice A0_2 l0_2.length c0_2] 50 (0, 0)) (by exact bU <| BK197.out)) : gb197 ≠ gb204)); have n8_ := Aa.mk ((by rw [hg]; exact Nat.ne_of_gt (Br (g := gb197) (o := .cells #[.int .i64 a0_0, .int .i64 a0_1, .slice A0_2 l0_2.length c0_2] 50 (0, 0)) (by exact bU <| BK197.out)) : gb204 ≠ gb197)); have n9_ := Aa.mk ((by rw [hg]; exact Nat.ne_of_lt (Br (g := gb198) (o := .cells #[.int .i64 0, .int .i64 0, .slice none 0 0] 50 (0, 0)) (by exact bU <| BK198.out)) : gb198 ≠ gb204)); have n10_ := Aa.mk ((by rw [hg]; exact Nat.ne_of_gt (Br (g := gb198) (o := .cells #[.int .i64 0, .int .i64 0, .slice none 0 0] 50 (0, 0)) (by exact bU <| BK198.out)) : gb204 ≠ gb198)); clear HO203; clear BK197; clear BK198; clear HB; have HO203 := n0_; have BK197 := n1_; have BK198 := n2_; have HB := n3_; have BK204 := n4_; have GW204 := n5_; have GE204 := n6_; have NB197_204 := n7_; have NB204_197 := n8_; have NB198_204 := n9_; have NB204_198 := n10_; clear n0_ n1_ n2_ n3_ n4_ n5_ n6_ n7_ n8_ n9_ n10_; clear hb hbox hg; have hnb9 := NB204_197.out; have hnc9 := NB197_204.out; have hnb10 := NB204_198.out; have hnc10 := NB198_204.out; have hcz11_0 : w8.cell? ⟨gb204, 0, none⟩ = some (.int .i64 0) := (Ae BK204.out 0).trans rfl; have hcz11_1 : w8.cell? ⟨gb204, 1, none⟩ = some (.int .i64 0) := (Ae BK204.out 1).trans rfl; have hcz11_2 : w8.cell? ⟨gb204, 2, none⟩ = some (.slice none 0 0) := (Ae BK204.out 2).trans rfl; have hfz11_0 := Ag BK204.out 0; have hfz11_1 := Ag BK204.out 1; have hfz11_2 := Ag BK204.out 2; obtain ⟨Ao12, co12, eo12⟩ := Kd.Bz HO203.out; subst eo12))
 go_loopg [4] k (fun kq v4 w' => ∃ (x4_1 : Int) (x205002_1 : List Bool) (u205002 : Value), v4 = .int .i64 x4_1 ∧ Aa (Bc.l0 kq x4_1 a0_0 a0_1 l0_2 t199 t200 x205002_1 = some (r1, r2, r3)) ∧ Aa (kq ≤ k) ∧ Aa (Kd.R Kd.bool 4 w' w.heap.size (fun _ => True) u205002 x205002_1) ∧ Aa (w'.heap[gb197]? = some (.cells #[.int .i64 a0_0, .int .i64 a0_1, (.slice A0_2 l0_2.length c0_2)] 50 (0, 0))) ∧ Aa (w'.heap[gb198]? = some (.cells #[.int .i64 0, .int .i64 0, (.slice none 0 0)] 50 (0, 0))) ∧ Aa (w'.heap[gb204]? = some (.cells #[.int .i64 t199, .int .i64 t200, u205002] 50 (0, 0))) ∧ Aa (Below w.heap.size w w'))
 case atStart => exact ⟨(0), (t201), (.slice Ao12 t201.length co12), (by first | rfl | (simp; done) | (simp [*]; done)), H', ⟨Nat.le_refl _⟩, ⟨by exact rU <| Kd.Bj (Kd.Be (p := ⟨gb204, 2, none⟩) (Kd.Be (p := ⟨gb204, 1, none⟩) (Kd.Be (p := ⟨gb204, 0, none⟩) (Kd.B4 HO203.out BK204.out (by decide)) (fun _ hk => hk.2) (.int .i64 t199)) (fun _ hk => hk.2) (.int .i64 t200)) (fun _ hk => hk.2) (.slice Ao12 t201.length co12)) (fun _ hk => trivial)⟩, ⟨by (with_reducible repeat (first | refine As ?_ _ | refine At ?_ | refine Aj ?_ _)); refine Bf ?_ NB197_204.out _; (with_reducible repeat (first | refine As ?_ _ | refine At ?_ | refine Aj ?_ _)); refine Bf ?_ NB197_204.out _; (with_reducible repeat (first | refine As ?_ _ | refine At ?_ | refine Aj ?_ _)); refine Bf ?_ NB197_204.out _; exact bU <| BK197.out⟩, ⟨by (with_reducible repeat (first | refine As ?_ _ | refine At ?_ | refine Aj ?_ _)); refine Bf ?_ NB198_204.out _; (with_reducible repeat (first | refine As ?_ _ | refine At ?_ | refine Aj ?_ _)); refine Bf ?_ NB198_204.out _; (with_reducible repeat (first | refine As ?_ _ | refine At ?_ | refine Aj ?_ _)); refine Bf ?_ NB198_204.out _; exact bU <| BK198.out⟩, ⟨by (with_reducible repeat (first | refine As ?_ _ | refine At ?_ | refine Aj ?_ _)); refine Bd (cs := #[.int .i64 t199, .int .i64 t200, .slice none 0 0]) ?_ 2 _ rfl; (with_reducible repeat (first | refine As ?_ _ | refine At ?_ | refine Aj ?_ _)); refine Bd (cs := #[.int .i64 t199, .int .i64 0, .slice none 0 0]) ?_ 1 _ rfl; (with_reducible repeat (first | refine As ?_ _ | refine At ?_ | refine Aj ?_ _)); refine Bd (cs := #[.int .i64 0, .int .i64 0, .slice none 0 0]) ?_ 0 _ rfl; exact bU <| BK204.out⟩, ⟨by repeat (first | (with_reducible first | exact HB.out | apply Ad | apply Ac | apply Ah | refine Af ?_ GE197.out | refine Af ?_ GE198.out | refine Af ?_ GE204.out) | exact HB.out)⟩⟩
 case round =>
  clear H'
  try clear c1
  try clear p2
  try clear c5
  try clear c9
  try clear c10
  try clear hcz11_0
  try clear hcz11_1
  try clear hcz11_2
  try clear hcz6_0
  try clear hcz6_1
  try clear hcz6_2
  try clear hfz11_0
  try clear hfz11_1
  try clear hfz11_2
  try clear hfz6_0
  try clear hfz6_1
  try clear hfz6_2
  obtain ⟨x4_1, x205002_1, u205002, rfl, HA, HK1, HO_205002, BK197, BK198, BK204, HB⟩ := hrel
  cases gk with
  | zero => exact absurd HA.out (by simp [Bc.l0])
  | succ k1 =>
   have H := HA.out
   clear HA
   simp only [Bc.l0] at H
   by_cases c13 : x4_1 < (l0_2.length : Int)
   ·rw [if_pos c13] at H
    have c13b0 : decide (x4_1 < (l0_2.length : Int)) = true := decide_eq_true c13
    clear c13
    by_cases c14 : 0 ≤ x4_1
    ·rw [if_pos c14] at H
     have c14b0 : decide (0 ≤ x4_1) = true := decide_eq_true c14
     clear c14
     by_cases c15 : x4_1 < (x205002_1.length : Int)
     ·rw [if_pos c15] at H
      have c15b0 : decide (x4_1 < (x205002_1.length : Int)) = true := decide_eq_true c15
      clear c15
      obtain ⟨y206, hy206⟩ : ∃ y_ : List Bool, y_ = (x205002_1.set (x4_1 : Int).toNat (!(rdOf false l0_2 x4_1))) := ⟨_, rfl⟩
      replace H : (Bc.l0 k1 (wrap64 (x4_1 + 1)) a0_0 a0_1 l0_2 t199 t200 y206) = some (r1, r2, r3) := by first | (rw [hy206]; with_reducible exact H) | (have H2_ := (Option.bind_some _ _).symm.trans H; rw [hy206]; with_reducible exact H2_) | (have H2_ := (Option.bind_some _ _).symm.trans H; with_reducible exact H2_) | with_reducible exact H | (rw [hy206]; exact H) | exact H
      have Ny206 := Aa.mk hy206
      clear hy206
      have H' := Aa.mk H
      clear H
      have hnb17 := NB197_198.out
      have hnc17 := NB198_197.out
      have hnb18 := NB197_204.out
      have hnc18 := NB204_197.out
      have hcz19_0 : wr.cell? ⟨gb197, 0, none⟩ = some (.int .i64 a0_0) := (Ae BK197.out 0).trans rfl
      have hcz19_1 : wr.cell? ⟨gb197, 1, none⟩ = some (.int .i64 a0_1) := (Ae BK197.out 1).trans rfl
      have hcz19_2 : wr.cell? ⟨gb197, 2, none⟩ = some (.slice A0_2 l0_2.length c0_2) := (Ae BK197.out 2).trans rfl
      have hfz19_0 := Ag BK197.out 0
      have hfz19_1 := Ag BK197.out 1
      have hfz19_2 := Ag BK197.out 2
      try go_wp2
      have n0_ := Aa.mk (Kd.Dj HO_205002.out)
      have n1_ := Aa.mk (At BK197.out)
      have n2_ := Aa.mk (At BK198.out)
      have n3_ := Aa.mk (At BK204.out)
      have n4_ := Aa.mk (Ah HB.out)
      clear HO_205002
      clear BK197
      clear BK198
      clear BK204
      clear HB
      have HO_205002 := n0_
      have BK197 := n1_
      have BK198 := n2_
      have BK204 := n3_
      have HB := n4_
      clear n0_ n1_ n2_ n3_ n4_
      have p205 : 0 ≤ (x4_1 : Int) := of_decide_eq_true (by first | (with_reducible assumption) | assumption)
      have q205 : x4_1 < (l0_2.length : Int) := of_decide_eq_true (by first | (with_reducible assumption) | assumption)
      obtain ⟨ad205, e205, hx205_0⟩ := Kd.at_bool HR0_2.out x4_1 p205 q205
      have hw205_0 := hx205_0
      cases e205
      replace hx205_0 := (HB.out.cell (World.block_lt_of_cell? w _ hx205_0)).trans hx205_0
      replace p205 := eq_true p205
      replace q205 := eq_true q205
      have p16 : 0 ≤ (x4_1 : Int) := of_decide_eq_true (by first | (with_reducible assumption) | assumption)
      have q16 : (x4_1 : Int) < ((x205002_1.length : Int) : Int) := of_decide_eq_true (by first | (with_reducible assumption) | assumption)
      obtain ⟨go16, co16, eo16, gb16, gl16, cl16, HG16⟩ := Kd.Df HO_205002.out (by omega)
      (first | cases eo16 | (injection eo16 with ea_ en_ ec_; (first | subst ea_ | (injection ea_ with ea_; subst ea_)); subst ec_; clear en_))
      have GB16 := Aa.mk gb16
      have GG16 := Aa.mk HG16
      clear gb16 gl16 HG16
      obtain ⟨hx16_0, hf16_0⟩ := Kd.Ct false HO_205002.out (x4_1 : Int) p16 q16
      replace p16 := eq_true p16
      replace q16 := eq_true q16
      have HP21 := Kd.R_putn HO_205002.out (x4_1 : Int) (!(rdOf false l0_2 x4_1))
      rw [← Ny206.out] at HP21
      have HQ21 := Aa.mk HP21
      clear HP21
      refine start_ (n := 11) (S := fun w' => w'.cell? ⟨gb204, 0, none⟩ = some (.int .i64 t199) ∧ w'.cell? ⟨gb204, 1, none⟩ = some (.int .i64 t200) ∧ w'.cell? ⟨gb204, 2, none⟩ = some (.slice (some ⟨go16, 0, none⟩) x205002_1.length co16) ∧ w'.cell? ⟨gb197, 0, none⟩ = some (.int .i64 a0_0) ∧ w'.cell? ⟨gb197, 1, none⟩ = some (.int .i64 a0_1) ∧ w'.cell? ⟨gb197, 2, none⟩ = some (.slice (some ad205) l0_2.length c0_2) ∧ w'.cell? (ad205.add (x4_1).toNat) = some (.bool (rdOf false l0_2 x4_1))) (ds := [10]) #[false, false, false, false, false, false, false, false, false, false, false] (by kernel_rfl) rfl rfl ⟨(Ae BK204.out 0).trans rfl, (Ae BK204.out 1).trans rfl, (Ae BK204.out 2).trans rfl, (Ae BK197.out 0).trans rfl, (Ae BK197.out 1).trans rfl, (Ae BK197.out 2).trans rfl, ((HB.out.cell (World.block_lt_of_cell? w _ hw205_0)).trans hw205_0)⟩ (fun hHeld => ?_); refine with_tabW Bc.tab5 Bc.bits5 (fun HT_ HW_ => ?_)
      generalize wr.drew = w20 at HO_205002 BK197 BK198 BK204 HB GG16 HQ21 hf16_0 hx16_0 hx205_0 hHeld ⊢
      refine pure_ (i := 0) (N := some 17) (v := ?_) (a' := ?_) (bA 11 1) rfl rfl (any_of HT_.out (by kernel_rfl)) (fun _ _ _ h => h) (Or.inl ⟨by rfl, ?_⟩) ?_ ?_
      rotate_left; (intro w'; go_simp; with_reducible rfl); rotate_left; (simp only [Act.put, sA, sB, sC, i64_w, i32_w]; rfl)
      refine pure_ (i := 2) (N := some 19) (v := ?_) (a' := ?_) (bA 11 5) rfl rfl (any_of HT_.out (by kernel_rfl)) (fun _ _ _ h => h) (Or.inl ⟨by rfl, ?_⟩) ?_ ?_
      rotate_left; (intro w'; go_simp; with_reducible rfl); rotate_left; (simp only [Act.put, sA, sB, sC, i64_w, i32_w]; rfl)
      refine pure_ (i := 3) (N := some 20) (v := ?_) (a' := ?_) (bA 11 13) rfl rfl (any_of HT_.out (by kernel_rfl)) (fun _ _ _ h => h) (Or.inl ⟨by rfl, ?_⟩) ?_ ?_
      rotate_left; (intro w'; go_simp; with_reducible rfl); rotate_left; (simp only [Act.put, sA, sB, sC, i64_w, i32_w]; rfl)
      refine pure_ (i := 5) (N := some 22) (v := ?_) (a' := ?_) (bA 11 45) rfl rfl (any_of HT_.out (by kernel_rfl)) (fun _ _ _ h => h) (Or.inl ⟨by rfl, ?_⟩) ?_ ?_
      rotate_left; (intro w'; go_simp; with_reducible rfl); rotate_left; (simp only [Act.put, sA, sB, sC, i64_w, i32_w]; rfl)
      refine take_ (i := 1) (N := some 18) (v := ?_) (a' := ?_) (bA 11 47) rfl rfl (take_ofW HT_.out HW_.out (by kernel_rfl)) (fun _ _ _ h => h) (Or.inl ⟨by rfl, ?_⟩) hHeld ?_ ?_
      rotate_left; (rintro w' ⟨s0, s1, s2, s3, s4, s5, s6⟩; go_simp; with_reducible rfl); rotate_left; (simp only [Act.put, sA, sB, sC, i64_w, i32_w]; rfl)
      refine take_ (i := 4) (N := some 21) (v := ?_) (a' := ?_) (bA 11 63) rfl rfl (take_ofW HT_.out HW_.out (by kernel_rfl)) (fun _ _ _ h => h) (Or.inl ⟨by rfl, ?_⟩) hHeld ?_ ?_
      rotate_left; (rintro w' ⟨s0, s1, s2, s3, s4, s5, s6⟩; go_simp; with_reducible rfl); rotate_left; (simp only [Act.put, sA, sB, sC, i64_w, i32_w]; rfl)
      refine pure_ (i := 6) (N := some 23) (v := ?_) (a' := ?_) (bA 11 127) rfl rfl (any_of HT_.out (by kernel_rfl)) (fun _ _ _ h => h) (Or.inl ⟨by rfl, ?_⟩) ?_ ?_
      rotate_left; (intro w'; go_simp; with_reducible rfl); rotate_left; (simp only [Act.put, sA, sB, sC, i64_w, i32_w]; rfl)
      refine take_ (i := 7) (N := some 24) (v := ?_) (a' := ?_) (bA 11 255) rfl rfl (take_ofW HT_.out HW_.out (by kernel_rfl)) (fun _ _ _ h => h) (Or.inl ⟨by rfl, ?_⟩) hHeld ?_ ?_
      rotate_left; (rintro w' ⟨s0, s1, s2, s3, s4, s5, s6⟩; go_simp; with_reducible rfl); rotate_left; (simp only [Act.put, sA, sB, sC, i64_w, i32_w]; rfl)
      refine pure_ (i := 8) (N := some 25) (v := ?_) (a' := ?_) (bA 11 511) rfl rfl (any_of HT_.out (by kernel_rfl)) (fun _ _ _ h => h) (Or.inl ⟨by rfl, ?_⟩) ?_ ?_
      rotate_left; (intro w'; go_simp; with_reducible rfl); rotate_left; (simp only [Act.put, sA, sB, sC, i64_w, i32_w]; rfl)
      refine pure_ (i := 9) (N := some 26) (v := ?_) (a' := ?_) (bA 11 1023) rfl rfl (any_of HT_.out (by kernel_rfl)) (fun _ _ _ h => h) (Or.inl ⟨by rfl, ?_⟩) ?_ ?_
      rotate_left; (intro w'; go_simp; with_reducible rfl); rotate_left; (simp only [Act.put, sA, sB, sC, i64_w, i32_w]; rfl)
      refine last_ (i := 10) (N := none) (bA 11 2047) rfl rfl (one_of HT_.out (by kernel_rfl)) (by decide) (fun K hK => ?_)
      refine skip_ (w1 := ?_) (by rfl) rfl ?_ ?_
      rotate_left
      ·go_simp
       rfl
      refine hK.out _ _ ?_
      clear hK K
      refine done_ (done_of HT_.out (by kernel_rfl)) ?_
      try go_wp2
      go_roundg k1
      case measure => have := HK1.out; omega
      case rel => exact ⟨(wrap64 (x4_1 + 1)), (y206), (.slice (some ⟨go16, 0, none⟩) x205002_1.length co16), (by first | rfl | (simp; done) | (simp [*]; done)), H', ⟨by have := HK1.out; omega⟩, ⟨by exact rU <| HQ21.out⟩, ⟨by (with_reducible repeat (first | refine As ?_ _ | refine At ?_ | refine Aj ?_ _)); refine Bf ?_ (by have h_ := Kd.Db HO_205002.out BK197.out (by decide); intro e_; exact h_ (by rw [e_]; rfl)) _; exact bU <| BK197.out⟩, ⟨by (with_reducible repeat (first | refine As ?_ _ | refine At ?_ | refine Aj ?_ _)); refine Bf ?_ (by have h_ := Kd.Db HO_205002.out BK198.out (by decide); intro e_; exact h_ (by rw [e_]; rfl)) _; exact bU <| BK198.out⟩, ⟨by (with_reducible repeat (first | refine As ?_ _ | refine At ?_ | refine Aj ?_ _)); refine Bf ?_ (by have h_ := Kd.Db HO_205002.out BK204.out (by decide); intro e_; exact h_ (by rw [e_]; rfl)) _; exact bU <| BK204.out⟩, ⟨by repeat (first | (with_reducible first | exact HB.out | apply Ad | apply Ac | apply Ah | refine Af ?_ GB16.out | refine Af ?_ GE197.out | refine Af ?_ GE198.out | refine Af ?_ GE204.out) | exact HB.out)⟩⟩
     ·rw [if_neg c15] at H
      exact absurd H (by simp)
    ·rw [if_neg c14] at H
     exact absurd H (by simp)
   ·rw [if_neg c13] at H
    have c13b0 : decide (x4_1 < (l0_2.length : Int)) = false := decide_eq_false c13
    clear c13
    simp only [Option.some.injEq, Prod.mk.injEq] at H
    obtain ⟨rfl, rfl, rfl⟩ := H
    have hnb22 := NB197_198.out
    have hnc22 := NB198_197.out
    have hnb23 := NB197_204.out
    have hnc23 := NB204_197.out
    have hcz24_0 : wr.cell? ⟨gb197, 0, none⟩ = some (.int .i64 a0_0) := (Ae BK197.out 0).trans rfl
    have hcz24_1 : wr.cell? ⟨gb197, 1, none⟩ = some (.int .i64 a0_1) := (Ae BK197.out 1).trans rfl
    have hcz24_2 : wr.cell? ⟨gb197, 2, none⟩ = some (.slice A0_2 l0_2.length c0_2) := (Ae BK197.out 2).trans rfl
    have hfz24_0 := Ag BK197.out 0
    have hfz24_1 := Ag BK197.out 1
    have hfz24_2 := Ag BK197.out 2
    have hnb25 := NB204_198.out
    have hnc25 := NB198_204.out
    have hcz26_0 : wr.cell? ⟨gb204, 0, none⟩ = some (.int .i64 t199) := (Ae BK204.out 0).trans rfl
    have hcz26_1 : wr.cell? ⟨gb204, 1, none⟩ = some (.int .i64 t200) := (Ae BK204.out 1).trans rfl
    have hcz26_2 : wr.cell? ⟨gb204, 2, none⟩ = some (u205002) := (Ae BK204.out 2).trans rfl
    have hfz26_0 := Ag BK204.out 0
    have hfz26_1 := Ag BK204.out 1
    have hfz26_2 := Ag BK204.out 2
    have hcz27_0 : wr.cell? ⟨gb198, 0, none⟩ = some (.int .i64 0) := (Ae BK198.out 0).trans rfl
    have hcz27_1 : wr.cell? ⟨gb198, 1, none⟩ = some (.int .i64 0) := (Ae BK198.out 1).trans rfl
    have hcz27_2 : wr.cell? ⟨gb198, 2, none⟩ = some (.slice none 0 0) := (Ae BK198.out 2).trans rfl
    have hfz27_0 := Ag BK198.out 0
    have hfz27_1 := Ag BK198.out 1
    have hfz27_2 := Ag BK198.out 2
    obtain ⟨Ao28, co28, eo28⟩ := Kd.Bz HO_205002.out
    subst eo28
    go_wp2
    refine bodyPost_ret (results_cell_row rfl _ _ gb198 50 #[.int .i64 t199, .int .i64 t200, .slice Ao28 x205002_1.length co28] (0, 0) _ rfl (by (with_reducible repeat (first | refine As ?_ _ | refine At ?_ | refine Aj ?_ _)); refine Bd (cs := #[.int .i64 t199, .int .i64 t200, .slice none 0 0]) ?_ 2 _ rfl; (with_reducible repeat (first | refine As ?_ _ | refine At ?_ | refine Aj ?_ _)); refine Bd (cs := #[.int .i64 t199, .int .i64 0, .slice none 0 0]) ?_ 1 _ rfl; (with_reducible repeat (first | refine As ?_ _ | refine At ?_ | refine Aj ?_ _)); refine Bd (cs := #[.int .i64 0, .int .i64 0, .slice none 0 0]) ?_ 0 _ rfl; exact bU <| BK198.out) Try.underlying50 rfl (by kernel_rfl)) rfl ?_
    exact ⟨_, by first | rfl | (simp [Az, Ba] <;> rfl) | (simp [*, Az, Ba] <;> rfl), by exact rU <| Kd.Bj (Kd.Be (p := ⟨gb198, 2, none⟩) (Kd.Be (p := ⟨gb198, 1, none⟩) (Kd.Be (p := ⟨gb198, 0, none⟩) (Kd.B4 HO_205002.out BK198.out (by decide)) (fun _ hk => hk.2) (.int .i64 t199)) (fun _ hk => hk.2) (.int .i64 t200)) (fun _ hk => hk.2) (.slice Ao28 x205002_1.length co28)) (fun _ hk => trivial), by repeat (first | (with_reducible first | exact HB.out | apply Ad | apply Ac | apply Ah | refine Af ?_ GE197.out | refine Af ?_ GE198.out | refine Af ?_ GE204.out) | exact HB.out)⟩

def Dh.f (a0 : Int) : Option (Int) := some a0
set_option maxHeartbeats 8000000 in
set_option maxRecDepth 100000 in
theorem Dh.calls (a0 : Int) (r : Int) (w : World) (h : Dh.f a0 = some r) :
  Calls Try.prog 17 #[.int .i64 a0] w fun e w' => e = .returned (.int .i64 r) ∧ Drawn0 w w' := by
 have H : (some a0) = some r := h
 clear h
 obtain rfl := Option.some.inj H
 go_enter Try.func17, Try.ntmps17
 go_wp2
 go_ret
 exact ⟨by first | rfl | (simp; done) | (simp [*]; done), by repeat (first | exact Drawn0.refl _ | apply Drawn0.step)⟩

end Go.Proofs.Yteamphcehoaleaa.PFA

