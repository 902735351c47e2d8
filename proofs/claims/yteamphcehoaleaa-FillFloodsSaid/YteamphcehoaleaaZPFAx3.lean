import Derived.Test.YteamphcehoaleaaZPFAx0
namespace Go.Proofs.Yteamphcehoaleaa.PFA
open Go.RowKit Go.Proofs.YteamphcehoaleaaW.PrintWords Go.Proofs.YteamphcehoaleaaW.PrintLast Go.Proofs.YteamphcehoaleaaW.PrintMore
attribute [local go_sem] max2_int min2_int max_two min_two max_three min_three max_four min_four   -- for this text's walks alone
set_option linter.unusedVariables false
set_option linter.unusedSimpArgs false

mutual
def Bb.l0 : Nat → List Int → Int → Int → Int → Int → List Bool → Option (List Int)
 | 0, _, _, _, _, _, _ => none
 | k + 1, x3, x13, x14, x124000, x124001, x124002 => if x14 < x13 then (Bb.l1 k x3 x14 1048576 x13 x14 x124001 0 x124000 x124001 x124002) else (some x3)
def Bb.l1 : Nat → List Int → Int → Int → Int → Int → Int → Int → Int → Int → List Bool → Option (List Int)
 | 0, _, _, _, _, _, _, _, _, _, _ => none
 | k + 1, x3, x4, x5, x13, x14, x18, x19, x124000, x124001, x124002 => if x19 < x18 then (if 0 ≤ (wrap64 ((wrap64 (x19 * x124000)) + x4)) then (if (wrap64 ((wrap64 (x19 * x124000)) + x4)) < (x124002.length : Int) then (if rdOf false x124002 (wrap64 ((wrap64 (x19 * x124000)) + x4)) = true then (if (wrap64 ((wrap64 (x19 * x124000)) + x4)) < (x3.length : Int) then (Bb.l1 k (x3.set ((wrap64 ((wrap64 (x19 * x124000)) + x4)) : Int).toNat 0) x4 0 x13 x14 x18 (wrap64 (x19 + 1)) x124000 x124001 x124002) else (none)) else (if (wrap64 ((wrap64 (x19 * x124000)) + x4)) < (x3.length : Int) then (Bb.l1 k (x3.set ((wrap64 ((wrap64 (x19 * x124000)) + x4)) : Int).toNat (wrap64 (x5 + 1))) x4 (wrap64 (x5 + 1)) x13 x14 x18 (wrap64 (x19 + 1)) x124000 x124001 x124002) else (none))) else (none)) else (none)) else (Bb.l2 k x3 x4 1048576 (wrap64 (x124001 - 1)) x13 x14 x124000 x124001 x124002)
def Bb.l2 : Nat → List Int → Int → Int → Int → Int → Int → Int → Int → List Bool → Option (List Int)
 | 0, _, _, _, _, _, _, _, _, _ => none
 | k + 1, x3, x4, x5, x7, x13, x14, x124000, x124001, x124002 => if x7 ≥ 0 then (if 0 ≤ (wrap64 ((wrap64 (x7 * x124000)) + x4)) then (if (wrap64 ((wrap64 (x7 * x124000)) + x4)) < (x3.length : Int) then (Bb.l2 k (x3.set ((wrap64 ((wrap64 (x7 * x124000)) + x4)) : Int).toNat (mn (wrap64 (x5 + 1)) (rd x3 (wrap64 ((wrap64 (x7 * x124000)) + x4))))) x4 (mn (wrap64 (x5 + 1)) (rd x3 (wrap64 ((wrap64 (x7 * x124000)) + x4)))) (wrap64 (x7 - 1)) x13 x14 x124000 x124001 x124002) else (none)) else (none)) else (Bb.l0 k x3 x13 (wrap64 (x14 + 1)) x124000 x124001 x124002)
end
def Bb.f (k : Nat) (a0_0 : Int) (a0_1 : Int) (l0_2 : List Bool) : Option (List Int) := if 0 ≤ (l0_2.length : Int) then (if ((l0_2.length : Int) : Int).toNat ≤ 35184372088832 then (Bb.l0 k (List.replicate ((l0_2.length : Int) : Int).toNat 0) a0_0 0 a0_0 a0_1 l0_2) else (none)) else (none)
theorem Bb.mono_l : ∀ k, (∀ y0 y1 y2 y3 y4 y5, LeO (Bb.l0 k y0 y1 y2 y3 y4 y5) (Bb.l0 (k + 1) y0 y1 y2 y3 y4 y5)) ∧ (∀ y0 y1 y2 y3 y4 y5 y6 y7 y8 y9, LeO (Bb.l1 k y0 y1 y2 y3 y4 y5 y6 y7 y8 y9) (Bb.l1 (k + 1) y0 y1 y2 y3 y4 y5 y6 y7 y8 y9)) ∧ (∀ y0 y1 y2 y3 y4 y5 y6 y7 y8, LeO (Bb.l2 k y0 y1 y2 y3 y4 y5 y6 y7 y8) (Bb.l2 (k + 1) y0 y1 y2 y3 y4 y5 y6 y7 y8))
 | 0 => ⟨fun _ _ _ _ _ _ r h => by simp [Bb.l0] at h, fun _ _ _ _ _ _ _ _ _ _ r h => by simp [Bb.l1] at h, fun _ _ _ _ _ _ _ _ _ r h => by simp [Bb.l2] at h⟩
 | k + 1 => by
  obtain ⟨ih0, ih1, ih2⟩ := Bb.mono_l k
  refine ⟨?_, ?_, ?_⟩
  ·intro y0 y1 y2 y3 y4 y5
   unfold Bb.l0
   repeat' first
   | (with_reducible exact ih0 _ _ _ _ _ _)
   | (with_reducible exact ih1 _ _ _ _ _ _ _ _ _ _)
   | (with_reducible exact ih2 _ _ _ _ _ _ _ _ _)
   | (with_reducible exact LeO.refl _)
   | (with_reducible exact LeO.none _)
   | (with_reducible refine LeO.ite ?_ ?_)
   | (with_reducible refine LeO.bind ?_ (fun _ => ?_))
   | exact ih0 _ _ _ _ _ _
   | exact ih1 _ _ _ _ _ _ _ _ _ _
   | exact ih2 _ _ _ _ _ _ _ _ _
   | exact LeO.none _
   | refine LeO.ite ?_ ?_
   | refine LeO.bind ?_ (fun _ => ?_)
  ·intro y0 y1 y2 y3 y4 y5 y6 y7 y8 y9
   unfold Bb.l1
   repeat' first
   | (with_reducible exact ih0 _ _ _ _ _ _)
   | (with_reducible exact ih1 _ _ _ _ _ _ _ _ _ _)
   | (with_reducible exact ih2 _ _ _ _ _ _ _ _ _)
   | (with_reducible exact LeO.refl _)
   | (with_reducible exact LeO.none _)
   | (with_reducible refine LeO.ite ?_ ?_)
   | (with_reducible refine LeO.bind ?_ (fun _ => ?_))
   | exact ih0 _ _ _ _ _ _
   | exact ih1 _ _ _ _ _ _ _ _ _ _
   | exact ih2 _ _ _ _ _ _ _ _ _
   | exact LeO.none _
   | refine LeO.ite ?_ ?_
   | refine LeO.bind ?_ (fun _ => ?_)
  ·intro y0 y1 y2 y3 y4 y5 y6 y7 y8
   unfold Bb.l2
   repeat' first
   | (with_reducible exact ih0 _ _ _ _ _ _)
   | (with_reducible exact ih1 _ _ _ _ _ _ _ _ _ _)
   | (with_reducible exact ih2 _ _ _ _ _ _ _ _ _)
   | (with_reducible exact LeO.refl _)
   | (with_reducible exact LeO.none _)
   | (with_reducible refine LeO.ite ?_ ?_)
   | (with_reducible refine LeO.bind ?_ (fun _ => ?_))
   | exact ih0 _ _ _ _ _ _
   | exact ih1 _ _ _ _ _ _ _ _ _ _
   | exact ih2 _ _ _ _ _ _ _ _ _
   | exact LeO.none _
   | refine LeO.ite ?_ ?_
   | refine LeO.bind ?_ (fun _ => ?_)
theorem Bb.mono : ∀ a0 a1 a2 k, LeO (Bb.f k a0 a1 a2) (Bb.f (k + 1) a0 a1 a2) := by
 intro a0 a1 a2 k
 obtain ⟨ih0, ih1, ih2⟩ := Bb.mono_l k
 unfold Bb.f
 repeat' first
   | (with_reducible exact ih0 _ _ _ _ _ _)
   | (with_reducible exact ih1 _ _ _ _ _ _ _ _ _ _)
   | (with_reducible exact ih2 _ _ _ _ _ _ _ _ _)
   | (with_reducible exact LeO.refl _)
   | (with_reducible exact LeO.none _)
   | (with_reducible refine LeO.ite ?_ ?_)
   | (with_reducible refine LeO.bind ?_ (fun _ => ?_))
   | exact ih0 _ _ _ _ _ _
   | exact ih1 _ _ _ _ _ _ _ _ _ _
   | exact ih2 _ _ _ _ _ _ _ _ _
   | exact LeO.none _
   | refine LeO.ite ?_ ?_
   | refine LeO.bind ?_ (fun _ => ?_)
set_option maxHeartbeats 8000000 in
set_option maxRecDepth 100000 in
theorem Bb.calls (k : Nat) (a0_0 : Int) (a0_1 : Int) (A0_2 : Option Addr) (c0_2 : Nat) (l0_2 : List Bool) (r : List Int) (w : World) (hr0_2 : Kd.C Kd.bool w A0_2 l0_2.length l0_2) (hc0_2 : l0_2.length ≤ c0_2) (h : Bb.f k a0_0 a0_1 l0_2 = some r) :
  Calls Try.prog 79 #[.agg #[.int .i64 a0_0, .int .i64 a0_1, .slice A0_2 l0_2.length c0_2]] w fun e w' => ∃ v0_ : Value, e = .returned (v0_) ∧ Kd.R (Kd.int .i64) 3 w' w.heap.size (fun _ => True) v0_ r ∧ Below w.heap.size w w' := by
 have hu50 := Try.underlying50
 have HR0_2 := Aa.mk hr0_2
 have HC0_2 := Aa.mk hc0_2
 clear hr0_2 hc0_2
 have HB := Aa.mk (Below.refl w.heap.size w)
 have H : (if 0 ≤ (l0_2.length : Int) then (if ((l0_2.length : Int) : Int).toNat ≤ 35184372088832 then (Bb.l0 k (List.replicate ((l0_2.length : Int) : Int).toNat 0) a0_0 0 a0_0 a0_1 l0_2) else (none)) else (none)) = some r := h
 clear h
 by_cases c2 : 0 ≤ (l0_2.length : Int)
 ·rw [if_pos c2] at H
  have c2b0 := eq_true c2
  have c2b1 : decide (0 ≤ (l0_2.length : Int)) = true := decide_eq_true c2
  clear c2
  by_cases c3 : ((l0_2.length : Int) : Int).toNat ≤ 35184372088832
  ·rw [if_pos c3] at H
   have c3b0 := eq_true c3
   have c3b1 : decide (((l0_2.length : Int) : Int).toNat ≤ 35184372088832) = true := decide_eq_true c3
   clear c3
   obtain ⟨y124, hy124⟩ : ∃ y_ : List Int, y_ = (List.replicate ((l0_2.length : Int) : Int).toNat 0) := ⟨_, rfl⟩
   replace H : (Bb.l0 k y124 a0_0 0 a0_0 a0_1 l0_2) = some r := by first | (rw [hy124]; with_reducible exact H) | (have H2_ := (Option.bind_some _ _).symm.trans H; rw [hy124]; with_reducible exact H2_) | (have H2_ := (Option.bind_some _ _).symm.trans H; with_reducible exact H2_) | with_reducible exact H | (rw [hy124]; exact H) | exact H
   have Ny124 := Aa.mk hy124
   clear hy124
   have H' := Aa.mk H
   clear H
   go_enter Try.func79, Try.ntmps79
   go_wp2_with (first | ((with_reducible refine Bk (N := 1) rfl ?_); refine Bp ?hg (N := 1) ?hd (cs := #[.int .i64 a0_0, .int .i64 a0_1, .slice A0_2 l0_2.length c0_2]) (t := 50) ?hr ?_; (case hd => rfl); (case hg => rfl); (case hr => first | (go_simp; done) | (go_simp; rfl)); intro gb123 hg w4 hbox hb; have n0_ := Aa.mk (Ar (lU HB.out) hb); have n1_ := Aa.mk (hbox); have n2_ := Aa.mk ((by rw [hg]; exact (Ak (lU HB.out)) : w.heap.size ≤ gb123)); have n3_ := Aa.mk ((by rw [hg]; exact (Ak (lU HB.out)) : w.heap.size ≤ gb123)); clear HB; have HB := n0_; have BK123 := n1_; have GW123 := n2_; have GE123 := n3_; clear n0_ n1_ n2_ n3_; clear hb hbox hg; have hcz5_0 : w4.cell? ⟨gb123, 0, none⟩ = some (.int .i64 a0_0) := (Ae BK123.out 0).trans rfl; have hcz5_1 : w4.cell? ⟨gb123, 1, none⟩ = some (.int .i64 a0_1) := (Ae BK123.out 1).trans rfl; have hcz5_2 : w4.cell? ⟨gb123, 2, none⟩ = some (.slice A0_2 l0_2.length c0_2) := (Ae BK123.out 2).trans rfl; have hfz5_0 := Ag BK123.out 0; have hfz5_1 := Ag BK123.out 1; have hfz5_2 := Ag BK123.out 2) | ((with_reducible refine Bk (N := 11) rfl ?_); refine Kd.R_make (Kd.int .i64) _ 3 rfl (N := 11) rfl 31 _ _ rfl (l0_2.length : Int) rfl rfl Try.underlying31 (.int .i64 0) 8 info3 rfl (by decide) (by omega) 0 (ok := fun _ => True) (okp := fun _ => True) rfl (fun _ hk => hk) trivial (of_decide_eq_true (by first | (with_reducible assumption) | assumption)) (Nat.le_trans (Nat.mul_le_mul_right _ (of_decide_eq_true (by first | (with_reducible assumption) | assumption) : (l0_2.length : Int).toNat ≤ 35184372088832)) (by omega)) (Below.refl _ _) (Nat.le_refl _) ?_; intro v125 w6 ho7 hb hg_ hnew_; clear hg_ hnew_; (first | rw [← Ny124.out] at ho7 | (simp only [Int.reduceToNat] at ho7; rw [← Ny124.out] at ho7)); have n0_ := Aa.mk (Kd.B6 ho7 (Ak (by repeat (first | (with_reducible first | exact HB.out | apply Ad | apply Ac | apply Ah | refine Af ?_ GE123.out) | exact HB.out)))); have n1_ := Aa.mk (An (g := gb123) (o := .cells #[.int .i64 a0_0, .int .i64 a0_1, .slice A0_2 l0_2.length c0_2] 50 (0, 0)) (by exact bU <| BK123.out) hb); have n2_ := Aa.mk (Ar (by repeat (first | (with_reducible first | exact HB.out | apply Ad | apply Ac | apply Ah | refine Af ?_ GE123.out) | exact HB.out)) hb); clear BK123; clear HB; have HO126 := n0_; have BK123 := n1_; have HB := n2_; clear n0_ n1_ n2_; clear hb ho7; have hcz8_0 : w6.cell? ⟨gb123, 0, none⟩ = some (.int .i64 a0_0) := (Ae BK123.out 0).trans rfl; have hcz8_1 : w6.cell? ⟨gb123, 1, none⟩ = some (.int .i64 a0_1) := (Ae BK123.out 1).trans rfl; have hcz8_2 : w6.cell? ⟨gb123, 2, none⟩ = some (.slice A0_2 l0_2.length c0_2) := (Ae BK123.out 2).trans rfl; have hfz8_0 := Ag BK123.out 0; have hfz8_1 := Ag BK123.out 1; have hfz8_2 := Ag BK123.out 2))
   go_loopg [14] k (fun kq v14 w' => ∃ (x3_1 : List Int) (x14_1 : Int), v14 = .int .i64 x14_1 ∧ Aa (Bb.l0 kq x3_1 a0_0 x14_1 a0_0 a0_1 l0_2 = some r) ∧ Aa (kq ≤ k) ∧ Aa (Kd.R (Kd.int .i64) 3 w' w.heap.size (fun _ => True) v125 x3_1) ∧ Aa (w'.heap[gb123]? = some (.cells #[.int .i64 a0_0, .int .i64 a0_1, (.slice A0_2 l0_2.length c0_2)] 50 (0, 0))) ∧ Aa (Below w.heap.size w w'))
   case atStart => exact ⟨(y124), (0), (by first | rfl | (simp; done) | (simp [*]; done)), H', ⟨Nat.le_refl _⟩, ⟨by exact rU <| HO126.out⟩, ⟨by exact bU <| BK123.out⟩, ⟨by repeat (first | (with_reducible first | exact HB.out | apply Ad | apply Ac | apply Ah | refine Af ?_ GE123.out) | exact HB.out)⟩⟩
   case round =>
    clear H'
    try clear c2
    try clear c2b0
    try clear c2b1
    try clear p2
    try clear c3
    try clear c3b0
    try clear c3b1
    try clear c7
    try clear hcz5_0
    try clear hcz5_1
    try clear hcz5_2
    try clear hcz8_0
    try clear hcz8_1
    try clear hcz8_2
    try clear hfz5_0
    try clear hfz5_1
    try clear hfz5_2
    try clear hfz8_0
    try clear hfz8_1
    try clear hfz8_2
    obtain ⟨x3_1, x14_1, rfl, HA, HK1, HO_3, BK123, HB⟩ := hrel
    cases gk with
    | zero => exact absurd HA.out (by simp [Bb.l0])
    | succ k1 =>
     have H := HA.out
     clear HA
     simp only [Bb.l0] at H
     by_cases c9 : x14_1 < a0_0
     ·rw [if_pos c9] at H
      have c9b0 : decide (x14_1 < a0_0) = true := decide_eq_true c9
      clear c9
      have H' := Aa.mk H
      clear H
      have hcz10_0 : wr.cell? ⟨gb123, 0, none⟩ = some (.int .i64 a0_0) := (Ae BK123.out 0).trans rfl
      have hcz10_1 : wr.cell? ⟨gb123, 1, none⟩ = some (.int .i64 a0_1) := (Ae BK123.out 1).trans rfl
      have hcz10_2 : wr.cell? ⟨gb123, 2, none⟩ = some (.slice A0_2 l0_2.length c0_2) := (Ae BK123.out 2).trans rfl
      have hfz10_0 := Ag BK123.out 0
      have hfz10_1 := Ag BK123.out 1
      have hfz10_2 := Ag BK123.out 2
      go_wp2
      go_loopg [5, 19] k1 (fun kq v5 v19 w' => ∃ (x3_2 : List Int) (x5_2 : Int) (x19_2 : Int), v5 = .int .i64 x5_2 ∧ v19 = .int .i64 x19_2 ∧ Aa (Bb.l1 kq x3_2 x14_1 x5_2 a0_0 x14_1 a0_1 x19_2 a0_0 a0_1 l0_2 = some r) ∧ Aa (kq ≤ k1) ∧ Aa (Kd.R (Kd.int .i64) 3 w' w.heap.size (fun _ => True) v125 x3_2) ∧ Aa (w'.heap[gb123]? = some (.cells #[.int .i64 a0_0, .int .i64 a0_1, (.slice A0_2 l0_2.length c0_2)] 50 (0, 0))) ∧ Aa (Below w.heap.size w w'))
      case atStart => exact ⟨(x3_1), (1048576), (0), (by first | rfl | (simp; done) | (simp [*]; done)), (by first | rfl | (simp; done) | (simp [*]; done)), H', ⟨Nat.le_refl _⟩, ⟨by exact rU <| HO_3.out⟩, ⟨by exact bU <| BK123.out⟩, ⟨by repeat (first | (with_reducible first | exact HB.out | apply Ad | apply Ac | apply Ah | refine Af ?_ GE123.out) | exact HB.out)⟩⟩
      case round =>
       clear H'
       try clear c2
       try clear c2b0
       try clear c2b1
       try clear p2
       try clear c3
       try clear c3b0
       try clear c3b1
       try clear c7
       try clear c9
       try clear c9b0
       try clear hcz10_0
       try clear hcz10_1
       try clear hcz10_2
       try clear hcz5_0
       try clear hcz5_1
       try clear hcz5_2
       try clear hcz8_0
       try clear hcz8_1
       try clear hcz8_2
       try clear hfz10_0
       try clear hfz10_1
       try clear hfz10_2
       try clear hfz5_0
       try clear hfz5_1
       try clear hfz5_2
       try clear hfz8_0
       try clear hfz8_1
       try clear hfz8_2
       try clear p2
       obtain ⟨x3_2, x5_2, x19_2, rfl, rfl, HA, HK2, HO_3, BK123, HB⟩ := hrel
       cases gk with
       | zero => exact absurd HA.out (by simp [Bb.l1])
       | succ k2 =>
        have H := HA.out
        clear HA
        simp only [Bb.l1] at H
        by_cases c11 : x19_2 < a0_1
        ·rw [if_pos c11] at H
         have c11b0 : decide (x19_2 < a0_1) = true := decide_eq_true c11
         clear c11
         obtain ⟨ji12, hji12⟩ : ∃ j_ : Int, (wrap64 ((wrap64 (x19_2 * a0_0)) + x14_1)) = j_ := ⟨_, rfl⟩
         replace H : (if 0 ≤ (ji12) then (if (ji12) < (l0_2.length : Int) then (if rdOf false l0_2 (ji12) = true then (if (ji12) < (x3_2.length : Int) then (Bb.l1 k2 (x3_2.set ((ji12) : Int).toNat 0) x14_1 0 a0_0 x14_1 a0_1 (wrap64 (x19_2 + 1)) a0_0 a0_1 l0_2) else (none)) else (if (ji12) < (x3_2.length : Int) then (Bb.l1 k2 (x3_2.set ((ji12) : Int).toNat (wrap64 (x5_2 + 1))) x14_1 (wrap64 (x5_2 + 1)) a0_0 x14_1 a0_1 (wrap64 (x19_2 + 1)) a0_0 a0_1 l0_2) else (none))) else (none)) else (none)) = some r := by first | (rw [hji12] at H; exact H) | (simp only [hji12] at H ⊢; exact H)
         have hji12w : (IntKind.i64.wrap ((wrap64 (x19_2 * a0_0)) + x14_1)) = ji12 := (i64_w _).trans hji12
         by_cases c13 : 0 ≤ (ji12)
         ·rw [if_pos c13] at H
          have c13b0 : decide (0 ≤ (ji12)) = true := decide_eq_true c13
          clear c13
          by_cases c14 : (ji12) < (l0_2.length : Int)
          ·rw [if_pos c14] at H
           have c14b0 : decide ((ji12) < (l0_2.length : Int)) = true := decide_eq_true c14
           clear c14
           obtain ⟨bq15, hbq15⟩ : ∃ b_ : Bool, b_ = (rdOf false l0_2 (ji12)) := ⟨_, rfl⟩
           replace H : (if bq15 = true then (if (ji12) < (x3_2.length : Int) then (Bb.l1 k2 (x3_2.set ((ji12) : Int).toNat 0) x14_1 0 a0_0 x14_1 a0_1 (wrap64 (x19_2 + 1)) a0_0 a0_1 l0_2) else (none)) else (if (ji12) < (x3_2.length : Int) then (Bb.l1 k2 (x3_2.set ((ji12) : Int).toNat (wrap64 (x5_2 + 1))) x14_1 (wrap64 (x5_2 + 1)) a0_0 x14_1 a0_1 (wrap64 (x19_2 + 1)) a0_0 a0_1 l0_2) else (none))) = some r := by rw [← hbq15] at H; exact H
           have Nbq15 := Aa.mk hbq15
           clear hbq15
           by_cases c16 : bq15 = true
           ·subst c16
            have H1 : (if (ji12) < (x3_2.length : Int) then (Bb.l1 k2 (x3_2.set ((ji12) : Int).toNat 0) x14_1 0 a0_0 x14_1 a0_1 (wrap64 (x19_2 + 1)) a0_0 a0_1 l0_2) else (none)) = some r := by rw [if_pos rfl] at H; exact H
            clear H
            have H := H1
            clear H1
            by_cases c17 : (ji12) < (x3_2.length : Int)
            ·rw [if_pos c17] at H
             have c17b0 : decide ((ji12) < (x3_2.length : Int)) = true := decide_eq_true c17
             clear c17
             obtain ⟨y128, hy128⟩ : ∃ y_ : List Int, y_ = (x3_2.set ((ji12) : Int).toNat 0) := ⟨_, rfl⟩
             replace H : (Bb.l1 k2 y128 x14_1 0 a0_0 x14_1 a0_1 (wrap64 (x19_2 + 1)) a0_0 a0_1 l0_2) = some r := by first | (rw [hy128]; with_reducible exact H) | (have H2_ := (Option.bind_some _ _).symm.trans H; rw [hy128]; with_reducible exact H2_) | (have H2_ := (Option.bind_some _ _).symm.trans H; with_reducible exact H2_) | with_reducible exact H | (rw [hy128]; exact H) | exact H
             have Ny128 := Aa.mk hy128
             clear hy128
             have H' := Aa.mk H
             clear H
             have hcz19_0 : wr.cell? ⟨gb123, 0, none⟩ = some (.int .i64 a0_0) := (Ae BK123.out 0).trans rfl
             have hcz19_1 : wr.cell? ⟨gb123, 1, none⟩ = some (.int .i64 a0_1) := (Ae BK123.out 1).trans rfl
             have hcz19_2 : wr.cell? ⟨gb123, 2, none⟩ = some (.slice A0_2 l0_2.length c0_2) := (Ae BK123.out 2).trans rfl
             have hfz19_0 := Ag BK123.out 0
             have hfz19_1 := Ag BK123.out 1
             have hfz19_2 := Ag BK123.out 2
             have p127 : 0 ≤ ((ji12) : Int) := of_decide_eq_true (by first | (with_reducible assumption) | assumption)
             have q127 : (ji12) < (l0_2.length : Int) := of_decide_eq_true (by first | (with_reducible assumption) | assumption)
             obtain ⟨ad127, e127, hx127_0⟩ := Kd.at_bool HR0_2.out (ji12) p127 q127
             (try rw [← Nbq15.out] at hx127_0)
             cases e127
             replace hx127_0 := (HB.out.cell (World.block_lt_of_cell? w _ hx127_0)).trans hx127_0
             replace p127 := eq_true p127
             replace q127 := eq_true q127
             have p18 : 0 ≤ ((ji12) : Int) := of_decide_eq_true (by first | (with_reducible assumption) | assumption)
             have q18 : ((ji12) : Int) < ((x3_2.length : Int) : Int) := of_decide_eq_true (by first | (with_reducible assumption) | assumption)
             obtain ⟨go18, co18, eo18, gb18, gl18, cl18, HG18⟩ := Kd.Df HO_3.out (by omega)
             (first | cases eo18 | (injection eo18 with ea_ en_ ec_; (first | subst ea_ | (injection ea_ with ea_; subst ea_)); subst ec_; clear en_))
             have GB18 := Aa.mk gb18
             have GG18 := Aa.mk HG18
             clear gb18 gl18 HG18
             obtain ⟨hx18_0, hf18_0⟩ := Kd.Ct 0 HO_3.out ((ji12) : Int) p18 q18
             replace p18 := eq_true p18
             replace q18 := eq_true q18
             have HP20 := Kd.C6 HO_3.out ((ji12) : Int) 0
             go_wp2_with (((with_reducible refine Cq (t := 3) (p := 42) rfl ?_); refine store_event (t := 3) (p := 42) (v := ?vo_w21) (w1 := (wr.setCell ⟨go18, ((ji12) : Int).toNat, none⟩ (.int .i64 0))) ?hg ?ho ?hn ?hr ?_; (case ho => rfl); (case hg => rfl); (case hn => rfl); (case hr => first | (go_simp; done) | (go_simp; rfl)); intro w21 hw; have hg : wr.grownBy w21 (some go18) := (by rw [hw]; exact HP20.2); have hp_ : Kd.R (Kd.int .i64) 3 w21 w.heap.size (fun _ => True) (.slice (some ⟨go18, 0, none⟩) x3_2.length co18) y128 := (by rw [hw, Ny128.out]; exact HP20.1); clear HP20; have n0_ := Aa.mk (hp_); have n1_ := Aa.mk (Bs (g := gb123) (o := .cells #[.int .i64 a0_0, .int .i64 a0_1, .slice (some ad127) l0_2.length c0_2] 50 (0, 0)) (by exact bU <| BK123.out) hg (Kd.Db HO_3.out BK123.out (by decide))); have n2_ := Aa.mk ((by rw [hw]; exact Af (HB.out) GB18.out : Below w.heap.size w w21)); clear HO_3; clear BK123; clear HB; have HO_3 := n0_; have BK123 := n1_; have HB := n2_; clear n0_ n1_ n2_; clear hg hw hp_))
             go_roundg k2
             case measure => have := HK1.out; have := HK2.out; omega
             case rel => exact ⟨(y128), (0), (wrap64 (x19_2 + 1)), (by first | rfl | (simp; done) | (simp [*]; done)), (by first | rfl | (simp; done) | (simp [*]; done)), H', ⟨by have := HK1.out; have := HK2.out; omega⟩, ⟨by exact rU <| HO_3.out⟩, ⟨by exact bU <| BK123.out⟩, ⟨by repeat (first | (with_reducible first | exact HB.out | apply Ad | apply Ac | apply Ah | refine Af ?_ GE123.out) | exact HB.out)⟩⟩
            ·rw [if_neg c17] at H
             exact absurd H (by simp)
           ·replace c16 := Bool.eq_false_iff.mpr c16
            subst c16
            have H1 : (if (ji12) < (x3_2.length : Int) then (Bb.l1 k2 (x3_2.set ((ji12) : Int).toNat (wrap64 (x5_2 + 1))) x14_1 (wrap64 (x5_2 + 1)) a0_0 x14_1 a0_1 (wrap64 (x19_2 + 1)) a0_0 a0_1 l0_2) else (none)) = some r := by rw [if_neg (show ¬ (false = true) by decide)] at H; exact H
            clear H
            have H := H1
            clear H1
            by_cases c22 : (ji12) < (x3_2.length : Int)
            ·rw [if_pos c22] at H
             have c22b0 : decide ((ji12) < (x3_2.length : Int)) = true := decide_eq_true c22
             clear c22
             obtain ⟨y129, hy129⟩ : ∃ y_ : List Int, y_ = (x3_2.set ((ji12) : Int).toNat (wrap64 (x5_2 + 1))) := ⟨_, rfl⟩
             replace H : (Bb.l1 k2 y129 x14_1 (wrap64 (x5_2 + 1)) a0_0 x14_1 a0_1 (wrap64 (x19_2 + 1)) a0_0 a0_1 l0_2) = some r := by first | (rw [hy129]; with_reducible exact H) | (have H2_ := (Option.bind_some _ _).symm.trans H; rw [hy129]; with_reducible exact H2_) | (have H2_ := (Option.bind_some _ _).symm.trans H; with_reducible exact H2_) | with_reducible exact H | (rw [hy129]; exact H) | exact H
             have Ny129 := Aa.mk hy129
             clear hy129
             have H' := Aa.mk H
             clear H
             have hcz24_0 : wr.cell? ⟨gb123, 0, none⟩ = some (.int .i64 a0_0) := (Ae BK123.out 0).trans rfl
             have hcz24_1 : wr.cell? ⟨gb123, 1, none⟩ = some (.int .i64 a0_1) := (Ae BK123.out 1).trans rfl
             have hcz24_2 : wr.cell? ⟨gb123, 2, none⟩ = some (.slice A0_2 l0_2.length c0_2) := (Ae BK123.out 2).trans rfl
             have hfz24_0 := Ag BK123.out 0
             have hfz24_1 := Ag BK123.out 1
             have hfz24_2 := Ag BK123.out 2
             have p127 : 0 ≤ ((ji12) : Int) := of_decide_eq_true (by first | (with_reducible assumption) | assumption)
             have q127 : (ji12) < (l0_2.length : Int) := of_decide_eq_true (by first | (with_reducible assumption) | assumption)
             obtain ⟨ad127, e127, hx127_0⟩ := Kd.at_bool HR0_2.out (ji12) p127 q127
             (try rw [← Nbq15.out] at hx127_0)
             cases e127
             replace hx127_0 := (HB.out.cell (World.block_lt_of_cell? w _ hx127_0)).trans hx127_0
             replace p127 := eq_true p127
             replace q127 := eq_true q127
             have p23 : 0 ≤ ((ji12) : Int) := of_decide_eq_true (by first | (with_reducible assumption) | assumption)
             have q23 : ((ji12) : Int) < ((x3_2.length : Int) : Int) := of_decide_eq_true (by first | (with_reducible assumption) | assumption)
             obtain ⟨go23, co23, eo23, gb23, gl23, cl23, HG23⟩ := Kd.Df HO_3.out (by omega)
             (first | cases eo23 | (injection eo23 with ea_ en_ ec_; (first | subst ea_ | (injection ea_ with ea_; subst ea_)); subst ec_; clear en_))
             have GB23 := Aa.mk gb23
             have GG23 := Aa.mk HG23
             clear gb23 gl23 HG23
             obtain ⟨hx23_0, hf23_0⟩ := Kd.Ct 0 HO_3.out ((ji12) : Int) p23 q23
             replace p23 := eq_true p23
             replace q23 := eq_true q23
             have HP25 := Kd.C6 HO_3.out ((ji12) : Int) (wrap64 (x5_2 + 1))
             go_wp2_with (((with_reducible refine Cq (t := 3) (p := 42) rfl ?_); refine store_event (t := 3) (p := 42) (v := ?vo_w26) (w1 := (wr.setCell ⟨go23, ((ji12) : Int).toNat, none⟩ (.int .i64 (wrap64 (x5_2 + 1))))) ?hg ?ho ?hn ?hr ?_; (case ho => rfl); (case hg => rfl); (case hn => rfl); (case hr => first | (go_simp; done) | (go_simp; rfl)); intro w26 hw; have hg : wr.grownBy w26 (some go23) := (by rw [hw]; exact HP25.2); have hp_ : Kd.R (Kd.int .i64) 3 w26 w.heap.size (fun _ => True) (.slice (some ⟨go23, 0, none⟩) x3_2.length co23) y129 := (by rw [hw, Ny129.out]; exact HP25.1); clear HP25; have n0_ := Aa.mk (hp_); have n1_ := Aa.mk (Bs (g := gb123) (o := .cells #[.int .i64 a0_0, .int .i64 a0_1, .slice (some ad127) l0_2.length c0_2] 50 (0, 0)) (by exact bU <| BK123.out) hg (Kd.Db HO_3.out BK123.out (by decide))); have n2_ := Aa.mk ((by rw [hw]; exact Af (HB.out) GB23.out : Below w.heap.size w w26)); clear HO_3; clear BK123; clear HB; have HO_3 := n0_; have BK123 := n1_; have HB := n2_; clear n0_ n1_ n2_; clear hg hw hp_))
             go_roundg k2
             case measure => have := HK1.out; have := HK2.out; omega
             case rel => exact ⟨(y129), (wrap64 (x5_2 + 1)), (wrap64 (x19_2 + 1)), (by first | rfl | (simp; done) | (simp [*]; done)), (by first | rfl | (simp; done) | (simp [*]; done)), H', ⟨by have := HK1.out; have := HK2.out; omega⟩, ⟨by exact rU <| HO_3.out⟩, ⟨by exact bU <| BK123.out⟩, ⟨by repeat (first | (with_reducible first | exact HB.out | apply Ad | apply Ac | apply Ah | refine Af ?_ GE123.out) | exact HB.out)⟩⟩
            ·rw [if_neg c22] at H
             exact absurd H (by simp)
          ·rw [if_neg c14] at H
           exact absurd H (by simp)
         ·rw [if_neg c13] at H
          exact absurd H (by simp)
        ·rw [if_neg c11] at H
         have c11b0 : decide (x19_2 < a0_1) = false := decide_eq_false c11
         clear c11
         have H' := Aa.mk H
         clear H
         have hcz27_0 : wr.cell? ⟨gb123, 0, none⟩ = some (.int .i64 a0_0) := (Ae BK123.out 0).trans rfl
         have hcz27_1 : wr.cell? ⟨gb123, 1, none⟩ = some (.int .i64 a0_1) := (Ae BK123.out 1).trans rfl
         have hcz27_2 : wr.cell? ⟨gb123, 2, none⟩ = some (.slice A0_2 l0_2.length c0_2) := (Ae BK123.out 2).trans rfl
         have hfz27_0 := Ag BK123.out 0
         have hfz27_1 := Ag BK123.out 1
         have hfz27_2 := Ag BK123.out 2
         go_wp2
         go_loopg [5, 7] k2 (fun kq v5 v7 w' => ∃ (x3_3 : List Int) (x5_3 : Int) (x7_3 : Int), v5 = .int .i64 x5_3 ∧ v7 = .int .i64 x7_3 ∧ Aa (Bb.l2 kq x3_3 x14_1 x5_3 x7_3 a0_0 x14_1 a0_0 a0_1 l0_2 = some r) ∧ Aa (kq ≤ k2) ∧ Aa (Kd.R (Kd.int .i64) 3 w' w.heap.size (fun _ => True) v125 x3_3) ∧ Aa (w'.heap[gb123]? = some (.cells #[.int .i64 a0_0, .int .i64 a0_1, (.slice A0_2 l0_2.length c0_2)] 50 (0, 0))) ∧ Aa (Below w.heap.size w w'))
         case atStart => exact ⟨(x3_2), (1048576), (wrap64 (a0_1 - 1)), (by first | rfl | (simp; done) | (simp [*]; done)), (by first | rfl | (simp; done) | (simp [*]; done)), H', ⟨Nat.le_refl _⟩, ⟨by exact rU <| HO_3.out⟩, ⟨by exact bU <| BK123.out⟩, ⟨by repeat (first | (with_reducible first | exact HB.out | apply Ad | apply Ac | apply Ah | refine Af ?_ GE123.out) | exact HB.out)⟩⟩
         case round =>
          clear H'
          try clear c1
          try clear p1
          try clear q1
          try clear hx1
          try clear hf1
          try clear c2
          try clear c2b0
          try clear c2b1
          try clear p2
          try clear q2
          try clear hx2
          try clear hf2
          try clear c3
          try clear c3b0
          try clear c3b1
          try clear p6
          try clear c7
          try clear c9
          try clear c9b0
          try clear c11
          try clear c11b0
          try clear p12
          try clear q12
          try clear hx12
          try clear c13
          try clear c13b0
          try clear c14
          try clear c14b0
          try clear q15
          try clear c16
          try clear c17
          try clear c17b0
          try clear p18
          try clear q18
          try clear hx18
          try clear hf18
          try clear c22
          try clear c22b0
          try clear p23
          try clear q23
          try clear hx23
          try clear hf23
          try clear hcz10_0
          try clear hcz10_1
          try clear hcz10_2
          try clear hcz19_0
          try clear hcz19_1
          try clear hcz19_2
          try clear hcz24_0
          try clear hcz24_1
          try clear hcz24_2
          try clear hcz27_0
          try clear hcz27_1
          try clear hcz27_2
          try clear hcz5_0
          try clear hcz5_1
          try clear hcz5_2
          try clear hcz8_0
          try clear hcz8_1
          try clear hcz8_2
          try clear hfz10_0
          try clear hfz10_1
          try clear hfz10_2
          try clear hfz19_0
          try clear hfz19_1
          try clear hfz19_2
          try clear hfz24_0
          try clear hfz24_1
          try clear hfz24_2
          try clear hfz27_0
          try clear hfz27_1
          try clear hfz27_2
          try clear hfz5_0
          try clear hfz5_1
          try clear hfz5_2
          try clear hfz8_0
          try clear hfz8_1
          try clear hfz8_2
          try clear hx127_0
          try clear hx18_0
          try clear hx23_0
          try clear p127
          try clear p18
          try clear p2
          try clear p23
          try clear q127
          try clear q18
          try clear q23
          obtain ⟨x3_3, x5_3, x7_3, rfl, rfl, HA, HK3, HO_3, BK123, HB⟩ := hrel
          cases gk with
          | zero => exact absurd HA.out (by simp [Bb.l2])
          | succ k3 =>
           have H := HA.out
           clear HA
           simp only [Bb.l2] at H
           by_cases c28 : x7_3 ≥ 0
           ·rw [if_pos c28] at H
            have c28b0 : decide (0 ≤ x7_3) = true := decide_eq_true c28
            clear c28
            obtain ⟨ji29, hji29⟩ : ∃ j_ : Int, (wrap64 ((wrap64 (x7_3 * a0_0)) + x14_1)) = j_ := ⟨_, rfl⟩
            replace H : (if 0 ≤ (ji29) then (if (ji29) < (x3_3.length : Int) then (Bb.l2 k3 (x3_3.set ((ji29) : Int).toNat (mn (wrap64 (x5_3 + 1)) (rd x3_3 (ji29)))) x14_1 (mn (wrap64 (x5_3 + 1)) (rd x3_3 (ji29))) (wrap64 (x7_3 - 1)) a0_0 x14_1 a0_0 a0_1 l0_2) else (none)) else (none)) = some r := by first | (rw [hji29] at H; exact H) | (simp only [hji29] at H ⊢; exact H)
            have hji29w : (IntKind.i64.wrap ((wrap64 (x7_3 * a0_0)) + x14_1)) = ji29 := (i64_w _).trans hji29
            by_cases c30 : 0 ≤ (ji29)
            ·rw [if_pos c30] at H
             have c30b0 : decide (0 ≤ (ji29)) = true := decide_eq_true c30
             clear c30
             by_cases c31 : (ji29) < (x3_3.length : Int)
             ·rw [if_pos c31] at H
              have c31b0 : decide ((ji29) < (x3_3.length : Int)) = true := decide_eq_true c31
              clear c31
              obtain ⟨ji32, hji32⟩ : ∃ j_ : Int, (mn (wrap64 (x5_3 + 1)) (rd x3_3 (ji29))) = j_ := ⟨_, rfl⟩
              replace H : (Bb.l2 k3 (x3_3.set ((ji29) : Int).toNat (ji32)) x14_1 ji32 (wrap64 (x7_3 - 1)) a0_0 x14_1 a0_0 a0_1 l0_2) = some r := by first | (rw [hji32] at H; exact H) | (simp only [hji32] at H ⊢; exact H)
              have hji32_ : (if (rd x3_3 (ji29)) < (wrap64 (x5_3 + 1)) then (rd x3_3 (ji29)) else (wrap64 (x5_3 + 1))) = ji32 := hji32
              obtain ⟨y131, hy131⟩ : ∃ y_ : List Int, y_ = (x3_3.set ((ji29) : Int).toNat (ji32)) := ⟨_, rfl⟩
              replace H : (Bb.l2 k3 y131 x14_1 ji32 (wrap64 (x7_3 - 1)) a0_0 x14_1 a0_0 a0_1 l0_2) = some r := by first | (rw [hy131]; with_reducible exact H) | (have H2_ := (Option.bind_some _ _).symm.trans H; rw [hy131]; with_reducible exact H2_) | (have H2_ := (Option.bind_some _ _).symm.trans H; with_reducible exact H2_) | with_reducible exact H | (rw [hy131]; exact H) | exact H
              have Ny131 := Aa.mk hy131
              clear hy131
              have H' := Aa.mk H
              clear H
              have hcz34_0 : wr.cell? ⟨gb123, 0, none⟩ = some (.int .i64 a0_0) := (Ae BK123.out 0).trans rfl
              have hcz34_1 : wr.cell? ⟨gb123, 1, none⟩ = some (.int .i64 a0_1) := (Ae BK123.out 1).trans rfl
              have hcz34_2 : wr.cell? ⟨gb123, 2, none⟩ = some (.slice A0_2 l0_2.length c0_2) := (Ae BK123.out 2).trans rfl
              have hfz34_0 := Ag BK123.out 0
              have hfz34_1 := Ag BK123.out 1
              have hfz34_2 := Ag BK123.out 2
              obtain ⟨Ao35, co35, eo35⟩ := Kd.Bz HO_3.out
              subst eo35
              have p130 : 0 ≤ ((ji29) : Int) := of_decide_eq_true (by first | (with_reducible assumption) | assumption)
              have q130 : (ji29) < (x3_3.length : Int) := of_decide_eq_true (by first | (with_reducible assumption) | assumption)
              obtain ⟨ad130, e130, hx130_0⟩ := Kd.at_int (Kd.Aw HO_3.out).2.2 (ji29) p130 q130
              cases e130
              replace p130 := eq_true p130
              replace q130 := eq_true q130
              have p33 : 0 ≤ ((ji29) : Int) := of_decide_eq_true (by first | (with_reducible assumption) | assumption)
              have q33 : ((ji29) : Int) < ((x3_3.length : Int) : Int) := of_decide_eq_true (by first | (with_reducible assumption) | assumption)
              obtain ⟨go33, co33, eo33, gb33, gl33, cl33, HG33⟩ := Kd.Df HO_3.out (by omega)
              (first | cases eo33 | (injection eo33 with ea_ en_ ec_; (first | subst ea_ | (injection ea_ with ea_; subst ea_)); subst ec_; clear en_))
              have GB33 := Aa.mk gb33
              have GG33 := Aa.mk HG33
              clear gb33 gl33 HG33
              (first | simp only [add_plain] at hx130_0 | skip)
              obtain ⟨hx33_0, hf33_0⟩ := Kd.Ct 0 HO_3.out ((ji29) : Int) p33 q33
              replace p33 := eq_true p33
              replace q33 := eq_true q33
              have HP36 := Kd.C6 HO_3.out ((ji29) : Int) ji32
              go_wp2_with (((with_reducible refine Cq (t := 3) (p := 71) rfl ?_); refine store_event (t := 3) (p := 71) (v := ?vo_w37) (w1 := (wr.setCell ⟨go33, ((ji29) : Int).toNat, none⟩ (.int .i64 ji32))) ?hg ?ho ?hn ?hr ?_; (case ho => rfl); (case hg => rfl); (case hn => rfl); (case hr => first | (go_simp; done) | (go_simp; rfl)); intro w37 hw; have hg : wr.grownBy w37 (some go33) := (by rw [hw]; exact HP36.2); have hp_ : Kd.R (Kd.int .i64) 3 w37 w.heap.size (fun _ => True) (.slice (some ⟨go33, 0, none⟩) x3_3.length co35) y131 := (by rw [hw, Ny131.out]; exact HP36.1); clear HP36; have n0_ := Aa.mk (hp_); have n1_ := Aa.mk (Bs (g := gb123) (o := .cells #[.int .i64 a0_0, .int .i64 a0_1, .slice A0_2 l0_2.length c0_2] 50 (0, 0)) (by exact bU <| BK123.out) hg (Kd.Db HO_3.out BK123.out (by decide))); have n2_ := Aa.mk ((by rw [hw]; exact Af (HB.out) GB33.out : Below w.heap.size w w37)); clear HO_3; clear BK123; clear HB; have HO_3 := n0_; have BK123 := n1_; have HB := n2_; clear n0_ n1_ n2_; clear hg hw hp_))
              go_roundg k3
              case measure => have := HK1.out; have := HK2.out; have := HK3.out; omega
              case rel => exact ⟨(y131), (ji32), (wrap64 (x7_3 - 1)), (by first | rfl | (simp; done) | (simp only [← hji32] <;> (first | rfl | simp)) | (simp [*]; done)), (by first | rfl | (simp; done) | (simp [*]; done)), H', ⟨by have := HK1.out; have := HK2.out; have := HK3.out; omega⟩, ⟨by exact rU <| HO_3.out⟩, ⟨by exact bU <| BK123.out⟩, ⟨by repeat (first | (with_reducible first | exact HB.out | apply Ad | apply Ac | apply Ah | refine Af ?_ GE123.out) | exact HB.out)⟩⟩
             ·rw [if_neg c31] at H
              exact absurd H (by simp)
            ·rw [if_neg c30] at H
             exact absurd H (by simp)
           ·rw [if_neg c28] at H
            have c28b0 : decide (0 ≤ x7_3) = false := decide_eq_false c28
            clear c28
            have H' := Aa.mk H
            clear H
            go_wp2
            go_roundg k3
            case measure => have := HK1.out; have := HK2.out; have := HK3.out; omega
            case rel => exact ⟨(x3_3), (wrap64 (x14_1 + 1)), (by first | rfl | (simp; done) | (simp [*]; done)), H', ⟨by have := HK1.out; have := HK2.out; have := HK3.out; omega⟩, ⟨by exact rU <| HO_3.out⟩, ⟨by exact bU <| BK123.out⟩, ⟨by repeat (first | (with_reducible first | exact HB.out | apply Ad | apply Ac | apply Ah | refine Af ?_ GE123.out) | exact HB.out)⟩⟩
     ·rw [if_neg c9] at H
      have c9b0 : decide (x14_1 < a0_0) = false := decide_eq_false c9
      clear c9
      obtain rfl := Option.some.inj H
      go_wp2
      go_ret
      exact ⟨_, by first | rfl | (simp [Az, Ba] <;> rfl) | (simp [*, Az, Ba] <;> rfl), by exact rU <| HO_3.out, by repeat (first | (with_reducible first | exact HB.out | apply Ad | apply Ac | apply Ah | refine Af ?_ GE123.out) | exact HB.out)⟩
  ·rw [if_neg c3] at H
   exact absurd H (by simp)
 ·rw [if_neg c2] at H
  exact absurd H (by simp)

end Go.Proofs.Yteamphcehoaleaa.PFA

