import Derived.Test.YteamphcehoaleaaZWAt
import Derived.Test.YteamphcehoaleaaZPFAx0
import Derived.Test.YteamphcehoaleaaZPFAx2
import Derived.Test.YteamphcehoaleaaZPFAx3
namespace Go.Proofs.Yteamphcehoaleaa.PFA
open Go.RowKit Go.Proofs.YteamphcehoaleaaW.PrintWords Go.Proofs.YteamphcehoaleaaW.PrintLast Go.Proofs.YteamphcehoaleaaW.PrintMore
attribute [local go_sem] max2_int min2_int max_two min_two max_three min_three max_four min_four   -- for this text's walks alone
set_option linter.unusedVariables false
set_option linter.unusedSimpArgs false

mutual
def Bo.l0 : Nat → List Int → List Int → Int → Int → Int → Int → List Bool → Option (List Int × Int)
 | 0, _, _, _, _, _, _, _ => none
 | k + 1, x5, x6, x25, x26, x133000, x133001, x133002 => if x26 < x25 then (if x133000 = 0 then (none) else (if 0 ≤ x26 then (if x26 < (x6.length : Int) then (if 0 ≤ (wrap64 (x26 - (Int.tmod x26 x133000))) then (if (wrap64 (x26 - (Int.tmod x26 x133000))) ≤ (wrap64 ((wrap64 (x26 - (Int.tmod x26 x133000))) + x133000)) then (if (wrap64 ((wrap64 (x26 - (Int.tmod x26 x133000))) + x133000)) ≤ (x5.length : Int) then ((some ((x5.take ((wrap64 ((wrap64 (x26 - (Int.tmod x26 x133000))) + x133000)) : Int).toNat).drop ((wrap64 (x26 - (Int.tmod x26 x133000))) : Int).toNat : List Int)).bind fun y141 => (Bo.l1 k x5 (x6.set (x26 : Int).toNat (-1)) x26 (Int.tmod x26 x133000) x25 x26 y141 (y141.length : Int) 0 x133000 x133001 x133002)) else (none)) else (none)) else (none)) else (none)) else (none))) else (some (x6, 0))
def Bo.l1 : Nat → List Int → List Int → Int → Int → Int → Int → List Int → Int → Int → Int → Int → List Bool → Option (List Int × Int)
 | 0, _, _, _, _, _, _, _, _, _, _, _, _ => none
 | k + 1, x5, x6, x7, x8, x25, x26, x48, x49, x50, x133000, x133001, x133002 => if x50 < x49 then (if 0 ≤ x50 then (if x50 < (x48.length : Int) then (if (rd x48 x50) < 1048576 then (if 0 ≤ x7 then (if x7 < (x6.length : Int) then (if (rd x6 x7) < 0 then (Bo.l1 k x5 (x6.set (x7 : Int).toNat (wrap64 ((wrap64 ((wrap64 (x50 - x8)) * (wrap64 (x50 - x8)))) + (wrap64 ((rd x48 x50) * (rd x48 x50)))))) x7 x8 x25 x26 x48 x49 (wrap64 (x50 + 1)) x133000 x133001 x133002) else (if (wrap64 ((wrap64 ((wrap64 (x50 - x8)) * (wrap64 (x50 - x8)))) + (wrap64 ((rd x48 x50) * (rd x48 x50))))) < (rd x6 x7) then (Bo.l1 k x5 (x6.set (x7 : Int).toNat (wrap64 ((wrap64 ((wrap64 (x50 - x8)) * (wrap64 (x50 - x8)))) + (wrap64 ((rd x48 x50) * (rd x48 x50)))))) x7 x8 x25 x26 x48 x49 (wrap64 (x50 + 1)) x133000 x133001 x133002) else (Bo.l1 k x5 x6 x7 x8 x25 x26 x48 x49 (wrap64 (x50 + 1)) x133000 x133001 x133002))) else (none)) else (none)) else (Bo.l1 k x5 x6 x7 x8 x25 x26 x48 x49 (wrap64 (x50 + 1)) x133000 x133001 x133002)) else (none)) else (none)) else (Bo.l0 k x5 x6 x25 (wrap64 (x26 + 1)) x133000 x133001 x133002)
end
def Bo.f (k : Nat) (a0_0 : Int) (a0_1 : Int) (l0_2 : List Bool) : Option (List Int × Int) := (Cp.f a0_0 a0_1 l0_2).bind fun t133 => (if t133 = 0 then ((Bb.f k a0_0 a0_1 l0_2).bind fun t134 => (if 0 ≤ (l0_2.length : Int) then (if ((l0_2.length : Int) : Int).toNat ≤ 35184372088832 then ((some (List.replicate ((l0_2.length : Int) : Int).toNat 0 : List Int)).bind fun y137 => (Bo.l0 k t134 y137 (y137.length : Int) 0 a0_0 a0_1 l0_2)) else (none)) else (none))) else (some (([] : List Int), t133)))
theorem Bo.mono_l : ∀ k, (∀ y0 y1 y2 y3 y4 y5 y6, LeO (Bo.l0 k y0 y1 y2 y3 y4 y5 y6) (Bo.l0 (k + 1) y0 y1 y2 y3 y4 y5 y6)) ∧ (∀ y0 y1 y2 y3 y4 y5 y6 y7 y8 y9 y10 y11, LeO (Bo.l1 k y0 y1 y2 y3 y4 y5 y6 y7 y8 y9 y10 y11) (Bo.l1 (k + 1) y0 y1 y2 y3 y4 y5 y6 y7 y8 y9 y10 y11))
 | 0 => ⟨fun _ _ _ _ _ _ _ r h => by simp [Bo.l0] at h, fun _ _ _ _ _ _ _ _ _ _ _ _ r h => by simp [Bo.l1] at h⟩
 | k + 1 => by
  obtain ⟨ih0, ih1⟩ := Bo.mono_l k
  refine ⟨?_, ?_⟩
  ·intro y0 y1 y2 y3 y4 y5 y6
   unfold Bo.l0
   repeat' first
   | (with_reducible exact ih0 _ _ _ _ _ _ _)
   | (with_reducible exact ih1 _ _ _ _ _ _ _ _ _ _ _ _)
   | (with_reducible exact Bb.mono _ _ _ _)
   | (with_reducible exact LeO.refl _)
   | (with_reducible exact LeO.none _)
   | (with_reducible refine LeO.ite ?_ ?_)
   | (with_reducible refine LeO.bind ?_ (fun _ => ?_))
   | exact ih0 _ _ _ _ _ _ _
   | exact ih1 _ _ _ _ _ _ _ _ _ _ _ _
   | exact Bb.mono _ _ _ _
   | exact LeO.none _
   | refine LeO.ite ?_ ?_
   | refine LeO.bind ?_ (fun _ => ?_)
  ·intro y0 y1 y2 y3 y4 y5 y6 y7 y8 y9 y10 y11
   unfold Bo.l1
   repeat' first
   | (with_reducible exact ih0 _ _ _ _ _ _ _)
   | (with_reducible exact ih1 _ _ _ _ _ _ _ _ _ _ _ _)
   | (with_reducible exact Bb.mono _ _ _ _)
   | (with_reducible exact LeO.refl _)
   | (with_reducible exact LeO.none _)
   | (with_reducible refine LeO.ite ?_ ?_)
   | (with_reducible refine LeO.bind ?_ (fun _ => ?_))
   | exact ih0 _ _ _ _ _ _ _
   | exact ih1 _ _ _ _ _ _ _ _ _ _ _ _
   | exact Bb.mono _ _ _ _
   | exact LeO.none _
   | refine LeO.ite ?_ ?_
   | refine LeO.bind ?_ (fun _ => ?_)
theorem Bo.mono : ∀ a0 a1 a2 k, LeO (Bo.f k a0 a1 a2) (Bo.f (k + 1) a0 a1 a2) := by
 intro a0 a1 a2 k
 obtain ⟨ih0, ih1⟩ := Bo.mono_l k
 unfold Bo.f
 repeat' first
   | (with_reducible exact ih0 _ _ _ _ _ _ _)
   | (with_reducible exact ih1 _ _ _ _ _ _ _ _ _ _ _ _)
   | (with_reducible exact Bb.mono _ _ _ _)
   | (with_reducible exact LeO.refl _)
   | (with_reducible exact LeO.none _)
   | (with_reducible refine LeO.ite ?_ ?_)
   | (with_reducible refine LeO.bind ?_ (fun _ => ?_))
   | exact ih0 _ _ _ _ _ _ _
   | exact ih1 _ _ _ _ _ _ _ _ _ _ _ _
   | exact Bb.mono _ _ _ _
   | exact LeO.none _
   | refine LeO.ite ?_ ?_
   | refine LeO.bind ?_ (fun _ => ?_)
set_option maxHeartbeats 8000000 in
set_option maxRecDepth 100000 in
theorem Bo.calls (k : Nat) (a0_0 : Int) (a0_1 : Int) (A0_2 : Option Addr) (c0_2 : Nat) (l0_2 : List Bool) (r1 : List Int) (r2 : Int) (w : World) (hr0_2 : Kd.C Kd.bool w A0_2 l0_2.length l0_2) (hc0_2 : l0_2.length ≤ c0_2) (h : Bo.f k a0_0 a0_1 l0_2 = some (r1, r2)) :
  Calls Try.prog 32 #[.agg #[.int .i64 a0_0, .int .i64 a0_1, .slice A0_2 l0_2.length c0_2]] w fun e w' => ∃ v0_ : Value, e = .returned (.tuple #[v0_, .int .i64 r2]) ∧ Kd.R (Kd.int .i64) 3 w' w.heap.size (fun _ => True) v0_ r1 ∧ Below w.heap.size w w' := by
 have hu50 := Try.underlying50
 have HR0_2 := Aa.mk hr0_2
 have HC0_2 := Aa.mk hc0_2
 clear hr0_2 hc0_2
 have HB := Aa.mk (Below.refl w.heap.size w)
 have H : ((Cp.f a0_0 a0_1 l0_2).bind fun t133 => (if t133 = 0 then ((Bb.f k a0_0 a0_1 l0_2).bind fun t134 => (if 0 ≤ (l0_2.length : Int) then (if ((l0_2.length : Int) : Int).toNat ≤ 35184372088832 then ((some (List.replicate ((l0_2.length : Int) : Int).toNat 0 : List Int)).bind fun y137 => (Bo.l0 k t134 y137 (y137.length : Int) 0 a0_0 a0_1 l0_2)) else (none)) else (none))) else (some (([] : List Int), t133)))) = some (r1, r2) := h
 clear h
 replace H := Option.bind_eq_some_iff.mp H
 obtain ⟨t133, A20, H⟩ := H
 replace H : (if t133 = 0 then ((Bb.f k a0_0 a0_1 l0_2).bind fun t134 => (if 0 ≤ (l0_2.length : Int) then (if ((l0_2.length : Int) : Int).toNat ≤ 35184372088832 then ((some (List.replicate ((l0_2.length : Int) : Int).toNat 0 : List Int)).bind fun y137 => (Bo.l0 k t134 y137 (y137.length : Int) 0 a0_0 a0_1 l0_2)) else (none)) else (none))) else (some (([] : List Int), t133))) = some (r1, r2) := H
 have A2 := Aa.mk A20
 clear A20
 by_cases c3 : t133 = 0
 ·rw [if_pos c3] at H
  have c3b0 : (t133 == 0) = true := beq_iff_eq.mpr c3
  have c3b1 : (t133 != 0) = false := bne_eq_false_iff_eq.mpr c3
  clear c3
  replace H := Option.bind_eq_some_iff.mp H
  obtain ⟨t134, A40, H⟩ := H
  replace H : (if 0 ≤ (l0_2.length : Int) then (if ((l0_2.length : Int) : Int).toNat ≤ 35184372088832 then ((some (List.replicate ((l0_2.length : Int) : Int).toNat 0 : List Int)).bind fun y137 => (Bo.l0 k t134 y137 (y137.length : Int) 0 a0_0 a0_1 l0_2)) else (none)) else (none)) = some (r1, r2) := H
  have A4 := Aa.mk A40
  clear A40
  by_cases c5 : 0 ≤ (l0_2.length : Int)
  ·rw [if_pos c5] at H
   have c5b0 := eq_true c5
   have c5b1 : decide (0 ≤ (l0_2.length : Int)) = true := decide_eq_true c5
   clear c5
   by_cases c6 : ((l0_2.length : Int) : Int).toNat ≤ 35184372088832
   ·rw [if_pos c6] at H
    have c6b0 := eq_true c6
    have c6b1 : decide (((l0_2.length : Int) : Int).toNat ≤ 35184372088832) = true := decide_eq_true c6
    clear c6
    obtain ⟨y137, hy137⟩ : ∃ y_ : List Int, y_ = (List.replicate ((l0_2.length : Int) : Int).toNat 0) := ⟨_, rfl⟩
    replace H : (Bo.l0 k t134 y137 (y137.length : Int) 0 a0_0 a0_1 l0_2) = some (r1, r2) := by first | (rw [hy137]; with_reducible exact H) | (have H2_ := (Option.bind_some _ _).symm.trans H; rw [hy137]; with_reducible exact H2_) | (have H2_ := (Option.bind_some _ _).symm.trans H; with_reducible exact H2_) | with_reducible exact H | (rw [hy137]; exact H) | exact H
    have Ny137 := Aa.mk hy137
    clear hy137
    have H' := Aa.mk H
    clear H
    go_enter Try.func32, Try.ntmps32
    go_wp2_with (first | ((with_reducible refine Bk (N := 1) rfl ?_); refine Bp ?hg (N := 1) ?hd (cs := #[.int .i64 a0_0, .int .i64 a0_1, .slice A0_2 l0_2.length c0_2]) (t := 50) ?hr ?_; (case hd => rfl); (case hg => rfl); (case hr => first | (go_simp; done) | (go_simp; rfl)); intro gb132 hg w7 hbox hb; have n0_ := Aa.mk (Ar (lU HB.out) hb); have n1_ := Aa.mk (hbox); have n2_ := Aa.mk ((by rw [hg]; exact (Ak (lU HB.out)) : w.heap.size ≤ gb132)); have n3_ := Aa.mk ((by rw [hg]; exact (Ak (lU HB.out)) : w.heap.size ≤ gb132)); clear HB; have HB := n0_; have BK132 := n1_; have GW132 := n2_; have GE132 := n3_; clear n0_ n1_ n2_ n3_; clear hb hbox hg; have hcz8_0 : w7.cell? ⟨gb132, 0, none⟩ = some (.int .i64 a0_0) := (Ae BK132.out 0).trans rfl; have hcz8_1 : w7.cell? ⟨gb132, 1, none⟩ = some (.int .i64 a0_1) := (Ae BK132.out 1).trans rfl; have hcz8_2 : w7.cell? ⟨gb132, 2, none⟩ = some (.slice A0_2 l0_2.length c0_2) := (Ae BK132.out 2).trans rfl; have hfz8_0 := Ag BK132.out 0; have hfz8_1 := Ag BK132.out 1; have hfz8_2 := Ag BK132.out 2) | (go_at_call 46; (with_reducible refine (Cp.calls a0_0 a0_1 _ _ l0_2 t133 _ ?side1 ?side2 A2.out).mono ?_); (case side1 => repeat (first | exact (Kd.Ce HR0_2.out HB.out) | (with_reducible refine Kd.Bt ?_ _) | (with_reducible refine Kd.B3 ?_ _) | (with_reducible refine Kd.B8 ?_))); (case side2 => exact HC0_2.out); rintro e w9 ⟨rfl, hb⟩; have n0_ := Aa.mk (An (g := gb132) (o := .cells #[.int .i64 a0_0, .int .i64 a0_1, .slice A0_2 l0_2.length c0_2] 50 (0, 0)) (by exact bU <| BK132.out) hb); have n1_ := Aa.mk (Ar (by repeat (first | (with_reducible first | exact HB.out | apply Ad | apply Ac | apply Ah | refine Af ?_ GE132.out) | exact HB.out)) hb); clear BK132; clear HB; have BK132 := n0_; have HB := n1_; clear n0_ n1_; (try clear hb); (try clear hb2); (try clear hk); (try clear hi); have hcz10_0 : w9.cell? ⟨gb132, 0, none⟩ = some (.int .i64 a0_0) := (Ae BK132.out 0).trans rfl; have hcz10_1 : w9.cell? ⟨gb132, 1, none⟩ = some (.int .i64 a0_1) := (Ae BK132.out 1).trans rfl; have hcz10_2 : w9.cell? ⟨gb132, 2, none⟩ = some (.slice A0_2 l0_2.length c0_2) := (Ae BK132.out 2).trans rfl; have hfz10_0 := Ag BK132.out 0; have hfz10_1 := Ag BK132.out 1; have hfz10_2 := Ag BK132.out 2) | (go_at_call 79; (with_reducible refine (Bb.calls k a0_0 a0_1 _ _ l0_2 t134 _ ?side1 ?side2 A4.out).mono ?_); (case side1 => repeat (first | exact (Kd.Ce HR0_2.out HB.out) | (with_reducible refine Kd.Bt ?_ _) | (with_reducible refine Kd.B3 ?_ _) | (with_reducible refine Kd.B8 ?_))); (case side2 => exact HC0_2.out); rintro e w11 ⟨v135, rfl, ho0, hb⟩; have n0_ := Aa.mk (Kd.B6 ho0 (Ak (by repeat (first | (with_reducible first | exact HB.out | apply Ad | apply Ac | apply Ah | refine Af ?_ GE132.out) | exact HB.out)))); have n1_ := Aa.mk (An (g := gb132) (o := .cells #[.int .i64 a0_0, .int .i64 a0_1, .slice A0_2 l0_2.length c0_2] 50 (0, 0)) (by exact bU <| BK132.out) hb); have n2_ := Aa.mk (Ar (by repeat (first | (with_reducible first | exact HB.out | apply Ad | apply Ac | apply Ah | refine Af ?_ GE132.out) | exact HB.out)) hb); clear BK132; clear HB; have HO136 := n0_; have BK132 := n1_; have HB := n2_; clear n0_ n1_ n2_; (try clear hb); (try clear hb2); (try clear hk); (try clear hi); (try clear ho0); have hcz12_0 : w11.cell? ⟨gb132, 0, none⟩ = some (.int .i64 a0_0) := (Ae BK132.out 0).trans rfl; have hcz12_1 : w11.cell? ⟨gb132, 1, none⟩ = some (.int .i64 a0_1) := (Ae BK132.out 1).trans rfl; have hcz12_2 : w11.cell? ⟨gb132, 2, none⟩ = some (.slice A0_2 l0_2.length c0_2) := (Ae BK132.out 2).trans rfl; have hfz12_0 := Ag BK132.out 0; have hfz12_1 := Ag BK132.out 1; have hfz12_2 := Ag BK132.out 2) | ((with_reducible refine Bk (N := 23) rfl ?_); refine Kd.R_make (Kd.int .i64) _ 3 rfl (N := 23) rfl 31 _ _ rfl (l0_2.length : Int) rfl rfl Try.underlying31 (.int .i64 0) 8 info3 rfl (by decide) (by omega) 0 (ok := fun _ => True) (okp := fun _ => True) rfl (fun _ hk => hk) trivial (of_decide_eq_true (by first | (with_reducible assumption) | assumption)) (Nat.le_trans (Nat.mul_le_mul_right _ (of_decide_eq_true (by first | (with_reducible assumption) | assumption) : (l0_2.length : Int).toNat ≤ 35184372088832)) (by omega)) (Below.refl _ _) (Nat.le_refl _) ?_; intro v138 w13 ho14 hb hg_ hnew_; clear hg_ hnew_; (first | rw [← Ny137.out] at ho14 | (simp only [Int.reduceToNat] at ho14; rw [← Ny137.out] at ho14)); have n0_ := Aa.mk (Kd.B0 (by exact rU <| HO136.out) (Kd.Cd ho14) hb); have n1_ := Aa.mk (Kd.B6 (Kd.Cc ho14 (Kd.Cs (by exact rU <| HO136.out))) (Ak (by repeat (first | (with_reducible first | exact HB.out | apply Ad | apply Ac | apply Ah | refine Af ?_ GE132.out) | exact HB.out)))); have n2_ := Aa.mk (An (g := gb132) (o := .cells #[.int .i64 a0_0, .int .i64 a0_1, .slice A0_2 l0_2.length c0_2] 50 (0, 0)) (by exact bU <| BK132.out) hb); have n3_ := Aa.mk (Ar (by repeat (first | (with_reducible first | exact HB.out | apply Ad | apply Ac | apply Ah | refine Af ?_ GE132.out) | exact HB.out)) hb); clear HO136; clear BK132; clear HB; have HO136 := n0_; have HO139 := n1_; have BK132 := n2_; have HB := n3_; clear n0_ n1_ n2_ n3_; clear hb ho14; obtain ⟨Ao15, co15, eo15⟩ := Kd.Bz HO139.out; subst eo15))
    repeat (go_quiet (fail); try go_wp2_with (fail))
    go_loopg [26] k (fun kq v26 w' => ∃ (x6_1 : List Int) (x26_1 : Int), v26 = .int .i64 x26_1 ∧ Aa (Bo.l0 kq t134 x6_1 (y137.length : Int) x26_1 a0_0 a0_1 l0_2 = some (r1, r2)) ∧ Aa (kq ≤ k) ∧ Aa (Kd.R (Kd.int .i64) 3 w' w.heap.size (fun k_ => some k_ ≠ ((.slice Ao15 y137.length co15) : Value).ownBlock) v135 t134) ∧ Aa (Kd.R (Kd.int .i64) 3 w' w.heap.size (fun k_ => some k_ ≠ (v135 : Value).ownBlock) (.slice Ao15 y137.length co15) x6_1) ∧ Aa (w'.heap[gb132]? = some (.cells #[.int .i64 a0_0, .int .i64 a0_1, (.slice A0_2 l0_2.length c0_2)] 50 (0, 0))) ∧ Aa (Below w.heap.size w w'))
    case atStart => exact ⟨(y137), (0), (by first | rfl | (simp; done) | (simp [*]; done)), H', ⟨Nat.le_refl _⟩, ⟨by exact rU <| Kd.Bj HO136.out (fun _ hk => hk.2)⟩, ⟨by exact rU <| Kd.Bj HO139.out (fun _ hk => hk.2)⟩, ⟨by exact bU <| BK132.out⟩, ⟨by repeat (first | (with_reducible first | exact HB.out | apply Ad | apply Ac | apply Ah | refine Af ?_ GE132.out) | exact HB.out)⟩⟩
    case round =>
     clear H'
     try clear p2
     try clear c3
     try clear c3b0
     try clear c3b1
     try clear c5
     try clear c5b0
     try clear c5b1
     try clear c6
     try clear c6b0
     try clear c6b1
     try clear hcz10_0
     try clear hcz10_1
     try clear hcz10_2
     try clear hcz12_0
     try clear hcz12_1
     try clear hcz12_2
     try clear hcz8_0
     try clear hcz8_1
     try clear hcz8_2
     try clear hfz10_0
     try clear hfz10_1
     try clear hfz10_2
     try clear hfz12_0
     try clear hfz12_1
     try clear hfz12_2
     try clear hfz8_0
     try clear hfz8_1
     try clear hfz8_2
     obtain ⟨x6_1, x26_1, rfl, HA, HK1, HO_5, HO_6, BK132, HB⟩ := hrel
     have hl6_1 := (Kd.Aw HO_6.out).1
     rw [hl6_1] at HO_6
     (try simp only [hl6_1])
     (try simp only [hl6_1] at BK132)
     (try simp only [hl6_1] at HO_5)
     cases gk with
     | zero => exact absurd HA.out (by simp [Bo.l0])
     | succ k1 =>
      have H := HA.out
      clear HA
      simp only [Bo.l0] at H
      by_cases c16 : x26_1 < (y137.length : Int)
      ·rw [if_pos c16] at H
       have c16b0 : decide (x26_1 < (y137.length : Int)) = true := decide_eq_true c16
       rw [hl6_1] at c16b0
       clear c16
       by_cases c17 : a0_0 = 0
       ·rw [if_pos c17] at H
        exact absurd H (by simp)
       ·rw [if_neg c17] at H
        have c17b0 : (a0_0 == 0) = false := beq_eq_false_iff_ne.mpr c17
        have c17b1 : (a0_0 != 0) = true := bne_iff_ne.mpr c17
        by_cases c18 : 0 ≤ x26_1
        ·rw [if_pos c18] at H
         have c18b0 : decide (0 ≤ x26_1) = true := decide_eq_true c18
         clear c18
         by_cases c19 : x26_1 < (x6_1.length : Int)
         ·rw [if_pos c19] at H
          have c19b0 : decide (x26_1 < (x6_1.length : Int)) = true := decide_eq_true c19
          clear c19
          obtain ⟨y140, hy140⟩ : ∃ y_ : List Int, y_ = (x6_1.set (x26_1 : Int).toNat (-1)) := ⟨_, rfl⟩
          replace H : (if 0 ≤ (wrap64 (x26_1 - (Int.tmod x26_1 a0_0))) then (if (wrap64 (x26_1 - (Int.tmod x26_1 a0_0))) ≤ (wrap64 ((wrap64 (x26_1 - (Int.tmod x26_1 a0_0))) + a0_0)) then (if (wrap64 ((wrap64 (x26_1 - (Int.tmod x26_1 a0_0))) + a0_0)) ≤ (t134.length : Int) then ((some ((t134.take ((wrap64 ((wrap64 (x26_1 - (Int.tmod x26_1 a0_0))) + a0_0)) : Int).toNat).drop ((wrap64 (x26_1 - (Int.tmod x26_1 a0_0))) : Int).toNat : List Int)).bind fun y141 => (Bo.l1 k1 t134 y140 x26_1 (Int.tmod x26_1 a0_0) (y137.length : Int) x26_1 y141 (y141.length : Int) 0 a0_0 a0_1 l0_2)) else (none)) else (none)) else (none)) = some (r1, r2) := by first | (rw [hy140]; with_reducible exact H) | (have H2_ := (Option.bind_some _ _).symm.trans H; rw [hy140]; with_reducible exact H2_) | (have H2_ := (Option.bind_some _ _).symm.trans H; with_reducible exact H2_) | with_reducible exact H | (rw [hy140]; exact H) | exact H
          have Ny140 := Aa.mk hy140
          clear hy140
          obtain ⟨ji21, hji21⟩ : ∃ j_ : Int, (wrap64 (x26_1 - (Int.tmod x26_1 a0_0))) = j_ := ⟨_, rfl⟩
          replace H : (if 0 ≤ (ji21) then (if (ji21) ≤ (wrap64 ((ji21) + a0_0)) then (if (wrap64 ((ji21) + a0_0)) ≤ (t134.length : Int) then ((some ((t134.take ((wrap64 ((ji21) + a0_0)) : Int).toNat).drop ((ji21) : Int).toNat : List Int)).bind fun y141 => (Bo.l1 k1 t134 y140 x26_1 (Int.tmod x26_1 a0_0) (y137.length : Int) x26_1 y141 (y141.length : Int) 0 a0_0 a0_1 l0_2)) else (none)) else (none)) else (none)) = some (r1, r2) := by first | (rw [hji21] at H; exact H) | (simp only [hji21] at H ⊢; exact H)
          have hji21w : (IntKind.i64.wrap (x26_1 - (Int.tmod x26_1 a0_0))) = ji21 := (i64_w _).trans hji21
          by_cases c22 : 0 ≤ (ji21)
          ·rw [if_pos c22] at H
           have c22b0 := eq_true c22
           have c22b1 : decide (0 ≤ (ji21)) = true := decide_eq_true c22
           clear c22
           by_cases c23 : (ji21) ≤ (wrap64 ((ji21) + a0_0))
           ·rw [if_pos c23] at H
            have c23b0 := eq_true c23
            have c23b1 : decide ((ji21) ≤ (wrap64 ((ji21) + a0_0))) = true := decide_eq_true c23
            by_cases c24 : (wrap64 ((ji21) + a0_0)) ≤ (t134.length : Int)
            ·rw [if_pos c24] at H
             have c24b0 := eq_true c24
             have c24b1 : decide ((wrap64 ((ji21) + a0_0)) ≤ (t134.length : Int)) = true := decide_eq_true c24
             obtain ⟨y141, hy141⟩ : ∃ y_ : List Int, y_ = ((t134.take ((wrap64 ((ji21) + a0_0)) : Int).toNat).drop ((ji21) : Int).toNat) := ⟨_, rfl⟩
             replace H : (Bo.l1 k1 t134 y140 x26_1 (Int.tmod x26_1 a0_0) (y137.length : Int) x26_1 y141 (y141.length : Int) 0 a0_0 a0_1 l0_2) = some (r1, r2) := by first | (rw [hy141]; with_reducible exact H) | (have H2_ := (Option.bind_some _ _).symm.trans H; rw [hy141]; with_reducible exact H2_) | (have H2_ := (Option.bind_some _ _).symm.trans H; with_reducible exact H2_) | with_reducible exact H | (rw [hy141]; exact H) | exact H
             have Ny141 := Aa.mk hy141
             clear hy141
             have H' := Aa.mk H
             clear H
             have hcz25_0 : wr.cell? ⟨gb132, 0, none⟩ = some (.int .i64 a0_0) := (Ae BK132.out 0).trans rfl
             have hcz25_1 : wr.cell? ⟨gb132, 1, none⟩ = some (.int .i64 a0_1) := (Ae BK132.out 1).trans rfl
             have hcz25_2 : wr.cell? ⟨gb132, 2, none⟩ = some (.slice A0_2 l0_2.length c0_2) := (Ae BK132.out 2).trans rfl
             have hfz25_0 := Ag BK132.out 0
             have hfz25_1 := Ag BK132.out 1
             have hfz25_2 := Ag BK132.out 2
             have p20 : 0 ≤ (x26_1 : Int) := of_decide_eq_true (by first | (with_reducible assumption) | assumption)
             have q20 : (x26_1 : Int) < ((x6_1.length : Int) : Int) := of_decide_eq_true (by first | (with_reducible assumption) | assumption)
             obtain ⟨go20, co20, eo20, gb20, gl20, cl20, HG20⟩ := Kd.Df HO_6.out (by omega)
             (first | cases eo20 | (injection eo20 with ea_ en_ ec_; (first | subst ea_ | (injection ea_ with ea_; subst ea_)); subst ec_; clear en_))
             have GB20 := Aa.mk gb20
             have GG20 := Aa.mk HG20
             clear gb20 gl20 HG20
             obtain ⟨hx20_0, hf20_0⟩ := Kd.Ct 0 HO_6.out (x26_1 : Int) p20 q20
             replace p20 := eq_true p20
             replace q20 := eq_true q20
             have HP26 := Kd.C6 HO_6.out (x26_1 : Int) (-1)
             go_wp2_with (fail)
             repeat (go_quiet (fail); try go_wp2_with (((with_reducible refine Cq (t := 3) (p := 41) rfl ?_); (try (rw [drewN_self wr]; generalize hq_ : World.drewN wr _ = wr; have n0_ := Aa.mk (Kd.R_at hq_ HO_5.out); have n1_ := Aa.mk (Kd.R_at hq_ HO_6.out); have n2_ := Aa.mk (blk_at hq_ BK132.out); have n3_ := Aa.mk (below_at hq_ HB.out); clear hq_ HO_5 HO_6 BK132 HB; have HO_5 := n0_; have HO_6 := n1_; have BK132 := n2_; have HB := n3_; clear n0_ n1_ n2_ n3_; (try (obtain ⟨hx20_0, hf20_0⟩ := Kd.Ct 0 HO_6.out (x26_1 : Int) (of_eq_true p20) (of_eq_true q20); have HP26 := Kd.C6 HO_6.out (x26_1 : Int) (-1))))); refine store_event (t := 3) (p := 41) (v := ?vo_w27) (w1 := (wr.setCell ⟨go20, (x26_1 : Int).toNat, none⟩ (.int .i64 (-1)))) ?hg ?ho ?hn ?hr ?_; (case ho => rfl); (case hg => rfl); (case hn => rfl); (case hr => first | (go_simp; done) | (go_simp; rfl)); intro w27 hw; have hg : wr.grownBy w27 (some go20) := (by rw [hw]; exact HP26.2); have hp_ : Kd.R (Kd.int .i64) 3 w27 w.heap.size (fun k_ => some k_ ≠ (v135 : Value).ownBlock) (.slice (some ⟨go20, 0, none⟩) x6_1.length co15) y140 := (by rw [hw, Ny140.out]; exact HP26.1); clear HP26; have n0_ := Aa.mk (Kd.C4 (v := (.slice (some ⟨go20, 0, none⟩) x6_1.length co15)) (v1 := (.slice (some ⟨go20, 0, none⟩) x6_1.length co15)) (ok := (fun _ => True)) (by exact rU <| Kd.Bj HO_5.out (fun _ hk => ⟨trivial, hk⟩)) hg (.inl rfl)); have n1_ := Aa.mk (hp_); have n2_ := Aa.mk (Bs (g := gb132) (o := .cells #[.int .i64 a0_0, .int .i64 a0_1, .slice A0_2 l0_2.length c0_2] 50 (0, 0)) (by exact bU <| BK132.out) hg (Kd.Db HO_6.out BK132.out (by decide))); have n3_ := Aa.mk ((by rw [hw]; exact Af (HB.out) GB20.out : Below w.heap.size w w27)); clear HO_5; clear HO_6; clear BK132; clear HB; have HO_5 := n0_; have HO_6 := n1_; have BK132 := n2_; have HB := n3_; clear n0_ n1_ n2_ n3_; clear hg hw hp_; have hcz28_0 : w27.cell? ⟨gb132, 0, none⟩ = some (.int .i64 a0_0) := (Ae BK132.out 0).trans rfl; have hcz28_1 : w27.cell? ⟨gb132, 1, none⟩ = some (.int .i64 a0_1) := (Ae BK132.out 1).trans rfl; have hcz28_2 : w27.cell? ⟨gb132, 2, none⟩ = some (.slice A0_2 l0_2.length c0_2) := (Ae BK132.out 2).trans rfl; have hfz28_0 := Ag BK132.out 0; have hfz28_1 := Ag BK132.out 1; have hfz28_2 := Ag BK132.out 2; obtain ⟨Ao30, co30, eo30⟩ := Kd.Bz HO_5.out; subst eo30; have q29 : ((wrap64 ((ji21) + a0_0)) : Int) ≤ ((t134.length : Int) : Int) := of_decide_eq_true (by first | (with_reducible assumption) | assumption); obtain ⟨i029, hi029, _, hsz29, _⟩ := info_parts info3; have hroom29 : t134.length ≤ co30 := (Kd.Aw HO_5.out).2.1; have hC29 : Kd.C (Kd.int .i64) _ Ao30 t134.length t134 := (Kd.Aw HO_5.out).2.2; have ql29 : ((ji21) : Int) ≤ ((wrap64 ((ji21) + a0_0)) : Int) := of_decide_eq_true (by first | (with_reducible assumption) | assumption); have q029 : (0 : Int) ≤ ((ji21) : Int) := of_decide_eq_true (by first | (with_reducible assumption) | assumption); have hcut29 := cut_mid (P := Try.prog) 31 3 .i64 .i64 Try.underlying31 hi029 1 hsz29 Ao30 t134.length co30 (ji21) (wrap64 ((ji21) + a0_0)) q029 ql29 q29 hroom29; have hr29 := Kd.C_mid (lo := ((ji21) : Int).toNat) (hi := ((wrap64 ((ji21) + a0_0)) : Int).toNat) (c := co30) hC29 (by omega) (by omega) hroom29; obtain ⟨A29, hA29⟩ : ∃ A1, A1 = (if co30 = ((ji21) : Int).toNat then Ao30 else (Ao30 : Option Addr).map (·.add (((ji21) : Int).toNat * 1))) := ⟨_, rfl⟩; obtain ⟨c29, hc29⟩ : ∃ c1, c1 = co30 - ((ji21) : Int).toNat := ⟨_, rfl⟩; have hy29 : y141.length = ((wrap64 ((ji21) + a0_0)) : Int).toNat - ((ji21) : Int).toNat := (by rw [Ny141.out, List.length_drop, List.length_take] <;> omega); rw [show ((t134).take ((wrap64 ((ji21) + a0_0)) : Int).toNat).drop ((ji21) : Int).toNat = y141 from Ny141.out.symm] at hr29; replace hr29 : Kd.C (Kd.int .i64) _ A29 y141.length y141 := (by rw [hA29]; exact hr29); rw [← hy29, ← hA29, ← hc29] at hcut29; have HR144 := Aa.mk hr29; have HC144 := Aa.mk (show y141.length ≤ c29 from by rw [hy29, hc29]; exact Nat.sub_le_sub_right (Nat.le_trans (by omega) hroom29) _); clear hr29 hC29 hroom29 hi029 hsz29 hc29; have KY29 := Aa.mk hy29; have KA29 := Aa.mk hA29; clear hy29 hA29; have KL29 := Aa.mk (show ((wrap64 ((ji21) + a0_0)) : Int).toNat ≤ t134.length from by omega); have KM29 := Aa.mk (show ((ji21) : Int).toNat ≤ ((wrap64 ((ji21) + a0_0)) : Int).toNat from by omega); replace q29 := eq_true q29)))
             go_loopg [50] k1 (fun kq v50 w' => ∃ (x6_2 : List Int) (x50_2 : Int), v50 = .int .i64 x50_2 ∧ Aa (Bo.l1 kq t134 x6_2 x26_1 (Int.tmod x26_1 a0_0) (y137.length : Int) x26_1 y141 (y141.length : Int) x50_2 a0_0 a0_1 l0_2 = some (r1, r2)) ∧ Aa (kq ≤ k1) ∧ Aa (Kd.R (Kd.int .i64) 3 w' w.heap.size (fun k_ => some k_ ≠ ((.slice (some ⟨go20, 0, none⟩) x6_1.length co15) : Value).ownBlock) (.slice Ao30 t134.length co30) t134) ∧ Aa (Kd.R (Kd.int .i64) 3 w' w.heap.size (fun k_ => some k_ ≠ ((.slice Ao30 t134.length co30) : Value).ownBlock) (.slice (some ⟨go20, 0, none⟩) x6_1.length co15) x6_2) ∧ Aa (w'.heap[gb132]? = some (.cells #[.int .i64 a0_0, .int .i64 a0_1, (.slice A0_2 l0_2.length c0_2)] 50 (0, 0))) ∧ Aa (Kd.C (Kd.int .i64) w' A29 y141.length y141) ∧ Aa (Below w.heap.size w w'))
             case atStart => exact ⟨(y140), (0), (by first | rfl | (simp; done) | (simp [*]; done)), H', ⟨Nat.le_refl _⟩, ⟨by (try simp only [hl6_1]); exact rU <| Kd.Bj HO_5.out (fun _ hk => hk.2)⟩, ⟨by (try simp only [hl6_1]); exact rU <| HO_6.out⟩, ⟨by (try simp only [hl6_1]); exact bU <| BK132.out⟩, ⟨by repeat (first | (with_reducible exact HR144.out) | (with_reducible refine Kd.Bt ?_ _) | (with_reducible refine Kd.B3 ?_ _) | (with_reducible refine Kd.B8 ?_) | exact HR144.out)⟩, ⟨by repeat (first | (with_reducible first | exact HB.out | apply Ad | apply Ac | apply Ah | refine Af ?_ GE132.out) | exact HB.out)⟩⟩
             case round =>
              clear H'
              try clear c1
              try clear c2
              try clear p2
              try clear q2
              try clear hx2
              try clear hf2
              try clear c3
              try clear c3b0
              try clear c3b1
              try clear c5
              try clear c5b0
              try clear c5b1
              try clear c6
              try clear c6b0
              try clear c6b1
              try clear p6
              try clear c16
              try clear c16b0
              try clear c17
              try clear c17b0
              try clear c17b1
              try clear c18
              try clear c18b0
              try clear c19
              try clear c19b0
              try clear p20
              try clear q20
              try clear hx20
              try clear hf20
              try clear c22
              try clear c22b0
              try clear c22b1
              try clear c23
              try clear c23b0
              try clear c23b1
              try clear c24
              try clear c24b0
              try clear c24b1
              try clear c29
              try clear q29
              try clear hcz10_0
              try clear hcz10_1
              try clear hcz10_2
              try clear hcz12_0
              try clear hcz12_1
              try clear hcz12_2
              try clear hcz25_0
              try clear hcz25_1
              try clear hcz25_2
              try clear hcz28_0
              try clear hcz28_1
              try clear hcz28_2
              try clear hcz8_0
              try clear hcz8_1
              try clear hcz8_2
              try clear hfz10_0
              try clear hfz10_1
              try clear hfz10_2
              try clear hfz12_0
              try clear hfz12_1
              try clear hfz12_2
              try clear hfz25_0
              try clear hfz25_1
              try clear hfz25_2
              try clear hfz28_0
              try clear hfz28_1
              try clear hfz28_2
              try clear hfz8_0
              try clear hfz8_1
              try clear hfz8_2
              try clear hx20_0
              try clear p2
              try clear p20
              try clear q029
              try clear q20
              try clear q29
              obtain ⟨x6_2, x50_2, rfl, HA, HK2, HO_5, HO_6, BK132, HR144, HB⟩ := hrel
              have hl6_2 := (Kd.Aw HO_6.out).1
              rw [hl6_2] at HO_6
              (try simp only [hl6_2])
              (try simp only [hl6_2] at BK132)
              (try simp only [hl6_2] at HO_5)
              cases gk with
              | zero => exact absurd HA.out (by simp [Bo.l1])
              | succ k2 =>
               have H := HA.out
               clear HA
               simp only [Bo.l1] at H
               by_cases c31 : x50_2 < (y141.length : Int)
               ·rw [if_pos c31] at H
                have c31b0 : decide (x50_2 < (y141.length : Int)) = true := decide_eq_true c31
                clear c31
                by_cases c32 : 0 ≤ x50_2
                ·rw [if_pos c32] at H
                 have c32b0 : decide (0 ≤ x50_2) = true := decide_eq_true c32
                 clear c32
                 by_cases c33 : x50_2 < (y141.length : Int)
                 ·rw [if_pos c33] at H
                  have c33b0 : decide (x50_2 < (y141.length : Int)) = true := decide_eq_true c33
                  clear c33
                  by_cases c34 : (rd y141 x50_2) < 1048576
                  ·rw [if_pos c34] at H
                   have c34b0 : decide ((rd y141 x50_2) < 1048576) = true := decide_eq_true c34
                   clear c34
                   by_cases c35 : 0 ≤ x26_1
                   ·rw [if_pos c35] at H
                    have c35b0 : decide (0 ≤ x26_1) = true := decide_eq_true c35
                    clear c35
                    by_cases c36 : x26_1 < (x6_2.length : Int)
                    ·rw [if_pos c36] at H
                     have c36b0 : decide (x26_1 < (x6_2.length : Int)) = true := decide_eq_true c36
                     clear c36
                     by_cases c37 : (rd x6_2 x26_1) < 0
                     ·rw [if_pos c37] at H
                      have c37b0 : decide ((rd x6_2 x26_1) < 0) = true := decide_eq_true c37
                      clear c37
                      obtain ⟨y147, hy147⟩ : ∃ y_ : List Int, y_ = (x6_2.set (x26_1 : Int).toNat (wrap64 ((wrap64 ((wrap64 (x50_2 - (Int.tmod x26_1 a0_0))) * (wrap64 (x50_2 - (Int.tmod x26_1 a0_0))))) + (wrap64 ((rd y141 x50_2) * (rd y141 x50_2)))))) := ⟨_, rfl⟩
                      replace H : (Bo.l1 k2 t134 y147 x26_1 (Int.tmod x26_1 a0_0) (y137.length : Int) x26_1 y141 (y141.length : Int) (wrap64 (x50_2 + 1)) a0_0 a0_1 l0_2) = some (r1, r2) := by first | (rw [hy147]; with_reducible exact H) | (have H2_ := (Option.bind_some _ _).symm.trans H; rw [hy147]; with_reducible exact H2_) | (have H2_ := (Option.bind_some _ _).symm.trans H; with_reducible exact H2_) | with_reducible exact H | (rw [hy147]; exact H) | exact H
                      have Ny147 := Aa.mk hy147
                      clear hy147
                      have H' := Aa.mk H
                      clear H
                      have p145 : 0 ≤ (x50_2 : Int) := of_decide_eq_true (by first | (with_reducible assumption) | assumption)
                      have q145 : x50_2 < (y141.length : Int) := of_decide_eq_true (by first | (with_reducible assumption) | assumption)
                      obtain ⟨ad145, e145, hx145_0⟩ := Kd.at_int HR144.out x50_2 p145 q145
                      cases e145
                      replace p145 := eq_true p145
                      replace q145 := eq_true q145
                      have p146 : 0 ≤ (x26_1 : Int) := of_decide_eq_true (by first | (with_reducible assumption) | assumption)
                      have q146 : x26_1 < (x6_2.length : Int) := of_decide_eq_true (by first | (with_reducible assumption) | assumption)
                      obtain ⟨ad146, e146, hx146_0⟩ := Kd.at_int (Kd.Aw HO_6.out).2.2 x26_1 p146 q146
                      obtain rfl : (⟨go20, 0, none⟩ : Addr) = ad146 := (by injection e146)
                      (first | simp only [add_plain] at hx146_0 | simp only [add_at] at hx146_0 | simp only [Addr.add, Nat.zero_add] at hx146_0 | skip)
                      replace p146 := eq_true p146
                      replace q146 := eq_true q146
                      have p38 : 0 ≤ (x26_1 : Int) := of_decide_eq_true (by first | (with_reducible assumption) | assumption)
                      have q38 : (x26_1 : Int) < ((x6_2.length : Int) : Int) := of_decide_eq_true (by first | (with_reducible assumption) | assumption)
                      obtain ⟨hx38_0, hf38_0⟩ := Kd.Ct 0 HO_6.out (x26_1 : Int) p38 q38
                      replace p38 := eq_true p38
                      replace q38 := eq_true q38
                      have HP39 := Kd.C6 HO_6.out (x26_1 : Int) (wrap64 ((wrap64 ((wrap64 (x50_2 - (Int.tmod x26_1 a0_0))) * (wrap64 (x50_2 - (Int.tmod x26_1 a0_0))))) + (wrap64 ((rd y141 x50_2) * (rd y141 x50_2)))))
                      go_wp2_with (((with_reducible refine Cq (t := 3) (p := 86) rfl ?_); (try (rw [drewN_self wr]; generalize hq_ : World.drewN wr _ = wr; have n0_ := Aa.mk (Kd.R_at hq_ HO_5.out); have n1_ := Aa.mk (Kd.R_at hq_ HO_6.out); have n2_ := Aa.mk (blk_at hq_ BK132.out); have n3_ := Aa.mk (Kd.C_at hq_ HR144.out); have n4_ := Aa.mk (below_at hq_ HB.out); clear hq_ HO_5 HO_6 BK132 HR144 HB; have HO_5 := n0_; have HO_6 := n1_; have BK132 := n2_; have HR144 := n3_; have HB := n4_; clear n0_ n1_ n2_ n3_ n4_; (try (have HP39 := Kd.C6 HO_6.out (x26_1 : Int) (wrap64 ((wrap64 ((wrap64 (x50_2 - (Int.tmod x26_1 a0_0))) * (wrap64 (x50_2 - (Int.tmod x26_1 a0_0))))) + (wrap64 ((rd y141 x50_2) * (rd y141 x50_2))))))))); refine store_event (t := 3) (p := 86) (v := ?vo_w40) (w1 := (wr.setCell ⟨go20, (x26_1 : Int).toNat, none⟩ (.int .i64 (wrap64 ((wrap64 ((wrap64 (x50_2 - (Int.tmod x26_1 a0_0))) * (wrap64 (x50_2 - (Int.tmod x26_1 a0_0))))) + (wrap64 ((rd y141 x50_2) * (rd y141 x50_2)))))))) ?hg ?ho ?hn ?hr ?_; (case ho => rfl); (case hg => rfl); (case hn => rfl); (case hr => first | (go_simp; done) | (go_simp; rfl)); intro w40 hw; have hg : wr.grownBy w40 (some go20) := (by rw [hw]; exact HP39.2); have hp_ : Kd.R (Kd.int .i64) 3 w40 w.heap.size (fun k_ => some k_ ≠ (.slice Ao30 t134.length co30 : Value).ownBlock) (.slice (some ⟨go20, 0, none⟩) x6_2.length co15) y147 := (by rw [hw, Ny147.out]; exact HP39.1); clear HP39; have n0_ := Aa.mk (Kd.C4 (v := (.slice (some ⟨go20, 0, none⟩) x6_2.length co15)) (v1 := (.slice (some ⟨go20, 0, none⟩) x6_2.length co15)) (ok := (fun _ => True)) (by exact rU <| Kd.Bj HO_5.out (fun _ hk => ⟨trivial, hk⟩)) hg (.inl rfl)); have n1_ := Aa.mk (hp_); have n2_ := Aa.mk (Bs (g := gb132) (o := .cells #[.int .i64 a0_0, .int .i64 a0_1, .slice A0_2 l0_2.length c0_2] 50 (0, 0)) (by exact bU <| BK132.out) hg (Kd.Db HO_6.out BK132.out (by decide))); have n3_ := Aa.mk ((by rw [hw]; exact Af (HB.out) GB20.out : Below w.heap.size w w40)); have n4_ := Aa.mk ((show Kd.C (Kd.int .i64) w40 (some ad145) y141.length y141 from by rw [Ny141.out, KA29.out]; exact Kd.C_mid (lo := ((ji21) : Int).toNat) (hi := ((wrap64 ((ji21) + a0_0)) : Int).toNat) (c := co30) ((Kd.Aw (Kd.C4 (v := (.slice (some ⟨go20, 0, none⟩) x6_2.length co15)) (v1 := (.slice (some ⟨go20, 0, none⟩) x6_2.length co15)) (ok := (fun _ => True)) (by exact rU <| Kd.Bj HO_5.out (fun _ hk => ⟨trivial, hk⟩)) hg (.inl rfl))).2.2) KM29.out KL29.out ((Kd.Aw (Kd.C4 (v := (.slice (some ⟨go20, 0, none⟩) x6_2.length co15)) (v1 := (.slice (some ⟨go20, 0, none⟩) x6_2.length co15)) (ok := (fun _ => True)) (by exact rU <| Kd.Bj HO_5.out (fun _ hk => ⟨trivial, hk⟩)) hg (.inl rfl))).2.1))); clear HO_5; clear HO_6; clear BK132; clear HB; clear HR144; have HO_5 := n0_; have HO_6 := n1_; have BK132 := n2_; have HB := n3_; have HR144 := n4_; clear n0_ n1_ n2_ n3_ n4_; clear hg hw hp_))
                      repeat (go_quiet (fail); try go_wp2_with (fail))
                      (try simp only [← hl6_2])
                      go_roundg k2
                      case measure => have := HK1.out; have := HK2.out; omega
                      case rel => exact ⟨(y147), (wrap64 (x50_2 + 1)), (by first | rfl | (simp; done) | (simp [*]; done)), H', ⟨by have := HK1.out; have := HK2.out; omega⟩, ⟨by (try simp only [hl6_1]); (try simp only [hl6_2]); exact rU <| Kd.Bj HO_5.out (fun _ hk => hk.2)⟩, ⟨by (try simp only [hl6_1]); (try simp only [hl6_2]); exact rU <| HO_6.out⟩, ⟨by (try simp only [hl6_1]); (try simp only [hl6_2]); exact bU <| BK132.out⟩, ⟨by repeat (first | (with_reducible exact HR144.out) | (with_reducible refine Kd.Bt ?_ _) | (with_reducible refine Kd.B3 ?_ _) | (with_reducible refine Kd.B8 ?_) | exact HR144.out)⟩, ⟨by repeat (first | (with_reducible first | exact HB.out | apply Ad | apply Ac | apply Ah | refine Af ?_ GE132.out) | exact HB.out)⟩⟩
                     ·rw [if_neg c37] at H
                      have c37b0 : decide ((rd x6_2 x26_1) < 0) = false := decide_eq_false c37
                      clear c37
                      by_cases c41 : (wrap64 ((wrap64 ((wrap64 (x50_2 - (Int.tmod x26_1 a0_0))) * (wrap64 (x50_2 - (Int.tmod x26_1 a0_0))))) + (wrap64 ((rd y141 x50_2) * (rd y141 x50_2))))) < (rd x6_2 x26_1)
                      ·rw [if_pos c41] at H
                       have c41b0 : decide ((wrap64 ((wrap64 ((wrap64 (x50_2 - (Int.tmod x26_1 a0_0))) * (wrap64 (x50_2 - (Int.tmod x26_1 a0_0))))) + (wrap64 ((rd y141 x50_2) * (rd y141 x50_2))))) < (rd x6_2 x26_1)) = true := decide_eq_true c41
                       clear c41
                       obtain ⟨y149, hy149⟩ : ∃ y_ : List Int, y_ = (x6_2.set (x26_1 : Int).toNat (wrap64 ((wrap64 ((wrap64 (x50_2 - (Int.tmod x26_1 a0_0))) * (wrap64 (x50_2 - (Int.tmod x26_1 a0_0))))) + (wrap64 ((rd y141 x50_2) * (rd y141 x50_2)))))) := ⟨_, rfl⟩
                       replace H : (Bo.l1 k2 t134 y149 x26_1 (Int.tmod x26_1 a0_0) (y137.length : Int) x26_1 y141 (y141.length : Int) (wrap64 (x50_2 + 1)) a0_0 a0_1 l0_2) = some (r1, r2) := by first | (rw [hy149]; with_reducible exact H) | (have H2_ := (Option.bind_some _ _).symm.trans H; rw [hy149]; with_reducible exact H2_) | (have H2_ := (Option.bind_some _ _).symm.trans H; with_reducible exact H2_) | with_reducible exact H | (rw [hy149]; exact H) | exact H
                       have Ny149 := Aa.mk hy149
                       clear hy149
                       have H' := Aa.mk H
                       clear H
                       have p145 : 0 ≤ (x50_2 : Int) := of_decide_eq_true (by first | (with_reducible assumption) | assumption)
                       have q145 : x50_2 < (y141.length : Int) := of_decide_eq_true (by first | (with_reducible assumption) | assumption)
                       obtain ⟨ad145, e145, hx145_0⟩ := Kd.at_int HR144.out x50_2 p145 q145
                       cases e145
                       replace p145 := eq_true p145
                       replace q145 := eq_true q145
                       have p146 : 0 ≤ (x26_1 : Int) := of_decide_eq_true (by first | (with_reducible assumption) | assumption)
                       have q146 : x26_1 < (x6_2.length : Int) := of_decide_eq_true (by first | (with_reducible assumption) | assumption)
                       obtain ⟨ad146, e146, hx146_0⟩ := Kd.at_int (Kd.Aw HO_6.out).2.2 x26_1 p146 q146
                       obtain rfl : (⟨go20, 0, none⟩ : Addr) = ad146 := (by injection e146)
                       (first | simp only [add_plain] at hx146_0 | simp only [add_at] at hx146_0 | simp only [Addr.add, Nat.zero_add] at hx146_0 | skip)
                       replace p146 := eq_true p146
                       replace q146 := eq_true q146
                       have p148 : 0 ≤ (x26_1 : Int) := of_decide_eq_true (by first | (with_reducible assumption) | assumption)
                       have q148 : x26_1 < (x6_2.length : Int) := of_decide_eq_true (by first | (with_reducible assumption) | assumption)
                       obtain ⟨ad148, e148, hx148_0⟩ := Kd.at_int (Kd.Aw HO_6.out).2.2 x26_1 p148 q148
                       obtain rfl : (⟨go20, 0, none⟩ : Addr) = ad148 := (by injection e148)
                       (first | simp only [add_plain] at hx148_0 | simp only [add_at] at hx148_0 | simp only [Addr.add, Nat.zero_add] at hx148_0 | skip)
                       replace p148 := eq_true p148
                       replace q148 := eq_true q148
                       have p42 : 0 ≤ (x26_1 : Int) := of_decide_eq_true (by first | (with_reducible assumption) | assumption)
                       have q42 : (x26_1 : Int) < ((x6_2.length : Int) : Int) := of_decide_eq_true (by first | (with_reducible assumption) | assumption)
                       obtain ⟨hx42_0, hf42_0⟩ := Kd.Ct 0 HO_6.out (x26_1 : Int) p42 q42
                       replace p42 := eq_true p42
                       replace q42 := eq_true q42
                       have HP43 := Kd.C6 HO_6.out (x26_1 : Int) (wrap64 ((wrap64 ((wrap64 (x50_2 - (Int.tmod x26_1 a0_0))) * (wrap64 (x50_2 - (Int.tmod x26_1 a0_0))))) + (wrap64 ((rd y141 x50_2) * (rd y141 x50_2)))))
                       go_wp2_with (((with_reducible refine Cq (t := 3) (p := 86) rfl ?_); (try (rw [drewN_self wr]; generalize hq_ : World.drewN wr _ = wr; have n0_ := Aa.mk (Kd.R_at hq_ HO_5.out); have n1_ := Aa.mk (Kd.R_at hq_ HO_6.out); have n2_ := Aa.mk (blk_at hq_ BK132.out); have n3_ := Aa.mk (Kd.C_at hq_ HR144.out); have n4_ := Aa.mk (below_at hq_ HB.out); clear hq_ HO_5 HO_6 BK132 HR144 HB; have HO_5 := n0_; have HO_6 := n1_; have BK132 := n2_; have HR144 := n3_; have HB := n4_; clear n0_ n1_ n2_ n3_ n4_; (try (have HP43 := Kd.C6 HO_6.out (x26_1 : Int) (wrap64 ((wrap64 ((wrap64 (x50_2 - (Int.tmod x26_1 a0_0))) * (wrap64 (x50_2 - (Int.tmod x26_1 a0_0))))) + (wrap64 ((rd y141 x50_2) * (rd y141 x50_2))))))))); refine store_event (t := 3) (p := 86) (v := ?vo_w44) (w1 := (wr.setCell ⟨go20, (x26_1 : Int).toNat, none⟩ (.int .i64 (wrap64 ((wrap64 ((wrap64 (x50_2 - (Int.tmod x26_1 a0_0))) * (wrap64 (x50_2 - (Int.tmod x26_1 a0_0))))) + (wrap64 ((rd y141 x50_2) * (rd y141 x50_2)))))))) ?hg ?ho ?hn ?hr ?_; (case ho => rfl); (case hg => rfl); (case hn => rfl); (case hr => first | (go_simp; done) | (go_simp; rfl)); intro w44 hw; have hg : wr.grownBy w44 (some go20) := (by rw [hw]; exact HP43.2); have hp_ : Kd.R (Kd.int .i64) 3 w44 w.heap.size (fun k_ => some k_ ≠ (.slice Ao30 t134.length co30 : Value).ownBlock) (.slice (some ⟨go20, 0, none⟩) x6_2.length co15) y149 := (by rw [hw, Ny149.out]; exact HP43.1); clear HP43; have n0_ := Aa.mk (Kd.C4 (v := (.slice (some ⟨go20, 0, none⟩) x6_2.length co15)) (v1 := (.slice (some ⟨go20, 0, none⟩) x6_2.length co15)) (ok := (fun _ => True)) (by exact rU <| Kd.Bj HO_5.out (fun _ hk => ⟨trivial, hk⟩)) hg (.inl rfl)); have n1_ := Aa.mk (hp_); have n2_ := Aa.mk (Bs (g := gb132) (o := .cells #[.int .i64 a0_0, .int .i64 a0_1, .slice A0_2 l0_2.length c0_2] 50 (0, 0)) (by exact bU <| BK132.out) hg (Kd.Db HO_6.out BK132.out (by decide))); have n3_ := Aa.mk ((by rw [hw]; exact Af (HB.out) GB20.out : Below w.heap.size w w44)); have n4_ := Aa.mk ((show Kd.C (Kd.int .i64) w44 (some ad145) y141.length y141 from by rw [Ny141.out, KA29.out]; exact Kd.C_mid (lo := ((ji21) : Int).toNat) (hi := ((wrap64 ((ji21) + a0_0)) : Int).toNat) (c := co30) ((Kd.Aw (Kd.C4 (v := (.slice (some ⟨go20, 0, none⟩) x6_2.length co15)) (v1 := (.slice (some ⟨go20, 0, none⟩) x6_2.length co15)) (ok := (fun _ => True)) (by exact rU <| Kd.Bj HO_5.out (fun _ hk => ⟨trivial, hk⟩)) hg (.inl rfl))).2.2) KM29.out KL29.out ((Kd.Aw (Kd.C4 (v := (.slice (some ⟨go20, 0, none⟩) x6_2.length co15)) (v1 := (.slice (some ⟨go20, 0, none⟩) x6_2.length co15)) (ok := (fun _ => True)) (by exact rU <| Kd.Bj HO_5.out (fun _ hk => ⟨trivial, hk⟩)) hg (.inl rfl))).2.1))); clear HO_5; clear HO_6; clear BK132; clear HB; clear HR144; have HO_5 := n0_; have HO_6 := n1_; have BK132 := n2_; have HB := n3_; have HR144 := n4_; clear n0_ n1_ n2_ n3_ n4_; clear hg hw hp_))
                       repeat (go_quiet (fail); try go_wp2_with (fail))
                       (try simp only [← hl6_2])
                       go_roundg k2
                       case measure => have := HK1.out; have := HK2.out; omega
                       case rel => exact ⟨(y149), (wrap64 (x50_2 + 1)), (by first | rfl | (simp; done) | (simp [*]; done)), H', ⟨by have := HK1.out; have := HK2.out; omega⟩, ⟨by (try simp only [hl6_1]); (try simp only [hl6_2]); exact rU <| Kd.Bj HO_5.out (fun _ hk => hk.2)⟩, ⟨by (try simp only [hl6_1]); (try simp only [hl6_2]); exact rU <| HO_6.out⟩, ⟨by (try simp only [hl6_1]); (try simp only [hl6_2]); exact bU <| BK132.out⟩, ⟨by repeat (first | (with_reducible exact HR144.out) | (with_reducible refine Kd.Bt ?_ _) | (with_reducible refine Kd.B3 ?_ _) | (with_reducible refine Kd.B8 ?_) | exact HR144.out)⟩, ⟨by repeat (first | (with_reducible first | exact HB.out | apply Ad | apply Ac | apply Ah | refine Af ?_ GE132.out) | exact HB.out)⟩⟩
                      ·rw [if_neg c41] at H
                       have c41b0 : decide ((wrap64 ((wrap64 ((wrap64 (x50_2 - (Int.tmod x26_1 a0_0))) * (wrap64 (x50_2 - (Int.tmod x26_1 a0_0))))) + (wrap64 ((rd y141 x50_2) * (rd y141 x50_2))))) < (rd x6_2 x26_1)) = false := decide_eq_false c41
                       clear c41
                       have H' := Aa.mk H
                       clear H
                       have p145 : 0 ≤ (x50_2 : Int) := of_decide_eq_true (by first | (with_reducible assumption) | assumption)
                       have q145 : x50_2 < (y141.length : Int) := of_decide_eq_true (by first | (with_reducible assumption) | assumption)
                       obtain ⟨ad145, e145, hx145_0⟩ := Kd.at_int HR144.out x50_2 p145 q145
                       cases e145
                       replace p145 := eq_true p145
                       replace q145 := eq_true q145
                       have p146 : 0 ≤ (x26_1 : Int) := of_decide_eq_true (by first | (with_reducible assumption) | assumption)
                       have q146 : x26_1 < (x6_2.length : Int) := of_decide_eq_true (by first | (with_reducible assumption) | assumption)
                       obtain ⟨ad146, e146, hx146_0⟩ := Kd.at_int (Kd.Aw HO_6.out).2.2 x26_1 p146 q146
                       obtain rfl : (⟨go20, 0, none⟩ : Addr) = ad146 := (by injection e146)
                       (first | simp only [add_plain] at hx146_0 | simp only [add_at] at hx146_0 | simp only [Addr.add, Nat.zero_add] at hx146_0 | skip)
                       replace p146 := eq_true p146
                       replace q146 := eq_true q146
                       have p148 : 0 ≤ (x26_1 : Int) := of_decide_eq_true (by first | (with_reducible assumption) | assumption)
                       have q148 : x26_1 < (x6_2.length : Int) := of_decide_eq_true (by first | (with_reducible assumption) | assumption)
                       obtain ⟨ad148, e148, hx148_0⟩ := Kd.at_int (Kd.Aw HO_6.out).2.2 x26_1 p148 q148
                       obtain rfl : (⟨go20, 0, none⟩ : Addr) = ad148 := (by injection e148)
                       (first | simp only [add_plain] at hx148_0 | simp only [add_at] at hx148_0 | simp only [Addr.add, Nat.zero_add] at hx148_0 | skip)
                       replace p148 := eq_true p148
                       replace q148 := eq_true q148
                       go_wp2
                       repeat (go_quiet (fail); try go_wp2)
                       (try simp only [← hl6_2])
                       go_roundg k2
                       case measure => have := HK1.out; have := HK2.out; omega
                       case rel => exact ⟨(x6_2), (wrap64 (x50_2 + 1)), (by first | rfl | (simp; done) | (simp [*]; done)), H', ⟨by have := HK1.out; have := HK2.out; omega⟩, ⟨by (try simp only [hl6_1]); (try simp only [hl6_2]); exact rU <| HO_5.out⟩, ⟨by (try simp only [hl6_1]); (try simp only [hl6_2]); exact rU <| HO_6.out⟩, ⟨by (try simp only [hl6_1]); (try simp only [hl6_2]); exact bU <| BK132.out⟩, ⟨by repeat (first | (with_reducible exact HR144.out) | (with_reducible refine Kd.Bt ?_ _) | (with_reducible refine Kd.B3 ?_ _) | (with_reducible refine Kd.B8 ?_) | exact HR144.out)⟩, ⟨by repeat (first | (with_reducible first | exact HB.out | apply Ad | apply Ac | apply Ah | refine Af ?_ GE132.out) | exact HB.out)⟩⟩
                    ·rw [if_neg c36] at H
                     exact absurd H (by simp)
                   ·rw [if_neg c35] at H
                    exact absurd H (by simp)
                  ·rw [if_neg c34] at H
                   have c34b0 : decide ((rd y141 x50_2) < 1048576) = false := decide_eq_false c34
                   clear c34
                   have H' := Aa.mk H
                   clear H
                   have p145 : 0 ≤ (x50_2 : Int) := of_decide_eq_true (by first | (with_reducible assumption) | assumption)
                   have q145 : x50_2 < (y141.length : Int) := of_decide_eq_true (by first | (with_reducible assumption) | assumption)
                   obtain ⟨ad145, e145, hx145_0⟩ := Kd.at_int HR144.out x50_2 p145 q145
                   cases e145
                   replace p145 := eq_true p145
                   replace q145 := eq_true q145
                   go_wp2
                   repeat (go_quiet (fail); try go_wp2)
                   (try simp only [← hl6_2])
                   go_roundg k2
                   case measure => have := HK1.out; have := HK2.out; omega
                   case rel => exact ⟨(x6_2), (wrap64 (x50_2 + 1)), (by first | rfl | (simp; done) | (simp [*]; done)), H', ⟨by have := HK1.out; have := HK2.out; omega⟩, ⟨by (try simp only [hl6_1]); (try simp only [hl6_2]); exact rU <| HO_5.out⟩, ⟨by (try simp only [hl6_1]); (try simp only [hl6_2]); exact rU <| HO_6.out⟩, ⟨by (try simp only [hl6_1]); (try simp only [hl6_2]); exact bU <| BK132.out⟩, ⟨by repeat (first | (with_reducible exact HR144.out) | (with_reducible refine Kd.Bt ?_ _) | (with_reducible refine Kd.B3 ?_ _) | (with_reducible refine Kd.B8 ?_) | exact HR144.out)⟩, ⟨by repeat (first | (with_reducible first | exact HB.out | apply Ad | apply Ac | apply Ah | refine Af ?_ GE132.out) | exact HB.out)⟩⟩
                 ·rw [if_neg c33] at H
                  exact absurd H (by simp)
                ·rw [if_neg c32] at H
                 exact absurd H (by simp)
               ·rw [if_neg c31] at H
                have c31b0 : decide (x50_2 < (y141.length : Int)) = false := decide_eq_false c31
                clear c31
                have H' := Aa.mk H
                clear H
                go_wp2
                repeat (go_quiet (fail); try go_wp2)
                (try simp only [← hl6_1, ← hl6_2])
                go_roundg k2
                case measure => have := HK1.out; have := HK2.out; omega
                case rel => exact ⟨(x6_2), (wrap64 (x26_1 + 1)), (by first | rfl | (simp; done) | (simp [*]; done)), H', ⟨by have := HK1.out; have := HK2.out; omega⟩, ⟨by (try simp only [hl6_1]); (try simp only [hl6_2]); exact rU <| HO_5.out⟩, ⟨by (try simp only [hl6_1]); (try simp only [hl6_2]); exact rU <| HO_6.out⟩, ⟨by (try simp only [hl6_1]); (try simp only [hl6_2]); exact bU <| BK132.out⟩, ⟨by repeat (first | (with_reducible first | exact HB.out | apply Ad | apply Ac | apply Ah | refine Af ?_ GE132.out) | exact HB.out)⟩⟩
            ·rw [if_neg c24] at H
             exact absurd H (by simp)
           ·rw [if_neg c23] at H
            exact absurd H (by simp)
          ·rw [if_neg c22] at H
           exact absurd H (by simp)
         ·rw [if_neg c19] at H
          exact absurd H (by simp)
        ·rw [if_neg c18] at H
         exact absurd H (by simp)
      ·rw [if_neg c16] at H
       have c16b0 : decide (x26_1 < (y137.length : Int)) = false := decide_eq_false c16
       rw [hl6_1] at c16b0
       clear c16
       simp only [Option.some.injEq, Prod.mk.injEq] at H
       obtain ⟨rfl, rfl⟩ := H
       go_wp2
       repeat (go_quiet (fail); try go_wp2)
       go_ret2
       exact ⟨_, by first | rfl | (simp [Az, Ba] <;> rfl) | (simp [*, Az, Ba] <;> rfl), by exact rU <| Kd.Bj HO_6.out (fun _ hk => trivial), by repeat (first | (with_reducible first | exact HB.out | apply Ad | apply Ac | apply Ah | refine Af ?_ GE132.out) | exact HB.out)⟩
   ·rw [if_neg c6] at H
    exact absurd H (by simp)
  ·rw [if_neg c5] at H
   exact absurd H (by simp)
 ·rw [if_neg c3] at H
  have c3b0 : (t133 == 0) = false := beq_eq_false_iff_ne.mpr c3
  have c3b1 : (t133 != 0) = true := bne_iff_ne.mpr c3
  simp only [Option.some.injEq, Prod.mk.injEq] at H
  obtain ⟨rfl, rfl⟩ := H
  go_enter Try.func32, Try.ntmps32
  go_wp2_with (first | ((with_reducible refine Bk (N := 1) rfl ?_); refine Bp ?hg (N := 1) ?hd (cs := #[.int .i64 a0_0, .int .i64 a0_1, .slice A0_2 l0_2.length c0_2]) (t := 50) ?hr ?_; (case hd => rfl); (case hg => rfl); (case hr => first | (go_simp; done) | (go_simp; rfl)); intro gb132 hg w45 hbox hb; have n0_ := Aa.mk (Ar (lU HB.out) hb); have n1_ := Aa.mk (hbox); have n2_ := Aa.mk ((by rw [hg]; exact (Ak (lU HB.out)) : w.heap.size ≤ gb132)); have n3_ := Aa.mk ((by rw [hg]; exact (Ak (lU HB.out)) : w.heap.size ≤ gb132)); clear HB; have HB := n0_; have BK132 := n1_; have GW132 := n2_; have GE132 := n3_; clear n0_ n1_ n2_ n3_; clear hb hbox hg; have hcz46_0 : w45.cell? ⟨gb132, 0, none⟩ = some (.int .i64 a0_0) := (Ae BK132.out 0).trans rfl; have hcz46_1 : w45.cell? ⟨gb132, 1, none⟩ = some (.int .i64 a0_1) := (Ae BK132.out 1).trans rfl; have hcz46_2 : w45.cell? ⟨gb132, 2, none⟩ = some (.slice A0_2 l0_2.length c0_2) := (Ae BK132.out 2).trans rfl; have hfz46_0 := Ag BK132.out 0; have hfz46_1 := Ag BK132.out 1; have hfz46_2 := Ag BK132.out 2) | (go_at_call 46; (with_reducible refine (Cp.calls a0_0 a0_1 _ _ l0_2 t133 _ ?side1 ?side2 A2.out).mono ?_); (case side1 => repeat (first | exact (Kd.Ce HR0_2.out HB.out) | (with_reducible refine Kd.Bt ?_ _) | (with_reducible refine Kd.B3 ?_ _) | (with_reducible refine Kd.B8 ?_))); (case side2 => exact HC0_2.out); rintro e w47 ⟨rfl, hb⟩; have n0_ := Aa.mk (An (g := gb132) (o := .cells #[.int .i64 a0_0, .int .i64 a0_1, .slice A0_2 l0_2.length c0_2] 50 (0, 0)) (by exact bU <| BK132.out) hb); have n1_ := Aa.mk (Ar (by repeat (first | (with_reducible first | exact HB.out | apply Ad | apply Ac | apply Ah | refine Af ?_ GE132.out) | exact HB.out)) hb); clear BK132; clear HB; have BK132 := n0_; have HB := n1_; clear n0_ n1_; (try clear hb); (try clear hb2); (try clear hk); (try clear hi)))
  repeat (go_quiet (fail); try go_wp2_with (fail))
  go_ret2
  exact ⟨_, by first | rfl | (simp [Az, Ba] <;> rfl) | (simp [*, Az, Ba] <;> rfl), by first | exact Kd.Cu _ _ _ _ _ | exact Kd.N_nil _ _ _ _ _ | exact Kd.V_nil _ _ _ _ _ | exact Kd.Q_nil _ _ _ _ _ | exact Kd.S_nil _ _ _ _ _, by repeat (first | (with_reducible first | exact HB.out | apply Ad | apply Ac | apply Ah | refine Af ?_ GE132.out) | exact HB.out)⟩

def B2.l0 : Nat → List Bool → Int → Int → Int → Int → List Bool → Option (Int × Int × List Bool)
 | 0, _, _, _, _, _, _ => none
 | k + 1, x12, x13, x14, x153000, x153001, x153002 => if x14 < x13 then (if 0 ≤ x14 then (if x14 < (x12.length : Int) then (if x153002.length < 140737488355328 then (B2.l0 k x12 x13 (wrap64 (x14 + 1)) x153000 x153001 (x153002 ++ [!(rdOf false x12 x14)])) else (none)) else (none)) else (none)) else (some (x153000, x153001, x153002))
def B2.f (k : Nat) (a0_0 : Int) (a0_1 : Int) (l0_2 : List Bool) : Option (Int × Int × List Bool) := B2.l0 k l0_2 (l0_2.length : Int) 0 a0_0 a0_1 ([] : List Bool)
theorem B2.mono_l : ∀ k, (∀ y0 y1 y2 y3 y4 y5, LeO (B2.l0 k y0 y1 y2 y3 y4 y5) (B2.l0 (k + 1) y0 y1 y2 y3 y4 y5))
 | 0 => fun _ _ _ _ _ _ r h => by simp [B2.l0] at h
 | k + 1 => by
  have ih0 := B2.mono_l k
  ·intro y0 y1 y2 y3 y4 y5
   unfold B2.l0
   repeat' first
   | (with_reducible exact ih0 _ _ _ _ _ _)
   | (with_reducible exact LeO.refl _)
   | (with_reducible exact LeO.none _)
   | (with_reducible refine LeO.ite ?_ ?_)
   | (with_reducible refine LeO.bind ?_ (fun _ => ?_))
   | exact ih0 _ _ _ _ _ _
   | exact LeO.none _
   | refine LeO.ite ?_ ?_
   | refine LeO.bind ?_ (fun _ => ?_)
theorem B2.mono : ∀ a0 a1 a2 k, LeO (B2.f k a0 a1 a2) (B2.f (k + 1) a0 a1 a2) := by
 intro a0 a1 a2 k
 have ih0 := B2.mono_l k
 unfold B2.f
 repeat' first
   | (with_reducible exact ih0 _ _ _ _ _ _)
   | (with_reducible exact LeO.refl _)
   | (with_reducible exact LeO.none _)
   | (with_reducible refine LeO.ite ?_ ?_)
   | (with_reducible refine LeO.bind ?_ (fun _ => ?_))
   | exact ih0 _ _ _ _ _ _
   | exact LeO.none _
   | refine LeO.ite ?_ ?_
   | refine LeO.bind ?_ (fun _ => ?_)
set_option maxHeartbeats 8000000 in
set_option maxRecDepth 100000 in
theorem B2.calls (k : Nat) (a0_0 : Int) (a0_1 : Int) (A0_2 : Option Addr) (c0_2 : Nat) (l0_2 : List Bool) (r1 : Int) (r2 : Int) (r3 : List Bool) (w : World) (hr0_2 : Kd.C Kd.bool w A0_2 l0_2.length l0_2) (hc0_2 : l0_2.length ≤ c0_2) (h : B2.f k a0_0 a0_1 l0_2 = some (r1, r2, r3)) :
  Calls Try.prog 83 #[.agg #[.int .i64 a0_0, .int .i64 a0_1, .slice A0_2 l0_2.length c0_2]] w fun e w' => ∃ v2_ : Value, e = .returned (.agg #[.int .i64 r1, .int .i64 r2, v2_]) ∧ Kd.R Kd.bool 4 w' w.heap.size (fun _ => True) v2_ r3 ∧ Below w.heap.size w w' := by
 have hu50 := Try.underlying50
 have HR0_2 := Aa.mk hr0_2
 have HC0_2 := Aa.mk hc0_2
 clear hr0_2 hc0_2
 have HB := Aa.mk (Below.refl w.heap.size w)
 have H : (B2.l0 k l0_2 (l0_2.length : Int) 0 a0_0 a0_1 ([] : List Bool)) = some (r1, r2, r3) := h
 clear h
 have H' := Aa.mk H
 clear H
 go_enter Try.func83, Try.ntmps83
 go_wp2_with (first | ((with_reducible refine Bk (N := 1) rfl ?_); refine Bp ?hg (N := 1) ?hd (cs := #[.int .i64 a0_0, .int .i64 a0_1, .slice A0_2 l0_2.length c0_2]) (t := 50) ?hr ?_; (case hd => rfl); (case hg => rfl); (case hr => first | (go_simp; done) | (go_simp; rfl)); intro gb150 hg w2 hbox hb; have n0_ := Aa.mk (Ar (lU HB.out) hb); have n1_ := Aa.mk (hbox); have n2_ := Aa.mk ((by rw [hg]; exact (Ak (lU HB.out)) : w.heap.size ≤ gb150)); have n3_ := Aa.mk ((by rw [hg]; exact (Ak (lU HB.out)) : w.heap.size ≤ gb150)); clear HB; have HB := n0_; have BK150 := n1_; have GW150 := n2_; have GE150 := n3_; clear n0_ n1_ n2_ n3_; clear hb hbox hg) | ((with_reducible refine Bk (N := 2) rfl ?_); refine Bp ?hg (N := 2) ?hd (cs := #[.int .i64 0, .int .i64 0, .slice none 0 0]) (t := 50) ?hr ?_; (case hd => rfl); (case hg => rfl); (case hr => first | (go_simp; done) | (go_simp; rfl)); intro gb151 hg w3 hbox hb; have n0_ := Aa.mk (An (g := gb150) (o := .cells #[.int .i64 a0_0, .int .i64 a0_1, .slice A0_2 l0_2.length c0_2] 50 (0, 0)) (by exact bU <| BK150.out) hb); have n1_ := Aa.mk (Ar (by repeat (first | (with_reducible first | exact HB.out | apply Ad | apply Ac | apply Ah | refine Af ?_ GE150.out) | exact HB.out)) hb); have n2_ := Aa.mk (hbox); have n3_ := Aa.mk ((by rw [hg]; exact (Ak (by repeat (first | (with_reducible first | exact HB.out | apply Ad | apply Ac | apply Ah | refine Af ?_ GE150.out) | exact HB.out))) : w.heap.size ≤ gb151)); have n4_ := Aa.mk ((by rw [hg]; exact (Ak (by repeat (first | (with_reducible first | exact HB.out | apply Ad | apply Ac | apply Ah | refine Af ?_ GE150.out) | exact HB.out))) : w.heap.size ≤ gb151)); have n5_ := Aa.mk ((by rw [hg]; exact Nat.ne_of_lt (Br (g := gb150) (o := .cells #[.int .i64 a0_0, .int .i64 a0_1, .slice A0_2 l0_2.length c0_2] 50 (0, 0)) (by exact bU <| BK150.out)) : gb150 ≠ gb151)); have n6_ := Aa.mk ((by rw [hg]; exact Nat.ne_of_gt (Br (g := gb150) (o := .cells #[.int .i64 a0_0, .int .i64 a0_1, .slice A0_2 l0_2.length c0_2] 50 (0, 0)) (by exact bU <| BK150.out)) : gb151 ≠ gb150)); clear BK150; clear HB; have BK150 := n0_; have HB := n1_; have BK151 := n2_; have GW151 := n3_; have GE151 := n4_; have NB150_151 := n5_; have NB151_150 := n6_; clear n0_ n1_ n2_ n3_ n4_ n5_ n6_; clear hb hbox hg; have hnb4 := NB150_151.out; have hnc4 := NB151_150.out; have hcz5_0 : w3.cell? ⟨gb150, 0, none⟩ = some (.int .i64 a0_0) := (Ae BK150.out 0).trans rfl; have hcz5_1 : w3.cell? ⟨gb150, 1, none⟩ = some (.int .i64 a0_1) := (Ae BK150.out 1).trans rfl; have hcz5_2 : w3.cell? ⟨gb150, 2, none⟩ = some (.slice A0_2 l0_2.length c0_2) := (Ae BK150.out 2).trans rfl; have hfz5_0 := Ag BK150.out 0; have hfz5_1 := Ag BK150.out 1; have hfz5_2 := Ag BK150.out 2) | ((with_reducible refine Bk (N := 3) rfl ?_); refine Bp ?hg (N := 3) ?hd (cs := #[.int .i64 0, .int .i64 0, .slice none 0 0]) (t := 50) ?hr ?_; (case hd => rfl); (case hg => rfl); (case hr => first | (go_simp; done) | (go_simp; rfl)); intro gb152 hg w6 hbox hb; have n0_ := Aa.mk (An (g := gb150) (o := .cells #[.int .i64 a0_0, .int .i64 a0_1, .slice A0_2 l0_2.length c0_2] 50 (0, 0)) (by exact bU <| BK150.out) hb); have n1_ := Aa.mk (An (g := gb151) (o := .cells #[.int .i64 0, .int .i64 0, .slice none 0 0] 50 (0, 0)) (by exact bU <| BK151.out) hb); have n2_ := Aa.mk (Ar (by repeat (first | (with_reducible first | exact HB.out | apply Ad | apply Ac | apply Ah | refine Af ?_ GE150.out | refine Af ?_ GE151.out) | exact HB.out)) hb); have n3_ := Aa.mk (hbox); have n4_ := Aa.mk ((by rw [hg]; exact (Ak (by repeat (first | (with_reducible first | exact HB.out | apply Ad | apply Ac | apply Ah | refine Af ?_ GE150.out | refine Af ?_ GE151.out) | exact HB.out))) : w.heap.size ≤ gb152)); have n5_ := Aa.mk ((by rw [hg]; exact (Ak (by repeat (first | (with_reducible first | exact HB.out | apply Ad | apply Ac | apply Ah | refine Af ?_ GE150.out | refine Af ?_ GE151.out) | exact HB.out))) : w.heap.size ≤ gb152)); have n6_ := Aa.mk ((by rw [hg]; exact Nat.ne_of_lt (Br (g := gb150) (o := .cells #[.int .i64 a0_0, .int .i64 a0_1, .slice A0_2 l0_2.length c0_2] 50 (0, 0)) (by exact bU <| BK150.out)) : gb150 ≠ gb152)); have n7_ := Aa.mk ((by rw [hg]; exact Nat.ne_of_gt (Br (g := gb150) (o := .cells #[.int .i64 a0_0, .int .i64 a0_1, .slice A0_2 l0_2.length c0_2] 50 (0, 0)) (by exact bU <| BK150.out)) : gb152 ≠ gb150)); have n8_ := Aa.mk ((by rw [hg]; exact Nat.ne_of_lt (Br (g := gb151) (o := .cells #[.int .i64 0, .int .i64 0, .slice none 0 0] 50 (0, 0)) (by exact bU <| BK151.out)) : gb151 ≠ gb152)); have n9_ := Aa.mk ((by rw [hg]; exact Nat.ne_of_gt (Br (g := gb151) (o := .cells #[.int .i64 0, .int .i64 0, .slice none 0 0] 50 (0, 0)) (by exact bU <| BK151.out)) : gb152 ≠ gb151)); clear BK150; clear BK151; clear HB; have BK150 := n0_; have BK151 := n1_; have HB := n2_; have BK152 := n3_; have GW152 := n4_; have GE152 := n5_; have NB150_152 := n6_; have NB152_150 := n7_; have NB151_152 := n8_; have NB152_151 := n9_; clear n0_ n1_ n2_ n3_ n4_ n5_ n6_ n7_ n8_ n9_; clear hb hbox hg; have hnb7 := NB152_150.out; have hnc7 := NB150_152.out; have hnb8 := NB152_151.out; have hnc8 := NB151_152.out; have hcz9_0 : w6.cell? ⟨gb152, 0, none⟩ = some (.int .i64 0) := (Ae BK152.out 0).trans rfl; have hcz9_1 : w6.cell? ⟨gb152, 1, none⟩ = some (.int .i64 0) := (Ae BK152.out 1).trans rfl; have hcz9_2 : w6.cell? ⟨gb152, 2, none⟩ = some (.slice none 0 0) := (Ae BK152.out 2).trans rfl; have hfz9_0 := Ag BK152.out 0; have hfz9_1 := Ag BK152.out 1; have hfz9_2 := Ag BK152.out 2; have hcz10_0 : w6.cell? ⟨gb150, 0, none⟩ = some (.int .i64 a0_0) := (Ae BK150.out 0).trans rfl; have hcz10_1 : w6.cell? ⟨gb150, 1, none⟩ = some (.int .i64 a0_1) := (Ae BK150.out 1).trans rfl; have hcz10_2 : w6.cell? ⟨gb150, 2, none⟩ = some (.slice A0_2 l0_2.length c0_2) := (Ae BK150.out 2).trans rfl; have hfz10_0 := Ag BK150.out 0; have hfz10_1 := Ag BK150.out 1; have hfz10_2 := Ag BK150.out 2))
 go_loopg [14] k (fun kq v14 w' => ∃ (x14_1 : Int) (x153002_1 : List Bool) (u153002 : Value), v14 = .int .i64 x14_1 ∧ Aa (B2.l0 kq l0_2 (l0_2.length : Int) x14_1 a0_0 a0_1 x153002_1 = some (r1, r2, r3)) ∧ Aa (kq ≤ k) ∧ Aa (Kd.R Kd.bool 4 w' w.heap.size (fun _ => True) u153002 x153002_1) ∧ Aa (w'.heap[gb150]? = some (.cells #[.int .i64 a0_0, .int .i64 a0_1, (.slice A0_2 l0_2.length c0_2)] 50 (0, 0))) ∧ Aa (w'.heap[gb151]? = some (.cells #[.int .i64 0, .int .i64 0, (.slice none 0 0)] 50 (0, 0))) ∧ Aa (w'.heap[gb152]? = some (.cells #[.int .i64 a0_0, .int .i64 a0_1, u153002] 50 (0, 0))) ∧ Aa (Below w.heap.size w w'))
 case atStart => exact ⟨(0), (([] : List Bool)), (.slice none 0 0), (by first | rfl | (simp; done) | (simp [*]; done)), H', ⟨Nat.le_refl _⟩, ⟨by first | exact Kd.Cu _ _ _ _ _ | exact Kd.N_nil _ _ _ _ _ | exact Kd.V_nil _ _ _ _ _ | exact Kd.Q_nil _ _ _ _ _ | exact Kd.S_nil _ _ _ _ _⟩, ⟨by (with_reducible repeat (first | refine As ?_ _ | refine At ?_ | refine Aj ?_ _)); refine Bf ?_ NB150_152.out _; (with_reducible repeat (first | refine As ?_ _ | refine At ?_ | refine Aj ?_ _)); refine Bf ?_ NB150_152.out _; (with_reducible repeat (first | refine As ?_ _ | refine At ?_ | refine Aj ?_ _)); refine Bf ?_ NB150_152.out _; exact bU <| BK150.out⟩, ⟨by (with_reducible repeat (first | refine As ?_ _ | refine At ?_ | refine Aj ?_ _)); refine Bf ?_ NB151_152.out _; (with_reducible repeat (first | refine As ?_ _ | refine At ?_ | refine Aj ?_ _)); refine Bf ?_ NB151_152.out _; (with_reducible repeat (first | refine As ?_ _ | refine At ?_ | refine Aj ?_ _)); refine Bf ?_ NB151_152.out _; exact bU <| BK151.out⟩, ⟨by (with_reducible repeat (first | refine As ?_ _ | refine At ?_ | refine Aj ?_ _)); refine Bd (cs := #[.int .i64 a0_0, .int .i64 a0_1, .slice none 0 0]) ?_ 2 _ rfl; (with_reducible repeat (first | refine As ?_ _ | refine At ?_ | refine Aj ?_ _)); refine Bd (cs := #[.int .i64 a0_0, .int .i64 0, .slice none 0 0]) ?_ 1 _ rfl; (with_reducible repeat (first | refine As ?_ _ | refine At ?_ | refine Aj ?_ _)); refine Bd (cs := #[.int .i64 0, .int .i64 0, .slice none 0 0]) ?_ 0 _ rfl; exact bU <| BK152.out⟩, ⟨by repeat (first | (with_reducible first | exact HB.out | apply Ad | apply Ac | apply Ah | refine Af ?_ GE150.out | refine Af ?_ GE151.out | refine Af ?_ GE152.out) | exact HB.out)⟩⟩
 case round =>
  clear H'
  try clear p2
  try clear c4
  try clear c7
  try clear c8
  try clear hcz10_0
  try clear hcz10_1
  try clear hcz10_2
  try clear hcz5_0
  try clear hcz5_1
  try clear hcz5_2
  try clear hcz9_0
  try clear hcz9_1
  try clear hcz9_2
  try clear hfz10_0
  try clear hfz10_1
  try clear hfz10_2
  try clear hfz5_0
  try clear hfz5_1
  try clear hfz5_2
  try clear hfz9_0
  try clear hfz9_1
  try clear hfz9_2
  obtain ⟨x14_1, x153002_1, u153002, rfl, HA, HK1, HO_153002, BK150, BK151, BK152, HB⟩ := hrel
  cases gk with
  | zero => exact absurd HA.out (by simp [B2.l0])
  | succ k1 =>
   have H := HA.out
   clear HA
   simp only [B2.l0] at H
   by_cases c11 : x14_1 < (l0_2.length : Int)
   ·rw [if_pos c11] at H
    have c11b0 : decide (x14_1 < (l0_2.length : Int)) = true := decide_eq_true c11
    clear c11
    by_cases c12 : 0 ≤ x14_1
    ·rw [if_pos c12] at H
     have c12b0 : decide (0 ≤ x14_1) = true := decide_eq_true c12
     clear c12
     by_cases c13 : x14_1 < (l0_2.length : Int)
     ·rw [if_pos c13] at H
      have c13b0 : decide (x14_1 < (l0_2.length : Int)) = true := decide_eq_true c13
      clear c13
      by_cases c14 : x153002_1.length < 140737488355328
      ·rw [if_pos c14] at H
       have LMc14 := Aa.mk c14
       clear c14
       obtain ⟨y154, hy154⟩ : ∃ y_ : List Bool, y_ = (x153002_1 ++ [!(rdOf false l0_2 x14_1)]) := ⟨_, rfl⟩
       replace H : (B2.l0 k1 l0_2 (l0_2.length : Int) (wrap64 (x14_1 + 1)) a0_0 a0_1 y154) = some (r1, r2, r3) := by first | (rw [hy154]; with_reducible exact H) | (have H2_ := (Option.bind_some _ _).symm.trans H; rw [hy154]; with_reducible exact H2_) | (have H2_ := (Option.bind_some _ _).symm.trans H; with_reducible exact H2_) | with_reducible exact H | (rw [hy154]; exact H) | exact H
       have Ny154 := Aa.mk hy154
       clear hy154
       have H' := Aa.mk H
       clear H
       have p153 : 0 ≤ (x14_1 : Int) := of_decide_eq_true (by first | (with_reducible assumption) | assumption)
       have q153 : x14_1 < (l0_2.length : Int) := of_decide_eq_true (by first | (with_reducible assumption) | assumption)
       obtain ⟨ad153, e153, hx153_0⟩ := Kd.at_bool HR0_2.out x14_1 p153 q153
       cases e153
       replace hx153_0 := (HB.out.cell (World.block_lt_of_cell? w _ hx153_0)).trans hx153_0
       replace p153 := eq_true p153
       replace q153 := eq_true q153
       have hnb15 := NB152_150.out
       have hnc15 := NB150_152.out
       have hnb16 := NB152_151.out
       have hnc16 := NB151_152.out
       have hcz17_0 : wr.cell? ⟨gb152, 0, none⟩ = some (.int .i64 a0_0) := (Ae BK152.out 0).trans rfl
       have hcz17_1 : wr.cell? ⟨gb152, 1, none⟩ = some (.int .i64 a0_1) := (Ae BK152.out 1).trans rfl
       have hcz17_2 : wr.cell? ⟨gb152, 2, none⟩ = some (u153002) := (Ae BK152.out 2).trans rfl
       have hfz17_0 := Ag BK152.out 0
       have hfz17_1 := Ag BK152.out 1
       have hfz17_2 := Ag BK152.out 2
       go_wp2_with (((with_reducible refine Cf (b := .append) (xs := #[.tmp 19, .tmp 22]) rfl ?_); at_builtin; refine Kd.Cv Kd.bool (w0 := w) w.heap.size rfl (.tmp 19) (.tmp 22) 48 4 (.bool false) 1 rfl Try.underlying48 info4 rfl (by decide) (by omega) u153002 x153002_1 (!(rdOf false l0_2 x14_1)) [.bool (!(rdOf false l0_2 x14_1))] (fun _ => True) (fun _ => False) rfl rfl ?aP (fun _ hk => hk.elim) ?aF ?aO ?aB ?aS ?aL ?_; (case aP => exact rfl); (case aB => exact (by repeat (first | (with_reducible first | exact HB.out | apply Ad | apply Ac | apply Ah | refine Af ?_ GE150.out | refine Af ?_ GE151.out | refine Af ?_ GE152.out) | exact HB.out))); (case aF => exact (fun _ _ => trivial)); (case aO => exact (by exact rU <| HO_153002.out)); (case aS => exact (Ak (by repeat (first | (with_reducible first | exact HB.out | apply Ad | apply Ac | apply Ah | refine Af ?_ GE150.out | refine Af ?_ GE151.out | refine Af ?_ GE152.out) | exact HB.out)))); (case aL => have := LMc14.out; omega); intro v155 w18 ho hb hg hat; rw [← Ny154.out] at ho; have n0_ := Aa.mk (Bs (g := gb150) (o := .cells #[.int .i64 a0_0, .int .i64 a0_1, .slice (some ad153) l0_2.length c0_2] 50 (0, 0)) (by exact bU <| BK150.out) hg (Kd.Db HO_153002.out BK150.out (by decide))); have n1_ := Aa.mk (Bs (g := gb151) (o := .cells #[.int .i64 0, .int .i64 0, .slice none 0 0] 50 (0, 0)) (by exact bU <| BK151.out) hg (Kd.Db HO_153002.out BK151.out (by decide))); have n2_ := Aa.mk (Bs (g := gb152) (o := .cells #[.int .i64 a0_0, .int .i64 a0_1, u153002] 50 (0, 0)) (by exact bU <| BK152.out) hg (Kd.Db HO_153002.out BK152.out (by decide))); have n3_ := Aa.mk (hb); have n4_ := Aa.mk (ho); clear BK150; clear BK151; clear BK152; clear HB; clear HO_153002; have BK150 := n0_; have BK151 := n1_; have BK152 := n2_; have HB := n3_; have HO156 := n4_; clear n0_ n1_ n2_ n3_ n4_; clear ho hb hg hat; obtain ⟨Ao19, co19, eo19⟩ := Kd.Bz HO156.out; subst eo19; have hcz20_0 : w18.cell? ⟨gb152, 0, none⟩ = some (.int .i64 a0_0) := (Ae BK152.out 0).trans rfl; have hcz20_1 : w18.cell? ⟨gb152, 1, none⟩ = some (.int .i64 a0_1) := (Ae BK152.out 1).trans rfl; have hcz20_2 : w18.cell? ⟨gb152, 2, none⟩ = some (u153002) := (Ae BK152.out 2).trans rfl; have hfz20_0 := Ag BK152.out 0; have hfz20_1 := Ag BK152.out 1; have hfz20_2 := Ag BK152.out 2))
       go_roundg k1
       case measure => have := HK1.out; omega
       case rel => exact ⟨(wrap64 (x14_1 + 1)), (y154), (.slice Ao19 y154.length co19), (by first | rfl | (simp; done) | (simp [*]; done)), H', ⟨by have := HK1.out; omega⟩, ⟨by exact rU <| Kd.Bj (Kd.Be (p := ⟨gb152, 2, none⟩) (Kd.B4 HO156.out BK152.out (by decide)) (fun _ hk => hk.2) (.slice Ao19 y154.length co19)) (fun _ hk => trivial)⟩, ⟨by (with_reducible repeat (first | refine As ?_ _ | refine At ?_ | refine Aj ?_ _)); refine Bf ?_ NB150_152.out _; exact bU <| BK150.out⟩, ⟨by (with_reducible repeat (first | refine As ?_ _ | refine At ?_ | refine Aj ?_ _)); refine Bf ?_ NB151_152.out _; exact bU <| BK151.out⟩, ⟨by (with_reducible repeat (first | refine As ?_ _ | refine At ?_ | refine Aj ?_ _)); refine Bd (cs := #[.int .i64 a0_0, .int .i64 a0_1, u153002]) ?_ 2 _ rfl; exact bU <| BK152.out⟩, ⟨by repeat (first | (with_reducible first | exact HB.out | apply Ad | apply Ac | apply Ah | refine Af ?_ GE150.out | refine Af ?_ GE151.out | refine Af ?_ GE152.out) | exact HB.out)⟩⟩
      ·rw [if_neg c14] at H
       exact absurd H (by simp)
     ·rw [if_neg c13] at H
      exact absurd H (by simp)
    ·rw [if_neg c12] at H
     exact absurd H (by simp)
   ·rw [if_neg c11] at H
    have c11b0 : decide (x14_1 < (l0_2.length : Int)) = false := decide_eq_false c11
    clear c11
    simp only [Option.some.injEq, Prod.mk.injEq] at H
    obtain ⟨rfl, rfl, rfl⟩ := H
    have hnb21 := NB152_150.out
    have hnc21 := NB150_152.out
    have hnb22 := NB152_151.out
    have hnc22 := NB151_152.out
    have hcz23_0 : wr.cell? ⟨gb152, 0, none⟩ = some (.int .i64 a0_0) := (Ae BK152.out 0).trans rfl
    have hcz23_1 : wr.cell? ⟨gb152, 1, none⟩ = some (.int .i64 a0_1) := (Ae BK152.out 1).trans rfl
    have hcz23_2 : wr.cell? ⟨gb152, 2, none⟩ = some (u153002) := (Ae BK152.out 2).trans rfl
    have hfz23_0 := Ag BK152.out 0
    have hfz23_1 := Ag BK152.out 1
    have hfz23_2 := Ag BK152.out 2
    have hnb24 := NB151_150.out
    have hnc24 := NB150_151.out
    have hcz25_0 : wr.cell? ⟨gb151, 0, none⟩ = some (.int .i64 0) := (Ae BK151.out 0).trans rfl
    have hcz25_1 : wr.cell? ⟨gb151, 1, none⟩ = some (.int .i64 0) := (Ae BK151.out 1).trans rfl
    have hcz25_2 : wr.cell? ⟨gb151, 2, none⟩ = some (.slice none 0 0) := (Ae BK151.out 2).trans rfl
    have hfz25_0 := Ag BK151.out 0
    have hfz25_1 := Ag BK151.out 1
    have hfz25_2 := Ag BK151.out 2
    obtain ⟨Ao26, co26, eo26⟩ := Kd.Bz HO_153002.out
    subst eo26
    go_wp2
    refine bodyPost_ret (results_cell_row rfl _ _ gb151 50 #[.int .i64 a0_0, .int .i64 a0_1, .slice Ao26 x153002_1.length co26] (0, 0) _ rfl (by (with_reducible repeat (first | refine As ?_ _ | refine At ?_ | refine Aj ?_ _)); refine Bd (cs := #[.int .i64 a0_0, .int .i64 a0_1, .slice none 0 0]) ?_ 2 _ rfl; (with_reducible repeat (first | refine As ?_ _ | refine At ?_ | refine Aj ?_ _)); refine Bd (cs := #[.int .i64 a0_0, .int .i64 0, .slice none 0 0]) ?_ 1 _ rfl; (with_reducible repeat (first | refine As ?_ _ | refine At ?_ | refine Aj ?_ _)); refine Bd (cs := #[.int .i64 0, .int .i64 0, .slice none 0 0]) ?_ 0 _ rfl; exact bU <| BK151.out) Try.underlying50 rfl (by kernel_rfl)) rfl ?_
    exact ⟨_, by first | rfl | (simp [Az, Ba] <;> rfl) | (simp [*, Az, Ba] <;> rfl), by exact rU <| Kd.Bj (Kd.Be (p := ⟨gb151, 2, none⟩) (Kd.Be (p := ⟨gb151, 1, none⟩) (Kd.Be (p := ⟨gb151, 0, none⟩) (Kd.B4 HO_153002.out BK151.out (by decide)) (fun _ hk => hk.2) (.int .i64 a0_0)) (fun _ hk => hk.2) (.int .i64 a0_1)) (fun _ hk => hk.2) (.slice Ao26 x153002_1.length co26)) (fun _ hk => trivial), by repeat (first | (with_reducible first | exact HB.out | apply Ad | apply Ac | apply Ah | refine Af ?_ GE150.out | refine Af ?_ GE151.out | refine Af ?_ GE152.out) | exact HB.out)⟩

def B9.l0 : Nat → List (S101) → List (S101) → Int → Int → Option (Bool)
 | 0, _, _, _, _ => none
 | k + 1, x0, x12, x13, x14 => if x14 < x13 then (if 0 ≤ x14 then (if x14 < (x12.length : Int) then (if x14 < (x0.length : Int) then (if ((rd_T101 x0 x14).f0) = ((rd_T101 x12 x14).f0) then (if ((rd_T101 x0 x14).f2) = ((rd_T101 x12 x14).f2) then (B9.l0 k x0 x12 x13 (wrap64 (x14 + 1))) else (some false)) else (some false)) else (none)) else (none)) else (none)) else (some true)
def B9.f (k : Nat) (l0 : List (S101)) (l1 : List (S101)) : Option (Bool) := if (l0.length : Int) = (l1.length : Int) then (B9.l0 k l0 l1 (l1.length : Int) 0) else (some false)
theorem B9.mono_l : ∀ k, (∀ y0 y1 y2 y3, LeO (B9.l0 k y0 y1 y2 y3) (B9.l0 (k + 1) y0 y1 y2 y3))
 | 0 => fun _ _ _ _ r h => by simp [B9.l0] at h
 | k + 1 => by
  have ih0 := B9.mono_l k
  ·intro y0 y1 y2 y3
   unfold B9.l0
   repeat' first
   | (with_reducible exact ih0 _ _ _ _)
   | (with_reducible exact LeO.refl _)
   | (with_reducible exact LeO.none _)
   | (with_reducible refine LeO.ite ?_ ?_)
   | (with_reducible refine LeO.bind ?_ (fun _ => ?_))
   | exact ih0 _ _ _ _
   | exact LeO.none _
   | refine LeO.ite ?_ ?_
   | refine LeO.bind ?_ (fun _ => ?_)
theorem B9.mono : ∀ a0 a1 k, LeO (B9.f k a0 a1) (B9.f (k + 1) a0 a1) := by
 intro a0 a1 k
 have ih0 := B9.mono_l k
 unfold B9.f
 repeat' first
   | (with_reducible exact ih0 _ _ _ _)
   | (with_reducible exact LeO.refl _)
   | (with_reducible exact LeO.none _)
   | (with_reducible refine LeO.ite ?_ ?_)
   | (with_reducible refine LeO.bind ?_ (fun _ => ?_))
   | exact ih0 _ _ _ _
   | exact LeO.none _
   | refine LeO.ite ?_ ?_
   | refine LeO.bind ?_ (fun _ => ?_)
set_option maxHeartbeats 8000000 in
set_option maxRecDepth 100000 in
theorem B9.calls (k : Nat) (A0 : Option Addr) (c0 : Nat) (l0 : List (S101)) (A1 : Option Addr) (c1 : Nat) (l1 : List (S101)) (r : Bool) (w : World) (hr0 : Kd.C k101 w A0 l0.length l0) (hc0 : l0.length ≤ c0) (hr1 : Kd.C k101 w A1 l1.length l1) (hc1 : l1.length ≤ c1) (h : B9.f k l0 l1 = some r) :
  Calls Try.prog 97 #[.slice A0 l0.length c0, .slice A1 l1.length c1] w fun e w' => e = .returned (.bool r) ∧ Below w.heap.size w w' := by
 have hu101 := Try.underlying101
 have HR0 := Aa.mk hr0
 have HC0 := Aa.mk hc0
 clear hr0 hc0
 have HR1 := Aa.mk hr1
 have HC1 := Aa.mk hc1
 clear hr1 hc1
 have HB := Aa.mk (Below.refl w.heap.size w)
 have H : (if (l0.length : Int) = (l1.length : Int) then (B9.l0 k l0 l1 (l1.length : Int) 0) else (some false)) = some r := h
 clear h
 by_cases c3 : (l0.length : Int) = (l1.length : Int)
 ·rw [if_pos c3] at H
  have c3b0 : ((l0.length : Int) == (l1.length : Int)) = true := beq_iff_eq.mpr c3
  have c3b1 : ((l0.length : Int) != (l1.length : Int)) = false := bne_eq_false_iff_eq.mpr c3
  have c3b2 : (l0.length == l1.length) = true := by first | simpa using c3 | (simp at c3 ⊢; omega)
  clear c3
  have H' := Aa.mk H
  clear H
  go_enter Try.func97, Try.ntmps97
  go_wp2
  repeat (go_quiet (fail); try go_wp2)
  go_loopg [14] k (fun kq v14 w' => ∃ (x14_1 : Int), v14 = .int .i64 x14_1 ∧ Aa (B9.l0 kq l0 l1 (l1.length : Int) x14_1 = some r) ∧ Aa (kq ≤ k) ∧ Aa (Below w.heap.size w w'))
  case atStart => exact ⟨(0), (by first | rfl | (simp; done) | (simp [*]; done)), H', ⟨Nat.le_refl _⟩, ⟨by repeat (first | (with_reducible first | exact HB.out | apply Ad | apply Ac | apply Ah) | exact HB.out)⟩⟩
  case round =>
   clear H'
   try clear c1
   try clear p2
   try clear c3
   try clear c3b0
   try clear c3b1
   try clear c3b2
   obtain ⟨x14_1, rfl, HA, HK1, HB⟩ := hrel
   cases gk with
   | zero => exact absurd HA.out (by simp [B9.l0])
   | succ k1 =>
    have H := HA.out
    clear HA
    simp only [B9.l0] at H
    by_cases c4 : x14_1 < (l1.length : Int)
    ·rw [if_pos c4] at H
     have c4b0 : decide (x14_1 < (l1.length : Int)) = true := decide_eq_true c4
     clear c4
     by_cases c5 : 0 ≤ x14_1
     ·rw [if_pos c5] at H
      have c5b0 : decide (0 ≤ x14_1) = true := decide_eq_true c5
      clear c5
      by_cases c6 : x14_1 < (l1.length : Int)
      ·rw [if_pos c6] at H
       have c6b0 : decide (x14_1 < (l1.length : Int)) = true := decide_eq_true c6
       clear c6
       by_cases c7 : x14_1 < (l0.length : Int)
       ·rw [if_pos c7] at H
        have c7b0 : decide (x14_1 < (l0.length : Int)) = true := decide_eq_true c7
        clear c7
        by_cases c8 : ((rd_T101 l0 x14_1).f0) = ((rd_T101 l1 x14_1).f0)
        ·rw [if_pos c8] at H
         have c8b0 : (((rd_T101 l0 x14_1).f0) == ((rd_T101 l1 x14_1).f0)) = true := beq_iff_eq.mpr c8
         have c8b1 : (((rd_T101 l0 x14_1).f0) != ((rd_T101 l1 x14_1).f0)) = false := bne_eq_false_iff_eq.mpr c8
         clear c8
         by_cases c9 : ((rd_T101 l0 x14_1).f2) = ((rd_T101 l1 x14_1).f2)
         ·rw [if_pos c9] at H
          have c9b0 : (((rd_T101 l0 x14_1).f2) == ((rd_T101 l1 x14_1).f2)) = true := beq_iff_eq.mpr c9
          have c9b1 : (((rd_T101 l0 x14_1).f2) != ((rd_T101 l1 x14_1).f2)) = false := bne_eq_false_iff_eq.mpr c9
          clear c9
          have H' := Aa.mk H
          clear H
          have p157 : 0 ≤ (x14_1 : Int) := of_decide_eq_true (by first | (with_reducible assumption) | assumption)
          have q157 : x14_1 < (l1.length : Int) := of_decide_eq_true (by first | (with_reducible assumption) | assumption)
          obtain ⟨ad157, e157, hx157_0, hx157_1, hx157_2, hx157_3⟩ := at_T101 HR1.out x14_1 p157 q157
          cases e157
          replace hx157_0 := (HB.out.cell (World.block_lt_of_cell? w _ hx157_0)).trans hx157_0
          replace hx157_1 := (HB.out.cell (World.block_lt_of_cell? w _ hx157_1)).trans hx157_1
          replace hx157_2 := (HB.out.cell (World.block_lt_of_cell? w _ hx157_2)).trans hx157_2
          replace hx157_3 := (HB.out.cell (World.block_lt_of_cell? w _ hx157_3)).trans hx157_3
          replace p157 := eq_true p157
          replace q157 := eq_true q157
          go_wp2_with (((with_reducible refine Bk (N := 6) rfl ?_); refine Bp ?hg (N := 6) ?hd (cs := #[.int .i64 0, .int .i64 0, .int .i64 0, .int .i64 0]) (t := 101) ?hr ?_; (case hd => rfl); (case hg => rfl); (case hr => first | (go_simp; done) | (go_simp; rfl)); intro gb158 hg w10 hbox hb; have n0_ := Aa.mk (Ar (lU HB.out) hb); have n1_ := Aa.mk (hbox); have n2_ := Aa.mk ((by rw [hg]; exact (Ak (lU HB.out)) : w.heap.size ≤ gb158)); have n3_ := Aa.mk ((by rw [hg]; exact (Ak (lU HB.out)) : w.heap.size ≤ gb158)); clear HB; have HB := n0_; have BK158 := n1_; have GW158 := n2_; have GE158 := n3_; clear n0_ n1_ n2_ n3_; clear hb hbox hg; have hcz11_0 : w10.cell? ⟨gb158, 0, none⟩ = some (.int .i64 0) := (Ae BK158.out 0).trans rfl; have hcz11_1 : w10.cell? ⟨gb158, 1, none⟩ = some (.int .i64 0) := (Ae BK158.out 1).trans rfl; have hcz11_2 : w10.cell? ⟨gb158, 2, none⟩ = some (.int .i64 0) := (Ae BK158.out 2).trans rfl; have hcz11_3 : w10.cell? ⟨gb158, 3, none⟩ = some (.int .i64 0) := (Ae BK158.out 3).trans rfl; have hfz11_0 := Ag BK158.out 0; have hfz11_1 := Ag BK158.out 1; have hfz11_2 := Ag BK158.out 2; have hfz11_3 := Ag BK158.out 3; have p159 : 0 ≤ (x14_1 : Int) := of_decide_eq_true (by first | (with_reducible assumption) | assumption); have q159 : x14_1 < (l0.length : Int) := of_decide_eq_true (by first | (with_reducible assumption) | assumption); obtain ⟨ad159, e159, hx159_0, hx159_1, hx159_2, hx159_3⟩ := at_T101 HR0.out x14_1 p159 q159; cases e159; have hn159_0 : ad159.block ≠ gb158 := Nat.ne_of_lt (Nat.lt_of_lt_of_le (by have := World.block_lt_of_cell? _ _ hx159_0; first | rwa [add_block] at this | exact this) GW158.out); have hn159_1 : ad159.block ≠ gb158 := Nat.ne_of_lt (Nat.lt_of_lt_of_le (by have := World.block_lt_of_cell? _ _ hx159_0; first | rwa [add_block] at this | exact this) GW158.out); have hn159_2 : ad159.block ≠ gb158 := Nat.ne_of_lt (Nat.lt_of_lt_of_le (by have := World.block_lt_of_cell? _ _ hx159_0; first | rwa [add_block] at this | exact this) GW158.out); have hn159_3 : ad159.block ≠ gb158 := Nat.ne_of_lt (Nat.lt_of_lt_of_le (by have := World.block_lt_of_cell? _ _ hx159_0; first | rwa [add_block] at this | exact this) GW158.out); replace hx159_0 := (HB.out.cell (World.block_lt_of_cell? w _ hx159_0)).trans hx159_0; replace hx159_1 := (HB.out.cell (World.block_lt_of_cell? w _ hx159_1)).trans hx159_1; replace hx159_2 := (HB.out.cell (World.block_lt_of_cell? w _ hx159_2)).trans hx159_2; replace hx159_3 := (HB.out.cell (World.block_lt_of_cell? w _ hx159_3)).trans hx159_3; replace hx159_0 := (cell_far (p := ⟨gb158, 0, none⟩) (by first | (rw [add_block]; exact hn159_0) | (show (Addr.add _ _).block ≠ _; rw [add_block]; exact hn159_0) | exact hn159_0) (.int .i64 ((rd_T101 l1 x14_1).f0))).trans hx159_0; replace hx159_1 := (cell_far (p := ⟨gb158, 0, none⟩) (by first | (rw [add_block]; exact hn159_0) | (show (Addr.add _ _).block ≠ _; rw [add_block]; exact hn159_0) | exact hn159_0) (.int .i64 ((rd_T101 l1 x14_1).f0))).trans hx159_1; replace hx159_2 := (cell_far (p := ⟨gb158, 0, none⟩) (by first | (rw [add_block]; exact hn159_0) | (show (Addr.add _ _).block ≠ _; rw [add_block]; exact hn159_0) | exact hn159_0) (.int .i64 ((rd_T101 l1 x14_1).f0))).trans hx159_2; replace hx159_3 := (cell_far (p := ⟨gb158, 0, none⟩) (by first | (rw [add_block]; exact hn159_0) | (show (Addr.add _ _).block ≠ _; rw [add_block]; exact hn159_0) | exact hn159_0) (.int .i64 ((rd_T101 l1 x14_1).f0))).trans hx159_3; replace hx159_0 := (cell_far (p := ⟨gb158, 1, none⟩) (by first | (rw [add_block]; exact hn159_1) | (show (Addr.add _ _).block ≠ _; rw [add_block]; exact hn159_1) | exact hn159_1) (.int .i64 ((rd_T101 l1 x14_1).f1))).trans hx159_0; replace hx159_1 := (cell_far (p := ⟨gb158, 1, none⟩) (by first | (rw [add_block]; exact hn159_1) | (show (Addr.add _ _).block ≠ _; rw [add_block]; exact hn159_1) | exact hn159_1) (.int .i64 ((rd_T101 l1 x14_1).f1))).trans hx159_1; replace hx159_2 := (cell_far (p := ⟨gb158, 1, none⟩) (by first | (rw [add_block]; exact hn159_1) | (show (Addr.add _ _).block ≠ _; rw [add_block]; exact hn159_1) | exact hn159_1) (.int .i64 ((rd_T101 l1 x14_1).f1))).trans hx159_2; replace hx159_3 := (cell_far (p := ⟨gb158, 1, none⟩) (by first | (rw [add_block]; exact hn159_1) | (show (Addr.add _ _).block ≠ _; rw [add_block]; exact hn159_1) | exact hn159_1) (.int .i64 ((rd_T101 l1 x14_1).f1))).trans hx159_3; replace hx159_0 := (cell_far (p := ⟨gb158, 2, none⟩) (by first | (rw [add_block]; exact hn159_2) | (show (Addr.add _ _).block ≠ _; rw [add_block]; exact hn159_2) | exact hn159_2) (.int .i64 ((rd_T101 l1 x14_1).f2))).trans hx159_0; replace hx159_1 := (cell_far (p := ⟨gb158, 2, none⟩) (by first | (rw [add_block]; exact hn159_2) | (show (Addr.add _ _).block ≠ _; rw [add_block]; exact hn159_2) | exact hn159_2) (.int .i64 ((rd_T101 l1 x14_1).f2))).trans hx159_1; replace hx159_2 := (cell_far (p := ⟨gb158, 2, none⟩) (by first | (rw [add_block]; exact hn159_2) | (show (Addr.add _ _).block ≠ _; rw [add_block]; exact hn159_2) | exact hn159_2) (.int .i64 ((rd_T101 l1 x14_1).f2))).trans hx159_2; replace hx159_3 := (cell_far (p := ⟨gb158, 2, none⟩) (by first | (rw [add_block]; exact hn159_2) | (show (Addr.add _ _).block ≠ _; rw [add_block]; exact hn159_2) | exact hn159_2) (.int .i64 ((rd_T101 l1 x14_1).f2))).trans hx159_3; replace hx159_0 := (cell_far (p := ⟨gb158, 3, none⟩) (by first | (rw [add_block]; exact hn159_3) | (show (Addr.add _ _).block ≠ _; rw [add_block]; exact hn159_3) | exact hn159_3) (.int .i64 ((rd_T101 l1 x14_1).f3))).trans hx159_0; replace hx159_1 := (cell_far (p := ⟨gb158, 3, none⟩) (by first | (rw [add_block]; exact hn159_3) | (show (Addr.add _ _).block ≠ _; rw [add_block]; exact hn159_3) | exact hn159_3) (.int .i64 ((rd_T101 l1 x14_1).f3))).trans hx159_1; replace hx159_2 := (cell_far (p := ⟨gb158, 3, none⟩) (by first | (rw [add_block]; exact hn159_3) | (show (Addr.add _ _).block ≠ _; rw [add_block]; exact hn159_3) | exact hn159_3) (.int .i64 ((rd_T101 l1 x14_1).f3))).trans hx159_2; replace hx159_3 := (cell_far (p := ⟨gb158, 3, none⟩) (by first | (rw [add_block]; exact hn159_3) | (show (Addr.add _ _).block ≠ _; rw [add_block]; exact hn159_3) | exact hn159_3) (.int .i64 ((rd_T101 l1 x14_1).f3))).trans hx159_3; (try have hy159_0 := fun (n_ : Nat) => (show ((((((w10.drewN n_).setCell ⟨gb158, 0, none⟩ (.int .i64 ((rd_T101 l1 x14_1).f0))).setCell ⟨gb158, 1, none⟩ (.int .i64 ((rd_T101 l1 x14_1).f1))).setCell ⟨gb158, 2, none⟩ (.int .i64 ((rd_T101 l1 x14_1).f2))).setCell ⟨gb158, 3, none⟩ (.int .i64 ((rd_T101 l1 x14_1).f3)))).cell? _ = some _ from hx159_0)); (try have hy159_1 := fun (n_ : Nat) => (show ((((((w10.drewN n_).setCell ⟨gb158, 0, none⟩ (.int .i64 ((rd_T101 l1 x14_1).f0))).setCell ⟨gb158, 1, none⟩ (.int .i64 ((rd_T101 l1 x14_1).f1))).setCell ⟨gb158, 2, none⟩ (.int .i64 ((rd_T101 l1 x14_1).f2))).setCell ⟨gb158, 3, none⟩ (.int .i64 ((rd_T101 l1 x14_1).f3)))).cell? _ = some _ from hx159_1)); (try have hy159_2 := fun (n_ : Nat) => (show ((((((w10.drewN n_).setCell ⟨gb158, 0, none⟩ (.int .i64 ((rd_T101 l1 x14_1).f0))).setCell ⟨gb158, 1, none⟩ (.int .i64 ((rd_T101 l1 x14_1).f1))).setCell ⟨gb158, 2, none⟩ (.int .i64 ((rd_T101 l1 x14_1).f2))).setCell ⟨gb158, 3, none⟩ (.int .i64 ((rd_T101 l1 x14_1).f3)))).cell? _ = some _ from hx159_2)); (try have hy159_3 := fun (n_ : Nat) => (show ((((((w10.drewN n_).setCell ⟨gb158, 0, none⟩ (.int .i64 ((rd_T101 l1 x14_1).f0))).setCell ⟨gb158, 1, none⟩ (.int .i64 ((rd_T101 l1 x14_1).f1))).setCell ⟨gb158, 2, none⟩ (.int .i64 ((rd_T101 l1 x14_1).f2))).setCell ⟨gb158, 3, none⟩ (.int .i64 ((rd_T101 l1 x14_1).f3)))).cell? _ = some _ from hx159_3)); clear hn159_0; clear hn159_1; clear hn159_2; clear hn159_3; replace p159 := eq_true p159; replace q159 := eq_true q159; have p160 : 0 ≤ (x14_1 : Int) := of_decide_eq_true (by first | (with_reducible assumption) | assumption); have q160 : x14_1 < (l0.length : Int) := of_decide_eq_true (by first | (with_reducible assumption) | assumption); obtain ⟨ad160, e160, hx160_0, hx160_1, hx160_2, hx160_3⟩ := at_T101 HR0.out x14_1 p160 q160; obtain rfl : ad159 = ad160 := (by injection e160); have hn160_0 : ad159.block ≠ gb158 := Nat.ne_of_lt (Nat.lt_of_lt_of_le (by have := World.block_lt_of_cell? _ _ hx160_0; first | rwa [add_block] at this | exact this) GW158.out); have hn160_1 : ad159.block ≠ gb158 := Nat.ne_of_lt (Nat.lt_of_lt_of_le (by have := World.block_lt_of_cell? _ _ hx160_0; first | rwa [add_block] at this | exact this) GW158.out); have hn160_2 : ad159.block ≠ gb158 := Nat.ne_of_lt (Nat.lt_of_lt_of_le (by have := World.block_lt_of_cell? _ _ hx160_0; first | rwa [add_block] at this | exact this) GW158.out); have hn160_3 : ad159.block ≠ gb158 := Nat.ne_of_lt (Nat.lt_of_lt_of_le (by have := World.block_lt_of_cell? _ _ hx160_0; first | rwa [add_block] at this | exact this) GW158.out); replace hx160_0 := (HB.out.cell (World.block_lt_of_cell? w _ hx160_0)).trans hx160_0; replace hx160_1 := (HB.out.cell (World.block_lt_of_cell? w _ hx160_1)).trans hx160_1; replace hx160_2 := (HB.out.cell (World.block_lt_of_cell? w _ hx160_2)).trans hx160_2; replace hx160_3 := (HB.out.cell (World.block_lt_of_cell? w _ hx160_3)).trans hx160_3; replace hx160_0 := (cell_far (p := ⟨gb158, 0, none⟩) (by first | (rw [add_block]; exact hn160_0) | (show (Addr.add _ _).block ≠ _; rw [add_block]; exact hn160_0) | exact hn160_0) (.int .i64 ((rd_T101 l1 x14_1).f0))).trans hx160_0; replace hx160_1 := (cell_far (p := ⟨gb158, 0, none⟩) (by first | (rw [add_block]; exact hn160_0) | (show (Addr.add _ _).block ≠ _; rw [add_block]; exact hn160_0) | exact hn160_0) (.int .i64 ((rd_T101 l1 x14_1).f0))).trans hx160_1; replace hx160_2 := (cell_far (p := ⟨gb158, 0, none⟩) (by first | (rw [add_block]; exact hn160_0) | (show (Addr.add _ _).block ≠ _; rw [add_block]; exact hn160_0) | exact hn160_0) (.int .i64 ((rd_T101 l1 x14_1).f0))).trans hx160_2; replace hx160_3 := (cell_far (p := ⟨gb158, 0, none⟩) (by first | (rw [add_block]; exact hn160_0) | (show (Addr.add _ _).block ≠ _; rw [add_block]; exact hn160_0) | exact hn160_0) (.int .i64 ((rd_T101 l1 x14_1).f0))).trans hx160_3; replace hx160_0 := (cell_far (p := ⟨gb158, 1, none⟩) (by first | (rw [add_block]; exact hn160_1) | (show (Addr.add _ _).block ≠ _; rw [add_block]; exact hn160_1) | exact hn160_1) (.int .i64 ((rd_T101 l1 x14_1).f1))).trans hx160_0; replace hx160_1 := (cell_far (p := ⟨gb158, 1, none⟩) (by first | (rw [add_block]; exact hn160_1) | (show (Addr.add _ _).block ≠ _; rw [add_block]; exact hn160_1) | exact hn160_1) (.int .i64 ((rd_T101 l1 x14_1).f1))).trans hx160_1; replace hx160_2 := (cell_far (p := ⟨gb158, 1, none⟩) (by first | (rw [add_block]; exact hn160_1) | (show (Addr.add _ _).block ≠ _; rw [add_block]; exact hn160_1) | exact hn160_1) (.int .i64 ((rd_T101 l1 x14_1).f1))).trans hx160_2; replace hx160_3 := (cell_far (p := ⟨gb158, 1, none⟩) (by first | (rw [add_block]; exact hn160_1) | (show (Addr.add _ _).block ≠ _; rw [add_block]; exact hn160_1) | exact hn160_1) (.int .i64 ((rd_T101 l1 x14_1).f1))).trans hx160_3; replace hx160_0 := (cell_far (p := ⟨gb158, 2, none⟩) (by first | (rw [add_block]; exact hn160_2) | (show (Addr.add _ _).block ≠ _; rw [add_block]; exact hn160_2) | exact hn160_2) (.int .i64 ((rd_T101 l1 x14_1).f2))).trans hx160_0; replace hx160_1 := (cell_far (p := ⟨gb158, 2, none⟩) (by first | (rw [add_block]; exact hn160_2) | (show (Addr.add _ _).block ≠ _; rw [add_block]; exact hn160_2) | exact hn160_2) (.int .i64 ((rd_T101 l1 x14_1).f2))).trans hx160_1; replace hx160_2 := (cell_far (p := ⟨gb158, 2, none⟩) (by first | (rw [add_block]; exact hn160_2) | (show (Addr.add _ _).block ≠ _; rw [add_block]; exact hn160_2) | exact hn160_2) (.int .i64 ((rd_T101 l1 x14_1).f2))).trans hx160_2; replace hx160_3 := (cell_far (p := ⟨gb158, 2, none⟩) (by first | (rw [add_block]; exact hn160_2) | (show (Addr.add _ _).block ≠ _; rw [add_block]; exact hn160_2) | exact hn160_2) (.int .i64 ((rd_T101 l1 x14_1).f2))).trans hx160_3; replace hx160_0 := (cell_far (p := ⟨gb158, 3, none⟩) (by first | (rw [add_block]; exact hn160_3) | (show (Addr.add _ _).block ≠ _; rw [add_block]; exact hn160_3) | exact hn160_3) (.int .i64 ((rd_T101 l1 x14_1).f3))).trans hx160_0; replace hx160_1 := (cell_far (p := ⟨gb158, 3, none⟩) (by first | (rw [add_block]; exact hn160_3) | (show (Addr.add _ _).block ≠ _; rw [add_block]; exact hn160_3) | exact hn160_3) (.int .i64 ((rd_T101 l1 x14_1).f3))).trans hx160_1; replace hx160_2 := (cell_far (p := ⟨gb158, 3, none⟩) (by first | (rw [add_block]; exact hn160_3) | (show (Addr.add _ _).block ≠ _; rw [add_block]; exact hn160_3) | exact hn160_3) (.int .i64 ((rd_T101 l1 x14_1).f3))).trans hx160_2; replace hx160_3 := (cell_far (p := ⟨gb158, 3, none⟩) (by first | (rw [add_block]; exact hn160_3) | (show (Addr.add _ _).block ≠ _; rw [add_block]; exact hn160_3) | exact hn160_3) (.int .i64 ((rd_T101 l1 x14_1).f3))).trans hx160_3; (try have hy160_0 := fun (n_ : Nat) => (show ((((((w10.drewN n_).setCell ⟨gb158, 0, none⟩ (.int .i64 ((rd_T101 l1 x14_1).f0))).setCell ⟨gb158, 1, none⟩ (.int .i64 ((rd_T101 l1 x14_1).f1))).setCell ⟨gb158, 2, none⟩ (.int .i64 ((rd_T101 l1 x14_1).f2))).setCell ⟨gb158, 3, none⟩ (.int .i64 ((rd_T101 l1 x14_1).f3)))).cell? _ = some _ from hx160_0)); (try have hy160_1 := fun (n_ : Nat) => (show ((((((w10.drewN n_).setCell ⟨gb158, 0, none⟩ (.int .i64 ((rd_T101 l1 x14_1).f0))).setCell ⟨gb158, 1, none⟩ (.int .i64 ((rd_T101 l1 x14_1).f1))).setCell ⟨gb158, 2, none⟩ (.int .i64 ((rd_T101 l1 x14_1).f2))).setCell ⟨gb158, 3, none⟩ (.int .i64 ((rd_T101 l1 x14_1).f3)))).cell? _ = some _ from hx160_1)); (try have hy160_2 := fun (n_ : Nat) => (show ((((((w10.drewN n_).setCell ⟨gb158, 0, none⟩ (.int .i64 ((rd_T101 l1 x14_1).f0))).setCell ⟨gb158, 1, none⟩ (.int .i64 ((rd_T101 l1 x14_1).f1))).setCell ⟨gb158, 2, none⟩ (.int .i64 ((rd_T101 l1 x14_1).f2))).setCell ⟨gb158, 3, none⟩ (.int .i64 ((rd_T101 l1 x14_1).f3)))).cell? _ = some _ from hx160_2)); (try have hy160_3 := fun (n_ : Nat) => (show ((((((w10.drewN n_).setCell ⟨gb158, 0, none⟩ (.int .i64 ((rd_T101 l1 x14_1).f0))).setCell ⟨gb158, 1, none⟩ (.int .i64 ((rd_T101 l1 x14_1).f1))).setCell ⟨gb158, 2, none⟩ (.int .i64 ((rd_T101 l1 x14_1).f2))).setCell ⟨gb158, 3, none⟩ (.int .i64 ((rd_T101 l1 x14_1).f3)))).cell? _ = some _ from hx160_3)); clear hn160_0; clear hn160_1; clear hn160_2; clear hn160_3; replace p160 := eq_true p160; replace q160 := eq_true q160))
          repeat (go_quiet (fail); try go_wp2_with (fail))
          go_roundg k1
          case measure => have := HK1.out; omega
          case rel => exact ⟨(wrap64 (x14_1 + 1)), (by first | rfl | (simp; done) | (simp [*]; done)), H', ⟨by have := HK1.out; omega⟩, ⟨by repeat (first | (with_reducible first | exact HB.out | apply Ad | apply Ac | apply Ah | refine Af ?_ GE158.out) | exact HB.out)⟩⟩
         ·rw [if_neg c9] at H
          have c9b0 : (((rd_T101 l0 x14_1).f2) == ((rd_T101 l1 x14_1).f2)) = false := beq_eq_false_iff_ne.mpr c9
          have c9b1 : (((rd_T101 l0 x14_1).f2) != ((rd_T101 l1 x14_1).f2)) = true := bne_iff_ne.mpr c9
          obtain rfl := Option.some.inj H
          have p157 : 0 ≤ (x14_1 : Int) := of_decide_eq_true (by first | (with_reducible assumption) | assumption)
          have q157 : x14_1 < (l1.length : Int) := of_decide_eq_true (by first | (with_reducible assumption) | assumption)
          obtain ⟨ad157, e157, hx157_0, hx157_1, hx157_2, hx157_3⟩ := at_T101 HR1.out x14_1 p157 q157
          cases e157
          replace hx157_0 := (HB.out.cell (World.block_lt_of_cell? w _ hx157_0)).trans hx157_0
          replace hx157_1 := (HB.out.cell (World.block_lt_of_cell? w _ hx157_1)).trans hx157_1
          replace hx157_2 := (HB.out.cell (World.block_lt_of_cell? w _ hx157_2)).trans hx157_2
          replace hx157_3 := (HB.out.cell (World.block_lt_of_cell? w _ hx157_3)).trans hx157_3
          replace p157 := eq_true p157
          replace q157 := eq_true q157
          go_wp2_with (((with_reducible refine Bk (N := 6) rfl ?_); refine Bp ?hg (N := 6) ?hd (cs := #[.int .i64 0, .int .i64 0, .int .i64 0, .int .i64 0]) (t := 101) ?hr ?_; (case hd => rfl); (case hg => rfl); (case hr => first | (go_simp; done) | (go_simp; rfl)); intro gb158 hg w12 hbox hb; have n0_ := Aa.mk (Ar (lU HB.out) hb); have n1_ := Aa.mk (hbox); have n2_ := Aa.mk ((by rw [hg]; exact (Ak (lU HB.out)) : w.heap.size ≤ gb158)); have n3_ := Aa.mk ((by rw [hg]; exact (Ak (lU HB.out)) : w.heap.size ≤ gb158)); clear HB; have HB := n0_; have BK158 := n1_; have GW158 := n2_; have GE158 := n3_; clear n0_ n1_ n2_ n3_; clear hb hbox hg; have hcz13_0 : w12.cell? ⟨gb158, 0, none⟩ = some (.int .i64 0) := (Ae BK158.out 0).trans rfl; have hcz13_1 : w12.cell? ⟨gb158, 1, none⟩ = some (.int .i64 0) := (Ae BK158.out 1).trans rfl; have hcz13_2 : w12.cell? ⟨gb158, 2, none⟩ = some (.int .i64 0) := (Ae BK158.out 2).trans rfl; have hcz13_3 : w12.cell? ⟨gb158, 3, none⟩ = some (.int .i64 0) := (Ae BK158.out 3).trans rfl; have hfz13_0 := Ag BK158.out 0; have hfz13_1 := Ag BK158.out 1; have hfz13_2 := Ag BK158.out 2; have hfz13_3 := Ag BK158.out 3; have p159 : 0 ≤ (x14_1 : Int) := of_decide_eq_true (by first | (with_reducible assumption) | assumption); have q159 : x14_1 < (l0.length : Int) := of_decide_eq_true (by first | (with_reducible assumption) | assumption); obtain ⟨ad159, e159, hx159_0, hx159_1, hx159_2, hx159_3⟩ := at_T101 HR0.out x14_1 p159 q159; cases e159; have hn159_0 : ad159.block ≠ gb158 := Nat.ne_of_lt (Nat.lt_of_lt_of_le (by have := World.block_lt_of_cell? _ _ hx159_0; first | rwa [add_block] at this | exact this) GW158.out); have hn159_1 : ad159.block ≠ gb158 := Nat.ne_of_lt (Nat.lt_of_lt_of_le (by have := World.block_lt_of_cell? _ _ hx159_0; first | rwa [add_block] at this | exact this) GW158.out); have hn159_2 : ad159.block ≠ gb158 := Nat.ne_of_lt (Nat.lt_of_lt_of_le (by have := World.block_lt_of_cell? _ _ hx159_0; first | rwa [add_block] at this | exact this) GW158.out); have hn159_3 : ad159.block ≠ gb158 := Nat.ne_of_lt (Nat.lt_of_lt_of_le (by have := World.block_lt_of_cell? _ _ hx159_0; first | rwa [add_block] at this | exact this) GW158.out); replace hx159_0 := (HB.out.cell (World.block_lt_of_cell? w _ hx159_0)).trans hx159_0; replace hx159_1 := (HB.out.cell (World.block_lt_of_cell? w _ hx159_1)).trans hx159_1; replace hx159_2 := (HB.out.cell (World.block_lt_of_cell? w _ hx159_2)).trans hx159_2; replace hx159_3 := (HB.out.cell (World.block_lt_of_cell? w _ hx159_3)).trans hx159_3; replace hx159_0 := (cell_far (p := ⟨gb158, 0, none⟩) (by first | (rw [add_block]; exact hn159_0) | (show (Addr.add _ _).block ≠ _; rw [add_block]; exact hn159_0) | exact hn159_0) (.int .i64 ((rd_T101 l1 x14_1).f0))).trans hx159_0; replace hx159_1 := (cell_far (p := ⟨gb158, 0, none⟩) (by first | (rw [add_block]; exact hn159_0) | (show (Addr.add _ _).block ≠ _; rw [add_block]; exact hn159_0) | exact hn159_0) (.int .i64 ((rd_T101 l1 x14_1).f0))).trans hx159_1; replace hx159_2 := (cell_far (p := ⟨gb158, 0, none⟩) (by first | (rw [add_block]; exact hn159_0) | (show (Addr.add _ _).block ≠ _; rw [add_block]; exact hn159_0) | exact hn159_0) (.int .i64 ((rd_T101 l1 x14_1).f0))).trans hx159_2; replace hx159_3 := (cell_far (p := ⟨gb158, 0, none⟩) (by first | (rw [add_block]; exact hn159_0) | (show (Addr.add _ _).block ≠ _; rw [add_block]; exact hn159_0) | exact hn159_0) (.int .i64 ((rd_T101 l1 x14_1).f0))).trans hx159_3; replace hx159_0 := (cell_far (p := ⟨gb158, 1, none⟩) (by first | (rw [add_block]; exact hn159_1) | (show (Addr.add _ _).block ≠ _; rw [add_block]; exact hn159_1) | exact hn159_1) (.int .i64 ((rd_T101 l1 x14_1).f1))).trans hx159_0; replace hx159_1 := (cell_far (p := ⟨gb158, 1, none⟩) (by first | (rw [add_block]; exact hn159_1) | (show (Addr.add _ _).block ≠ _; rw [add_block]; exact hn159_1) | exact hn159_1) (.int .i64 ((rd_T101 l1 x14_1).f1))).trans hx159_1; replace hx159_2 := (cell_far (p := ⟨gb158, 1, none⟩) (by first | (rw [add_block]; exact hn159_1) | (show (Addr.add _ _).block ≠ _; rw [add_block]; exact hn159_1) | exact hn159_1) (.int .i64 ((rd_T101 l1 x14_1).f1))).trans hx159_2; replace hx159_3 := (cell_far (p := ⟨gb158, 1, none⟩) (by first | (rw [add_block]; exact hn159_1) | (show (Addr.add _ _).block ≠ _; rw [add_block]; exact hn159_1) | exact hn159_1) (.int .i64 ((rd_T101 l1 x14_1).f1))).trans hx159_3; replace hx159_0 := (cell_far (p := ⟨gb158, 2, none⟩) (by first | (rw [add_block]; exact hn159_2) | (show (Addr.add _ _).block ≠ _; rw [add_block]; exact hn159_2) | exact hn159_2) (.int .i64 ((rd_T101 l1 x14_1).f2))).trans hx159_0; replace hx159_1 := (cell_far (p := ⟨gb158, 2, none⟩) (by first | (rw [add_block]; exact hn159_2) | (show (Addr.add _ _).block ≠ _; rw [add_block]; exact hn159_2) | exact hn159_2) (.int .i64 ((rd_T101 l1 x14_1).f2))).trans hx159_1; replace hx159_2 := (cell_far (p := ⟨gb158, 2, none⟩) (by first | (rw [add_block]; exact hn159_2) | (show (Addr.add _ _).block ≠ _; rw [add_block]; exact hn159_2) | exact hn159_2) (.int .i64 ((rd_T101 l1 x14_1).f2))).trans hx159_2; replace hx159_3 := (cell_far (p := ⟨gb158, 2, none⟩) (by first | (rw [add_block]; exact hn159_2) | (show (Addr.add _ _).block ≠ _; rw [add_block]; exact hn159_2) | exact hn159_2) (.int .i64 ((rd_T101 l1 x14_1).f2))).trans hx159_3; replace hx159_0 := (cell_far (p := ⟨gb158, 3, none⟩) (by first | (rw [add_block]; exact hn159_3) | (show (Addr.add _ _).block ≠ _; rw [add_block]; exact hn159_3) | exact hn159_3) (.int .i64 ((rd_T101 l1 x14_1).f3))).trans hx159_0; replace hx159_1 := (cell_far (p := ⟨gb158, 3, none⟩) (by first | (rw [add_block]; exact hn159_3) | (show (Addr.add _ _).block ≠ _; rw [add_block]; exact hn159_3) | exact hn159_3) (.int .i64 ((rd_T101 l1 x14_1).f3))).trans hx159_1; replace hx159_2 := (cell_far (p := ⟨gb158, 3, none⟩) (by first | (rw [add_block]; exact hn159_3) | (show (Addr.add _ _).block ≠ _; rw [add_block]; exact hn159_3) | exact hn159_3) (.int .i64 ((rd_T101 l1 x14_1).f3))).trans hx159_2; replace hx159_3 := (cell_far (p := ⟨gb158, 3, none⟩) (by first | (rw [add_block]; exact hn159_3) | (show (Addr.add _ _).block ≠ _; rw [add_block]; exact hn159_3) | exact hn159_3) (.int .i64 ((rd_T101 l1 x14_1).f3))).trans hx159_3; (try have hy159_0 := fun (n_ : Nat) => (show ((((((w12.drewN n_).setCell ⟨gb158, 0, none⟩ (.int .i64 ((rd_T101 l1 x14_1).f0))).setCell ⟨gb158, 1, none⟩ (.int .i64 ((rd_T101 l1 x14_1).f1))).setCell ⟨gb158, 2, none⟩ (.int .i64 ((rd_T101 l1 x14_1).f2))).setCell ⟨gb158, 3, none⟩ (.int .i64 ((rd_T101 l1 x14_1).f3)))).cell? _ = some _ from hx159_0)); (try have hy159_1 := fun (n_ : Nat) => (show ((((((w12.drewN n_).setCell ⟨gb158, 0, none⟩ (.int .i64 ((rd_T101 l1 x14_1).f0))).setCell ⟨gb158, 1, none⟩ (.int .i64 ((rd_T101 l1 x14_1).f1))).setCell ⟨gb158, 2, none⟩ (.int .i64 ((rd_T101 l1 x14_1).f2))).setCell ⟨gb158, 3, none⟩ (.int .i64 ((rd_T101 l1 x14_1).f3)))).cell? _ = some _ from hx159_1)); (try have hy159_2 := fun (n_ : Nat) => (show ((((((w12.drewN n_).setCell ⟨gb158, 0, none⟩ (.int .i64 ((rd_T101 l1 x14_1).f0))).setCell ⟨gb158, 1, none⟩ (.int .i64 ((rd_T101 l1 x14_1).f1))).setCell ⟨gb158, 2, none⟩ (.int .i64 ((rd_T101 l1 x14_1).f2))).setCell ⟨gb158, 3, none⟩ (.int .i64 ((rd_T101 l1 x14_1).f3)))).cell? _ = some _ from hx159_2)); (try have hy159_3 := fun (n_ : Nat) => (show ((((((w12.drewN n_).setCell ⟨gb158, 0, none⟩ (.int .i64 ((rd_T101 l1 x14_1).f0))).setCell ⟨gb158, 1, none⟩ (.int .i64 ((rd_T101 l1 x14_1).f1))).setCell ⟨gb158, 2, none⟩ (.int .i64 ((rd_T101 l1 x14_1).f2))).setCell ⟨gb158, 3, none⟩ (.int .i64 ((rd_T101 l1 x14_1).f3)))).cell? _ = some _ from hx159_3)); clear hn159_0; clear hn159_1; clear hn159_2; clear hn159_3; replace p159 := eq_true p159; replace q159 := eq_true q159; have p160 : 0 ≤ (x14_1 : Int) := of_decide_eq_true (by first | (with_reducible assumption) | assumption); have q160 : x14_1 < (l0.length : Int) := of_decide_eq_true (by first | (with_reducible assumption) | assumption); obtain ⟨ad160, e160, hx160_0, hx160_1, hx160_2, hx160_3⟩ := at_T101 HR0.out x14_1 p160 q160; obtain rfl : ad159 = ad160 := (by injection e160); have hn160_0 : ad159.block ≠ gb158 := Nat.ne_of_lt (Nat.lt_of_lt_of_le (by have := World.block_lt_of_cell? _ _ hx160_0; first | rwa [add_block] at this | exact this) GW158.out); have hn160_1 : ad159.block ≠ gb158 := Nat.ne_of_lt (Nat.lt_of_lt_of_le (by have := World.block_lt_of_cell? _ _ hx160_0; first | rwa [add_block] at this | exact this) GW158.out); have hn160_2 : ad159.block ≠ gb158 := Nat.ne_of_lt (Nat.lt_of_lt_of_le (by have := World.block_lt_of_cell? _ _ hx160_0; first | rwa [add_block] at this | exact this) GW158.out); have hn160_3 : ad159.block ≠ gb158 := Nat.ne_of_lt (Nat.lt_of_lt_of_le (by have := World.block_lt_of_cell? _ _ hx160_0; first | rwa [add_block] at this | exact this) GW158.out); replace hx160_0 := (HB.out.cell (World.block_lt_of_cell? w _ hx160_0)).trans hx160_0; replace hx160_1 := (HB.out.cell (World.block_lt_of_cell? w _ hx160_1)).trans hx160_1; replace hx160_2 := (HB.out.cell (World.block_lt_of_cell? w _ hx160_2)).trans hx160_2; replace hx160_3 := (HB.out.cell (World.block_lt_of_cell? w _ hx160_3)).trans hx160_3; replace hx160_0 := (cell_far (p := ⟨gb158, 0, none⟩) (by first | (rw [add_block]; exact hn160_0) | (show (Addr.add _ _).block ≠ _; rw [add_block]; exact hn160_0) | exact hn160_0) (.int .i64 ((rd_T101 l1 x14_1).f0))).trans hx160_0; replace hx160_1 := (cell_far (p := ⟨gb158, 0, none⟩) (by first | (rw [add_block]; exact hn160_0) | (show (Addr.add _ _).block ≠ _; rw [add_block]; exact hn160_0) | exact hn160_0) (.int .i64 ((rd_T101 l1 x14_1).f0))).trans hx160_1; replace hx160_2 := (cell_far (p := ⟨gb158, 0, none⟩) (by first | (rw [add_block]; exact hn160_0) | (show (Addr.add _ _).block ≠ _; rw [add_block]; exact hn160_0) | exact hn160_0) (.int .i64 ((rd_T101 l1 x14_1).f0))).trans hx160_2; replace hx160_3 := (cell_far (p := ⟨gb158, 0, none⟩) (by first | (rw [add_block]; exact hn160_0) | (show (Addr.add _ _).block ≠ _; rw [add_block]; exact hn160_0) | exact hn160_0) (.int .i64 ((rd_T101 l1 x14_1).f0))).trans hx160_3; replace hx160_0 := (cell_far (p := ⟨gb158, 1, none⟩) (by first | (rw [add_block]; exact hn160_1) | (show (Addr.add _ _).block ≠ _; rw [add_block]; exact hn160_1) | exact hn160_1) (.int .i64 ((rd_T101 l1 x14_1).f1))).trans hx160_0; replace hx160_1 := (cell_far (p := ⟨gb158, 1, none⟩) (by first | (rw [add_block]; exact hn160_1) | (show (Addr.add _ _).block ≠ _; rw [add_block]; exact hn160_1) | exact hn160_1) (.int .i64 ((rd_T101 l1 x14_1).f1))).trans hx160_1; replace hx160_2 := (cell_far (p := ⟨gb158, 1, none⟩) (by first | (rw [add_block]; exact hn160_1) | (show (Addr.add _ _).block ≠ _; rw [add_block]; exact hn160_1) | exact hn160_1) (.int .i64 ((rd_T101 l1 x14_1).f1))).trans hx160_2; replace hx160_3 := (cell_far (p := ⟨gb158, 1, none⟩) (by first | (rw [add_block]; exact hn160_1) | (show (Addr.add _ _).block ≠ _; rw [add_block]; exact hn160_1) | exact hn160_1) (.int .i64 ((rd_T101 l1 x14_1).f1))).trans hx160_3; replace hx160_0 := (cell_far (p := ⟨gb158, 2, none⟩) (by first | (rw [add_block]; exact hn160_2) | (show (Addr.add _ _).block ≠ _; rw [add_block]; exact hn160_2) | exact hn160_2) (.int .i64 ((rd_T101 l1 x14_1).f2))).trans hx160_0; replace hx160_1 := (cell_far (p := ⟨gb158, 2, none⟩) (by first | (rw [add_block]; exact hn160_2) | (show (Addr.add _ _).block ≠ _; rw [add_block]; exact hn160_2) | exact hn160_2) (.int .i64 ((rd_T101 l1 x14_1).f2))).trans hx160_1; replace hx160_2 := (cell_far (p := ⟨gb158, 2, none⟩) (by first | (rw [add_block]; exact hn160_2) | (show (Addr.add _ _).block ≠ _; rw [add_block]; exact hn160_2) | exact hn160_2) (.int .i64 ((rd_T101 l1 x14_1).f2))).trans hx160_2; replace hx160_3 := (cell_far (p := ⟨gb158, 2, none⟩) (by first | (rw [add_block]; exact hn160_2) | (show (Addr.add _ _).block ≠ _; rw [add_block]; exact hn160_2) | exact hn160_2) (.int .i64 ((rd_T101 l1 x14_1).f2))).trans hx160_3; replace hx160_0 := (cell_far (p := ⟨gb158, 3, none⟩) (by first | (rw [add_block]; exact hn160_3) | (show (Addr.add _ _).block ≠ _; rw [add_block]; exact hn160_3) | exact hn160_3) (.int .i64 ((rd_T101 l1 x14_1).f3))).trans hx160_0; replace hx160_1 := (cell_far (p := ⟨gb158, 3, none⟩) (by first | (rw [add_block]; exact hn160_3) | (show (Addr.add _ _).block ≠ _; rw [add_block]; exact hn160_3) | exact hn160_3) (.int .i64 ((rd_T101 l1 x14_1).f3))).trans hx160_1; replace hx160_2 := (cell_far (p := ⟨gb158, 3, none⟩) (by first | (rw [add_block]; exact hn160_3) | (show (Addr.add _ _).block ≠ _; rw [add_block]; exact hn160_3) | exact hn160_3) (.int .i64 ((rd_T101 l1 x14_1).f3))).trans hx160_2; replace hx160_3 := (cell_far (p := ⟨gb158, 3, none⟩) (by first | (rw [add_block]; exact hn160_3) | (show (Addr.add _ _).block ≠ _; rw [add_block]; exact hn160_3) | exact hn160_3) (.int .i64 ((rd_T101 l1 x14_1).f3))).trans hx160_3; (try have hy160_0 := fun (n_ : Nat) => (show ((((((w12.drewN n_).setCell ⟨gb158, 0, none⟩ (.int .i64 ((rd_T101 l1 x14_1).f0))).setCell ⟨gb158, 1, none⟩ (.int .i64 ((rd_T101 l1 x14_1).f1))).setCell ⟨gb158, 2, none⟩ (.int .i64 ((rd_T101 l1 x14_1).f2))).setCell ⟨gb158, 3, none⟩ (.int .i64 ((rd_T101 l1 x14_1).f3)))).cell? _ = some _ from hx160_0)); (try have hy160_1 := fun (n_ : Nat) => (show ((((((w12.drewN n_).setCell ⟨gb158, 0, none⟩ (.int .i64 ((rd_T101 l1 x14_1).f0))).setCell ⟨gb158, 1, none⟩ (.int .i64 ((rd_T101 l1 x14_1).f1))).setCell ⟨gb158, 2, none⟩ (.int .i64 ((rd_T101 l1 x14_1).f2))).setCell ⟨gb158, 3, none⟩ (.int .i64 ((rd_T101 l1 x14_1).f3)))).cell? _ = some _ from hx160_1)); (try have hy160_2 := fun (n_ : Nat) => (show ((((((w12.drewN n_).setCell ⟨gb158, 0, none⟩ (.int .i64 ((rd_T101 l1 x14_1).f0))).setCell ⟨gb158, 1, none⟩ (.int .i64 ((rd_T101 l1 x14_1).f1))).setCell ⟨gb158, 2, none⟩ (.int .i64 ((rd_T101 l1 x14_1).f2))).setCell ⟨gb158, 3, none⟩ (.int .i64 ((rd_T101 l1 x14_1).f3)))).cell? _ = some _ from hx160_2)); (try have hy160_3 := fun (n_ : Nat) => (show ((((((w12.drewN n_).setCell ⟨gb158, 0, none⟩ (.int .i64 ((rd_T101 l1 x14_1).f0))).setCell ⟨gb158, 1, none⟩ (.int .i64 ((rd_T101 l1 x14_1).f1))).setCell ⟨gb158, 2, none⟩ (.int .i64 ((rd_T101 l1 x14_1).f2))).setCell ⟨gb158, 3, none⟩ (.int .i64 ((rd_T101 l1 x14_1).f3)))).cell? _ = some _ from hx160_3)); clear hn160_0; clear hn160_1; clear hn160_2; clear hn160_3; replace p160 := eq_true p160; replace q160 := eq_true q160))
          repeat (go_quiet (fail); try go_wp2_with (fail))
          go_ret
          exact ⟨by first | rfl | (simp [Az, Ba] <;> rfl) | (simp [*, Az, Ba] <;> rfl), by repeat (first | (with_reducible first | exact HB.out | apply Ad | apply Ac | apply Ah | refine Af ?_ GE158.out) | exact HB.out)⟩
        ·rw [if_neg c8] at H
         have c8b0 : (((rd_T101 l0 x14_1).f0) == ((rd_T101 l1 x14_1).f0)) = false := beq_eq_false_iff_ne.mpr c8
         have c8b1 : (((rd_T101 l0 x14_1).f0) != ((rd_T101 l1 x14_1).f0)) = true := bne_iff_ne.mpr c8
         obtain rfl := Option.some.inj H
         have p157 : 0 ≤ (x14_1 : Int) := of_decide_eq_true (by first | (with_reducible assumption) | assumption)
         have q157 : x14_1 < (l1.length : Int) := of_decide_eq_true (by first | (with_reducible assumption) | assumption)
         obtain ⟨ad157, e157, hx157_0, hx157_1, hx157_2, hx157_3⟩ := at_T101 HR1.out x14_1 p157 q157
         cases e157
         replace hx157_0 := (HB.out.cell (World.block_lt_of_cell? w _ hx157_0)).trans hx157_0
         replace hx157_1 := (HB.out.cell (World.block_lt_of_cell? w _ hx157_1)).trans hx157_1
         replace hx157_2 := (HB.out.cell (World.block_lt_of_cell? w _ hx157_2)).trans hx157_2
         replace hx157_3 := (HB.out.cell (World.block_lt_of_cell? w _ hx157_3)).trans hx157_3
         replace p157 := eq_true p157
         replace q157 := eq_true q157
         go_wp2_with (((with_reducible refine Bk (N := 6) rfl ?_); refine Bp ?hg (N := 6) ?hd (cs := #[.int .i64 0, .int .i64 0, .int .i64 0, .int .i64 0]) (t := 101) ?hr ?_; (case hd => rfl); (case hg => rfl); (case hr => first | (go_simp; done) | (go_simp; rfl)); intro gb158 hg w14 hbox hb; have n0_ := Aa.mk (Ar (lU HB.out) hb); have n1_ := Aa.mk (hbox); have n2_ := Aa.mk ((by rw [hg]; exact (Ak (lU HB.out)) : w.heap.size ≤ gb158)); have n3_ := Aa.mk ((by rw [hg]; exact (Ak (lU HB.out)) : w.heap.size ≤ gb158)); clear HB; have HB := n0_; have BK158 := n1_; have GW158 := n2_; have GE158 := n3_; clear n0_ n1_ n2_ n3_; clear hb hbox hg; have hcz15_0 : w14.cell? ⟨gb158, 0, none⟩ = some (.int .i64 0) := (Ae BK158.out 0).trans rfl; have hcz15_1 : w14.cell? ⟨gb158, 1, none⟩ = some (.int .i64 0) := (Ae BK158.out 1).trans rfl; have hcz15_2 : w14.cell? ⟨gb158, 2, none⟩ = some (.int .i64 0) := (Ae BK158.out 2).trans rfl; have hcz15_3 : w14.cell? ⟨gb158, 3, none⟩ = some (.int .i64 0) := (Ae BK158.out 3).trans rfl; have hfz15_0 := Ag BK158.out 0; have hfz15_1 := Ag BK158.out 1; have hfz15_2 := Ag BK158.out 2; have hfz15_3 := Ag BK158.out 3; have p159 : 0 ≤ (x14_1 : Int) := of_decide_eq_true (by first | (with_reducible assumption) | assumption); have q159 : x14_1 < (l0.length : Int) := of_decide_eq_true (by first | (with_reducible assumption) | assumption); obtain ⟨ad159, e159, hx159_0, hx159_1, hx159_2, hx159_3⟩ := at_T101 HR0.out x14_1 p159 q159; cases e159; have hn159_0 : ad159.block ≠ gb158 := Nat.ne_of_lt (Nat.lt_of_lt_of_le (by have := World.block_lt_of_cell? _ _ hx159_0; first | rwa [add_block] at this | exact this) GW158.out); have hn159_1 : ad159.block ≠ gb158 := Nat.ne_of_lt (Nat.lt_of_lt_of_le (by have := World.block_lt_of_cell? _ _ hx159_0; first | rwa [add_block] at this | exact this) GW158.out); have hn159_2 : ad159.block ≠ gb158 := Nat.ne_of_lt (Nat.lt_of_lt_of_le (by have := World.block_lt_of_cell? _ _ hx159_0; first | rwa [add_block] at this | exact this) GW158.out); have hn159_3 : ad159.block ≠ gb158 := Nat.ne_of_lt (Nat.lt_of_lt_of_le (by have := World.block_lt_of_cell? _ _ hx159_0; first | rwa [add_block] at this | exact this) GW158.out); replace hx159_0 := (HB.out.cell (World.block_lt_of_cell? w _ hx159_0)).trans hx159_0; replace hx159_1 := (HB.out.cell (World.block_lt_of_cell? w _ hx159_1)).trans hx159_1; replace hx159_2 := (HB.out.cell (World.block_lt_of_cell? w _ hx159_2)).trans hx159_2; replace hx159_3 := (HB.out.cell (World.block_lt_of_cell? w _ hx159_3)).trans hx159_3; replace hx159_0 := (cell_far (p := ⟨gb158, 0, none⟩) (by first | (rw [add_block]; exact hn159_0) | (show (Addr.add _ _).block ≠ _; rw [add_block]; exact hn159_0) | exact hn159_0) (.int .i64 ((rd_T101 l1 x14_1).f0))).trans hx159_0; replace hx159_1 := (cell_far (p := ⟨gb158, 0, none⟩) (by first | (rw [add_block]; exact hn159_0) | (show (Addr.add _ _).block ≠ _; rw [add_block]; exact hn159_0) | exact hn159_0) (.int .i64 ((rd_T101 l1 x14_1).f0))).trans hx159_1; replace hx159_2 := (cell_far (p := ⟨gb158, 0, none⟩) (by first | (rw [add_block]; exact hn159_0) | (show (Addr.add _ _).block ≠ _; rw [add_block]; exact hn159_0) | exact hn159_0) (.int .i64 ((rd_T101 l1 x14_1).f0))).trans hx159_2; replace hx159_3 := (cell_far (p := ⟨gb158, 0, none⟩) (by first | (rw [add_block]; exact hn159_0) | (show (Addr.add _ _).block ≠ _; rw [add_block]; exact hn159_0) | exact hn159_0) (.int .i64 ((rd_T101 l1 x14_1).f0))).trans hx159_3; replace hx159_0 := (cell_far (p := ⟨gb158, 1, none⟩) (by first | (rw [add_block]; exact hn159_1) | (show (Addr.add _ _).block ≠ _; rw [add_block]; exact hn159_1) | exact hn159_1) (.int .i64 ((rd_T101 l1 x14_1).f1))).trans hx159_0; replace hx159_1 := (cell_far (p := ⟨gb158, 1, none⟩) (by first | (rw [add_block]; exact hn159_1) | (show (Addr.add _ _).block ≠ _; rw [add_block]; exact hn159_1) | exact hn159_1) (.int .i64 ((rd_T101 l1 x14_1).f1))).trans hx159_1; replace hx159_2 := (cell_far (p := ⟨gb158, 1, none⟩) (by first | (rw [add_block]; exact hn159_1) | (show (Addr.add _ _).block ≠ _; rw [add_block]; exact hn159_1) | exact hn159_1) (.int .i64 ((rd_T101 l1 x14_1).f1))).trans hx159_2; replace hx159_3 := (cell_far (p := ⟨gb158, 1, none⟩) (by first | (rw [add_block]; exact hn159_1) | (show (Addr.add _ _).block ≠ _; rw [add_block]; exact hn159_1) | exact hn159_1) (.int .i64 ((rd_T101 l1 x14_1).f1))).trans hx159_3; replace hx159_0 := (cell_far (p := ⟨gb158, 2, none⟩) (by first | (rw [add_block]; exact hn159_2) | (show (Addr.add _ _).block ≠ _; rw [add_block]; exact hn159_2) | exact hn159_2) (.int .i64 ((rd_T101 l1 x14_1).f2))).trans hx159_0; replace hx159_1 := (cell_far (p := ⟨gb158, 2, none⟩) (by first | (rw [add_block]; exact hn159_2) | (show (Addr.add _ _).block ≠ _; rw [add_block]; exact hn159_2) | exact hn159_2) (.int .i64 ((rd_T101 l1 x14_1).f2))).trans hx159_1; replace hx159_2 := (cell_far (p := ⟨gb158, 2, none⟩) (by first | (rw [add_block]; exact hn159_2) | (show (Addr.add _ _).block ≠ _; rw [add_block]; exact hn159_2) | exact hn159_2) (.int .i64 ((rd_T101 l1 x14_1).f2))).trans hx159_2; replace hx159_3 := (cell_far (p := ⟨gb158, 2, none⟩) (by first | (rw [add_block]; exact hn159_2) | (show (Addr.add _ _).block ≠ _; rw [add_block]; exact hn159_2) | exact hn159_2) (.int .i64 ((rd_T101 l1 x14_1).f2))).trans hx159_3; replace hx159_0 := (cell_far (p := ⟨gb158, 3, none⟩) (by first | (rw [add_block]; exact hn159_3) | (show (Addr.add _ _).block ≠ _; rw [add_block]; exact hn159_3) | exact hn159_3) (.int .i64 ((rd_T101 l1 x14_1).f3))).trans hx159_0; replace hx159_1 := (cell_far (p := ⟨gb158, 3, none⟩) (by first | (rw [add_block]; exact hn159_3) | (show (Addr.add _ _).block ≠ _; rw [add_block]; exact hn159_3) | exact hn159_3) (.int .i64 ((rd_T101 l1 x14_1).f3))).trans hx159_1; replace hx159_2 := (cell_far (p := ⟨gb158, 3, none⟩) (by first | (rw [add_block]; exact hn159_3) | (show (Addr.add _ _).block ≠ _; rw [add_block]; exact hn159_3) | exact hn159_3) (.int .i64 ((rd_T101 l1 x14_1).f3))).trans hx159_2; replace hx159_3 := (cell_far (p := ⟨gb158, 3, none⟩) (by first | (rw [add_block]; exact hn159_3) | (show (Addr.add _ _).block ≠ _; rw [add_block]; exact hn159_3) | exact hn159_3) (.int .i64 ((rd_T101 l1 x14_1).f3))).trans hx159_3; (try have hy159_0 := fun (n_ : Nat) => (show ((((((w14.drewN n_).setCell ⟨gb158, 0, none⟩ (.int .i64 ((rd_T101 l1 x14_1).f0))).setCell ⟨gb158, 1, none⟩ (.int .i64 ((rd_T101 l1 x14_1).f1))).setCell ⟨gb158, 2, none⟩ (.int .i64 ((rd_T101 l1 x14_1).f2))).setCell ⟨gb158, 3, none⟩ (.int .i64 ((rd_T101 l1 x14_1).f3)))).cell? _ = some _ from hx159_0)); (try have hy159_1 := fun (n_ : Nat) => (show ((((((w14.drewN n_).setCell ⟨gb158, 0, none⟩ (.int .i64 ((rd_T101 l1 x14_1).f0))).setCell ⟨gb158, 1, none⟩ (.int .i64 ((rd_T101 l1 x14_1).f1))).setCell ⟨gb158, 2, none⟩ (.int .i64 ((rd_T101 l1 x14_1).f2))).setCell ⟨gb158, 3, none⟩ (.int .i64 ((rd_T101 l1 x14_1).f3)))).cell? _ = some _ from hx159_1)); (try have hy159_2 := fun (n_ : Nat) => (show ((((((w14.drewN n_).setCell ⟨gb158, 0, none⟩ (.int .i64 ((rd_T101 l1 x14_1).f0))).setCell ⟨gb158, 1, none⟩ (.int .i64 ((rd_T101 l1 x14_1).f1))).setCell ⟨gb158, 2, none⟩ (.int .i64 ((rd_T101 l1 x14_1).f2))).setCell ⟨gb158, 3, none⟩ (.int .i64 ((rd_T101 l1 x14_1).f3)))).cell? _ = some _ from hx159_2)); (try have hy159_3 := fun (n_ : Nat) => (show ((((((w14.drewN n_).setCell ⟨gb158, 0, none⟩ (.int .i64 ((rd_T101 l1 x14_1).f0))).setCell ⟨gb158, 1, none⟩ (.int .i64 ((rd_T101 l1 x14_1).f1))).setCell ⟨gb158, 2, none⟩ (.int .i64 ((rd_T101 l1 x14_1).f2))).setCell ⟨gb158, 3, none⟩ (.int .i64 ((rd_T101 l1 x14_1).f3)))).cell? _ = some _ from hx159_3)); clear hn159_0; clear hn159_1; clear hn159_2; clear hn159_3; replace p159 := eq_true p159; replace q159 := eq_true q159))
         repeat (go_quiet (fail); try go_wp2_with (fail))
         go_ret
         exact ⟨by first | rfl | (simp [Az, Ba] <;> rfl) | (simp [*, Az, Ba] <;> rfl), by repeat (first | (with_reducible first | exact HB.out | apply Ad | apply Ac | apply Ah | refine Af ?_ GE158.out) | exact HB.out)⟩
       ·rw [if_neg c7] at H
        exact absurd H (by simp)
      ·rw [if_neg c6] at H
       exact absurd H (by simp)
     ·rw [if_neg c5] at H
      exact absurd H (by simp)
    ·rw [if_neg c4] at H
     have c4b0 : decide (x14_1 < (l1.length : Int)) = false := decide_eq_false c4
     clear c4
     obtain rfl := Option.some.inj H
     go_wp2
     repeat (go_quiet (fail); try go_wp2)
     go_ret
     exact ⟨by first | rfl | (simp [Az, Ba] <;> rfl) | (simp [*, Az, Ba] <;> rfl), by repeat (first | (with_reducible first | exact HB.out | apply Ad | apply Ac | apply Ah) | exact HB.out)⟩
 ·rw [if_neg c3] at H
  have c3b0 : ((l0.length : Int) == (l1.length : Int)) = false := beq_eq_false_iff_ne.mpr c3
  have c3b1 : ((l0.length : Int) != (l1.length : Int)) = true := bne_iff_ne.mpr c3
  have c3b2 : (l0.length == l1.length) = false := by first | simpa using c3 | (simp at c3 ⊢; omega)
  obtain rfl := Option.some.inj H
  go_enter Try.func97, Try.ntmps97
  go_wp2
  repeat (go_quiet (fail); try go_wp2)
  go_ret
  exact ⟨by first | rfl | (simp [Az, Ba] <;> rfl) | (simp [*, Az, Ba] <;> rfl), by repeat (first | (with_reducible first | exact HB.out | apply Ad | apply Ac | apply Ah) | exact HB.out)⟩

end Go.Proofs.Yteamphcehoaleaa.PFA

