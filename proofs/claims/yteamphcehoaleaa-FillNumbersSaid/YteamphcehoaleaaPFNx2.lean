import Derived.Test.YteamphcehoaleaaPFNx0
import Derived.Test.YteamphcehoaleaaPFNx1
import Derived.Test.YteamphcehoaleaaPA
import Derived.Test.YteamphcehoaleaaPFAx6
import Derived.Test.YteamphcehoaleaaPFKx2
namespace Go.Proofs.Yteamphcehoaleaa.PFN
open Go.Proofs.Yteamphcehoaleaa.PFA Go.Proofs.Yteamphcehoaleaa.PFK
open Go.RowKit Go.Proofs.YteamphcehoaleaaW.PrintWords Go.Proofs.YteamphcehoaleaaW.PrintLast Go.Proofs.YteamphcehoaleaaW.PrintMore
attribute [local go_sem] max2_int min2_int max_two min_two max_three min_three max_four min_four   -- for this text's walks alone
set_option linter.unusedVariables false
set_option linter.unusedSimpArgs false

mutual
def An.j0 : Nat → Int → List Int → Int → Bool → Int → Int → List Bool → Option (Bool)
 | 0, _, _, _, _, _, _, _ => none
 | k + 1, x1, x5, x6, x64, x118000, x118001, x118002 => if x64 = true then (some false) else (An.l0 k x1 x5 x6 0 0 x118000 x118001 x118002)
def An.l0 : Nat → Int → List Int → Int → Int → Int → Int → Int → List Bool → Option (Bool)
 | 0, _, _, _, _, _, _, _, _ => none
 | k + 1, x1, x5, x6, x14, x15, x118000, x118001, x118002 => if x15 < (x5.length : Int) then (if 0 ≤ x15 then (if x15 < (x118002.length : Int) then (if ((decide ((rd x5 x15) > 0)) != (rdOf false x118002 x15)) = true then (An.j2 k x1 x5 x6 x14 x15 true x118000 x118001 x118002) else (if (rd x5 x15) > (wrap64 (x14 + 1)) then (An.j2 k x1 x5 x6 x14 x15 true x118000 x118001 x118002) else (An.j2 k x1 x5 x6 x14 x15 (decide ((rd x5 x15) < 0)) x118000 x118001 x118002))) else (none)) else (none)) else (some (x14 == x6))
def An.j2 : Nat → Int → List Int → Int → Int → Int → Bool → Int → Int → List Bool → Option (Bool)
 | 0, _, _, _, _, _, _, _, _, _ => none
 | k + 1, x1, x5, x6, x14, x15, x97, x118000, x118001, x118002 => if x97 = true then (some false) else (if 0 ≤ x15 then (if x15 < (x5.length : Int) then ((At.f k x118000 x118001 x15 x1).bind fun t143 => (An.l1 k x1 x5 x6 (mx x14 (rd x5 x15)) x15 t143 0 x118000 x118001 x118002)) else (none)) else (none))
def An.l1 : Nat → Int → List Int → Int → Int → Int → List Int → Int → Int → Int → List Bool → Option (Bool)
 | 0, _, _, _, _, _, _, _, _, _, _ => none
 | k + 1, x1, x5, x6, x14, x15, x16, x17, x118000, x118001, x118002 => if x17 < (x16.length : Int) then (if 0 ≤ x15 then (if x15 < (x118002.length : Int) then (if rdOf false x118002 x15 = true then (if 0 ≤ x17 then (if 0 ≤ (rd x16 x17) then (if (rd x16 x17) < (x118002.length : Int) then (if rdOf false x118002 (rd x16 x17) = true then (if x15 < (x5.length : Int) then (if (rd x16 x17) < (x5.length : Int) then (if (rd x5 x15) = (rd x5 (rd x16 x17)) then (An.l1 k x1 x5 x6 x14 x15 x16 (wrap64 (x17 + 1)) x118000 x118001 x118002) else (some false)) else (none)) else (none)) else (An.l1 k x1 x5 x6 x14 x15 x16 (wrap64 (x17 + 1)) x118000 x118001 x118002)) else (none)) else (none)) else (none)) else (An.l1 k x1 x5 x6 x14 x15 x16 (wrap64 (x17 + 1)) x118000 x118001 x118002)) else (none)) else (none)) else (An.l0 k x1 x5 x6 x14 (wrap64 (x15 + 1)) x118000 x118001 x118002)
end
def An.f (k : Nat) (a0_0 : Int) (a0_1 : Int) (l0_2 : List Bool) (a1 : Int) : Option (Bool) := (Ao.f k).bind fun t118 => (if t118 = true then ((Cc.f a0_0 a0_1 l0_2 a1).bind fun t119 => (if t119 = true then ((Bz.f a0_0 a0_1 l0_2 a1).bind fun bt120 => ((Bz.f a0_0 a0_1 l0_2 4).bind fun bt125 => ((Bz.f a0_0 a0_1 l0_2 8).bind fun bt130 => ((Aw.f bt120.2.2).bind fun t135 => ((Aw.f bt125.2.2).bind fun t136 => ((Aw.f bt130.2.2).bind fun t137 => (if (wrap64 ((wrap64 (t135 + t136)) + t137)) = 0 then (if (bt120.1.length : Int) = (l0_2.length : Int) then (An.j0 k a1 bt120.1 bt120.2.1 (decide (bt130.2.1 > bt125.2.1)) a0_0 a0_1 l0_2) else (An.j0 k a1 bt120.1 bt120.2.1 true a0_0 a0_1 l0_2)) else (An.j0 k a1 bt120.1 bt120.2.1 true a0_0 a0_1 l0_2)))))))) else (some true))) else (some false))
set_option maxHeartbeats 8000000 in
set_option maxRecDepth 100000 in
theorem An.calls (k : Nat) (a0_0 : Int) (a0_1 : Int) (A0_2 : Option Addr) (c0_2 : Nat) (l0_2 : List Bool) (a1 : Int) (r : Bool) (w : World) (hr0_2 : Kd.C Kd.bool w A0_2 l0_2.length l0_2) (hc0_2 : l0_2.length ≤ c0_2) (h : An.f k a0_0 a0_1 l0_2 a1 = some r) (HT0 : r = true := by decide) :
  Calls Try.prog 7 #[.agg #[.int .i64 a0_0, .int .i64 a0_1, .slice A0_2 l0_2.length c0_2], .int .i64 a1] w fun e w' => e = .returned (.bool r) ∧ Below w.heap.size w w' := by
 have HT := Aa.mk HT0
 clear HT0
 have hu50 := Try.underlying50
 have HR0_2 := Aa.mk hr0_2
 have HC0_2 := Aa.mk hc0_2
 clear hr0_2 hc0_2
 have HB := Aa.mk (Below.refl w.heap.size w)
 have H : ((Ao.f k).bind fun t118 => (if t118 = true then ((Cc.f a0_0 a0_1 l0_2 a1).bind fun t119 => (if t119 = true then ((Bz.f a0_0 a0_1 l0_2 a1).bind fun bt120 => ((Bz.f a0_0 a0_1 l0_2 4).bind fun bt125 => ((Bz.f a0_0 a0_1 l0_2 8).bind fun bt130 => ((Aw.f bt120.2.2).bind fun t135 => ((Aw.f bt125.2.2).bind fun t136 => ((Aw.f bt130.2.2).bind fun t137 => (if (wrap64 ((wrap64 (t135 + t136)) + t137)) = 0 then (if (bt120.1.length : Int) = (l0_2.length : Int) then (An.j0 k a1 bt120.1 bt120.2.1 (decide (bt130.2.1 > bt125.2.1)) a0_0 a0_1 l0_2) else (An.j0 k a1 bt120.1 bt120.2.1 true a0_0 a0_1 l0_2)) else (An.j0 k a1 bt120.1 bt120.2.1 true a0_0 a0_1 l0_2)))))))) else (some true))) else (some false))) = some r := h
 clear h
 replace H := Option.bind_eq_some_iff.mp H
 obtain ⟨t118, A30, H⟩ := H
 replace H : (if t118 = true then ((Cc.f a0_0 a0_1 l0_2 a1).bind fun t119 => (if t119 = true then ((Bz.f a0_0 a0_1 l0_2 a1).bind fun bt120 => ((Bz.f a0_0 a0_1 l0_2 4).bind fun bt125 => ((Bz.f a0_0 a0_1 l0_2 8).bind fun bt130 => ((Aw.f bt120.2.2).bind fun t135 => ((Aw.f bt125.2.2).bind fun t136 => ((Aw.f bt130.2.2).bind fun t137 => (if (wrap64 ((wrap64 (t135 + t136)) + t137)) = 0 then (if (bt120.1.length : Int) = (l0_2.length : Int) then (An.j0 k a1 bt120.1 bt120.2.1 (decide (bt130.2.1 > bt125.2.1)) a0_0 a0_1 l0_2) else (An.j0 k a1 bt120.1 bt120.2.1 true a0_0 a0_1 l0_2)) else (An.j0 k a1 bt120.1 bt120.2.1 true a0_0 a0_1 l0_2)))))))) else (some true))) else (some false)) = some r := H
 have A3 := Aa.mk A30
 clear A30
 by_cases c4 : t118 = true
 ·subst c4
  have H1 : ((Cc.f a0_0 a0_1 l0_2 a1).bind fun t119 => (if t119 = true then ((Bz.f a0_0 a0_1 l0_2 a1).bind fun bt120 => ((Bz.f a0_0 a0_1 l0_2 4).bind fun bt125 => ((Bz.f a0_0 a0_1 l0_2 8).bind fun bt130 => ((Aw.f bt120.2.2).bind fun t135 => ((Aw.f bt125.2.2).bind fun t136 => ((Aw.f bt130.2.2).bind fun t137 => (if (wrap64 ((wrap64 (t135 + t136)) + t137)) = 0 then (if (bt120.1.length : Int) = (l0_2.length : Int) then (An.j0 k a1 bt120.1 bt120.2.1 (decide (bt130.2.1 > bt125.2.1)) a0_0 a0_1 l0_2) else (An.j0 k a1 bt120.1 bt120.2.1 true a0_0 a0_1 l0_2)) else (An.j0 k a1 bt120.1 bt120.2.1 true a0_0 a0_1 l0_2)))))))) else (some true))) = some r := by rw [if_pos rfl] at H; exact H
  clear H
  have H := H1
  clear H1
  replace H := Option.bind_eq_some_iff.mp H
  obtain ⟨t119, A50, H⟩ := H
  replace H : (if t119 = true then ((Bz.f a0_0 a0_1 l0_2 a1).bind fun bt120 => ((Bz.f a0_0 a0_1 l0_2 4).bind fun bt125 => ((Bz.f a0_0 a0_1 l0_2 8).bind fun bt130 => ((Aw.f bt120.2.2).bind fun t135 => ((Aw.f bt125.2.2).bind fun t136 => ((Aw.f bt130.2.2).bind fun t137 => (if (wrap64 ((wrap64 (t135 + t136)) + t137)) = 0 then (if (bt120.1.length : Int) = (l0_2.length : Int) then (An.j0 k a1 bt120.1 bt120.2.1 (decide (bt130.2.1 > bt125.2.1)) a0_0 a0_1 l0_2) else (An.j0 k a1 bt120.1 bt120.2.1 true a0_0 a0_1 l0_2)) else (An.j0 k a1 bt120.1 bt120.2.1 true a0_0 a0_1 l0_2)))))))) else (some true)) = some r := H
  have A5 := Aa.mk A50
  clear A50
  by_cases c6 : t119 = true
  ·subst c6
   have H1 : ((Bz.f a0_0 a0_1 l0_2 a1).bind fun bt120 => ((Bz.f a0_0 a0_1 l0_2 4).bind fun bt125 => ((Bz.f a0_0 a0_1 l0_2 8).bind fun bt130 => ((Aw.f bt120.2.2).bind fun t135 => ((Aw.f bt125.2.2).bind fun t136 => ((Aw.f bt130.2.2).bind fun t137 => (if (wrap64 ((wrap64 (t135 + t136)) + t137)) = 0 then (if (bt120.1.length : Int) = (l0_2.length : Int) then (An.j0 k a1 bt120.1 bt120.2.1 (decide (bt130.2.1 > bt125.2.1)) a0_0 a0_1 l0_2) else (An.j0 k a1 bt120.1 bt120.2.1 true a0_0 a0_1 l0_2)) else (An.j0 k a1 bt120.1 bt120.2.1 true a0_0 a0_1 l0_2)))))))) = some r := by rw [if_pos rfl] at H; exact H
   clear H
   have H := H1
   clear H1
   replace H := Option.bind_eq_some_iff.mp H
   obtain ⟨⟨t120, t123, t124⟩, A70, H⟩ := H
   replace H : ((Bz.f a0_0 a0_1 l0_2 4).bind fun bt125 => ((Bz.f a0_0 a0_1 l0_2 8).bind fun bt130 => ((Aw.f t124).bind fun t135 => ((Aw.f bt125.2.2).bind fun t136 => ((Aw.f bt130.2.2).bind fun t137 => (if (wrap64 ((wrap64 (t135 + t136)) + t137)) = 0 then (if (t120.length : Int) = (l0_2.length : Int) then (An.j0 k a1 t120 t123 (decide (bt130.2.1 > bt125.2.1)) a0_0 a0_1 l0_2) else (An.j0 k a1 t120 t123 true a0_0 a0_1 l0_2)) else (An.j0 k a1 t120 t123 true a0_0 a0_1 l0_2))))))) = some r := H
   have A7 := Aa.mk A70
   clear A70
   replace H := Option.bind_eq_some_iff.mp H
   obtain ⟨⟨t125, t128, t129⟩, A80, H⟩ := H
   replace H : ((Bz.f a0_0 a0_1 l0_2 8).bind fun bt130 => ((Aw.f t124).bind fun t135 => ((Aw.f t129).bind fun t136 => ((Aw.f bt130.2.2).bind fun t137 => (if (wrap64 ((wrap64 (t135 + t136)) + t137)) = 0 then (if (t120.length : Int) = (l0_2.length : Int) then (An.j0 k a1 t120 t123 (decide (bt130.2.1 > t128)) a0_0 a0_1 l0_2) else (An.j0 k a1 t120 t123 true a0_0 a0_1 l0_2)) else (An.j0 k a1 t120 t123 true a0_0 a0_1 l0_2)))))) = some r := H
   have A8 := Aa.mk A80
   clear A80
   replace H := Option.bind_eq_some_iff.mp H
   obtain ⟨⟨t130, t133, t134⟩, A90, H⟩ := H
   replace H : ((Aw.f t124).bind fun t135 => ((Aw.f t129).bind fun t136 => ((Aw.f t134).bind fun t137 => (if (wrap64 ((wrap64 (t135 + t136)) + t137)) = 0 then (if (t120.length : Int) = (l0_2.length : Int) then (An.j0 k a1 t120 t123 (decide (t133 > t128)) a0_0 a0_1 l0_2) else (An.j0 k a1 t120 t123 true a0_0 a0_1 l0_2)) else (An.j0 k a1 t120 t123 true a0_0 a0_1 l0_2))))) = some r := H
   have A9 := Aa.mk A90
   clear A90
   have HC10 := Aa.mk H
   clear H
   go_enter Try.func7, Try.ntmps7
   go_upto_region 8 with (first | ((with_reducible refine Bf (N := 2) rfl ?_); (try (refine Cg (by rfl) ?_; dsimp only)); refine Be ?hg (N := 2) ?hd (cs := #[.int .i64 a0_0, .int .i64 a0_1, .slice A0_2 l0_2.length c0_2]) (t := 50) ?hr ?_; (case hd => rfl); (case hg => rfl); (case hr => first | (go_simp; done) | (go_simp; rfl)); intro gb117 hg w11 hbox hb; have n0_ := Aa.mk (As (by repeat (first | (with_reducible first | exact HB.out | apply Ac | apply Ab | apply Ad) | exact HB.out)) hb); have n1_ := Aa.mk (hbox); have n2_ := Aa.mk ((by rw [hg]; exact (Ap (by repeat (first | (with_reducible first | exact HB.out | apply Ac | apply Ab | apply Ad) | exact HB.out))) : w.heap.size ≤ gb117)); have n3_ := Aa.mk ((by rw [hg]; exact (Ap (by repeat (first | (with_reducible first | exact HB.out | apply Ac | apply Ab | apply Ad) | exact HB.out))) : w.heap.size ≤ gb117)); clear HB; have HB := n0_; have BK117 := n1_; have GW117 := n2_; have GE117 := n3_; clear n0_ n1_ n2_ n3_; clear hb hbox hg) | (go_at_call 13; (with_reducible refine (Ao.calls k  true _ A3.out).mono ?_); rintro e w12 ⟨rfl, hb⟩; have n0_ := Aa.mk (Ar (g := gb117) (o := .cells #[.int .i64 a0_0, .int .i64 a0_1, .slice A0_2 l0_2.length c0_2] 50 (0, 0)) (by (with_reducible repeat (first | refine Ai ?_ _ | refine Aj ?_ | refine Af ?_ _)); exact BK117.out) hb); have n1_ := Aa.mk (As (by repeat (first | (with_reducible first | exact HB.out | apply Ac | apply Ab | apply Ad | refine Ah ?_ GE117.out) | exact HB.out)) hb); clear BK117; clear HB; have BK117 := n0_; have HB := n1_; clear n0_ n1_; (try clear hb); (try clear hb2); (try clear hk); (try clear hi); have hcz13_0 : w12.cell? ⟨gb117, 0, none⟩ = some (.int .i64 a0_0) := (Ag BK117.out 0).trans rfl; have hcz13_1 : w12.cell? ⟨gb117, 1, none⟩ = some (.int .i64 a0_1) := (Ag BK117.out 1).trans rfl; have hcz13_2 : w12.cell? ⟨gb117, 2, none⟩ = some (.slice A0_2 l0_2.length c0_2) := (Ag BK117.out 2).trans rfl; have hfz13_0 := Ae BK117.out 0; have hfz13_1 := Ae BK117.out 1; have hfz13_2 := Ae BK117.out 2) | (go_at_call 36; (with_reducible refine (Cc.calls a0_0 a0_1 _ _ l0_2 a1 true _ ?side1 ?side2 A5.out).mono ?_); (case side1 => repeat (first | exact (Kd.B6 HR0_2.out HB.out) | (with_reducible refine Kd.Bj ?_ _) | (with_reducible refine Kd.Bv ?_ _) | (with_reducible refine Kd.B4 ?_))); (case side2 => exact HC0_2.out); rintro e w14 ⟨rfl, hb⟩; have n0_ := Aa.mk (Ar (g := gb117) (o := .cells #[.int .i64 a0_0, .int .i64 a0_1, .slice A0_2 l0_2.length c0_2] 50 (0, 0)) (by (with_reducible repeat (first | refine Ai ?_ _ | refine Aj ?_ | refine Af ?_ _)); exact BK117.out) hb); have n1_ := Aa.mk (As (by repeat (first | (with_reducible first | exact HB.out | apply Ac | apply Ab | apply Ad | refine Ah ?_ GE117.out) | exact HB.out)) hb); clear BK117; clear HB; have BK117 := n0_; have HB := n1_; clear n0_ n1_; (try clear hb); (try clear hb2); (try clear hk); (try clear hi); have hcz15_0 : w14.cell? ⟨gb117, 0, none⟩ = some (.int .i64 a0_0) := (Ag BK117.out 0).trans rfl; have hcz15_1 : w14.cell? ⟨gb117, 1, none⟩ = some (.int .i64 a0_1) := (Ag BK117.out 1).trans rfl; have hcz15_2 : w14.cell? ⟨gb117, 2, none⟩ = some (.slice A0_2 l0_2.length c0_2) := (Ag BK117.out 2).trans rfl; have hfz15_0 := Ae BK117.out 0; have hfz15_1 := Ae BK117.out 1; have hfz15_2 := Ae BK117.out 2) | (go_at_call 25; (with_reducible refine (Bz.calls a0_0 a0_1 _ _ l0_2 a1 t120 t123 t124 _ ?side1 ?side2 A7.out).mono ?_); (case side1 => repeat (first | exact (Kd.B6 HR0_2.out HB.out) | (with_reducible refine Kd.Bj ?_ _) | (with_reducible refine Kd.Bv ?_ _) | (with_reducible refine Kd.B4 ?_))); (case side2 => exact HC0_2.out); rintro e w16 ⟨v121, rfl, ho0, hb⟩; have n0_ := Aa.mk (Kd.B7 ho0 (Ap (by repeat (first | (with_reducible first | exact HB.out | apply Ac | apply Ab | apply Ad | refine Ah ?_ GE117.out) | exact HB.out)))); have n1_ := Aa.mk (Ar (g := gb117) (o := .cells #[.int .i64 a0_0, .int .i64 a0_1, .slice A0_2 l0_2.length c0_2] 50 (0, 0)) (by (with_reducible repeat (first | refine Ai ?_ _ | refine Aj ?_ | refine Af ?_ _)); exact BK117.out) hb); have n2_ := Aa.mk (As (by repeat (first | (with_reducible first | exact HB.out | apply Ac | apply Ab | apply Ad | refine Ah ?_ GE117.out) | exact HB.out)) hb); clear BK117; clear HB; have HO122 := n0_; have BK117 := n1_; have HB := n2_; clear n0_ n1_ n2_; (try clear hb); (try clear hb2); (try clear hk); (try clear hi); (try clear ho0); have hcz17_0 : w16.cell? ⟨gb117, 0, none⟩ = some (.int .i64 a0_0) := (Ag BK117.out 0).trans rfl; have hcz17_1 : w16.cell? ⟨gb117, 1, none⟩ = some (.int .i64 a0_1) := (Ag BK117.out 1).trans rfl; have hcz17_2 : w16.cell? ⟨gb117, 2, none⟩ = some (.slice A0_2 l0_2.length c0_2) := (Ag BK117.out 2).trans rfl; have hfz17_0 := Ae BK117.out 0; have hfz17_1 := Ae BK117.out 1; have hfz17_2 := Ae BK117.out 2) | (go_at_call 25; (with_reducible refine (Bz.calls a0_0 a0_1 _ _ l0_2 4 t125 t128 t129 _ ?side1 ?side2 A8.out).mono ?_); (case side1 => repeat (first | exact (Kd.B6 HR0_2.out HB.out) | (with_reducible refine Kd.Bj ?_ _) | (with_reducible refine Kd.Bv ?_ _) | (with_reducible refine Kd.B4 ?_))); (case side2 => exact HC0_2.out); rintro e w18 ⟨v126, rfl, ho0, hb⟩; have n0_ := Aa.mk (Kd.Bt (by (with_reducible repeat (first | apply Kd.Am | apply Kd.Ak | apply Kd.Aq)); exact HO122.out) (Kd.B9 ho0) hb); have n1_ := Aa.mk (Kd.B7 (Kd.B8 ho0 (Kd.Co (by (with_reducible repeat (first | apply Kd.Am | apply Kd.Ak | apply Kd.Aq)); exact HO122.out))) (Ap (by repeat (first | (with_reducible first | exact HB.out | apply Ac | apply Ab | apply Ad | refine Ah ?_ GE117.out) | exact HB.out)))); have n2_ := Aa.mk (Ar (g := gb117) (o := .cells #[.int .i64 a0_0, .int .i64 a0_1, .slice A0_2 l0_2.length c0_2] 50 (0, 0)) (by (with_reducible repeat (first | refine Ai ?_ _ | refine Aj ?_ | refine Af ?_ _)); exact BK117.out) hb); have n3_ := Aa.mk (As (by repeat (first | (with_reducible first | exact HB.out | apply Ac | apply Ab | apply Ad | refine Ah ?_ GE117.out) | exact HB.out)) hb); clear HO122; clear BK117; clear HB; have HO122 := n0_; have HO127 := n1_; have BK117 := n2_; have HB := n3_; clear n0_ n1_ n2_ n3_; (try clear hb); (try clear hb2); (try clear hk); (try clear hi); (try clear ho0); have hcz19_0 : w18.cell? ⟨gb117, 0, none⟩ = some (.int .i64 a0_0) := (Ag BK117.out 0).trans rfl; have hcz19_1 : w18.cell? ⟨gb117, 1, none⟩ = some (.int .i64 a0_1) := (Ag BK117.out 1).trans rfl; have hcz19_2 : w18.cell? ⟨gb117, 2, none⟩ = some (.slice A0_2 l0_2.length c0_2) := (Ag BK117.out 2).trans rfl; have hfz19_0 := Ae BK117.out 0; have hfz19_1 := Ae BK117.out 1; have hfz19_2 := Ae BK117.out 2) | (go_at_call 25; (with_reducible refine (Bz.calls a0_0 a0_1 _ _ l0_2 8 t130 t133 t134 _ ?side1 ?side2 A9.out).mono ?_); (case side1 => repeat (first | exact (Kd.B6 HR0_2.out HB.out) | (with_reducible refine Kd.Bj ?_ _) | (with_reducible refine Kd.Bv ?_ _) | (with_reducible refine Kd.B4 ?_))); (case side2 => exact HC0_2.out); rintro e w20 ⟨v131, rfl, ho0, hb⟩; have n0_ := Aa.mk (Kd.Bt (by (with_reducible repeat (first | apply Kd.Am | apply Kd.Ak | apply Kd.Aq)); exact HO122.out) (Kd.B9 ho0) hb); have n1_ := Aa.mk (Kd.Bt (by (with_reducible repeat (first | apply Kd.Am | apply Kd.Ak | apply Kd.Aq)); exact HO127.out) (Kd.B9 ho0) hb); have n2_ := Aa.mk (Kd.B7 (Kd.B8 (Kd.B8 ho0 (Kd.Co (by (with_reducible repeat (first | apply Kd.Am | apply Kd.Ak | apply Kd.Aq)); exact HO122.out))) (Kd.Co (by (with_reducible repeat (first | apply Kd.Am | apply Kd.Ak | apply Kd.Aq)); exact HO127.out))) (Ap (by repeat (first | (with_reducible first | exact HB.out | apply Ac | apply Ab | apply Ad | refine Ah ?_ GE117.out) | exact HB.out)))); have n3_ := Aa.mk (Ar (g := gb117) (o := .cells #[.int .i64 a0_0, .int .i64 a0_1, .slice A0_2 l0_2.length c0_2] 50 (0, 0)) (by (with_reducible repeat (first | refine Ai ?_ _ | refine Aj ?_ | refine Af ?_ _)); exact BK117.out) hb); have n4_ := Aa.mk (As (by repeat (first | (with_reducible first | exact HB.out | apply Ac | apply Ab | apply Ad | refine Ah ?_ GE117.out) | exact HB.out)) hb); clear HO122; clear HO127; clear BK117; clear HB; have HO122 := n0_; have HO127 := n1_; have HO132 := n2_; have BK117 := n3_; have HB := n4_; clear n0_ n1_ n2_ n3_ n4_; (try clear hb); (try clear hb2); (try clear hk); (try clear hi); (try clear ho0)))
   repeat (go_quiet (first | ((with_reducible refine Bf (N := 2) rfl ?_); (try (refine Cg (by rfl) ?_; dsimp only)); refine Be ?hg (N := 2) ?hd (cs := #[.int .i64 a0_0, .int .i64 a0_1, .slice A0_2 l0_2.length c0_2]) (t := 50) ?hr ?_; (case hd => rfl); (case hg => rfl); (case hr => first | (go_simp; done) | (go_simp; rfl)); intro gb117 hg w11 hbox hb; have n0_ := Aa.mk (As (by repeat (first | (with_reducible first | exact HB.out | apply Ac | apply Ab | apply Ad) | exact HB.out)) hb); have n1_ := Aa.mk (hbox); have n2_ := Aa.mk ((by rw [hg]; exact (Ap (by repeat (first | (with_reducible first | exact HB.out | apply Ac | apply Ab | apply Ad) | exact HB.out))) : w.heap.size ≤ gb117)); have n3_ := Aa.mk ((by rw [hg]; exact (Ap (by repeat (first | (with_reducible first | exact HB.out | apply Ac | apply Ab | apply Ad) | exact HB.out))) : w.heap.size ≤ gb117)); clear HB; have HB := n0_; have BK117 := n1_; have GW117 := n2_; have GE117 := n3_; clear n0_ n1_ n2_ n3_; clear hb hbox hg) | (go_at_call 13; (with_reducible refine (Ao.calls k  true _ A3.out).mono ?_); rintro e w12 ⟨rfl, hb⟩; have n0_ := Aa.mk (Ar (g := gb117) (o := .cells #[.int .i64 a0_0, .int .i64 a0_1, .slice A0_2 l0_2.length c0_2] 50 (0, 0)) (by (with_reducible repeat (first | refine Ai ?_ _ | refine Aj ?_ | refine Af ?_ _)); exact BK117.out) hb); have n1_ := Aa.mk (As (by repeat (first | (with_reducible first | exact HB.out | apply Ac | apply Ab | apply Ad | refine Ah ?_ GE117.out) | exact HB.out)) hb); clear BK117; clear HB; have BK117 := n0_; have HB := n1_; clear n0_ n1_; (try clear hb); (try clear hb2); (try clear hk); (try clear hi); have hcz13_0 : w12.cell? ⟨gb117, 0, none⟩ = some (.int .i64 a0_0) := (Ag BK117.out 0).trans rfl; have hcz13_1 : w12.cell? ⟨gb117, 1, none⟩ = some (.int .i64 a0_1) := (Ag BK117.out 1).trans rfl; have hcz13_2 : w12.cell? ⟨gb117, 2, none⟩ = some (.slice A0_2 l0_2.length c0_2) := (Ag BK117.out 2).trans rfl; have hfz13_0 := Ae BK117.out 0; have hfz13_1 := Ae BK117.out 1; have hfz13_2 := Ae BK117.out 2) | (go_at_call 36; (with_reducible refine (Cc.calls a0_0 a0_1 _ _ l0_2 a1 true _ ?side1 ?side2 A5.out).mono ?_); (case side1 => repeat (first | exact (Kd.B6 HR0_2.out HB.out) | (with_reducible refine Kd.Bj ?_ _) | (with_reducible refine Kd.Bv ?_ _) | (with_reducible refine Kd.B4 ?_))); (case side2 => exact HC0_2.out); rintro e w14 ⟨rfl, hb⟩; have n0_ := Aa.mk (Ar (g := gb117) (o := .cells #[.int .i64 a0_0, .int .i64 a0_1, .slice A0_2 l0_2.length c0_2] 50 (0, 0)) (by (with_reducible repeat (first | refine Ai ?_ _ | refine Aj ?_ | refine Af ?_ _)); exact BK117.out) hb); have n1_ := Aa.mk (As (by repeat (first | (with_reducible first | exact HB.out | apply Ac | apply Ab | apply Ad | refine Ah ?_ GE117.out) | exact HB.out)) hb); clear BK117; clear HB; have BK117 := n0_; have HB := n1_; clear n0_ n1_; (try clear hb); (try clear hb2); (try clear hk); (try clear hi); have hcz15_0 : w14.cell? ⟨gb117, 0, none⟩ = some (.int .i64 a0_0) := (Ag BK117.out 0).trans rfl; have hcz15_1 : w14.cell? ⟨gb117, 1, none⟩ = some (.int .i64 a0_1) := (Ag BK117.out 1).trans rfl; have hcz15_2 : w14.cell? ⟨gb117, 2, none⟩ = some (.slice A0_2 l0_2.length c0_2) := (Ag BK117.out 2).trans rfl; have hfz15_0 := Ae BK117.out 0; have hfz15_1 := Ae BK117.out 1; have hfz15_2 := Ae BK117.out 2) | (go_at_call 25; (with_reducible refine (Bz.calls a0_0 a0_1 _ _ l0_2 a1 t120 t123 t124 _ ?side1 ?side2 A7.out).mono ?_); (case side1 => repeat (first | exact (Kd.B6 HR0_2.out HB.out) | (with_reducible refine Kd.Bj ?_ _) | (with_reducible refine Kd.Bv ?_ _) | (with_reducible refine Kd.B4 ?_))); (case side2 => exact HC0_2.out); rintro e w16 ⟨v121, rfl, ho0, hb⟩; have n0_ := Aa.mk (Kd.B7 ho0 (Ap (by repeat (first | (with_reducible first | exact HB.out | apply Ac | apply Ab | apply Ad | refine Ah ?_ GE117.out) | exact HB.out)))); have n1_ := Aa.mk (Ar (g := gb117) (o := .cells #[.int .i64 a0_0, .int .i64 a0_1, .slice A0_2 l0_2.length c0_2] 50 (0, 0)) (by (with_reducible repeat (first | refine Ai ?_ _ | refine Aj ?_ | refine Af ?_ _)); exact BK117.out) hb); have n2_ := Aa.mk (As (by repeat (first | (with_reducible first | exact HB.out | apply Ac | apply Ab | apply Ad | refine Ah ?_ GE117.out) | exact HB.out)) hb); clear BK117; clear HB; have HO122 := n0_; have BK117 := n1_; have HB := n2_; clear n0_ n1_ n2_; (try clear hb); (try clear hb2); (try clear hk); (try clear hi); (try clear ho0); have hcz17_0 : w16.cell? ⟨gb117, 0, none⟩ = some (.int .i64 a0_0) := (Ag BK117.out 0).trans rfl; have hcz17_1 : w16.cell? ⟨gb117, 1, none⟩ = some (.int .i64 a0_1) := (Ag BK117.out 1).trans rfl; have hcz17_2 : w16.cell? ⟨gb117, 2, none⟩ = some (.slice A0_2 l0_2.length c0_2) := (Ag BK117.out 2).trans rfl; have hfz17_0 := Ae BK117.out 0; have hfz17_1 := Ae BK117.out 1; have hfz17_2 := Ae BK117.out 2) | (go_at_call 25; (with_reducible refine (Bz.calls a0_0 a0_1 _ _ l0_2 4 t125 t128 t129 _ ?side1 ?side2 A8.out).mono ?_); (case side1 => repeat (first | exact (Kd.B6 HR0_2.out HB.out) | (with_reducible refine Kd.Bj ?_ _) | (with_reducible refine Kd.Bv ?_ _) | (with_reducible refine Kd.B4 ?_))); (case side2 => exact HC0_2.out); rintro e w18 ⟨v126, rfl, ho0, hb⟩; have n0_ := Aa.mk (Kd.Bt (by (with_reducible repeat (first | apply Kd.Am | apply Kd.Ak | apply Kd.Aq)); exact HO122.out) (Kd.B9 ho0) hb); have n1_ := Aa.mk (Kd.B7 (Kd.B8 ho0 (Kd.Co (by (with_reducible repeat (first | apply Kd.Am | apply Kd.Ak | apply Kd.Aq)); exact HO122.out))) (Ap (by repeat (first | (with_reducible first | exact HB.out | apply Ac | apply Ab | apply Ad | refine Ah ?_ GE117.out) | exact HB.out)))); have n2_ := Aa.mk (Ar (g := gb117) (o := .cells #[.int .i64 a0_0, .int .i64 a0_1, .slice A0_2 l0_2.length c0_2] 50 (0, 0)) (by (with_reducible repeat (first | refine Ai ?_ _ | refine Aj ?_ | refine Af ?_ _)); exact BK117.out) hb); have n3_ := Aa.mk (As (by repeat (first | (with_reducible first | exact HB.out | apply Ac | apply Ab | apply Ad | refine Ah ?_ GE117.out) | exact HB.out)) hb); clear HO122; clear BK117; clear HB; have HO122 := n0_; have HO127 := n1_; have BK117 := n2_; have HB := n3_; clear n0_ n1_ n2_ n3_; (try clear hb); (try clear hb2); (try clear hk); (try clear hi); (try clear ho0); have hcz19_0 : w18.cell? ⟨gb117, 0, none⟩ = some (.int .i64 a0_0) := (Ag BK117.out 0).trans rfl; have hcz19_1 : w18.cell? ⟨gb117, 1, none⟩ = some (.int .i64 a0_1) := (Ag BK117.out 1).trans rfl; have hcz19_2 : w18.cell? ⟨gb117, 2, none⟩ = some (.slice A0_2 l0_2.length c0_2) := (Ag BK117.out 2).trans rfl; have hfz19_0 := Ae BK117.out 0; have hfz19_1 := Ae BK117.out 1; have hfz19_2 := Ae BK117.out 2) | (go_at_call 25; (with_reducible refine (Bz.calls a0_0 a0_1 _ _ l0_2 8 t130 t133 t134 _ ?side1 ?side2 A9.out).mono ?_); (case side1 => repeat (first | exact (Kd.B6 HR0_2.out HB.out) | (with_reducible refine Kd.Bj ?_ _) | (with_reducible refine Kd.Bv ?_ _) | (with_reducible refine Kd.B4 ?_))); (case side2 => exact HC0_2.out); rintro e w20 ⟨v131, rfl, ho0, hb⟩; have n0_ := Aa.mk (Kd.Bt (by (with_reducible repeat (first | apply Kd.Am | apply Kd.Ak | apply Kd.Aq)); exact HO122.out) (Kd.B9 ho0) hb); have n1_ := Aa.mk (Kd.Bt (by (with_reducible repeat (first | apply Kd.Am | apply Kd.Ak | apply Kd.Aq)); exact HO127.out) (Kd.B9 ho0) hb); have n2_ := Aa.mk (Kd.B7 (Kd.B8 (Kd.B8 ho0 (Kd.Co (by (with_reducible repeat (first | apply Kd.Am | apply Kd.Ak | apply Kd.Aq)); exact HO122.out))) (Kd.Co (by (with_reducible repeat (first | apply Kd.Am | apply Kd.Ak | apply Kd.Aq)); exact HO127.out))) (Ap (by repeat (first | (with_reducible first | exact HB.out | apply Ac | apply Ab | apply Ad | refine Ah ?_ GE117.out) | exact HB.out)))); have n3_ := Aa.mk (Ar (g := gb117) (o := .cells #[.int .i64 a0_0, .int .i64 a0_1, .slice A0_2 l0_2.length c0_2] 50 (0, 0)) (by (with_reducible repeat (first | refine Ai ?_ _ | refine Aj ?_ | refine Af ?_ _)); exact BK117.out) hb); have n4_ := Aa.mk (As (by repeat (first | (with_reducible first | exact HB.out | apply Ac | apply Ab | apply Ad | refine Ah ?_ GE117.out) | exact HB.out)) hb); clear HO122; clear HO127; clear BK117; clear HB; have HO122 := n0_; have HO127 := n1_; have HO132 := n2_; have BK117 := n3_; have HB := n4_; clear n0_ n1_ n2_ n3_ n4_; (try clear hb); (try clear hb2); (try clear hk); (try clear hi); (try clear ho0))); go_upto_region 8 with (first | ((with_reducible refine Bf (N := 2) rfl ?_); (try (refine Cg (by rfl) ?_; dsimp only)); refine Be ?hg (N := 2) ?hd (cs := #[.int .i64 a0_0, .int .i64 a0_1, .slice A0_2 l0_2.length c0_2]) (t := 50) ?hr ?_; (case hd => rfl); (case hg => rfl); (case hr => first | (go_simp; done) | (go_simp; rfl)); intro gb117 hg w11 hbox hb; have n0_ := Aa.mk (As (by repeat (first | (with_reducible first | exact HB.out | apply Ac | apply Ab | apply Ad) | exact HB.out)) hb); have n1_ := Aa.mk (hbox); have n2_ := Aa.mk ((by rw [hg]; exact (Ap (by repeat (first | (with_reducible first | exact HB.out | apply Ac | apply Ab | apply Ad) | exact HB.out))) : w.heap.size ≤ gb117)); have n3_ := Aa.mk ((by rw [hg]; exact (Ap (by repeat (first | (with_reducible first | exact HB.out | apply Ac | apply Ab | apply Ad) | exact HB.out))) : w.heap.size ≤ gb117)); clear HB; have HB := n0_; have BK117 := n1_; have GW117 := n2_; have GE117 := n3_; clear n0_ n1_ n2_ n3_; clear hb hbox hg) | (go_at_call 13; (with_reducible refine (Ao.calls k  true _ A3.out).mono ?_); rintro e w12 ⟨rfl, hb⟩; have n0_ := Aa.mk (Ar (g := gb117) (o := .cells #[.int .i64 a0_0, .int .i64 a0_1, .slice A0_2 l0_2.length c0_2] 50 (0, 0)) (by (with_reducible repeat (first | refine Ai ?_ _ | refine Aj ?_ | refine Af ?_ _)); exact BK117.out) hb); have n1_ := Aa.mk (As (by repeat (first | (with_reducible first | exact HB.out | apply Ac | apply Ab | apply Ad | refine Ah ?_ GE117.out) | exact HB.out)) hb); clear BK117; clear HB; have BK117 := n0_; have HB := n1_; clear n0_ n1_; (try clear hb); (try clear hb2); (try clear hk); (try clear hi); have hcz13_0 : w12.cell? ⟨gb117, 0, none⟩ = some (.int .i64 a0_0) := (Ag BK117.out 0).trans rfl; have hcz13_1 : w12.cell? ⟨gb117, 1, none⟩ = some (.int .i64 a0_1) := (Ag BK117.out 1).trans rfl; have hcz13_2 : w12.cell? ⟨gb117, 2, none⟩ = some (.slice A0_2 l0_2.length c0_2) := (Ag BK117.out 2).trans rfl; have hfz13_0 := Ae BK117.out 0; have hfz13_1 := Ae BK117.out 1; have hfz13_2 := Ae BK117.out 2) | (go_at_call 36; (with_reducible refine (Cc.calls a0_0 a0_1 _ _ l0_2 a1 true _ ?side1 ?side2 A5.out).mono ?_); (case side1 => repeat (first | exact (Kd.B6 HR0_2.out HB.out) | (with_reducible refine Kd.Bj ?_ _) | (with_reducible refine Kd.Bv ?_ _) | (with_reducible refine Kd.B4 ?_))); (case side2 => exact HC0_2.out); rintro e w14 ⟨rfl, hb⟩; have n0_ := Aa.mk (Ar (g := gb117) (o := .cells #[.int .i64 a0_0, .int .i64 a0_1, .slice A0_2 l0_2.length c0_2] 50 (0, 0)) (by (with_reducible repeat (first | refine Ai ?_ _ | refine Aj ?_ | refine Af ?_ _)); exact BK117.out) hb); have n1_ := Aa.mk (As (by repeat (first | (with_reducible first | exact HB.out | apply Ac | apply Ab | apply Ad | refine Ah ?_ GE117.out) | exact HB.out)) hb); clear BK117; clear HB; have BK117 := n0_; have HB := n1_; clear n0_ n1_; (try clear hb); (try clear hb2); (try clear hk); (try clear hi); have hcz15_0 : w14.cell? ⟨gb117, 0, none⟩ = some (.int .i64 a0_0) := (Ag BK117.out 0).trans rfl; have hcz15_1 : w14.cell? ⟨gb117, 1, none⟩ = some (.int .i64 a0_1) := (Ag BK117.out 1).trans rfl; have hcz15_2 : w14.cell? ⟨gb117, 2, none⟩ = some (.slice A0_2 l0_2.length c0_2) := (Ag BK117.out 2).trans rfl; have hfz15_0 := Ae BK117.out 0; have hfz15_1 := Ae BK117.out 1; have hfz15_2 := Ae BK117.out 2) | (go_at_call 25; (with_reducible refine (Bz.calls a0_0 a0_1 _ _ l0_2 a1 t120 t123 t124 _ ?side1 ?side2 A7.out).mono ?_); (case side1 => repeat (first | exact (Kd.B6 HR0_2.out HB.out) | (with_reducible refine Kd.Bj ?_ _) | (with_reducible refine Kd.Bv ?_ _) | (with_reducible refine Kd.B4 ?_))); (case side2 => exact HC0_2.out); rintro e w16 ⟨v121, rfl, ho0, hb⟩; have n0_ := Aa.mk (Kd.B7 ho0 (Ap (by repeat (first | (with_reducible first | exact HB.out | apply Ac | apply Ab | apply Ad | refine Ah ?_ GE117.out) | exact HB.out)))); have n1_ := Aa.mk (Ar (g := gb117) (o := .cells #[.int .i64 a0_0, .int .i64 a0_1, .slice A0_2 l0_2.length c0_2] 50 (0, 0)) (by (with_reducible repeat (first | refine Ai ?_ _ | refine Aj ?_ | refine Af ?_ _)); exact BK117.out) hb); have n2_ := Aa.mk (As (by repeat (first | (with_reducible first | exact HB.out | apply Ac | apply Ab | apply Ad | refine Ah ?_ GE117.out) | exact HB.out)) hb); clear BK117; clear HB; have HO122 := n0_; have BK117 := n1_; have HB := n2_; clear n0_ n1_ n2_; (try clear hb); (try clear hb2); (try clear hk); (try clear hi); (try clear ho0); have hcz17_0 : w16.cell? ⟨gb117, 0, none⟩ = some (.int .i64 a0_0) := (Ag BK117.out 0).trans rfl; have hcz17_1 : w16.cell? ⟨gb117, 1, none⟩ = some (.int .i64 a0_1) := (Ag BK117.out 1).trans rfl; have hcz17_2 : w16.cell? ⟨gb117, 2, none⟩ = some (.slice A0_2 l0_2.length c0_2) := (Ag BK117.out 2).trans rfl; have hfz17_0 := Ae BK117.out 0; have hfz17_1 := Ae BK117.out 1; have hfz17_2 := Ae BK117.out 2) | (go_at_call 25; (with_reducible refine (Bz.calls a0_0 a0_1 _ _ l0_2 4 t125 t128 t129 _ ?side1 ?side2 A8.out).mono ?_); (case side1 => repeat (first | exact (Kd.B6 HR0_2.out HB.out) | (with_reducible refine Kd.Bj ?_ _) | (with_reducible refine Kd.Bv ?_ _) | (with_reducible refine Kd.B4 ?_))); (case side2 => exact HC0_2.out); rintro e w18 ⟨v126, rfl, ho0, hb⟩; have n0_ := Aa.mk (Kd.Bt (by (with_reducible repeat (first | apply Kd.Am | apply Kd.Ak | apply Kd.Aq)); exact HO122.out) (Kd.B9 ho0) hb); have n1_ := Aa.mk (Kd.B7 (Kd.B8 ho0 (Kd.Co (by (with_reducible repeat (first | apply Kd.Am | apply Kd.Ak | apply Kd.Aq)); exact HO122.out))) (Ap (by repeat (first | (with_reducible first | exact HB.out | apply Ac | apply Ab | apply Ad | refine Ah ?_ GE117.out) | exact HB.out)))); have n2_ := Aa.mk (Ar (g := gb117) (o := .cells #[.int .i64 a0_0, .int .i64 a0_1, .slice A0_2 l0_2.length c0_2] 50 (0, 0)) (by (with_reducible repeat (first | refine Ai ?_ _ | refine Aj ?_ | refine Af ?_ _)); exact BK117.out) hb); have n3_ := Aa.mk (As (by repeat (first | (with_reducible first | exact HB.out | apply Ac | apply Ab | apply Ad | refine Ah ?_ GE117.out) | exact HB.out)) hb); clear HO122; clear BK117; clear HB; have HO122 := n0_; have HO127 := n1_; have BK117 := n2_; have HB := n3_; clear n0_ n1_ n2_ n3_; (try clear hb); (try clear hb2); (try clear hk); (try clear hi); (try clear ho0); have hcz19_0 : w18.cell? ⟨gb117, 0, none⟩ = some (.int .i64 a0_0) := (Ag BK117.out 0).trans rfl; have hcz19_1 : w18.cell? ⟨gb117, 1, none⟩ = some (.int .i64 a0_1) := (Ag BK117.out 1).trans rfl; have hcz19_2 : w18.cell? ⟨gb117, 2, none⟩ = some (.slice A0_2 l0_2.length c0_2) := (Ag BK117.out 2).trans rfl; have hfz19_0 := Ae BK117.out 0; have hfz19_1 := Ae BK117.out 1; have hfz19_2 := Ae BK117.out 2) | (go_at_call 25; (with_reducible refine (Bz.calls a0_0 a0_1 _ _ l0_2 8 t130 t133 t134 _ ?side1 ?side2 A9.out).mono ?_); (case side1 => repeat (first | exact (Kd.B6 HR0_2.out HB.out) | (with_reducible refine Kd.Bj ?_ _) | (with_reducible refine Kd.Bv ?_ _) | (with_reducible refine Kd.B4 ?_))); (case side2 => exact HC0_2.out); rintro e w20 ⟨v131, rfl, ho0, hb⟩; have n0_ := Aa.mk (Kd.Bt (by (with_reducible repeat (first | apply Kd.Am | apply Kd.Ak | apply Kd.Aq)); exact HO122.out) (Kd.B9 ho0) hb); have n1_ := Aa.mk (Kd.Bt (by (with_reducible repeat (first | apply Kd.Am | apply Kd.Ak | apply Kd.Aq)); exact HO127.out) (Kd.B9 ho0) hb); have n2_ := Aa.mk (Kd.B7 (Kd.B8 (Kd.B8 ho0 (Kd.Co (by (with_reducible repeat (first | apply Kd.Am | apply Kd.Ak | apply Kd.Aq)); exact HO122.out))) (Kd.Co (by (with_reducible repeat (first | apply Kd.Am | apply Kd.Ak | apply Kd.Aq)); exact HO127.out))) (Ap (by repeat (first | (with_reducible first | exact HB.out | apply Ac | apply Ab | apply Ad | refine Ah ?_ GE117.out) | exact HB.out)))); have n3_ := Aa.mk (Ar (g := gb117) (o := .cells #[.int .i64 a0_0, .int .i64 a0_1, .slice A0_2 l0_2.length c0_2] 50 (0, 0)) (by (with_reducible repeat (first | refine Ai ?_ _ | refine Aj ?_ | refine Af ?_ _)); exact BK117.out) hb); have n4_ := Aa.mk (As (by repeat (first | (with_reducible first | exact HB.out | apply Ac | apply Ab | apply Ad | refine Ah ?_ GE117.out) | exact HB.out)) hb); clear HO122; clear HO127; clear BK117; clear HB; have HO122 := n0_; have HO127 := n1_; have HO132 := n2_; have BK117 := n3_; have HB := n4_; clear n0_ n1_ n2_ n3_ n4_; (try clear hb); (try clear hb2); (try clear hk); (try clear hi); (try clear ho0))))
   (try simp only [Act.put, List.setIfInBounds_toArray, List.set_cons_zero, List.set_cons_succ])
   go_cut [64] (fun v64 wc => ∃ (kq : Nat) (x64_9 : Bool), v64 = .bool x64_9 ∧ Aa (An.j0 kq a1 t120 t123 x64_9 a0_0 a0_1 l0_2 = some r) ∧ Aa (kq ≤ k) ∧ Aa (Kd.R (Kd.int .i64) 3 wc w.heap.size (fun _ => True) v121 t120) ∧ Aa (wc.heap[gb117]? = some (.cells #[.int .i64 a0_0, .int .i64 a0_1, (.slice A0_2 l0_2.length c0_2)] 50 (0, 0))) ∧ Aa (Below w.heap.size w wc))
   case first =>
    have H := HC10.out
    clear HC10
    replace H := Option.bind_eq_some_iff.mp H
    obtain ⟨t135, A210, H⟩ := H
    replace H : ((Aw.f t129).bind fun t136 => ((Aw.f t134).bind fun t137 => (if (wrap64 ((wrap64 (t135 + t136)) + t137)) = 0 then (if (t120.length : Int) = (l0_2.length : Int) then (An.j0 k a1 t120 t123 (decide (t133 > t128)) a0_0 a0_1 l0_2) else (An.j0 k a1 t120 t123 true a0_0 a0_1 l0_2)) else (An.j0 k a1 t120 t123 true a0_0 a0_1 l0_2)))) = some r := H
    have A21 := Aa.mk A210
    clear A210
    replace H := Option.bind_eq_some_iff.mp H
    obtain ⟨t136, A220, H⟩ := H
    replace H : ((Aw.f t134).bind fun t137 => (if (wrap64 ((wrap64 (t135 + t136)) + t137)) = 0 then (if (t120.length : Int) = (l0_2.length : Int) then (An.j0 k a1 t120 t123 (decide (t133 > t128)) a0_0 a0_1 l0_2) else (An.j0 k a1 t120 t123 true a0_0 a0_1 l0_2)) else (An.j0 k a1 t120 t123 true a0_0 a0_1 l0_2))) = some r := H
    have A22 := Aa.mk A220
    clear A220
    replace H := Option.bind_eq_some_iff.mp H
    obtain ⟨t137, A230, H⟩ := H
    replace H : (if (wrap64 ((wrap64 (t135 + t136)) + t137)) = 0 then (if (t120.length : Int) = (l0_2.length : Int) then (An.j0 k a1 t120 t123 (decide (t133 > t128)) a0_0 a0_1 l0_2) else (An.j0 k a1 t120 t123 true a0_0 a0_1 l0_2)) else (An.j0 k a1 t120 t123 true a0_0 a0_1 l0_2)) = some r := H
    have A23 := Aa.mk A230
    clear A230
    by_cases c24 : (wrap64 ((wrap64 (t135 + t136)) + t137)) = 0
    ·rw [if_pos c24] at H
     have c24b0 : ((wrap64 ((wrap64 (t135 + t136)) + t137)) == 0) = true := beq_iff_eq.mpr c24
     have c24b1 : ((wrap64 ((wrap64 (t135 + t136)) + t137)) != 0) = false := bne_eq_false_iff_eq.mpr c24
     clear c24
     (first | rw [c24b0] | (simp only [i64_w, i32_w]; rw [c24b0]) | skip)
     by_cases c25 : (t120.length : Int) = (l0_2.length : Int)
     ·rw [if_pos c25] at H
      have c25b0 : ((t120.length : Int) == (l0_2.length : Int)) = true := beq_iff_eq.mpr c25
      have c25b1 : ((t120.length : Int) != (l0_2.length : Int)) = false := bne_eq_false_iff_eq.mpr c25
      have c25b2 : (t120.length == l0_2.length) = true := by first | simpa using c25 | (simp at c25 ⊢; omega)
      clear c25
      have H' := Aa.mk H
      clear H
      go_wp2_with (first | (go_at_call 17; (with_reducible refine (Aw.calls t124 t135 _ A21.out).mono ?_); rintro e w' ⟨rfl, ⟨nd, rfl⟩⟩; (try first | exact ⟨rfl, _, World.drewN_drewN _ _ _⟩ | exact ⟨rfl, _, Eq.trans (World.drewN_drewN _ _ _) (congrArg (World.drewN _) (Nat.add_assoc _ _ _))⟩)) | (go_at_call 17; (with_reducible refine (Aw.calls t129 t136 _ A22.out).mono ?_); rintro e w' ⟨rfl, ⟨nd, rfl⟩⟩; (try first | exact ⟨rfl, _, World.drewN_drewN _ _ _⟩ | exact ⟨rfl, _, Eq.trans (World.drewN_drewN _ _ _) (congrArg (World.drewN _) (Nat.add_assoc _ _ _))⟩)) | (go_at_call 17; (with_reducible refine (Aw.calls t134 t137 _ A23.out).mono ?_); rintro e w' ⟨rfl, ⟨nd, rfl⟩⟩; (try first | exact ⟨rfl, _, World.drewN_drewN _ _ _⟩ | exact ⟨rfl, _, Eq.trans (World.drewN_drewN _ _ _) (congrArg (World.drewN _) (Nat.add_assoc _ _ _))⟩); obtain ⟨Ao26, co26, eo26⟩ := Kd.B2 HO122.out; subst eo26; have hcz27_0 : w20.cell? ⟨gb117, 0, none⟩ = some (.int .i64 a0_0) := (Ag BK117.out 0).trans rfl; have hcz27_1 : w20.cell? ⟨gb117, 1, none⟩ = some (.int .i64 a0_1) := (Ag BK117.out 1).trans rfl; have hcz27_2 : w20.cell? ⟨gb117, 2, none⟩ = some (.slice A0_2 l0_2.length c0_2) := (Ag BK117.out 2).trans rfl; have hfz27_0 := Ae BK117.out 0; have hfz27_1 := Ae BK117.out 1; have hfz27_2 := Ae BK117.out 2))
      repeat (go_quiet (first | (go_at_call 17; (with_reducible refine (Aw.calls t124 t135 _ A21.out).mono ?_); rintro e w' ⟨rfl, ⟨nd, rfl⟩⟩; (try first | exact ⟨rfl, _, World.drewN_drewN _ _ _⟩ | exact ⟨rfl, _, Eq.trans (World.drewN_drewN _ _ _) (congrArg (World.drewN _) (Nat.add_assoc _ _ _))⟩)) | (go_at_call 17; (with_reducible refine (Aw.calls t129 t136 _ A22.out).mono ?_); rintro e w' ⟨rfl, ⟨nd, rfl⟩⟩; (try first | exact ⟨rfl, _, World.drewN_drewN _ _ _⟩ | exact ⟨rfl, _, Eq.trans (World.drewN_drewN _ _ _) (congrArg (World.drewN _) (Nat.add_assoc _ _ _))⟩)) | (go_at_call 17; (with_reducible refine (Aw.calls t134 t137 _ A23.out).mono ?_); rintro e w' ⟨rfl, ⟨nd, rfl⟩⟩; (try first | exact ⟨rfl, _, World.drewN_drewN _ _ _⟩ | exact ⟨rfl, _, Eq.trans (World.drewN_drewN _ _ _) (congrArg (World.drewN _) (Nat.add_assoc _ _ _))⟩); obtain ⟨Ao26, co26, eo26⟩ := Kd.B2 HO122.out; subst eo26; have hcz27_0 : w20.cell? ⟨gb117, 0, none⟩ = some (.int .i64 a0_0) := (Ag BK117.out 0).trans rfl; have hcz27_1 : w20.cell? ⟨gb117, 1, none⟩ = some (.int .i64 a0_1) := (Ag BK117.out 1).trans rfl; have hcz27_2 : w20.cell? ⟨gb117, 2, none⟩ = some (.slice A0_2 l0_2.length c0_2) := (Ag BK117.out 2).trans rfl; have hfz27_0 := Ae BK117.out 0; have hfz27_1 := Ae BK117.out 1; have hfz27_2 := Ae BK117.out 2)); try go_wp2_with (first | (go_at_call 17; (with_reducible refine (Aw.calls t124 t135 _ A21.out).mono ?_); rintro e w' ⟨rfl, ⟨nd, rfl⟩⟩; (try first | exact ⟨rfl, _, World.drewN_drewN _ _ _⟩ | exact ⟨rfl, _, Eq.trans (World.drewN_drewN _ _ _) (congrArg (World.drewN _) (Nat.add_assoc _ _ _))⟩)) | (go_at_call 17; (with_reducible refine (Aw.calls t129 t136 _ A22.out).mono ?_); rintro e w' ⟨rfl, ⟨nd, rfl⟩⟩; (try first | exact ⟨rfl, _, World.drewN_drewN _ _ _⟩ | exact ⟨rfl, _, Eq.trans (World.drewN_drewN _ _ _) (congrArg (World.drewN _) (Nat.add_assoc _ _ _))⟩)) | (go_at_call 17; (with_reducible refine (Aw.calls t134 t137 _ A23.out).mono ?_); rintro e w' ⟨rfl, ⟨nd, rfl⟩⟩; (try first | exact ⟨rfl, _, World.drewN_drewN _ _ _⟩ | exact ⟨rfl, _, Eq.trans (World.drewN_drewN _ _ _) (congrArg (World.drewN _) (Nat.add_assoc _ _ _))⟩); obtain ⟨Ao26, co26, eo26⟩ := Kd.B2 HO122.out; subst eo26; have hcz27_0 : w20.cell? ⟨gb117, 0, none⟩ = some (.int .i64 a0_0) := (Ag BK117.out 0).trans rfl; have hcz27_1 : w20.cell? ⟨gb117, 1, none⟩ = some (.int .i64 a0_1) := (Ag BK117.out 1).trans rfl; have hcz27_2 : w20.cell? ⟨gb117, 2, none⟩ = some (.slice A0_2 l0_2.length c0_2) := (Ag BK117.out 2).trans rfl; have hfz27_0 := Ae BK117.out 0; have hfz27_1 := Ae BK117.out 1; have hfz27_2 := Ae BK117.out 2)))
      go_meet
      case rel => exact ⟨_, (decide (t133 > t128)), (by first | rfl | (simp; done) | (simp [*]; done)), H', ⟨by first | omega | exact Nat.le_refl _⟩, ⟨by (with_reducible repeat (first | apply Kd.Am | apply Kd.Ak | apply Kd.Aq)); exact Kd.Bq HO122.out (fun _ hk => trivial)⟩, ⟨by (with_reducible repeat (first | refine Ai ?_ _ | refine Aj ?_ | refine Af ?_ _)); exact BK117.out⟩, ⟨by repeat (first | (with_reducible first | exact HB.out | apply Ac | apply Ab | apply Ad | refine Ah ?_ GE117.out) | exact HB.out)⟩⟩
     ·rw [if_neg c25] at H
      have c25b0 : ((t120.length : Int) == (l0_2.length : Int)) = false := beq_eq_false_iff_ne.mpr c25
      have c25b1 : ((t120.length : Int) != (l0_2.length : Int)) = true := bne_iff_ne.mpr c25
      have c25b2 : (t120.length == l0_2.length) = false := by first | simpa using c25 | (simp at c25 ⊢; omega)
      have H' := Aa.mk H
      clear H
      go_wp2_with (first | (go_at_call 17; (with_reducible refine (Aw.calls t124 t135 _ A21.out).mono ?_); rintro e w' ⟨rfl, ⟨nd, rfl⟩⟩; (try first | exact ⟨rfl, _, World.drewN_drewN _ _ _⟩ | exact ⟨rfl, _, Eq.trans (World.drewN_drewN _ _ _) (congrArg (World.drewN _) (Nat.add_assoc _ _ _))⟩)) | (go_at_call 17; (with_reducible refine (Aw.calls t129 t136 _ A22.out).mono ?_); rintro e w' ⟨rfl, ⟨nd, rfl⟩⟩; (try first | exact ⟨rfl, _, World.drewN_drewN _ _ _⟩ | exact ⟨rfl, _, Eq.trans (World.drewN_drewN _ _ _) (congrArg (World.drewN _) (Nat.add_assoc _ _ _))⟩)) | (go_at_call 17; (with_reducible refine (Aw.calls t134 t137 _ A23.out).mono ?_); rintro e w' ⟨rfl, ⟨nd, rfl⟩⟩; (try first | exact ⟨rfl, _, World.drewN_drewN _ _ _⟩ | exact ⟨rfl, _, Eq.trans (World.drewN_drewN _ _ _) (congrArg (World.drewN _) (Nat.add_assoc _ _ _))⟩); obtain ⟨Ao28, co28, eo28⟩ := Kd.B2 HO122.out; subst eo28; have hcz29_0 : w20.cell? ⟨gb117, 0, none⟩ = some (.int .i64 a0_0) := (Ag BK117.out 0).trans rfl; have hcz29_1 : w20.cell? ⟨gb117, 1, none⟩ = some (.int .i64 a0_1) := (Ag BK117.out 1).trans rfl; have hcz29_2 : w20.cell? ⟨gb117, 2, none⟩ = some (.slice A0_2 l0_2.length c0_2) := (Ag BK117.out 2).trans rfl; have hfz29_0 := Ae BK117.out 0; have hfz29_1 := Ae BK117.out 1; have hfz29_2 := Ae BK117.out 2))
      repeat (go_quiet (first | (go_at_call 17; (with_reducible refine (Aw.calls t124 t135 _ A21.out).mono ?_); rintro e w' ⟨rfl, ⟨nd, rfl⟩⟩; (try first | exact ⟨rfl, _, World.drewN_drewN _ _ _⟩ | exact ⟨rfl, _, Eq.trans (World.drewN_drewN _ _ _) (congrArg (World.drewN _) (Nat.add_assoc _ _ _))⟩)) | (go_at_call 17; (with_reducible refine (Aw.calls t129 t136 _ A22.out).mono ?_); rintro e w' ⟨rfl, ⟨nd, rfl⟩⟩; (try first | exact ⟨rfl, _, World.drewN_drewN _ _ _⟩ | exact ⟨rfl, _, Eq.trans (World.drewN_drewN _ _ _) (congrArg (World.drewN _) (Nat.add_assoc _ _ _))⟩)) | (go_at_call 17; (with_reducible refine (Aw.calls t134 t137 _ A23.out).mono ?_); rintro e w' ⟨rfl, ⟨nd, rfl⟩⟩; (try first | exact ⟨rfl, _, World.drewN_drewN _ _ _⟩ | exact ⟨rfl, _, Eq.trans (World.drewN_drewN _ _ _) (congrArg (World.drewN _) (Nat.add_assoc _ _ _))⟩); obtain ⟨Ao28, co28, eo28⟩ := Kd.B2 HO122.out; subst eo28; have hcz29_0 : w20.cell? ⟨gb117, 0, none⟩ = some (.int .i64 a0_0) := (Ag BK117.out 0).trans rfl; have hcz29_1 : w20.cell? ⟨gb117, 1, none⟩ = some (.int .i64 a0_1) := (Ag BK117.out 1).trans rfl; have hcz29_2 : w20.cell? ⟨gb117, 2, none⟩ = some (.slice A0_2 l0_2.length c0_2) := (Ag BK117.out 2).trans rfl; have hfz29_0 := Ae BK117.out 0; have hfz29_1 := Ae BK117.out 1; have hfz29_2 := Ae BK117.out 2)); try go_wp2_with (first | (go_at_call 17; (with_reducible refine (Aw.calls t124 t135 _ A21.out).mono ?_); rintro e w' ⟨rfl, ⟨nd, rfl⟩⟩; (try first | exact ⟨rfl, _, World.drewN_drewN _ _ _⟩ | exact ⟨rfl, _, Eq.trans (World.drewN_drewN _ _ _) (congrArg (World.drewN _) (Nat.add_assoc _ _ _))⟩)) | (go_at_call 17; (with_reducible refine (Aw.calls t129 t136 _ A22.out).mono ?_); rintro e w' ⟨rfl, ⟨nd, rfl⟩⟩; (try first | exact ⟨rfl, _, World.drewN_drewN _ _ _⟩ | exact ⟨rfl, _, Eq.trans (World.drewN_drewN _ _ _) (congrArg (World.drewN _) (Nat.add_assoc _ _ _))⟩)) | (go_at_call 17; (with_reducible refine (Aw.calls t134 t137 _ A23.out).mono ?_); rintro e w' ⟨rfl, ⟨nd, rfl⟩⟩; (try first | exact ⟨rfl, _, World.drewN_drewN _ _ _⟩ | exact ⟨rfl, _, Eq.trans (World.drewN_drewN _ _ _) (congrArg (World.drewN _) (Nat.add_assoc _ _ _))⟩); obtain ⟨Ao28, co28, eo28⟩ := Kd.B2 HO122.out; subst eo28; have hcz29_0 : w20.cell? ⟨gb117, 0, none⟩ = some (.int .i64 a0_0) := (Ag BK117.out 0).trans rfl; have hcz29_1 : w20.cell? ⟨gb117, 1, none⟩ = some (.int .i64 a0_1) := (Ag BK117.out 1).trans rfl; have hcz29_2 : w20.cell? ⟨gb117, 2, none⟩ = some (.slice A0_2 l0_2.length c0_2) := (Ag BK117.out 2).trans rfl; have hfz29_0 := Ae BK117.out 0; have hfz29_1 := Ae BK117.out 1; have hfz29_2 := Ae BK117.out 2)))
      go_meet
      case rel => exact ⟨_, (true), (by first | rfl | (simp; done) | (simp [*]; done)), H', ⟨by first | omega | exact Nat.le_refl _⟩, ⟨by (with_reducible repeat (first | apply Kd.Am | apply Kd.Ak | apply Kd.Aq)); exact Kd.Bq HO122.out (fun _ hk => trivial)⟩, ⟨by (with_reducible repeat (first | refine Ai ?_ _ | refine Aj ?_ | refine Af ?_ _)); exact BK117.out⟩, ⟨by repeat (first | (with_reducible first | exact HB.out | apply Ac | apply Ab | apply Ad | refine Ah ?_ GE117.out) | exact HB.out)⟩⟩
    ·rw [if_neg c24] at H
     have c24b0 : ((wrap64 ((wrap64 (t135 + t136)) + t137)) == 0) = false := beq_eq_false_iff_ne.mpr c24
     have c24b1 : ((wrap64 ((wrap64 (t135 + t136)) + t137)) != 0) = true := bne_iff_ne.mpr c24
     (first | rw [c24b0] | (simp only [i64_w, i32_w]; rw [c24b0]) | skip)
     have H' := Aa.mk H
     clear H
     go_wp2_with (first | (go_at_call 17; (with_reducible refine (Aw.calls t124 t135 _ A21.out).mono ?_); rintro e w' ⟨rfl, ⟨nd, rfl⟩⟩; (try first | exact ⟨rfl, _, World.drewN_drewN _ _ _⟩ | exact ⟨rfl, _, Eq.trans (World.drewN_drewN _ _ _) (congrArg (World.drewN _) (Nat.add_assoc _ _ _))⟩)) | (go_at_call 17; (with_reducible refine (Aw.calls t129 t136 _ A22.out).mono ?_); rintro e w' ⟨rfl, ⟨nd, rfl⟩⟩; (try first | exact ⟨rfl, _, World.drewN_drewN _ _ _⟩ | exact ⟨rfl, _, Eq.trans (World.drewN_drewN _ _ _) (congrArg (World.drewN _) (Nat.add_assoc _ _ _))⟩)) | (go_at_call 17; (with_reducible refine (Aw.calls t134 t137 _ A23.out).mono ?_); rintro e w' ⟨rfl, ⟨nd, rfl⟩⟩; (try first | exact ⟨rfl, _, World.drewN_drewN _ _ _⟩ | exact ⟨rfl, _, Eq.trans (World.drewN_drewN _ _ _) (congrArg (World.drewN _) (Nat.add_assoc _ _ _))⟩)))
     repeat (go_quiet (first | (go_at_call 17; (with_reducible refine (Aw.calls t124 t135 _ A21.out).mono ?_); rintro e w' ⟨rfl, ⟨nd, rfl⟩⟩; (try first | exact ⟨rfl, _, World.drewN_drewN _ _ _⟩ | exact ⟨rfl, _, Eq.trans (World.drewN_drewN _ _ _) (congrArg (World.drewN _) (Nat.add_assoc _ _ _))⟩)) | (go_at_call 17; (with_reducible refine (Aw.calls t129 t136 _ A22.out).mono ?_); rintro e w' ⟨rfl, ⟨nd, rfl⟩⟩; (try first | exact ⟨rfl, _, World.drewN_drewN _ _ _⟩ | exact ⟨rfl, _, Eq.trans (World.drewN_drewN _ _ _) (congrArg (World.drewN _) (Nat.add_assoc _ _ _))⟩)) | (go_at_call 17; (with_reducible refine (Aw.calls t134 t137 _ A23.out).mono ?_); rintro e w' ⟨rfl, ⟨nd, rfl⟩⟩; (try first | exact ⟨rfl, _, World.drewN_drewN _ _ _⟩ | exact ⟨rfl, _, Eq.trans (World.drewN_drewN _ _ _) (congrArg (World.drewN _) (Nat.add_assoc _ _ _))⟩))); try go_wp2_with (first | (go_at_call 17; (with_reducible refine (Aw.calls t124 t135 _ A21.out).mono ?_); rintro e w' ⟨rfl, ⟨nd, rfl⟩⟩; (try first | exact ⟨rfl, _, World.drewN_drewN _ _ _⟩ | exact ⟨rfl, _, Eq.trans (World.drewN_drewN _ _ _) (congrArg (World.drewN _) (Nat.add_assoc _ _ _))⟩)) | (go_at_call 17; (with_reducible refine (Aw.calls t129 t136 _ A22.out).mono ?_); rintro e w' ⟨rfl, ⟨nd, rfl⟩⟩; (try first | exact ⟨rfl, _, World.drewN_drewN _ _ _⟩ | exact ⟨rfl, _, Eq.trans (World.drewN_drewN _ _ _) (congrArg (World.drewN _) (Nat.add_assoc _ _ _))⟩)) | (go_at_call 17; (with_reducible refine (Aw.calls t134 t137 _ A23.out).mono ?_); rintro e w' ⟨rfl, ⟨nd, rfl⟩⟩; (try first | exact ⟨rfl, _, World.drewN_drewN _ _ _⟩ | exact ⟨rfl, _, Eq.trans (World.drewN_drewN _ _ _) (congrArg (World.drewN _) (Nat.add_assoc _ _ _))⟩))))
     go_meet
     case rel => exact ⟨_, (true), (by first | rfl | (simp; done) | (simp [*]; done)), H', ⟨by first | omega | exact Nat.le_refl _⟩, ⟨by (with_reducible repeat (first | apply Kd.Am | apply Kd.Ak | apply Kd.Aq)); exact Kd.Bq HO122.out (fun _ hk => trivial)⟩, ⟨by (with_reducible repeat (first | refine Ai ?_ _ | refine Aj ?_ | refine Af ?_ _)); exact BK117.out⟩, ⟨by repeat (first | (with_reducible first | exact HB.out | apply Ac | apply Ab | apply Ad | refine Ah ?_ GE117.out) | exact HB.out)⟩⟩
   case rest =>
    clear HC10
    try clear c2
    try clear p2
    try clear c4
    try clear c6
    try clear p6
    try clear c7
    try clear c24
    try clear c24b0
    try clear c24b1
    try clear c25
    try clear c25b0
    try clear c25b1
    try clear c25b2
    try clear hcz13_0
    try clear hcz13_1
    try clear hcz13_2
    try clear hcz15_0
    try clear hcz15_1
    try clear hcz15_2
    try clear hcz17_0
    try clear hcz17_1
    try clear hcz17_2
    try clear hcz19_0
    try clear hcz19_1
    try clear hcz19_2
    try clear hcz27_0
    try clear hcz27_1
    try clear hcz27_2
    try clear hcz29_0
    try clear hcz29_1
    try clear hcz29_2
    try clear hfz13_0
    try clear hfz13_1
    try clear hfz13_2
    try clear hfz15_0
    try clear hfz15_1
    try clear hfz15_2
    try clear hfz17_0
    try clear hfz17_1
    try clear hfz17_2
    try clear hfz19_0
    try clear hfz19_1
    try clear hfz19_2
    try clear hfz27_0
    try clear hfz27_1
    try clear hfz27_2
    try clear hfz29_0
    try clear hfz29_1
    try clear hfz29_2
    obtain ⟨kq, x64_9, rfl, HA, HJ9, HO_5, BK117, HB⟩ := hcut
    cases kq with
    | zero => exact absurd HA.out (by simp [An.j0])
    | succ kj9 =>
     have H := HA.out
     clear HA
     simp only [An.j0] at H
     by_cases c30 : x64_9 = true
     ·subst c30
      have H1 : (some false) = some r := by rw [if_pos rfl] at H; exact H
      clear H
      have H := H1
      clear H1
      exact absurd (H.trans (congrArg some HT.out)) (by decide)
     ·replace c30 := Bool.eq_false_iff.mpr c30
      subst c30
      have H1 : (An.l0 kj9 a1 t120 t123 0 0 a0_0 a0_1 l0_2) = some r := by rw [if_neg (show ¬ (false = true) by decide)] at H; exact H
      clear H
      have H := H1
      clear H1
      have H' := Aa.mk H
      clear H
      go_wp2
      repeat (go_quiet (fail); try go_wp2)
      go_loopg [14, 15] kj9 (fun kq v14 v15 w' => ∃ (x14_2 : Int) (x15_2 : Int), v14 = .int .i64 x14_2 ∧ v15 = .int .i64 x15_2 ∧ Aa (An.l0 kq a1 t120 t123 x14_2 x15_2 a0_0 a0_1 l0_2 = some r) ∧ Aa (kq ≤ kj9) ∧ Aa (Kd.R (Kd.int .i64) 3 w' w.heap.size (fun _ => True) v121 t120) ∧ Aa (w'.heap[gb117]? = some (.cells #[.int .i64 a0_0, .int .i64 a0_1, (.slice A0_2 l0_2.length c0_2)] 50 (0, 0))) ∧ Aa (Below w.heap.size w w'))
      case atStart => exact ⟨(0), (0), (by first | rfl | (simp; done) | (simp [*]; done)), (by first | rfl | (simp; done) | (simp [*]; done)), H', ⟨Nat.le_refl _⟩, ⟨by (with_reducible repeat (first | apply Kd.Am | apply Kd.Ak | apply Kd.Aq)); exact HO_5.out⟩, ⟨by (with_reducible repeat (first | refine Ai ?_ _ | refine Aj ?_ | refine Af ?_ _)); exact BK117.out⟩, ⟨by repeat (first | (with_reducible first | exact HB.out | apply Ac | apply Ab | apply Ad | refine Ah ?_ GE117.out) | exact HB.out)⟩⟩
      case round =>
       clear H'
       try clear c2
       try clear p2
       try clear c3
       try clear c4
       try clear c6
       try clear p6
       try clear c7
       try clear c24
       try clear c24b0
       try clear c24b1
       try clear c25
       try clear c25b0
       try clear c25b1
       try clear c25b2
       try clear c30
       try clear hcz13_0
       try clear hcz13_1
       try clear hcz13_2
       try clear hcz15_0
       try clear hcz15_1
       try clear hcz15_2
       try clear hcz17_0
       try clear hcz17_1
       try clear hcz17_2
       try clear hcz19_0
       try clear hcz19_1
       try clear hcz19_2
       try clear hcz27_0
       try clear hcz27_1
       try clear hcz27_2
       try clear hcz29_0
       try clear hcz29_1
       try clear hcz29_2
       try clear hfz13_0
       try clear hfz13_1
       try clear hfz13_2
       try clear hfz15_0
       try clear hfz15_1
       try clear hfz15_2
       try clear hfz17_0
       try clear hfz17_1
       try clear hfz17_2
       try clear hfz19_0
       try clear hfz19_1
       try clear hfz19_2
       try clear hfz27_0
       try clear hfz27_1
       try clear hfz27_2
       try clear hfz29_0
       try clear hfz29_1
       try clear hfz29_2
       try clear p2
       try clear p6
       obtain ⟨x14_2, x15_2, rfl, rfl, HA, HK2, HO_5, BK117, HB⟩ := hrel
       cases gk with
       | zero => exact absurd HA.out (by simp [An.l0])
       | succ k2 =>
        have H := HA.out
        clear HA
        simp only [An.l0] at H
        by_cases c31 : x15_2 < (t120.length : Int)
        ·rw [if_pos c31] at H
         have c31b0 : decide (x15_2 < (t120.length : Int)) = true := decide_eq_true c31
         clear c31
         have HC32 := Aa.mk H
         clear H
         obtain ⟨Ao33, co33, eo33⟩ := Kd.B2 HO_5.out
         subst eo33
         go_upto_region 14 with (fail)
         repeat (go_quiet (fail); go_upto_region 14 with (fail))
         go_cut [97] (fun v97 wc => ∃ (kq : Nat) (x97_31 : Bool), v97 = .bool x97_31 ∧ Aa (An.j2 kq a1 t120 t123 x14_2 x15_2 x97_31 a0_0 a0_1 l0_2 = some r) ∧ Aa (kq ≤ k2) ∧ Aa (Kd.R (Kd.int .i64) 3 wc w.heap.size (fun _ => True) (.slice Ao33 t120.length co33) t120) ∧ Aa (wc.heap[gb117]? = some (.cells #[.int .i64 a0_0, .int .i64 a0_1, (.slice A0_2 l0_2.length c0_2)] 50 (0, 0))) ∧ Aa (Below w.heap.size w wc))
         case first =>
          have H := HC32.out
          clear HC32
          by_cases c34 : 0 ≤ x15_2
          ·rw [if_pos c34] at H
           have c34b0 : decide (0 ≤ x15_2) = true := decide_eq_true c34
           clear c34
           (first | rw [c34b0] | (simp only [i64_w, i32_w]; rw [c34b0]) | skip)
           by_cases c35 : x15_2 < (l0_2.length : Int)
           ·rw [if_pos c35] at H
            have c35b0 : decide (x15_2 < (l0_2.length : Int)) = true := decide_eq_true c35
            clear c35
            by_cases c36 : ((decide ((rd t120 x15_2) > 0)) != (rdOf false l0_2 x15_2)) = true
            ·rw [if_pos c36] at H
             have c36b0 : ((decide ((rd t120 x15_2) > 0)) != (rdOf false l0_2 x15_2)) = true := c36
             (try (have c36b1 : decide ((decide ((rd t120 x15_2) > 0)) = (rdOf false l0_2 x15_2)) = false := by simpa using c36))
             (try (have c36b2 : ((decide ((rd t120 x15_2) > 0)) == (rdOf false l0_2 x15_2)) = false := by simpa using c36))
             (try (have c36b3 : ¬ ((decide ((rd t120 x15_2) > 0)) = (rdOf false l0_2 x15_2)) := by simpa using c36))
             clear c36
             have H' := Aa.mk H
             clear H
             have p138 : 0 ≤ (x15_2 : Int) := of_decide_eq_true (by first | (with_reducible assumption) | assumption)
             have q138 : x15_2 < (t120.length : Int) := of_decide_eq_true (by first | (with_reducible assumption) | assumption)
             obtain ⟨ad138, e138, hx138_0⟩ := Kd.at_int (Kd.Ax HO_5.out).2.2 x15_2 p138 q138
             cases e138
             replace p138 := eq_true p138
             replace q138 := eq_true q138
             have hcz37_0 : wr.cell? ⟨gb117, 0, none⟩ = some (.int .i64 a0_0) := (Ag BK117.out 0).trans rfl
             have hcz37_1 : wr.cell? ⟨gb117, 1, none⟩ = some (.int .i64 a0_1) := (Ag BK117.out 1).trans rfl
             have hcz37_2 : wr.cell? ⟨gb117, 2, none⟩ = some (.slice A0_2 l0_2.length c0_2) := (Ag BK117.out 2).trans rfl
             have hfz37_0 := Ae BK117.out 0
             have hfz37_1 := Ae BK117.out 1
             have hfz37_2 := Ae BK117.out 2
             have p139 : 0 ≤ (x15_2 : Int) := of_decide_eq_true (by first | (with_reducible assumption) | assumption)
             have q139 : x15_2 < (l0_2.length : Int) := of_decide_eq_true (by first | (with_reducible assumption) | assumption)
             obtain ⟨ad139, e139, hx139_0⟩ := Kd.at_bool HR0_2.out x15_2 p139 q139
             cases e139
             replace hx139_0 := (HB.out.cell (World.block_lt_of_cell? w _ hx139_0)).trans hx139_0
             replace p139 := eq_true p139
             replace q139 := eq_true q139
             go_wp2
             repeat (go_quiet (fail); try go_wp2)
             go_meet
             case rel => exact ⟨_, (true), (by first | rfl | (simp; done) | (simp [*]; done)), H', ⟨by have := HJ9.out; have := HK2.out; first | omega | exact Nat.le_refl _⟩, ⟨by (with_reducible repeat (first | apply Kd.Am | apply Kd.Ak | apply Kd.Aq)); exact HO_5.out⟩, ⟨by (with_reducible repeat (first | refine Ai ?_ _ | refine Aj ?_ | refine Af ?_ _)); exact BK117.out⟩, ⟨by repeat (first | (with_reducible first | exact HB.out | apply Ac | apply Ab | apply Ad | refine Ah ?_ GE117.out) | exact HB.out)⟩⟩
            ·rw [if_neg c36] at H
             have c36b0 : ((decide ((rd t120 x15_2) > 0)) != (rdOf false l0_2 x15_2)) = false := by simpa using c36
             (try (have c36b1 : decide ((decide ((rd t120 x15_2) > 0)) = (rdOf false l0_2 x15_2)) = true := by simpa using c36))
             (try (have c36b2 : ((decide ((rd t120 x15_2) > 0)) == (rdOf false l0_2 x15_2)) = true := by simpa using c36))
             clear c36
             by_cases c38 : (rd t120 x15_2) > (wrap64 (x14_2 + 1))
             ·rw [if_pos c38] at H
              have c38b0 : decide ((wrap64 (x14_2 + 1)) < (rd t120 x15_2)) = true := decide_eq_true c38
              clear c38
              have H' := Aa.mk H
              clear H
              have p138 : 0 ≤ (x15_2 : Int) := of_decide_eq_true (by first | (with_reducible assumption) | assumption)
              have q138 : x15_2 < (t120.length : Int) := of_decide_eq_true (by first | (with_reducible assumption) | assumption)
              obtain ⟨ad138, e138, hx138_0⟩ := Kd.at_int (Kd.Ax HO_5.out).2.2 x15_2 p138 q138
              cases e138
              replace p138 := eq_true p138
              replace q138 := eq_true q138
              have hcz39_0 : wr.cell? ⟨gb117, 0, none⟩ = some (.int .i64 a0_0) := (Ag BK117.out 0).trans rfl
              have hcz39_1 : wr.cell? ⟨gb117, 1, none⟩ = some (.int .i64 a0_1) := (Ag BK117.out 1).trans rfl
              have hcz39_2 : wr.cell? ⟨gb117, 2, none⟩ = some (.slice A0_2 l0_2.length c0_2) := (Ag BK117.out 2).trans rfl
              have hfz39_0 := Ae BK117.out 0
              have hfz39_1 := Ae BK117.out 1
              have hfz39_2 := Ae BK117.out 2
              have p139 : 0 ≤ (x15_2 : Int) := of_decide_eq_true (by first | (with_reducible assumption) | assumption)
              have q139 : x15_2 < (l0_2.length : Int) := of_decide_eq_true (by first | (with_reducible assumption) | assumption)
              obtain ⟨ad139, e139, hx139_0⟩ := Kd.at_bool HR0_2.out x15_2 p139 q139
              cases e139
              replace hx139_0 := (HB.out.cell (World.block_lt_of_cell? w _ hx139_0)).trans hx139_0
              replace p139 := eq_true p139
              replace q139 := eq_true q139
              have p140 : 0 ≤ (x15_2 : Int) := of_decide_eq_true (by first | (with_reducible assumption) | assumption)
              have q140 : x15_2 < (t120.length : Int) := of_decide_eq_true (by first | (with_reducible assumption) | assumption)
              obtain ⟨ad140, e140, hx140_0⟩ := Kd.at_int (Kd.Ax HO_5.out).2.2 x15_2 p140 q140
              obtain rfl : ad138 = ad140 := (by injection e140)
              replace p140 := eq_true p140
              replace q140 := eq_true q140
              go_wp2
              repeat (go_quiet (fail); try go_wp2)
              go_meet
              case rel => exact ⟨_, (true), (by first | rfl | (simp; done) | (simp [*]; done)), H', ⟨by have := HJ9.out; have := HK2.out; first | omega | exact Nat.le_refl _⟩, ⟨by (with_reducible repeat (first | apply Kd.Am | apply Kd.Ak | apply Kd.Aq)); exact HO_5.out⟩, ⟨by (with_reducible repeat (first | refine Ai ?_ _ | refine Aj ?_ | refine Af ?_ _)); exact BK117.out⟩, ⟨by repeat (first | (with_reducible first | exact HB.out | apply Ac | apply Ab | apply Ad | refine Ah ?_ GE117.out) | exact HB.out)⟩⟩
             ·rw [if_neg c38] at H
              have c38b0 : decide ((wrap64 (x14_2 + 1)) < (rd t120 x15_2)) = false := decide_eq_false c38
              clear c38
              have H' := Aa.mk H
              clear H
              have p138 : 0 ≤ (x15_2 : Int) := of_decide_eq_true (by first | (with_reducible assumption) | assumption)
              have q138 : x15_2 < (t120.length : Int) := of_decide_eq_true (by first | (with_reducible assumption) | assumption)
              obtain ⟨ad138, e138, hx138_0⟩ := Kd.at_int (Kd.Ax HO_5.out).2.2 x15_2 p138 q138
              cases e138
              replace p138 := eq_true p138
              replace q138 := eq_true q138
              have hcz40_0 : wr.cell? ⟨gb117, 0, none⟩ = some (.int .i64 a0_0) := (Ag BK117.out 0).trans rfl
              have hcz40_1 : wr.cell? ⟨gb117, 1, none⟩ = some (.int .i64 a0_1) := (Ag BK117.out 1).trans rfl
              have hcz40_2 : wr.cell? ⟨gb117, 2, none⟩ = some (.slice A0_2 l0_2.length c0_2) := (Ag BK117.out 2).trans rfl
              have hfz40_0 := Ae BK117.out 0
              have hfz40_1 := Ae BK117.out 1
              have hfz40_2 := Ae BK117.out 2
              have p139 : 0 ≤ (x15_2 : Int) := of_decide_eq_true (by first | (with_reducible assumption) | assumption)
              have q139 : x15_2 < (l0_2.length : Int) := of_decide_eq_true (by first | (with_reducible assumption) | assumption)
              obtain ⟨ad139, e139, hx139_0⟩ := Kd.at_bool HR0_2.out x15_2 p139 q139
              cases e139
              replace hx139_0 := (HB.out.cell (World.block_lt_of_cell? w _ hx139_0)).trans hx139_0
              replace p139 := eq_true p139
              replace q139 := eq_true q139
              have p140 : 0 ≤ (x15_2 : Int) := of_decide_eq_true (by first | (with_reducible assumption) | assumption)
              have q140 : x15_2 < (t120.length : Int) := of_decide_eq_true (by first | (with_reducible assumption) | assumption)
              obtain ⟨ad140, e140, hx140_0⟩ := Kd.at_int (Kd.Ax HO_5.out).2.2 x15_2 p140 q140
              obtain rfl : ad138 = ad140 := (by injection e140)
              replace p140 := eq_true p140
              replace q140 := eq_true q140
              have p141 : 0 ≤ (x15_2 : Int) := of_decide_eq_true (by first | (with_reducible assumption) | assumption)
              have q141 : x15_2 < (t120.length : Int) := of_decide_eq_true (by first | (with_reducible assumption) | assumption)
              obtain ⟨ad141, e141, hx141_0⟩ := Kd.at_int (Kd.Ax HO_5.out).2.2 x15_2 p141 q141
              obtain rfl : ad138 = ad141 := (by injection e141)
              replace p141 := eq_true p141
              replace q141 := eq_true q141
              go_wp2
              repeat (go_quiet (fail); try go_wp2)
              go_meet
              case rel => exact ⟨_, (decide ((rd t120 x15_2) < 0)), (by first | rfl | (simp; done) | (simp [*]; done)), H', ⟨by have := HJ9.out; have := HK2.out; first | omega | exact Nat.le_refl _⟩, ⟨by (with_reducible repeat (first | apply Kd.Am | apply Kd.Ak | apply Kd.Aq)); exact HO_5.out⟩, ⟨by (with_reducible repeat (first | refine Ai ?_ _ | refine Aj ?_ | refine Af ?_ _)); exact BK117.out⟩, ⟨by repeat (first | (with_reducible first | exact HB.out | apply Ac | apply Ab | apply Ad | refine Ah ?_ GE117.out) | exact HB.out)⟩⟩
           ·rw [if_neg c35] at H
            exact absurd H (by simp)
          ·rw [if_neg c34] at H
           exact absurd H (by simp)
         case rest =>
          clear HC32
          try clear p1
          try clear q1
          try clear hx1
          try clear c2
          try clear p2
          try clear c3
          try clear c4
          try clear c6
          try clear p6
          try clear c7
          try clear p13
          try clear q13
          try clear hx13
          try clear p14
          try clear q14
          try clear hx14
          try clear c24
          try clear c24b0
          try clear c24b1
          try clear c25
          try clear c25b0
          try clear c25b1
          try clear c25b2
          try clear c30
          try clear c31
          try clear c31b0
          try clear c34
          try clear c34b0
          try clear c35
          try clear c35b0
          try clear c36
          try clear c36b0
          try clear c36b1
          try clear c36b2
          try clear c38
          try clear c38b0
          try clear hcz13_0
          try clear hcz13_1
          try clear hcz13_2
          try clear hcz15_0
          try clear hcz15_1
          try clear hcz15_2
          try clear hcz17_0
          try clear hcz17_1
          try clear hcz17_2
          try clear hcz19_0
          try clear hcz19_1
          try clear hcz19_2
          try clear hcz27_0
          try clear hcz27_1
          try clear hcz27_2
          try clear hcz29_0
          try clear hcz29_1
          try clear hcz29_2
          try clear hcz37_0
          try clear hcz37_1
          try clear hcz37_2
          try clear hcz39_0
          try clear hcz39_1
          try clear hcz39_2
          try clear hcz40_0
          try clear hcz40_1
          try clear hcz40_2
          try clear hfz13_0
          try clear hfz13_1
          try clear hfz13_2
          try clear hfz15_0
          try clear hfz15_1
          try clear hfz15_2
          try clear hfz17_0
          try clear hfz17_1
          try clear hfz17_2
          try clear hfz19_0
          try clear hfz19_1
          try clear hfz19_2
          try clear hfz27_0
          try clear hfz27_1
          try clear hfz27_2
          try clear hfz29_0
          try clear hfz29_1
          try clear hfz29_2
          try clear hfz37_0
          try clear hfz37_1
          try clear hfz37_2
          try clear hfz39_0
          try clear hfz39_1
          try clear hfz39_2
          try clear hfz40_0
          try clear hfz40_1
          try clear hfz40_2
          try clear hx138_0
          try clear hx139_0
          try clear hx140_0
          try clear hx141_0
          try clear p138
          try clear p139
          try clear p140
          try clear p141
          try clear p2
          try clear p6
          try clear q138
          try clear q139
          try clear q140
          try clear q141
          obtain ⟨kq, x97_31, rfl, HA, HJ31, HO_5, BK117, HB⟩ := hcut
          cases kq with
          | zero => exact absurd HA.out (by simp [An.j2])
          | succ kj31 =>
           have H := HA.out
           clear HA
           simp only [An.j2] at H
           by_cases c41 : x97_31 = true
           ·subst c41
            have H1 : (some false) = some r := by rw [if_pos rfl] at H; exact H
            clear H
            have H := H1
            clear H1
            exact absurd (H.trans (congrArg some HT.out)) (by decide)
           ·replace c41 := Bool.eq_false_iff.mpr c41
            subst c41
            have H1 : (if 0 ≤ x15_2 then (if x15_2 < (t120.length : Int) then ((At.f kj31 a0_0 a0_1 x15_2 a1).bind fun t143 => (An.l1 kj31 a1 t120 t123 (mx x14_2 (rd t120 x15_2)) x15_2 t143 0 a0_0 a0_1 l0_2)) else (none)) else (none)) = some r := by rw [if_neg (show ¬ (false = true) by decide)] at H; exact H
            clear H
            have H := H1
            clear H1
            by_cases c42 : 0 ≤ x15_2
            ·rw [if_pos c42] at H
             have c42b0 : decide (0 ≤ x15_2) = true := decide_eq_true c42
             clear c42
             by_cases c43 : x15_2 < (t120.length : Int)
             ·rw [if_pos c43] at H
              have c43b0 : decide (x15_2 < (t120.length : Int)) = true := decide_eq_true c43
              clear c43
              obtain ⟨ji44, hji44⟩ : ∃ j_ : Int, (mx x14_2 (rd t120 x15_2)) = j_ := ⟨_, rfl⟩
              replace H : ((At.f kj31 a0_0 a0_1 x15_2 a1).bind fun t143 => (An.l1 kj31 a1 t120 t123 ji44 x15_2 t143 0 a0_0 a0_1 l0_2)) = some r := by first | (rw [hji44] at H; exact H) | (simp only [hji44] at H ⊢; exact H)
              have hji44_ : (if x14_2 < (rd t120 x15_2) then (rd t120 x15_2) else x14_2) = ji44 := hji44
              replace H := Option.bind_eq_some_iff.mp H
              obtain ⟨t143, A450, H⟩ := H
              replace H : (An.l1 kj31 a1 t120 t123 ji44 x15_2 t143 0 a0_0 a0_1 l0_2) = some r := H
              have A45 := Aa.mk A450
              clear A450
              have H' := Aa.mk H
              clear H
              have p142 : 0 ≤ (x15_2 : Int) := of_decide_eq_true (by first | (with_reducible assumption) | assumption)
              have q142 : x15_2 < (t120.length : Int) := of_decide_eq_true (by first | (with_reducible assumption) | assumption)
              obtain ⟨ad142, e142, hx142_0⟩ := Kd.at_int (Kd.Ax HO_5.out).2.2 x15_2 p142 q142
              cases e142
              replace p142 := eq_true p142
              replace q142 := eq_true q142
              have hcz46_0 : wc.cell? ⟨gb117, 0, none⟩ = some (.int .i64 a0_0) := (Ag BK117.out 0).trans rfl
              have hcz46_1 : wc.cell? ⟨gb117, 1, none⟩ = some (.int .i64 a0_1) := (Ag BK117.out 1).trans rfl
              have hcz46_2 : wc.cell? ⟨gb117, 2, none⟩ = some (.slice A0_2 l0_2.length c0_2) := (Ag BK117.out 2).trans rfl
              have hfz46_0 := Ae BK117.out 0
              have hfz46_1 := Ae BK117.out 1
              have hfz46_2 := Ae BK117.out 2
              go_wp2_with (first | (go_at_call 35; (with_reducible refine (At.calls kj31 a0_0 a0_1 x15_2 a1 t143 _ A45.out).mono ?_); rintro e w47 ⟨v144, rfl, ho0, hb⟩; have n0_ := Aa.mk (Kd.Bt (by (with_reducible repeat (first | apply Kd.Am | apply Kd.Ak | apply Kd.Aq)); exact HO_5.out) (Kd.B9 ho0) hb); have n1_ := Aa.mk (Kd.B7 (Kd.B8 ho0 (Kd.Co (by (with_reducible repeat (first | apply Kd.Am | apply Kd.Ak | apply Kd.Aq)); exact HO_5.out))) (Ap (by repeat (first | (with_reducible first | exact HB.out | apply Ac | apply Ab | apply Ad | refine Ah ?_ GE117.out) | exact HB.out)))); have n2_ := Aa.mk (Ar (g := gb117) (o := .cells #[.int .i64 a0_0, .int .i64 a0_1, .slice A0_2 l0_2.length c0_2] 50 (0, 0)) (by (with_reducible repeat (first | refine Ai ?_ _ | refine Aj ?_ | refine Af ?_ _)); exact BK117.out) hb); have n3_ := Aa.mk (As (by repeat (first | (with_reducible first | exact HB.out | apply Ac | apply Ab | apply Ad | refine Ah ?_ GE117.out) | exact HB.out)) hb); clear HO_5; clear BK117; clear HB; have HO_5 := n0_; have HO145 := n1_; have BK117 := n2_; have HB := n3_; clear n0_ n1_ n2_ n3_; (try clear hb); (try clear hb2); (try clear hk); (try clear hi); (try clear ho0)))
              repeat (go_quiet (first | (go_at_call 35; (with_reducible refine (At.calls kj31 a0_0 a0_1 x15_2 a1 t143 _ A45.out).mono ?_); rintro e w47 ⟨v144, rfl, ho0, hb⟩; have n0_ := Aa.mk (Kd.Bt (by (with_reducible repeat (first | apply Kd.Am | apply Kd.Ak | apply Kd.Aq)); exact HO_5.out) (Kd.B9 ho0) hb); have n1_ := Aa.mk (Kd.B7 (Kd.B8 ho0 (Kd.Co (by (with_reducible repeat (first | apply Kd.Am | apply Kd.Ak | apply Kd.Aq)); exact HO_5.out))) (Ap (by repeat (first | (with_reducible first | exact HB.out | apply Ac | apply Ab | apply Ad | refine Ah ?_ GE117.out) | exact HB.out)))); have n2_ := Aa.mk (Ar (g := gb117) (o := .cells #[.int .i64 a0_0, .int .i64 a0_1, .slice A0_2 l0_2.length c0_2] 50 (0, 0)) (by (with_reducible repeat (first | refine Ai ?_ _ | refine Aj ?_ | refine Af ?_ _)); exact BK117.out) hb); have n3_ := Aa.mk (As (by repeat (first | (with_reducible first | exact HB.out | apply Ac | apply Ab | apply Ad | refine Ah ?_ GE117.out) | exact HB.out)) hb); clear HO_5; clear BK117; clear HB; have HO_5 := n0_; have HO145 := n1_; have BK117 := n2_; have HB := n3_; clear n0_ n1_ n2_ n3_; (try clear hb); (try clear hb2); (try clear hk); (try clear hi); (try clear ho0))); try go_wp2_with (first | (go_at_call 35; (with_reducible refine (At.calls kj31 a0_0 a0_1 x15_2 a1 t143 _ A45.out).mono ?_); rintro e w47 ⟨v144, rfl, ho0, hb⟩; have n0_ := Aa.mk (Kd.Bt (by (with_reducible repeat (first | apply Kd.Am | apply Kd.Ak | apply Kd.Aq)); exact HO_5.out) (Kd.B9 ho0) hb); have n1_ := Aa.mk (Kd.B7 (Kd.B8 ho0 (Kd.Co (by (with_reducible repeat (first | apply Kd.Am | apply Kd.Ak | apply Kd.Aq)); exact HO_5.out))) (Ap (by repeat (first | (with_reducible first | exact HB.out | apply Ac | apply Ab | apply Ad | refine Ah ?_ GE117.out) | exact HB.out)))); have n2_ := Aa.mk (Ar (g := gb117) (o := .cells #[.int .i64 a0_0, .int .i64 a0_1, .slice A0_2 l0_2.length c0_2] 50 (0, 0)) (by (with_reducible repeat (first | refine Ai ?_ _ | refine Aj ?_ | refine Af ?_ _)); exact BK117.out) hb); have n3_ := Aa.mk (As (by repeat (first | (with_reducible first | exact HB.out | apply Ac | apply Ab | apply Ad | refine Ah ?_ GE117.out) | exact HB.out)) hb); clear HO_5; clear BK117; clear HB; have HO_5 := n0_; have HO145 := n1_; have BK117 := n2_; have HB := n3_; clear n0_ n1_ n2_ n3_; (try clear hb); (try clear hb2); (try clear hk); (try clear hi); (try clear ho0))))
              go_loopg [17] kj31 (fun kq v17 w' => ∃ (x17_4 : Int), v17 = .int .i64 x17_4 ∧ Aa (An.l1 kq a1 t120 t123 ji44 x15_2 t143 x17_4 a0_0 a0_1 l0_2 = some r) ∧ Aa (kq ≤ kj31) ∧ Aa (Kd.R (Kd.int .i64) 3 w' w.heap.size (fun k_ => some k_ ≠ (v144 : Value).ownBlock) (.slice (some ad142) t120.length co33) t120) ∧ Aa (Kd.R (Kd.int .i64) 3 w' w.heap.size (fun k_ => some k_ ≠ ((.slice (some ad142) t120.length co33) : Value).ownBlock) v144 t143) ∧ Aa (w'.heap[gb117]? = some (.cells #[.int .i64 a0_0, .int .i64 a0_1, (.slice A0_2 l0_2.length c0_2)] 50 (0, 0))) ∧ Aa (Below w.heap.size w w'))
              case atStart => exact ⟨(0), (by first | rfl | (simp; done) | (simp [*]; done)), H', ⟨Nat.le_refl _⟩, ⟨by (with_reducible repeat (first | apply Kd.Am | apply Kd.Ak | apply Kd.Aq)); exact Kd.Bq HO_5.out (fun _ hk => hk.2)⟩, ⟨by (with_reducible repeat (first | apply Kd.Am | apply Kd.Ak | apply Kd.Aq)); exact Kd.Bq HO145.out (fun _ hk => hk.2)⟩, ⟨by (with_reducible repeat (first | refine Ai ?_ _ | refine Aj ?_ | refine Af ?_ _)); exact BK117.out⟩, ⟨by repeat (first | (with_reducible first | exact HB.out | apply Ac | apply Ab | apply Ad | refine Ah ?_ GE117.out) | exact HB.out)⟩⟩
              case round =>
               clear H'
               try clear p1
               try clear q1
               try clear hx1
               try clear c2
               try clear p2
               try clear c3
               try clear c4
               try clear c6
               try clear p6
               try clear c7
               try clear p13
               try clear q13
               try clear hx13
               try clear p14
               try clear q14
               try clear hx14
               try clear c24
               try clear c24b0
               try clear c24b1
               try clear c25
               try clear c25b0
               try clear c25b1
               try clear c25b2
               try clear c30
               try clear c31
               try clear c31b0
               try clear c34
               try clear c34b0
               try clear c35
               try clear c35b0
               try clear c36
               try clear c36b0
               try clear c36b1
               try clear c36b2
               try clear c38
               try clear c38b0
               try clear c41
               try clear c42
               try clear c42b0
               try clear c43
               try clear c43b0
               try clear hcz13_0
               try clear hcz13_1
               try clear hcz13_2
               try clear hcz15_0
               try clear hcz15_1
               try clear hcz15_2
               try clear hcz17_0
               try clear hcz17_1
               try clear hcz17_2
               try clear hcz19_0
               try clear hcz19_1
               try clear hcz19_2
               try clear hcz27_0
               try clear hcz27_1
               try clear hcz27_2
               try clear hcz29_0
               try clear hcz29_1
               try clear hcz29_2
               try clear hcz37_0
               try clear hcz37_1
               try clear hcz37_2
               try clear hcz39_0
               try clear hcz39_1
               try clear hcz39_2
               try clear hcz40_0
               try clear hcz40_1
               try clear hcz40_2
               try clear hcz46_0
               try clear hcz46_1
               try clear hcz46_2
               try clear hfz13_0
               try clear hfz13_1
               try clear hfz13_2
               try clear hfz15_0
               try clear hfz15_1
               try clear hfz15_2
               try clear hfz17_0
               try clear hfz17_1
               try clear hfz17_2
               try clear hfz19_0
               try clear hfz19_1
               try clear hfz19_2
               try clear hfz27_0
               try clear hfz27_1
               try clear hfz27_2
               try clear hfz29_0
               try clear hfz29_1
               try clear hfz29_2
               try clear hfz37_0
               try clear hfz37_1
               try clear hfz37_2
               try clear hfz39_0
               try clear hfz39_1
               try clear hfz39_2
               try clear hfz40_0
               try clear hfz40_1
               try clear hfz40_2
               try clear hfz46_0
               try clear hfz46_1
               try clear hfz46_2
               try clear hx138_0
               try clear hx139_0
               try clear hx140_0
               try clear hx141_0
               try clear hx142_0
               try clear p1
               try clear p13
               try clear p138
               try clear p139
               try clear p14
               try clear p140
               try clear p141
               try clear p142
               try clear p2
               try clear p6
               try clear q1
               try clear q13
               try clear q138
               try clear q139
               try clear q14
               try clear q140
               try clear q141
               try clear q142
               obtain ⟨x17_4, rfl, HA, HK4, HO_5, HO_16, BK117, HB⟩ := hrel
               cases gk with
               | zero => exact absurd HA.out (by simp [An.l1])
               | succ k4 =>
                have H := HA.out
                clear HA
                simp only [An.l1] at H
                by_cases c48 : x17_4 < (t143.length : Int)
                ·rw [if_pos c48] at H
                 have c48b0 : decide (x17_4 < (t143.length : Int)) = true := decide_eq_true c48
                 clear c48
                 by_cases c49 : 0 ≤ x15_2
                 ·rw [if_pos c49] at H
                  have c49b0 : decide (0 ≤ x15_2) = true := decide_eq_true c49
                  clear c49
                  by_cases c50 : x15_2 < (l0_2.length : Int)
                  ·rw [if_pos c50] at H
                   have c50b0 : decide (x15_2 < (l0_2.length : Int)) = true := decide_eq_true c50
                   clear c50
                   obtain ⟨bq51, hbq51⟩ : ∃ b_ : Bool, b_ = (rdOf false l0_2 x15_2) := ⟨_, rfl⟩
                   replace H : (if bq51 = true then (if 0 ≤ x17_4 then (if 0 ≤ (rd t143 x17_4) then (if (rd t143 x17_4) < (l0_2.length : Int) then (if rdOf false l0_2 (rd t143 x17_4) = true then (if x15_2 < (t120.length : Int) then (if (rd t143 x17_4) < (t120.length : Int) then (if (rd t120 x15_2) = (rd t120 (rd t143 x17_4)) then (An.l1 k4 a1 t120 t123 ji44 x15_2 t143 (wrap64 (x17_4 + 1)) a0_0 a0_1 l0_2) else (some false)) else (none)) else (none)) else (An.l1 k4 a1 t120 t123 ji44 x15_2 t143 (wrap64 (x17_4 + 1)) a0_0 a0_1 l0_2)) else (none)) else (none)) else (none)) else (An.l1 k4 a1 t120 t123 ji44 x15_2 t143 (wrap64 (x17_4 + 1)) a0_0 a0_1 l0_2)) = some r := by rw [← hbq51] at H; exact H
                   have Nbq51 := Aa.mk hbq51
                   clear hbq51
                   by_cases c52 : bq51 = true
                   ·subst c52
                    have H1 : (if 0 ≤ x17_4 then (if 0 ≤ (rd t143 x17_4) then (if (rd t143 x17_4) < (l0_2.length : Int) then (if rdOf false l0_2 (rd t143 x17_4) = true then (if x15_2 < (t120.length : Int) then (if (rd t143 x17_4) < (t120.length : Int) then (if (rd t120 x15_2) = (rd t120 (rd t143 x17_4)) then (An.l1 k4 a1 t120 t123 ji44 x15_2 t143 (wrap64 (x17_4 + 1)) a0_0 a0_1 l0_2) else (some false)) else (none)) else (none)) else (An.l1 k4 a1 t120 t123 ji44 x15_2 t143 (wrap64 (x17_4 + 1)) a0_0 a0_1 l0_2)) else (none)) else (none)) else (none)) = some r := by rw [if_pos rfl] at H; exact H
                    clear H
                    have H := H1
                    clear H1
                    by_cases c53 : 0 ≤ x17_4
                    ·rw [if_pos c53] at H
                     have c53b0 : decide (0 ≤ x17_4) = true := decide_eq_true c53
                     clear c53
                     by_cases c54 : 0 ≤ (rd t143 x17_4)
                     ·rw [if_pos c54] at H
                      have c54b0 : decide (0 ≤ (rd t143 x17_4)) = true := decide_eq_true c54
                      clear c54
                      by_cases c55 : (rd t143 x17_4) < (l0_2.length : Int)
                      ·rw [if_pos c55] at H
                       have c55b0 : decide ((rd t143 x17_4) < (l0_2.length : Int)) = true := decide_eq_true c55
                       clear c55
                       obtain ⟨bq56, hbq56⟩ : ∃ b_ : Bool, b_ = (rdOf false l0_2 (rd t143 x17_4)) := ⟨_, rfl⟩
                       replace H : (if bq56 = true then (if x15_2 < (t120.length : Int) then (if (rd t143 x17_4) < (t120.length : Int) then (if (rd t120 x15_2) = (rd t120 (rd t143 x17_4)) then (An.l1 k4 a1 t120 t123 ji44 x15_2 t143 (wrap64 (x17_4 + 1)) a0_0 a0_1 l0_2) else (some false)) else (none)) else (none)) else (An.l1 k4 a1 t120 t123 ji44 x15_2 t143 (wrap64 (x17_4 + 1)) a0_0 a0_1 l0_2)) = some r := by rw [← hbq56] at H; exact H
                       have Nbq56 := Aa.mk hbq56
                       clear hbq56
                       by_cases c57 : bq56 = true
                       ·subst c57
                        have H1 : (if x15_2 < (t120.length : Int) then (if (rd t143 x17_4) < (t120.length : Int) then (if (rd t120 x15_2) = (rd t120 (rd t143 x17_4)) then (An.l1 k4 a1 t120 t123 ji44 x15_2 t143 (wrap64 (x17_4 + 1)) a0_0 a0_1 l0_2) else (some false)) else (none)) else (none)) = some r := by rw [if_pos rfl] at H; exact H
                        clear H
                        have H := H1
                        clear H1
                        by_cases c58 : x15_2 < (t120.length : Int)
                        ·rw [if_pos c58] at H
                         have c58b0 : decide (x15_2 < (t120.length : Int)) = true := decide_eq_true c58
                         clear c58
                         by_cases c59 : (rd t143 x17_4) < (t120.length : Int)
                         ·rw [if_pos c59] at H
                          have c59b0 : decide ((rd t143 x17_4) < (t120.length : Int)) = true := decide_eq_true c59
                          clear c59
                          by_cases c60 : (rd t120 x15_2) = (rd t120 (rd t143 x17_4))
                          ·rw [if_pos c60] at H
                           have c60b0 : ((rd t120 x15_2) == (rd t120 (rd t143 x17_4))) = true := beq_iff_eq.mpr c60
                           have c60b1 : ((rd t120 x15_2) != (rd t120 (rd t143 x17_4))) = false := bne_eq_false_iff_eq.mpr c60
                           clear c60
                           have H' := Aa.mk H
                           clear H
                           obtain ⟨Ao61, co61, eo61⟩ := Kd.B2 HO_16.out
                           subst eo61
                           have hcz62_0 : wr.cell? ⟨gb117, 0, none⟩ = some (.int .i64 a0_0) := (Ag BK117.out 0).trans rfl
                           have hcz62_1 : wr.cell? ⟨gb117, 1, none⟩ = some (.int .i64 a0_1) := (Ag BK117.out 1).trans rfl
                           have hcz62_2 : wr.cell? ⟨gb117, 2, none⟩ = some (.slice A0_2 l0_2.length c0_2) := (Ag BK117.out 2).trans rfl
                           have hfz62_0 := Ae BK117.out 0
                           have hfz62_1 := Ae BK117.out 1
                           have hfz62_2 := Ae BK117.out 2
                           have p146 : 0 ≤ (x15_2 : Int) := of_decide_eq_true (by first | (with_reducible assumption) | assumption)
                           have q146 : x15_2 < (l0_2.length : Int) := of_decide_eq_true (by first | (with_reducible assumption) | assumption)
                           obtain ⟨ad146, e146, hx146_0⟩ := Kd.at_bool HR0_2.out x15_2 p146 q146
                           (try rw [← Nbq51.out] at hx146_0)
                           (try rw [← Nbq56.out] at hx146_0)
                           cases e146
                           replace hx146_0 := (HB.out.cell (World.block_lt_of_cell? w _ hx146_0)).trans hx146_0
                           replace p146 := eq_true p146
                           replace q146 := eq_true q146
                           have p147 : 0 ≤ (x17_4 : Int) := of_decide_eq_true (by first | (with_reducible assumption) | assumption)
                           have q147 : x17_4 < (t143.length : Int) := of_decide_eq_true (by first | (with_reducible assumption) | assumption)
                           obtain ⟨ad147, e147, hx147_0⟩ := Kd.at_int (Kd.Ax HO_16.out).2.2 x17_4 p147 q147
                           cases e147
                           replace p147 := eq_true p147
                           replace q147 := eq_true q147
                           have p148 : 0 ≤ ((rd t143 x17_4) : Int) := of_decide_eq_true (by first | (with_reducible assumption) | assumption)
                           have q148 : (rd t143 x17_4) < (l0_2.length : Int) := of_decide_eq_true (by first | (with_reducible assumption) | assumption)
                           obtain ⟨ad148, e148, hx148_0⟩ := Kd.at_bool HR0_2.out (rd t143 x17_4) p148 q148
                           (try rw [← Nbq51.out] at hx148_0)
                           (try rw [← Nbq56.out] at hx148_0)
                           obtain rfl : ad146 = ad148 := (by injection e148)
                           replace hx148_0 := (HB.out.cell (World.block_lt_of_cell? w _ hx148_0)).trans hx148_0
                           replace p148 := eq_true p148
                           replace q148 := eq_true q148
                           have p149 : 0 ≤ (x15_2 : Int) := of_decide_eq_true (by first | (with_reducible assumption) | assumption)
                           have q149 : x15_2 < (t120.length : Int) := of_decide_eq_true (by first | (with_reducible assumption) | assumption)
                           obtain ⟨ad149, e149, hx149_0⟩ := Kd.at_int (Kd.Ax HO_5.out).2.2 x15_2 p149 q149
                           obtain rfl : ad142 = ad149 := (by injection e149)
                           replace p149 := eq_true p149
                           replace q149 := eq_true q149
                           have p150 : 0 ≤ (x17_4 : Int) := of_decide_eq_true (by first | (with_reducible assumption) | assumption)
                           have q150 : x17_4 < (t143.length : Int) := of_decide_eq_true (by first | (with_reducible assumption) | assumption)
                           obtain ⟨ad150, e150, hx150_0⟩ := Kd.at_int (Kd.Ax HO_16.out).2.2 x17_4 p150 q150
                           obtain rfl : ad147 = ad150 := (by injection e150)
                           replace p150 := eq_true p150
                           replace q150 := eq_true q150
                           have p151 : 0 ≤ ((rd t143 x17_4) : Int) := of_decide_eq_true (by first | (with_reducible assumption) | assumption)
                           have q151 : (rd t143 x17_4) < (t120.length : Int) := of_decide_eq_true (by first | (with_reducible assumption) | assumption)
                           obtain ⟨ad151, e151, hx151_0⟩ := Kd.at_int (Kd.Ax HO_5.out).2.2 (rd t143 x17_4) p151 q151
                           obtain rfl : ad142 = ad151 := (by injection e151)
                           replace p151 := eq_true p151
                           replace q151 := eq_true q151
                           go_wp2
                           repeat (go_quiet (fail); try go_wp2)
                           go_roundg k4
                           case measure => have := HJ9.out; have := HK2.out; have := HJ31.out; have := HK4.out; omega
                           case rel => exact ⟨(wrap64 (x17_4 + 1)), (by first | rfl | (simp; done) | (simp [*]; done)), H', ⟨by have := HJ9.out; have := HK2.out; have := HJ31.out; have := HK4.out; omega⟩, ⟨by (with_reducible repeat (first | apply Kd.Am | apply Kd.Ak | apply Kd.Aq)); exact HO_5.out⟩, ⟨by (with_reducible repeat (first | apply Kd.Am | apply Kd.Ak | apply Kd.Aq)); exact HO_16.out⟩, ⟨by (with_reducible repeat (first | refine Ai ?_ _ | refine Aj ?_ | refine Af ?_ _)); exact BK117.out⟩, ⟨by repeat (first | (with_reducible first | exact HB.out | apply Ac | apply Ab | apply Ad | refine Ah ?_ GE117.out) | exact HB.out)⟩⟩
                          ·rw [if_neg c60] at H
                           have c60b0 : ((rd t120 x15_2) == (rd t120 (rd t143 x17_4))) = false := beq_eq_false_iff_ne.mpr c60
                           have c60b1 : ((rd t120 x15_2) != (rd t120 (rd t143 x17_4))) = true := bne_iff_ne.mpr c60
                           exact absurd (H.trans (congrArg some HT.out)) (by decide)
                         ·rw [if_neg c59] at H
                          exact absurd H (by simp)
                        ·rw [if_neg c58] at H
                         exact absurd H (by simp)
                       ·replace c57 := Bool.eq_false_iff.mpr c57
                        subst c57
                        have H1 : (An.l1 k4 a1 t120 t123 ji44 x15_2 t143 (wrap64 (x17_4 + 1)) a0_0 a0_1 l0_2) = some r := by rw [if_neg (show ¬ (false = true) by decide)] at H; exact H
                        clear H
                        have H := H1
                        clear H1
                        have H' := Aa.mk H
                        clear H
                        obtain ⟨Ao65, co65, eo65⟩ := Kd.B2 HO_16.out
                        subst eo65
                        have hcz66_0 : wr.cell? ⟨gb117, 0, none⟩ = some (.int .i64 a0_0) := (Ag BK117.out 0).trans rfl
                        have hcz66_1 : wr.cell? ⟨gb117, 1, none⟩ = some (.int .i64 a0_1) := (Ag BK117.out 1).trans rfl
                        have hcz66_2 : wr.cell? ⟨gb117, 2, none⟩ = some (.slice A0_2 l0_2.length c0_2) := (Ag BK117.out 2).trans rfl
                        have hfz66_0 := Ae BK117.out 0
                        have hfz66_1 := Ae BK117.out 1
                        have hfz66_2 := Ae BK117.out 2
                        have p146 : 0 ≤ (x15_2 : Int) := of_decide_eq_true (by first | (with_reducible assumption) | assumption)
                        have q146 : x15_2 < (l0_2.length : Int) := of_decide_eq_true (by first | (with_reducible assumption) | assumption)
                        obtain ⟨ad146, e146, hx146_0⟩ := Kd.at_bool HR0_2.out x15_2 p146 q146
                        (try rw [← Nbq51.out] at hx146_0)
                        (try rw [← Nbq56.out] at hx146_0)
                        cases e146
                        replace hx146_0 := (HB.out.cell (World.block_lt_of_cell? w _ hx146_0)).trans hx146_0
                        replace p146 := eq_true p146
                        replace q146 := eq_true q146
                        have p147 : 0 ≤ (x17_4 : Int) := of_decide_eq_true (by first | (with_reducible assumption) | assumption)
                        have q147 : x17_4 < (t143.length : Int) := of_decide_eq_true (by first | (with_reducible assumption) | assumption)
                        obtain ⟨ad147, e147, hx147_0⟩ := Kd.at_int (Kd.Ax HO_16.out).2.2 x17_4 p147 q147
                        cases e147
                        replace p147 := eq_true p147
                        replace q147 := eq_true q147
                        have p148 : 0 ≤ ((rd t143 x17_4) : Int) := of_decide_eq_true (by first | (with_reducible assumption) | assumption)
                        have q148 : (rd t143 x17_4) < (l0_2.length : Int) := of_decide_eq_true (by first | (with_reducible assumption) | assumption)
                        obtain ⟨ad148, e148, hx148_0⟩ := Kd.at_bool HR0_2.out (rd t143 x17_4) p148 q148
                        (try rw [← Nbq51.out] at hx148_0)
                        (try rw [← Nbq56.out] at hx148_0)
                        obtain rfl : ad146 = ad148 := (by injection e148)
                        replace hx148_0 := (HB.out.cell (World.block_lt_of_cell? w _ hx148_0)).trans hx148_0
                        replace p148 := eq_true p148
                        replace q148 := eq_true q148
                        go_wp2
                        repeat (go_quiet (fail); try go_wp2)
                        go_roundg k4
                        case measure => have := HJ9.out; have := HK2.out; have := HJ31.out; have := HK4.out; omega
                        case rel => exact ⟨(wrap64 (x17_4 + 1)), (by first | rfl | (simp; done) | (simp [*]; done)), H', ⟨by have := HJ9.out; have := HK2.out; have := HJ31.out; have := HK4.out; omega⟩, ⟨by (with_reducible repeat (first | apply Kd.Am | apply Kd.Ak | apply Kd.Aq)); exact HO_5.out⟩, ⟨by (with_reducible repeat (first | apply Kd.Am | apply Kd.Ak | apply Kd.Aq)); exact HO_16.out⟩, ⟨by (with_reducible repeat (first | refine Ai ?_ _ | refine Aj ?_ | refine Af ?_ _)); exact BK117.out⟩, ⟨by repeat (first | (with_reducible first | exact HB.out | apply Ac | apply Ab | apply Ad | refine Ah ?_ GE117.out) | exact HB.out)⟩⟩
                      ·rw [if_neg c55] at H
                       exact absurd H (by simp)
                     ·rw [if_neg c54] at H
                      exact absurd H (by simp)
                    ·rw [if_neg c53] at H
                     exact absurd H (by simp)
                   ·replace c52 := Bool.eq_false_iff.mpr c52
                    subst c52
                    have H1 : (An.l1 k4 a1 t120 t123 ji44 x15_2 t143 (wrap64 (x17_4 + 1)) a0_0 a0_1 l0_2) = some r := by rw [if_neg (show ¬ (false = true) by decide)] at H; exact H
                    clear H
                    have H := H1
                    clear H1
                    have H' := Aa.mk H
                    clear H
                    obtain ⟨Ao67, co67, eo67⟩ := Kd.B2 HO_16.out
                    subst eo67
                    have hcz68_0 : wr.cell? ⟨gb117, 0, none⟩ = some (.int .i64 a0_0) := (Ag BK117.out 0).trans rfl
                    have hcz68_1 : wr.cell? ⟨gb117, 1, none⟩ = some (.int .i64 a0_1) := (Ag BK117.out 1).trans rfl
                    have hcz68_2 : wr.cell? ⟨gb117, 2, none⟩ = some (.slice A0_2 l0_2.length c0_2) := (Ag BK117.out 2).trans rfl
                    have hfz68_0 := Ae BK117.out 0
                    have hfz68_1 := Ae BK117.out 1
                    have hfz68_2 := Ae BK117.out 2
                    have p146 : 0 ≤ (x15_2 : Int) := of_decide_eq_true (by first | (with_reducible assumption) | assumption)
                    have q146 : x15_2 < (l0_2.length : Int) := of_decide_eq_true (by first | (with_reducible assumption) | assumption)
                    obtain ⟨ad146, e146, hx146_0⟩ := Kd.at_bool HR0_2.out x15_2 p146 q146
                    (try rw [← Nbq51.out] at hx146_0)
                    cases e146
                    replace hx146_0 := (HB.out.cell (World.block_lt_of_cell? w _ hx146_0)).trans hx146_0
                    replace p146 := eq_true p146
                    replace q146 := eq_true q146
                    go_wp2
                    repeat (go_quiet (fail); try go_wp2)
                    go_roundg k4
                    case measure => have := HJ9.out; have := HK2.out; have := HJ31.out; have := HK4.out; omega
                    case rel => exact ⟨(wrap64 (x17_4 + 1)), (by first | rfl | (simp; done) | (simp [*]; done)), H', ⟨by have := HJ9.out; have := HK2.out; have := HJ31.out; have := HK4.out; omega⟩, ⟨by (with_reducible repeat (first | apply Kd.Am | apply Kd.Ak | apply Kd.Aq)); exact HO_5.out⟩, ⟨by (with_reducible repeat (first | apply Kd.Am | apply Kd.Ak | apply Kd.Aq)); exact HO_16.out⟩, ⟨by (with_reducible repeat (first | refine Ai ?_ _ | refine Aj ?_ | refine Af ?_ _)); exact BK117.out⟩, ⟨by repeat (first | (with_reducible first | exact HB.out | apply Ac | apply Ab | apply Ad | refine Ah ?_ GE117.out) | exact HB.out)⟩⟩
                  ·rw [if_neg c50] at H
                   exact absurd H (by simp)
                 ·rw [if_neg c49] at H
                  exact absurd H (by simp)
                ·rw [if_neg c48] at H
                 have c48b0 : decide (x17_4 < (t143.length : Int)) = false := decide_eq_false c48
                 clear c48
                 have H' := Aa.mk H
                 clear H
                 obtain ⟨Ao69, co69, eo69⟩ := Kd.B2 HO_16.out
                 subst eo69
                 go_wp2
                 repeat (go_quiet (fail); try go_wp2)
                 go_roundg k4
                 case measure => have := HJ9.out; have := HK2.out; have := HJ31.out; have := HK4.out; omega
                 case rel => exact ⟨(ji44), (wrap64 (x15_2 + 1)), (by first | rfl | (simp; done) | (simp only [← hji44] <;> (first | rfl | simp)) | (simp [*]; done)), (by first | rfl | (simp; done) | (simp [*]; done)), H', ⟨by have := HJ9.out; have := HK2.out; have := HJ31.out; have := HK4.out; omega⟩, ⟨by (with_reducible repeat (first | apply Kd.Am | apply Kd.Ak | apply Kd.Aq)); exact Kd.Bq HO_5.out (fun _ hk => trivial)⟩, ⟨by (with_reducible repeat (first | refine Ai ?_ _ | refine Aj ?_ | refine Af ?_ _)); exact BK117.out⟩, ⟨by repeat (first | (with_reducible first | exact HB.out | apply Ac | apply Ab | apply Ad | refine Ah ?_ GE117.out) | exact HB.out)⟩⟩
             ·rw [if_neg c43] at H
              exact absurd H (by simp)
            ·rw [if_neg c42] at H
             exact absurd H (by simp)
        ·rw [if_neg c31] at H
         have c31b0 : decide (x15_2 < (t120.length : Int)) = false := decide_eq_false c31
         clear c31
         obtain rfl := Option.some.inj H
         obtain ⟨Ao70, co70, eo70⟩ := Kd.B2 HO_5.out
         subst eo70
         go_wp2
         repeat (go_quiet (fail); try go_wp2)
         go_ret
         exact ⟨by first | rfl | (simp [Bb, Bc] <;> rfl) | (simp [*, Bb, Bc] <;> rfl), by repeat (first | (with_reducible first | exact HB.out | apply Ac | apply Ab | apply Ad | refine Ah ?_ GE117.out) | exact HB.out)⟩
  ·replace c6 := Bool.eq_false_iff.mpr c6
   subst c6
   have H1 : (some true) = some r := by rw [if_neg (show ¬ (false = true) by decide)] at H; exact H
   clear H
   have H := H1
   clear H1
   obtain rfl := Option.some.inj H
   go_enter Try.func7, Try.ntmps7
   go_wp2_with (first | ((with_reducible refine Bf (N := 2) rfl ?_); (try (refine Cg (by rfl) ?_; dsimp only)); refine Be ?hg (N := 2) ?hd (cs := #[.int .i64 a0_0, .int .i64 a0_1, .slice A0_2 l0_2.length c0_2]) (t := 50) ?hr ?_; (case hd => rfl); (case hg => rfl); (case hr => first | (go_simp; done) | (go_simp; rfl)); intro gb117 hg w71 hbox hb; have n0_ := Aa.mk (As (by repeat (first | (with_reducible first | exact HB.out | apply Ac | apply Ab | apply Ad) | exact HB.out)) hb); have n1_ := Aa.mk (hbox); have n2_ := Aa.mk ((by rw [hg]; exact (Ap (by repeat (first | (with_reducible first | exact HB.out | apply Ac | apply Ab | apply Ad) | exact HB.out))) : w.heap.size ≤ gb117)); have n3_ := Aa.mk ((by rw [hg]; exact (Ap (by repeat (first | (with_reducible first | exact HB.out | apply Ac | apply Ab | apply Ad) | exact HB.out))) : w.heap.size ≤ gb117)); clear HB; have HB := n0_; have BK117 := n1_; have GW117 := n2_; have GE117 := n3_; clear n0_ n1_ n2_ n3_; clear hb hbox hg) | (go_at_call 13; (with_reducible refine (Ao.calls k  true _ A3.out).mono ?_); rintro e w72 ⟨rfl, hb⟩; have n0_ := Aa.mk (Ar (g := gb117) (o := .cells #[.int .i64 a0_0, .int .i64 a0_1, .slice A0_2 l0_2.length c0_2] 50 (0, 0)) (by (with_reducible repeat (first | refine Ai ?_ _ | refine Aj ?_ | refine Af ?_ _)); exact BK117.out) hb); have n1_ := Aa.mk (As (by repeat (first | (with_reducible first | exact HB.out | apply Ac | apply Ab | apply Ad | refine Ah ?_ GE117.out) | exact HB.out)) hb); clear BK117; clear HB; have BK117 := n0_; have HB := n1_; clear n0_ n1_; (try clear hb); (try clear hb2); (try clear hk); (try clear hi); have hcz73_0 : w72.cell? ⟨gb117, 0, none⟩ = some (.int .i64 a0_0) := (Ag BK117.out 0).trans rfl; have hcz73_1 : w72.cell? ⟨gb117, 1, none⟩ = some (.int .i64 a0_1) := (Ag BK117.out 1).trans rfl; have hcz73_2 : w72.cell? ⟨gb117, 2, none⟩ = some (.slice A0_2 l0_2.length c0_2) := (Ag BK117.out 2).trans rfl; have hfz73_0 := Ae BK117.out 0; have hfz73_1 := Ae BK117.out 1; have hfz73_2 := Ae BK117.out 2) | (go_at_call 36; (with_reducible refine (Cc.calls a0_0 a0_1 _ _ l0_2 a1 false _ ?side1 ?side2 A5.out).mono ?_); (case side1 => repeat (first | exact (Kd.B6 HR0_2.out HB.out) | (with_reducible refine Kd.Bj ?_ _) | (with_reducible refine Kd.Bv ?_ _) | (with_reducible refine Kd.B4 ?_))); (case side2 => exact HC0_2.out); rintro e w74 ⟨rfl, hb⟩; have n0_ := Aa.mk (Ar (g := gb117) (o := .cells #[.int .i64 a0_0, .int .i64 a0_1, .slice A0_2 l0_2.length c0_2] 50 (0, 0)) (by (with_reducible repeat (first | refine Ai ?_ _ | refine Aj ?_ | refine Af ?_ _)); exact BK117.out) hb); have n1_ := Aa.mk (As (by repeat (first | (with_reducible first | exact HB.out | apply Ac | apply Ab | apply Ad | refine Ah ?_ GE117.out) | exact HB.out)) hb); clear BK117; clear HB; have BK117 := n0_; have HB := n1_; clear n0_ n1_; (try clear hb); (try clear hb2); (try clear hk); (try clear hi)))
   repeat (go_quiet (first | ((with_reducible refine Bf (N := 2) rfl ?_); (try (refine Cg (by rfl) ?_; dsimp only)); refine Be ?hg (N := 2) ?hd (cs := #[.int .i64 a0_0, .int .i64 a0_1, .slice A0_2 l0_2.length c0_2]) (t := 50) ?hr ?_; (case hd => rfl); (case hg => rfl); (case hr => first | (go_simp; done) | (go_simp; rfl)); intro gb117 hg w71 hbox hb; have n0_ := Aa.mk (As (by repeat (first | (with_reducible first | exact HB.out | apply Ac | apply Ab | apply Ad) | exact HB.out)) hb); have n1_ := Aa.mk (hbox); have n2_ := Aa.mk ((by rw [hg]; exact (Ap (by repeat (first | (with_reducible first | exact HB.out | apply Ac | apply Ab | apply Ad) | exact HB.out))) : w.heap.size ≤ gb117)); have n3_ := Aa.mk ((by rw [hg]; exact (Ap (by repeat (first | (with_reducible first | exact HB.out | apply Ac | apply Ab | apply Ad) | exact HB.out))) : w.heap.size ≤ gb117)); clear HB; have HB := n0_; have BK117 := n1_; have GW117 := n2_; have GE117 := n3_; clear n0_ n1_ n2_ n3_; clear hb hbox hg) | (go_at_call 13; (with_reducible refine (Ao.calls k  true _ A3.out).mono ?_); rintro e w72 ⟨rfl, hb⟩; have n0_ := Aa.mk (Ar (g := gb117) (o := .cells #[.int .i64 a0_0, .int .i64 a0_1, .slice A0_2 l0_2.length c0_2] 50 (0, 0)) (by (with_reducible repeat (first | refine Ai ?_ _ | refine Aj ?_ | refine Af ?_ _)); exact BK117.out) hb); have n1_ := Aa.mk (As (by repeat (first | (with_reducible first | exact HB.out | apply Ac | apply Ab | apply Ad | refine Ah ?_ GE117.out) | exact HB.out)) hb); clear BK117; clear HB; have BK117 := n0_; have HB := n1_; clear n0_ n1_; (try clear hb); (try clear hb2); (try clear hk); (try clear hi); have hcz73_0 : w72.cell? ⟨gb117, 0, none⟩ = some (.int .i64 a0_0) := (Ag BK117.out 0).trans rfl; have hcz73_1 : w72.cell? ⟨gb117, 1, none⟩ = some (.int .i64 a0_1) := (Ag BK117.out 1).trans rfl; have hcz73_2 : w72.cell? ⟨gb117, 2, none⟩ = some (.slice A0_2 l0_2.length c0_2) := (Ag BK117.out 2).trans rfl; have hfz73_0 := Ae BK117.out 0; have hfz73_1 := Ae BK117.out 1; have hfz73_2 := Ae BK117.out 2) | (go_at_call 36; (with_reducible refine (Cc.calls a0_0 a0_1 _ _ l0_2 a1 false _ ?side1 ?side2 A5.out).mono ?_); (case side1 => repeat (first | exact (Kd.B6 HR0_2.out HB.out) | (with_reducible refine Kd.Bj ?_ _) | (with_reducible refine Kd.Bv ?_ _) | (with_reducible refine Kd.B4 ?_))); (case side2 => exact HC0_2.out); rintro e w74 ⟨rfl, hb⟩; have n0_ := Aa.mk (Ar (g := gb117) (o := .cells #[.int .i64 a0_0, .int .i64 a0_1, .slice A0_2 l0_2.length c0_2] 50 (0, 0)) (by (with_reducible repeat (first | refine Ai ?_ _ | refine Aj ?_ | refine Af ?_ _)); exact BK117.out) hb); have n1_ := Aa.mk (As (by repeat (first | (with_reducible first | exact HB.out | apply Ac | apply Ab | apply Ad | refine Ah ?_ GE117.out) | exact HB.out)) hb); clear BK117; clear HB; have BK117 := n0_; have HB := n1_; clear n0_ n1_; (try clear hb); (try clear hb2); (try clear hk); (try clear hi))); try go_wp2_with (first | ((with_reducible refine Bf (N := 2) rfl ?_); (try (refine Cg (by rfl) ?_; dsimp only)); refine Be ?hg (N := 2) ?hd (cs := #[.int .i64 a0_0, .int .i64 a0_1, .slice A0_2 l0_2.length c0_2]) (t := 50) ?hr ?_; (case hd => rfl); (case hg => rfl); (case hr => first | (go_simp; done) | (go_simp; rfl)); intro gb117 hg w71 hbox hb; have n0_ := Aa.mk (As (by repeat (first | (with_reducible first | exact HB.out | apply Ac | apply Ab | apply Ad) | exact HB.out)) hb); have n1_ := Aa.mk (hbox); have n2_ := Aa.mk ((by rw [hg]; exact (Ap (by repeat (first | (with_reducible first | exact HB.out | apply Ac | apply Ab | apply Ad) | exact HB.out))) : w.heap.size ≤ gb117)); have n3_ := Aa.mk ((by rw [hg]; exact (Ap (by repeat (first | (with_reducible first | exact HB.out | apply Ac | apply Ab | apply Ad) | exact HB.out))) : w.heap.size ≤ gb117)); clear HB; have HB := n0_; have BK117 := n1_; have GW117 := n2_; have GE117 := n3_; clear n0_ n1_ n2_ n3_; clear hb hbox hg) | (go_at_call 13; (with_reducible refine (Ao.calls k  true _ A3.out).mono ?_); rintro e w72 ⟨rfl, hb⟩; have n0_ := Aa.mk (Ar (g := gb117) (o := .cells #[.int .i64 a0_0, .int .i64 a0_1, .slice A0_2 l0_2.length c0_2] 50 (0, 0)) (by (with_reducible repeat (first | refine Ai ?_ _ | refine Aj ?_ | refine Af ?_ _)); exact BK117.out) hb); have n1_ := Aa.mk (As (by repeat (first | (with_reducible first | exact HB.out | apply Ac | apply Ab | apply Ad | refine Ah ?_ GE117.out) | exact HB.out)) hb); clear BK117; clear HB; have BK117 := n0_; have HB := n1_; clear n0_ n1_; (try clear hb); (try clear hb2); (try clear hk); (try clear hi); have hcz73_0 : w72.cell? ⟨gb117, 0, none⟩ = some (.int .i64 a0_0) := (Ag BK117.out 0).trans rfl; have hcz73_1 : w72.cell? ⟨gb117, 1, none⟩ = some (.int .i64 a0_1) := (Ag BK117.out 1).trans rfl; have hcz73_2 : w72.cell? ⟨gb117, 2, none⟩ = some (.slice A0_2 l0_2.length c0_2) := (Ag BK117.out 2).trans rfl; have hfz73_0 := Ae BK117.out 0; have hfz73_1 := Ae BK117.out 1; have hfz73_2 := Ae BK117.out 2) | (go_at_call 36; (with_reducible refine (Cc.calls a0_0 a0_1 _ _ l0_2 a1 false _ ?side1 ?side2 A5.out).mono ?_); (case side1 => repeat (first | exact (Kd.B6 HR0_2.out HB.out) | (with_reducible refine Kd.Bj ?_ _) | (with_reducible refine Kd.Bv ?_ _) | (with_reducible refine Kd.B4 ?_))); (case side2 => exact HC0_2.out); rintro e w74 ⟨rfl, hb⟩; have n0_ := Aa.mk (Ar (g := gb117) (o := .cells #[.int .i64 a0_0, .int .i64 a0_1, .slice A0_2 l0_2.length c0_2] 50 (0, 0)) (by (with_reducible repeat (first | refine Ai ?_ _ | refine Aj ?_ | refine Af ?_ _)); exact BK117.out) hb); have n1_ := Aa.mk (As (by repeat (first | (with_reducible first | exact HB.out | apply Ac | apply Ab | apply Ad | refine Ah ?_ GE117.out) | exact HB.out)) hb); clear BK117; clear HB; have BK117 := n0_; have HB := n1_; clear n0_ n1_; (try clear hb); (try clear hb2); (try clear hk); (try clear hi))))
   go_ret
   exact ⟨by first | rfl | (simp [Bb, Bc] <;> rfl) | (simp [*, Bb, Bc] <;> rfl), by repeat (first | (with_reducible first | exact HB.out | apply Ac | apply Ab | apply Ad | refine Ah ?_ GE117.out) | exact HB.out)⟩
 ·replace c4 := Bool.eq_false_iff.mpr c4
  subst c4
  have H1 : (some false) = some r := by rw [if_neg (show ¬ (false = true) by decide)] at H; exact H
  clear H
  have H := H1
  clear H1
  exact absurd (H.trans (congrArg some HT.out)) (by decide)

end Go.Proofs.Yteamphcehoaleaa.PFN

