import Derived.Test.YteamphcehoaleaaPFFx0
import Derived.Test.YteamphcehoaleaaPFFx1
import Derived.Test.YteamphcehoaleaaAW
import Derived.Test.YteamphcehoaleaaPFAx4
import Derived.Test.YteamphcehoaleaaPFAx6
import Derived.Test.YteamphcehoaleaaPFKx2
namespace Go.Proofs.Yteamphcehoaleaa.PFF
open Go.Proofs.Yteamphcehoaleaa.PFA Go.Proofs.Yteamphcehoaleaa.PFK
open Go.RowKit Go.Proofs.YteamphcehoaleaaW.PrintWords Go.Proofs.YteamphcehoaleaaW.PrintLast Go.Proofs.YteamphcehoaleaaW.PrintMore
attribute [local go_sem] max2_int min2_int max_two min_two max_three min_three max_four min_four   -- for this text's walks alone
set_option linter.unusedVariables false
set_option linter.unusedSimpArgs false

mutual
def Ak.j0 : Nat → Bool → Int → Int → List Bool → Option (Bool)
 | 0, _, _, _, _ => none
 | k + 1, x26, x106000, x106001, x106002 => if x26 = true then (some true) else ((Cf.f x106000 x106001 x106002 4).bind fun bt108 => ((Cf.f x106000 x106001 x106002 8).bind fun bt112 => ((Ba.f k x106000 x106001 x106002).bind fun bt116 => ((Aw.f bt108.2).bind fun t120 => ((Aw.f bt112.2).bind fun t121 => ((Aw.f bt116.2).bind fun t122 => (if (wrap64 ((wrap64 (t120 + t121)) + t122)) = 0 then (if (bt108.1.length : Int) = (x106002.length : Int) then (if (bt112.1.length : Int) = (x106002.length : Int) then (Ak.j1 k bt108.1 bt112.1 bt116.1 ((bt116.1.length : Int) != (x106002.length : Int)) x106000 x106001 x106002) else (Ak.j1 k bt108.1 bt112.1 bt116.1 true x106000 x106001 x106002)) else (Ak.j1 k bt108.1 bt112.1 bt116.1 true x106000 x106001 x106002)) else (Ak.j1 k bt108.1 bt112.1 bt116.1 true x106000 x106001 x106002))))))))
def Ak.j1 : Nat → List Int → List Int → List Int → Bool → Int → Int → List Bool → Option (Bool)
 | 0, _, _, _, _, _, _, _ => none
 | k + 1, x3, x5, x7, x74, x106000, x106001, x106002 => if x74 = true then (some false) else (Ak.l0 k x3 x5 x7 0 x106000 x106001 x106002)
def Ak.l0 : Nat → List Int → List Int → List Int → Int → Int → Int → List Bool → Option (Bool)
 | 0, _, _, _, _, _, _, _ => none
 | k + 1, x3, x5, x7, x9, x106000, x106001, x106002 => if x9 < (x106002.length : Int) then (Ak.l1 k x3 x5 x7 x9 (-1) (-1) (-1) 0 x106000 x106001 x106002) else (some true)
def Ak.l1 : Nat → List Int → List Int → List Int → Int → Int → Int → Int → Int → Int → Int → List Bool → Option (Bool)
 | 0, _, _, _, _, _, _, _, _, _, _, _ => none
 | k + 1, x3, x5, x7, x9, x10, x11, x12, x13, x106000, x106001, x106002 => if x13 < (x106002.length : Int) then (if 0 ≤ x13 then (if rdOf false x106002 x13 = true then (if x106000 = 0 then (none) else (if x10 < 0 then (Ak.l1 k x3 x5 x7 x9 (mn (wrap64 ((mx (wrap64 ((Int.tmod x9 x106000) - (Int.tmod x13 x106000))) (wrap64 (-(wrap64 ((Int.tmod x9 x106000) - (Int.tmod x13 x106000)))))) + (mx (wrap64 ((wrap64 (Int.tdiv x9 x106000)) - (wrap64 (Int.tdiv x13 x106000)))) (wrap64 (-(wrap64 ((wrap64 (Int.tdiv x9 x106000)) - (wrap64 (Int.tdiv x13 x106000))))))))) (wrap64 ((mx (wrap64 ((Int.tmod x9 x106000) - (Int.tmod x13 x106000))) (wrap64 (-(wrap64 ((Int.tmod x9 x106000) - (Int.tmod x13 x106000)))))) + (mx (wrap64 ((wrap64 (Int.tdiv x9 x106000)) - (wrap64 (Int.tdiv x13 x106000)))) (wrap64 (-(wrap64 ((wrap64 (Int.tdiv x9 x106000)) - (wrap64 (Int.tdiv x13 x106000)))))))))) (mn (mx (mx (wrap64 ((Int.tmod x9 x106000) - (Int.tmod x13 x106000))) (wrap64 (-(wrap64 ((Int.tmod x9 x106000) - (Int.tmod x13 x106000)))))) (mx (wrap64 ((wrap64 (Int.tdiv x9 x106000)) - (wrap64 (Int.tdiv x13 x106000)))) (wrap64 (-(wrap64 ((wrap64 (Int.tdiv x9 x106000)) - (wrap64 (Int.tdiv x13 x106000)))))))) (mx (mx (wrap64 ((Int.tmod x9 x106000) - (Int.tmod x13 x106000))) (wrap64 (-(wrap64 ((Int.tmod x9 x106000) - (Int.tmod x13 x106000)))))) (mx (wrap64 ((wrap64 (Int.tdiv x9 x106000)) - (wrap64 (Int.tdiv x13 x106000)))) (wrap64 (-(wrap64 ((wrap64 (Int.tdiv x9 x106000)) - (wrap64 (Int.tdiv x13 x106000))))))))) (mn (wrap64 ((wrap64 ((mx (wrap64 ((Int.tmod x9 x106000) - (Int.tmod x13 x106000))) (wrap64 (-(wrap64 ((Int.tmod x9 x106000) - (Int.tmod x13 x106000)))))) * (mx (wrap64 ((Int.tmod x9 x106000) - (Int.tmod x13 x106000))) (wrap64 (-(wrap64 ((Int.tmod x9 x106000) - (Int.tmod x13 x106000)))))))) + (wrap64 ((mx (wrap64 ((wrap64 (Int.tdiv x9 x106000)) - (wrap64 (Int.tdiv x13 x106000)))) (wrap64 (-(wrap64 ((wrap64 (Int.tdiv x9 x106000)) - (wrap64 (Int.tdiv x13 x106000))))))) * (mx (wrap64 ((wrap64 (Int.tdiv x9 x106000)) - (wrap64 (Int.tdiv x13 x106000)))) (wrap64 (-(wrap64 ((wrap64 (Int.tdiv x9 x106000)) - (wrap64 (Int.tdiv x13 x106000))))))))))) (wrap64 ((wrap64 ((mx (wrap64 ((Int.tmod x9 x106000) - (Int.tmod x13 x106000))) (wrap64 (-(wrap64 ((Int.tmod x9 x106000) - (Int.tmod x13 x106000)))))) * (mx (wrap64 ((Int.tmod x9 x106000) - (Int.tmod x13 x106000))) (wrap64 (-(wrap64 ((Int.tmod x9 x106000) - (Int.tmod x13 x106000)))))))) + (wrap64 ((mx (wrap64 ((wrap64 (Int.tdiv x9 x106000)) - (wrap64 (Int.tdiv x13 x106000)))) (wrap64 (-(wrap64 ((wrap64 (Int.tdiv x9 x106000)) - (wrap64 (Int.tdiv x13 x106000))))))) * (mx (wrap64 ((wrap64 (Int.tdiv x9 x106000)) - (wrap64 (Int.tdiv x13 x106000)))) (wrap64 (-(wrap64 ((wrap64 (Int.tdiv x9 x106000)) - (wrap64 (Int.tdiv x13 x106000)))))))))))) (wrap64 (x13 + 1)) x106000 x106001 x106002) else (Ak.l1 k x3 x5 x7 x9 (mn x10 (wrap64 ((mx (wrap64 ((Int.tmod x9 x106000) - (Int.tmod x13 x106000))) (wrap64 (-(wrap64 ((Int.tmod x9 x106000) - (Int.tmod x13 x106000)))))) + (mx (wrap64 ((wrap64 (Int.tdiv x9 x106000)) - (wrap64 (Int.tdiv x13 x106000)))) (wrap64 (-(wrap64 ((wrap64 (Int.tdiv x9 x106000)) - (wrap64 (Int.tdiv x13 x106000)))))))))) (mn x11 (mx (mx (wrap64 ((Int.tmod x9 x106000) - (Int.tmod x13 x106000))) (wrap64 (-(wrap64 ((Int.tmod x9 x106000) - (Int.tmod x13 x106000)))))) (mx (wrap64 ((wrap64 (Int.tdiv x9 x106000)) - (wrap64 (Int.tdiv x13 x106000)))) (wrap64 (-(wrap64 ((wrap64 (Int.tdiv x9 x106000)) - (wrap64 (Int.tdiv x13 x106000))))))))) (mn x12 (wrap64 ((wrap64 ((mx (wrap64 ((Int.tmod x9 x106000) - (Int.tmod x13 x106000))) (wrap64 (-(wrap64 ((Int.tmod x9 x106000) - (Int.tmod x13 x106000)))))) * (mx (wrap64 ((Int.tmod x9 x106000) - (Int.tmod x13 x106000))) (wrap64 (-(wrap64 ((Int.tmod x9 x106000) - (Int.tmod x13 x106000)))))))) + (wrap64 ((mx (wrap64 ((wrap64 (Int.tdiv x9 x106000)) - (wrap64 (Int.tdiv x13 x106000)))) (wrap64 (-(wrap64 ((wrap64 (Int.tdiv x9 x106000)) - (wrap64 (Int.tdiv x13 x106000))))))) * (mx (wrap64 ((wrap64 (Int.tdiv x9 x106000)) - (wrap64 (Int.tdiv x13 x106000)))) (wrap64 (-(wrap64 ((wrap64 (Int.tdiv x9 x106000)) - (wrap64 (Int.tdiv x13 x106000)))))))))))) (wrap64 (x13 + 1)) x106000 x106001 x106002))) else (Ak.l1 k x3 x5 x7 x9 x10 x11 x12 (wrap64 (x13 + 1)) x106000 x106001 x106002)) else (none)) else (if 0 ≤ x9 then (if x9 < (x3.length : Int) then (if (rd x3 x9) = x10 then (if x9 < (x5.length : Int) then (if (rd x5 x9) = x11 then (if x9 < (x7.length : Int) then (Ak.j4 k x3 x5 x7 x9 x10 x11 x12 ((rd x7 x9) != x12) x106000 x106001 x106002) else (none)) else (Ak.j4 k x3 x5 x7 x9 x10 x11 x12 true x106000 x106001 x106002)) else (none)) else (Ak.j4 k x3 x5 x7 x9 x10 x11 x12 true x106000 x106001 x106002)) else (none)) else (none))
def Ak.j4 : Nat → List Int → List Int → List Int → Int → Int → Int → Int → Bool → Int → Int → List Bool → Option (Bool)
 | 0, _, _, _, _, _, _, _, _, _, _, _ => none
 | k + 1, x3, x5, x7, x9, x10, x11, x12, x176, x106000, x106001, x106002 => if x176 = true then (some false) else (if x10 ≥ 0 then (if x12 > (wrap64 (x10 * x10)) then (some false) else (if x12 < (wrap64 (x11 * x11)) then (some false) else (if x12 > (wrap64 ((wrap64 (2 * x11)) * x11)) then (some false) else (Ak.l0 k x3 x5 x7 (wrap64 (x9 + 1)) x106000 x106001 x106002)))) else (Ak.l0 k x3 x5 x7 (wrap64 (x9 + 1)) x106000 x106001 x106002))
end
def Ak.f (k : Nat) (a0_0 : Int) (a0_1 : Int) (l0_2 : List Bool) : Option (Bool) := (Ao.f k).bind fun t106 => (if t106 = true then ((Cb.f a0_0 a0_1 l0_2 4).bind fun t107 => (if t107 = true then (Ak.j0 k (decide ((l0_2.length : Int) > 400)) a0_0 a0_1 l0_2) else (Ak.j0 k true a0_0 a0_1 l0_2))) else (some false))
set_option maxHeartbeats 8000000 in
set_option maxRecDepth 100000 in
theorem Ak.calls (k : Nat) (a0_0 : Int) (a0_1 : Int) (A0_2 : Option Addr) (c0_2 : Nat) (l0_2 : List Bool) (r : Bool) (w : World) (hr0_2 : Kd.C Kd.bool w A0_2 l0_2.length l0_2) (hc0_2 : l0_2.length ≤ c0_2) (h : Ak.f k a0_0 a0_1 l0_2 = some r) (HT0 : r = true := by decide) :
  Calls Try.prog 8 #[.agg #[.int .i64 a0_0, .int .i64 a0_1, .slice A0_2 l0_2.length c0_2]] w fun e w' => e = .returned (.bool r) ∧ Below w.heap.size w w' := by
 have HT := Aa.mk HT0
 clear HT0
 have hu50 := Try.underlying50
 have HR0_2 := Aa.mk hr0_2
 have HC0_2 := Aa.mk hc0_2
 clear hr0_2 hc0_2
 have HB := Aa.mk (Below.refl w.heap.size w)
 have H : ((Ao.f k).bind fun t106 => (if t106 = true then ((Cb.f a0_0 a0_1 l0_2 4).bind fun t107 => (if t107 = true then (Ak.j0 k (decide ((l0_2.length : Int) > 400)) a0_0 a0_1 l0_2) else (Ak.j0 k true a0_0 a0_1 l0_2))) else (some false))) = some r := h
 clear h
 replace H := Option.bind_eq_some_iff.mp H
 obtain ⟨t106, A20, H⟩ := H
 replace H : (if t106 = true then ((Cb.f a0_0 a0_1 l0_2 4).bind fun t107 => (if t107 = true then (Ak.j0 k (decide ((l0_2.length : Int) > 400)) a0_0 a0_1 l0_2) else (Ak.j0 k true a0_0 a0_1 l0_2))) else (some false)) = some r := H
 have A2 := Aa.mk A20
 clear A20
 by_cases c3 : t106 = true
 ·subst c3
  have H1 : ((Cb.f a0_0 a0_1 l0_2 4).bind fun t107 => (if t107 = true then (Ak.j0 k (decide ((l0_2.length : Int) > 400)) a0_0 a0_1 l0_2) else (Ak.j0 k true a0_0 a0_1 l0_2))) = some r := by rw [if_pos rfl] at H; exact H
  clear H
  have H := H1
  clear H1
  have HC4 := Aa.mk H
  clear H
  go_enter Try.func8, Try.ntmps8
  go_upto_region 3 with (first | ((with_reducible refine Be (N := 1) rfl ?_); (try (refine Ci (by rfl) ?_; dsimp only)); refine Bf ?hg (N := 1) ?hd (cs := #[.int .i64 a0_0, .int .i64 a0_1, .slice A0_2 l0_2.length c0_2]) (t := 50) ?hr ?_; (case hd => rfl); (case hg => rfl); (case hr => first | (go_simp; done) | (go_simp; rfl)); intro gb105 hg w5 hbox hb; have n0_ := Aa.mk (As (by repeat (first | (with_reducible first | exact HB.out | apply Ac | apply Ab | apply Ad) | exact HB.out)) hb); have n1_ := Aa.mk (hbox); have n2_ := Aa.mk ((by rw [hg]; exact (Ap (by repeat (first | (with_reducible first | exact HB.out | apply Ac | apply Ab | apply Ad) | exact HB.out))) : w.heap.size ≤ gb105)); have n3_ := Aa.mk ((by rw [hg]; exact (Ap (by repeat (first | (with_reducible first | exact HB.out | apply Ac | apply Ab | apply Ad) | exact HB.out))) : w.heap.size ≤ gb105)); clear HB; have HB := n0_; have BK105 := n1_; have GW105 := n2_; have GE105 := n3_; clear n0_ n1_ n2_ n3_; clear hb hbox hg) | (go_at_call 13; (with_reducible refine (Ao.calls k  true _ A2.out).mono ?_); rintro e w6 ⟨rfl, hb⟩; have n0_ := Aa.mk (Ar (g := gb105) (o := .cells #[.int .i64 a0_0, .int .i64 a0_1, .slice A0_2 l0_2.length c0_2] 50 (0, 0)) (by (with_reducible repeat (first | refine Ai ?_ _ | refine Aj ?_ | refine Af ?_ _)); exact BK105.out) hb); have n1_ := Aa.mk (As (by repeat (first | (with_reducible first | exact HB.out | apply Ac | apply Ab | apply Ad | refine Ah ?_ GE105.out) | exact HB.out)) hb); clear BK105; clear HB; have BK105 := n0_; have HB := n1_; clear n0_ n1_; (try clear hb); (try clear hb2); (try clear hk); (try clear hi)))
  repeat (go_quiet (first | ((with_reducible refine Be (N := 1) rfl ?_); (try (refine Ci (by rfl) ?_; dsimp only)); refine Bf ?hg (N := 1) ?hd (cs := #[.int .i64 a0_0, .int .i64 a0_1, .slice A0_2 l0_2.length c0_2]) (t := 50) ?hr ?_; (case hd => rfl); (case hg => rfl); (case hr => first | (go_simp; done) | (go_simp; rfl)); intro gb105 hg w5 hbox hb; have n0_ := Aa.mk (As (by repeat (first | (with_reducible first | exact HB.out | apply Ac | apply Ab | apply Ad) | exact HB.out)) hb); have n1_ := Aa.mk (hbox); have n2_ := Aa.mk ((by rw [hg]; exact (Ap (by repeat (first | (with_reducible first | exact HB.out | apply Ac | apply Ab | apply Ad) | exact HB.out))) : w.heap.size ≤ gb105)); have n3_ := Aa.mk ((by rw [hg]; exact (Ap (by repeat (first | (with_reducible first | exact HB.out | apply Ac | apply Ab | apply Ad) | exact HB.out))) : w.heap.size ≤ gb105)); clear HB; have HB := n0_; have BK105 := n1_; have GW105 := n2_; have GE105 := n3_; clear n0_ n1_ n2_ n3_; clear hb hbox hg) | (go_at_call 13; (with_reducible refine (Ao.calls k  true _ A2.out).mono ?_); rintro e w6 ⟨rfl, hb⟩; have n0_ := Aa.mk (Ar (g := gb105) (o := .cells #[.int .i64 a0_0, .int .i64 a0_1, .slice A0_2 l0_2.length c0_2] 50 (0, 0)) (by (with_reducible repeat (first | refine Ai ?_ _ | refine Aj ?_ | refine Af ?_ _)); exact BK105.out) hb); have n1_ := Aa.mk (As (by repeat (first | (with_reducible first | exact HB.out | apply Ac | apply Ab | apply Ad | refine Ah ?_ GE105.out) | exact HB.out)) hb); clear BK105; clear HB; have BK105 := n0_; have HB := n1_; clear n0_ n1_; (try clear hb); (try clear hb2); (try clear hk); (try clear hi))); go_upto_region 3 with (first | ((with_reducible refine Be (N := 1) rfl ?_); (try (refine Ci (by rfl) ?_; dsimp only)); refine Bf ?hg (N := 1) ?hd (cs := #[.int .i64 a0_0, .int .i64 a0_1, .slice A0_2 l0_2.length c0_2]) (t := 50) ?hr ?_; (case hd => rfl); (case hg => rfl); (case hr => first | (go_simp; done) | (go_simp; rfl)); intro gb105 hg w5 hbox hb; have n0_ := Aa.mk (As (by repeat (first | (with_reducible first | exact HB.out | apply Ac | apply Ab | apply Ad) | exact HB.out)) hb); have n1_ := Aa.mk (hbox); have n2_ := Aa.mk ((by rw [hg]; exact (Ap (by repeat (first | (with_reducible first | exact HB.out | apply Ac | apply Ab | apply Ad) | exact HB.out))) : w.heap.size ≤ gb105)); have n3_ := Aa.mk ((by rw [hg]; exact (Ap (by repeat (first | (with_reducible first | exact HB.out | apply Ac | apply Ab | apply Ad) | exact HB.out))) : w.heap.size ≤ gb105)); clear HB; have HB := n0_; have BK105 := n1_; have GW105 := n2_; have GE105 := n3_; clear n0_ n1_ n2_ n3_; clear hb hbox hg) | (go_at_call 13; (with_reducible refine (Ao.calls k  true _ A2.out).mono ?_); rintro e w6 ⟨rfl, hb⟩; have n0_ := Aa.mk (Ar (g := gb105) (o := .cells #[.int .i64 a0_0, .int .i64 a0_1, .slice A0_2 l0_2.length c0_2] 50 (0, 0)) (by (with_reducible repeat (first | refine Ai ?_ _ | refine Aj ?_ | refine Af ?_ _)); exact BK105.out) hb); have n1_ := Aa.mk (As (by repeat (first | (with_reducible first | exact HB.out | apply Ac | apply Ab | apply Ad | refine Ah ?_ GE105.out) | exact HB.out)) hb); clear BK105; clear HB; have BK105 := n0_; have HB := n1_; clear n0_ n1_; (try clear hb); (try clear hb2); (try clear hk); (try clear hi))))
  (try simp only [Act.put, List.setIfInBounds_toArray, List.set_cons_zero, List.set_cons_succ])
  go_cut [26] (fun v26 wc => ∃ (kq : Nat) (x26_3 : Bool), v26 = .bool x26_3 ∧ Aa (Ak.j0 kq x26_3 a0_0 a0_1 l0_2 = some r) ∧ Aa (kq ≤ k) ∧ Aa (wc.heap[gb105]? = some (.cells #[.int .i64 a0_0, .int .i64 a0_1, (.slice A0_2 l0_2.length c0_2)] 50 (0, 0))) ∧ Aa (Below w.heap.size w wc))
  case first => as_aux_lemma =>
   have H := HC4.out
   clear HC4
   replace H := Option.bind_eq_some_iff.mp H
   obtain ⟨t107, A70, H⟩ := H
   replace H : (if t107 = true then (Ak.j0 k (decide ((l0_2.length : Int) > 400)) a0_0 a0_1 l0_2) else (Ak.j0 k true a0_0 a0_1 l0_2)) = some r := H
   have A7 := Aa.mk A70
   clear A70
   by_cases c8 : t107 = true
   ·subst c8
    have H1 : (Ak.j0 k (decide ((l0_2.length : Int) > 400)) a0_0 a0_1 l0_2) = some r := by rw [if_pos rfl] at H; exact H
    clear H
    have H := H1
    clear H1
    have H' := Aa.mk H
    clear H
    have hcz9_0 : w6.cell? ⟨gb105, 0, none⟩ = some (.int .i64 a0_0) := (Ag BK105.out 0).trans rfl
    have hcz9_1 : w6.cell? ⟨gb105, 1, none⟩ = some (.int .i64 a0_1) := (Ag BK105.out 1).trans rfl
    have hcz9_2 : w6.cell? ⟨gb105, 2, none⟩ = some (.slice A0_2 l0_2.length c0_2) := (Ag BK105.out 2).trans rfl
    have hfz9_0 := Ae BK105.out 0
    have hfz9_1 := Ae BK105.out 1
    have hfz9_2 := Ae BK105.out 2
    go_wp2_with (first | (go_at_call 36; (with_reducible refine (Cb.calls a0_0 a0_1 _ _ l0_2 4 true _ ?side1 ?side2 A7.out).mono ?_); (case side1 => repeat (first | exact (Kd.B4 HR0_2.out HB.out) | (with_reducible refine Kd.Bj ?_ _) | (with_reducible refine Kd.Bu ?_ _) | (with_reducible refine Kd.B3 ?_))); (case side2 => exact HC0_2.out); rintro e w10 ⟨rfl, hb⟩; have n0_ := Aa.mk (Ar (g := gb105) (o := .cells #[.int .i64 a0_0, .int .i64 a0_1, .slice A0_2 l0_2.length c0_2] 50 (0, 0)) (by (with_reducible repeat (first | refine Ai ?_ _ | refine Aj ?_ | refine Af ?_ _)); exact BK105.out) hb); have n1_ := Aa.mk (As (by repeat (first | (with_reducible first | exact HB.out | apply Ac | apply Ab | apply Ad | refine Ah ?_ GE105.out) | exact HB.out)) hb); clear BK105; clear HB; have BK105 := n0_; have HB := n1_; clear n0_ n1_; (try clear hb); (try clear hb2); (try clear hk); (try clear hi); have hcz11_0 : w10.cell? ⟨gb105, 0, none⟩ = some (.int .i64 a0_0) := (Ag BK105.out 0).trans rfl; have hcz11_1 : w10.cell? ⟨gb105, 1, none⟩ = some (.int .i64 a0_1) := (Ag BK105.out 1).trans rfl; have hcz11_2 : w10.cell? ⟨gb105, 2, none⟩ = some (.slice A0_2 l0_2.length c0_2) := (Ag BK105.out 2).trans rfl; have hfz11_0 := Ae BK105.out 0; have hfz11_1 := Ae BK105.out 1; have hfz11_2 := Ae BK105.out 2))
    repeat (go_quiet (first | (go_at_call 36; (with_reducible refine (Cb.calls a0_0 a0_1 _ _ l0_2 4 true _ ?side1 ?side2 A7.out).mono ?_); (case side1 => repeat (first | exact (Kd.B4 HR0_2.out HB.out) | (with_reducible refine Kd.Bj ?_ _) | (with_reducible refine Kd.Bu ?_ _) | (with_reducible refine Kd.B3 ?_))); (case side2 => exact HC0_2.out); rintro e w10 ⟨rfl, hb⟩; have n0_ := Aa.mk (Ar (g := gb105) (o := .cells #[.int .i64 a0_0, .int .i64 a0_1, .slice A0_2 l0_2.length c0_2] 50 (0, 0)) (by (with_reducible repeat (first | refine Ai ?_ _ | refine Aj ?_ | refine Af ?_ _)); exact BK105.out) hb); have n1_ := Aa.mk (As (by repeat (first | (with_reducible first | exact HB.out | apply Ac | apply Ab | apply Ad | refine Ah ?_ GE105.out) | exact HB.out)) hb); clear BK105; clear HB; have BK105 := n0_; have HB := n1_; clear n0_ n1_; (try clear hb); (try clear hb2); (try clear hk); (try clear hi); have hcz11_0 : w10.cell? ⟨gb105, 0, none⟩ = some (.int .i64 a0_0) := (Ag BK105.out 0).trans rfl; have hcz11_1 : w10.cell? ⟨gb105, 1, none⟩ = some (.int .i64 a0_1) := (Ag BK105.out 1).trans rfl; have hcz11_2 : w10.cell? ⟨gb105, 2, none⟩ = some (.slice A0_2 l0_2.length c0_2) := (Ag BK105.out 2).trans rfl; have hfz11_0 := Ae BK105.out 0; have hfz11_1 := Ae BK105.out 1; have hfz11_2 := Ae BK105.out 2)); try go_wp2_with (first | (go_at_call 36; (with_reducible refine (Cb.calls a0_0 a0_1 _ _ l0_2 4 true _ ?side1 ?side2 A7.out).mono ?_); (case side1 => repeat (first | exact (Kd.B4 HR0_2.out HB.out) | (with_reducible refine Kd.Bj ?_ _) | (with_reducible refine Kd.Bu ?_ _) | (with_reducible refine Kd.B3 ?_))); (case side2 => exact HC0_2.out); rintro e w10 ⟨rfl, hb⟩; have n0_ := Aa.mk (Ar (g := gb105) (o := .cells #[.int .i64 a0_0, .int .i64 a0_1, .slice A0_2 l0_2.length c0_2] 50 (0, 0)) (by (with_reducible repeat (first | refine Ai ?_ _ | refine Aj ?_ | refine Af ?_ _)); exact BK105.out) hb); have n1_ := Aa.mk (As (by repeat (first | (with_reducible first | exact HB.out | apply Ac | apply Ab | apply Ad | refine Ah ?_ GE105.out) | exact HB.out)) hb); clear BK105; clear HB; have BK105 := n0_; have HB := n1_; clear n0_ n1_; (try clear hb); (try clear hb2); (try clear hk); (try clear hi); have hcz11_0 : w10.cell? ⟨gb105, 0, none⟩ = some (.int .i64 a0_0) := (Ag BK105.out 0).trans rfl; have hcz11_1 : w10.cell? ⟨gb105, 1, none⟩ = some (.int .i64 a0_1) := (Ag BK105.out 1).trans rfl; have hcz11_2 : w10.cell? ⟨gb105, 2, none⟩ = some (.slice A0_2 l0_2.length c0_2) := (Ag BK105.out 2).trans rfl; have hfz11_0 := Ae BK105.out 0; have hfz11_1 := Ae BK105.out 1; have hfz11_2 := Ae BK105.out 2)))
    go_meet
    case rel => exact ⟨_, (decide ((l0_2.length : Int) > 400)), (by first | rfl | (simp; done) | (simp [*]; done)), H', ⟨by first | omega | exact Nat.le_refl _⟩, ⟨by (with_reducible repeat (first | refine Ai ?_ _ | refine Aj ?_ | refine Af ?_ _)); exact BK105.out⟩, ⟨by repeat (first | (with_reducible first | exact HB.out | apply Ac | apply Ab | apply Ad | refine Ah ?_ GE105.out) | exact HB.out)⟩⟩
   ·replace c8 := Bool.eq_false_iff.mpr c8
    subst c8
    have H1 : (Ak.j0 k true a0_0 a0_1 l0_2) = some r := by rw [if_neg (show ¬ (false = true) by decide)] at H; exact H
    clear H
    have H := H1
    clear H1
    have H' := Aa.mk H
    clear H
    have hcz12_0 : w6.cell? ⟨gb105, 0, none⟩ = some (.int .i64 a0_0) := (Ag BK105.out 0).trans rfl
    have hcz12_1 : w6.cell? ⟨gb105, 1, none⟩ = some (.int .i64 a0_1) := (Ag BK105.out 1).trans rfl
    have hcz12_2 : w6.cell? ⟨gb105, 2, none⟩ = some (.slice A0_2 l0_2.length c0_2) := (Ag BK105.out 2).trans rfl
    have hfz12_0 := Ae BK105.out 0
    have hfz12_1 := Ae BK105.out 1
    have hfz12_2 := Ae BK105.out 2
    go_wp2_with (first | (go_at_call 36; (with_reducible refine (Cb.calls a0_0 a0_1 _ _ l0_2 4 false _ ?side1 ?side2 A7.out).mono ?_); (case side1 => repeat (first | exact (Kd.B4 HR0_2.out HB.out) | (with_reducible refine Kd.Bj ?_ _) | (with_reducible refine Kd.Bu ?_ _) | (with_reducible refine Kd.B3 ?_))); (case side2 => exact HC0_2.out); rintro e w13 ⟨rfl, hb⟩; have n0_ := Aa.mk (Ar (g := gb105) (o := .cells #[.int .i64 a0_0, .int .i64 a0_1, .slice A0_2 l0_2.length c0_2] 50 (0, 0)) (by (with_reducible repeat (first | refine Ai ?_ _ | refine Aj ?_ | refine Af ?_ _)); exact BK105.out) hb); have n1_ := Aa.mk (As (by repeat (first | (with_reducible first | exact HB.out | apply Ac | apply Ab | apply Ad | refine Ah ?_ GE105.out) | exact HB.out)) hb); clear BK105; clear HB; have BK105 := n0_; have HB := n1_; clear n0_ n1_; (try clear hb); (try clear hb2); (try clear hk); (try clear hi)))
    repeat (go_quiet (first | (go_at_call 36; (with_reducible refine (Cb.calls a0_0 a0_1 _ _ l0_2 4 false _ ?side1 ?side2 A7.out).mono ?_); (case side1 => repeat (first | exact (Kd.B4 HR0_2.out HB.out) | (with_reducible refine Kd.Bj ?_ _) | (with_reducible refine Kd.Bu ?_ _) | (with_reducible refine Kd.B3 ?_))); (case side2 => exact HC0_2.out); rintro e w13 ⟨rfl, hb⟩; have n0_ := Aa.mk (Ar (g := gb105) (o := .cells #[.int .i64 a0_0, .int .i64 a0_1, .slice A0_2 l0_2.length c0_2] 50 (0, 0)) (by (with_reducible repeat (first | refine Ai ?_ _ | refine Aj ?_ | refine Af ?_ _)); exact BK105.out) hb); have n1_ := Aa.mk (As (by repeat (first | (with_reducible first | exact HB.out | apply Ac | apply Ab | apply Ad | refine Ah ?_ GE105.out) | exact HB.out)) hb); clear BK105; clear HB; have BK105 := n0_; have HB := n1_; clear n0_ n1_; (try clear hb); (try clear hb2); (try clear hk); (try clear hi))); try go_wp2_with (first | (go_at_call 36; (with_reducible refine (Cb.calls a0_0 a0_1 _ _ l0_2 4 false _ ?side1 ?side2 A7.out).mono ?_); (case side1 => repeat (first | exact (Kd.B4 HR0_2.out HB.out) | (with_reducible refine Kd.Bj ?_ _) | (with_reducible refine Kd.Bu ?_ _) | (with_reducible refine Kd.B3 ?_))); (case side2 => exact HC0_2.out); rintro e w13 ⟨rfl, hb⟩; have n0_ := Aa.mk (Ar (g := gb105) (o := .cells #[.int .i64 a0_0, .int .i64 a0_1, .slice A0_2 l0_2.length c0_2] 50 (0, 0)) (by (with_reducible repeat (first | refine Ai ?_ _ | refine Aj ?_ | refine Af ?_ _)); exact BK105.out) hb); have n1_ := Aa.mk (As (by repeat (first | (with_reducible first | exact HB.out | apply Ac | apply Ab | apply Ad | refine Ah ?_ GE105.out) | exact HB.out)) hb); clear BK105; clear HB; have BK105 := n0_; have HB := n1_; clear n0_ n1_; (try clear hb); (try clear hb2); (try clear hk); (try clear hi))))
    go_meet
    case rel => exact ⟨_, (true), (by first | rfl | (simp; done) | (simp [*]; done)), H', ⟨by first | omega | exact Nat.le_refl _⟩, ⟨by (with_reducible repeat (first | refine Ai ?_ _ | refine Aj ?_ | refine Af ?_ _)); exact BK105.out⟩, ⟨by repeat (first | (with_reducible first | exact HB.out | apply Ac | apply Ab | apply Ad | refine Ah ?_ GE105.out) | exact HB.out)⟩⟩
  case rest => as_aux_lemma =>
   clear HC4
   try clear p2
   try clear c3
   try clear c8
   try clear hcz11_0
   try clear hcz11_1
   try clear hcz11_2
   try clear hcz12_0
   try clear hcz12_1
   try clear hcz12_2
   try clear hcz9_0
   try clear hcz9_1
   try clear hcz9_2
   try clear hfz11_0
   try clear hfz11_1
   try clear hfz11_2
   try clear hfz12_0
   try clear hfz12_1
   try clear hfz12_2
   try clear hfz9_0
   try clear hfz9_1
   try clear hfz9_2
   obtain ⟨kq, x26_3, rfl, HA, HJ3, BK105, HB⟩ := hcut
   cases kq with
   | zero => exact absurd HA.out (by simp [Ak.j0])
   | succ kj3 =>
    have H := HA.out
    clear HA
    simp only [Ak.j0] at H
    by_cases c14 : x26_3 = true
    ·subst c14
     have H1 : (some true) = some r := by rw [if_pos rfl] at H; exact H
     clear H
     have H := H1
     clear H1
     obtain rfl := Option.some.inj H
     go_wp2
     repeat (go_quiet (fail); try go_wp2)
     go_ret
     exact ⟨by first | rfl | (simp [Bd, Bc] <;> rfl) | (simp [*, Bd, Bc] <;> rfl), by repeat (first | (with_reducible first | exact HB.out | apply Ac | apply Ab | apply Ad | refine Ah ?_ GE105.out) | exact HB.out)⟩
    ·replace c14 := Bool.eq_false_iff.mpr c14
     subst c14
     have H1 : ((Cf.f a0_0 a0_1 l0_2 4).bind fun bt108 => ((Cf.f a0_0 a0_1 l0_2 8).bind fun bt112 => ((Ba.f kj3 a0_0 a0_1 l0_2).bind fun bt116 => ((Aw.f bt108.2).bind fun t120 => ((Aw.f bt112.2).bind fun t121 => ((Aw.f bt116.2).bind fun t122 => (if (wrap64 ((wrap64 (t120 + t121)) + t122)) = 0 then (if (bt108.1.length : Int) = (l0_2.length : Int) then (if (bt112.1.length : Int) = (l0_2.length : Int) then (Ak.j1 kj3 bt108.1 bt112.1 bt116.1 ((bt116.1.length : Int) != (l0_2.length : Int)) a0_0 a0_1 l0_2) else (Ak.j1 kj3 bt108.1 bt112.1 bt116.1 true a0_0 a0_1 l0_2)) else (Ak.j1 kj3 bt108.1 bt112.1 bt116.1 true a0_0 a0_1 l0_2)) else (Ak.j1 kj3 bt108.1 bt112.1 bt116.1 true a0_0 a0_1 l0_2)))))))) = some r := by rw [if_neg (show ¬ (false = true) by decide)] at H; exact H
     clear H
     have H := H1
     clear H1
     replace H := Option.bind_eq_some_iff.mp H
     obtain ⟨⟨t108, t111⟩, A150, H⟩ := H
     replace H : ((Cf.f a0_0 a0_1 l0_2 8).bind fun bt112 => ((Ba.f kj3 a0_0 a0_1 l0_2).bind fun bt116 => ((Aw.f t111).bind fun t120 => ((Aw.f bt112.2).bind fun t121 => ((Aw.f bt116.2).bind fun t122 => (if (wrap64 ((wrap64 (t120 + t121)) + t122)) = 0 then (if (t108.length : Int) = (l0_2.length : Int) then (if (bt112.1.length : Int) = (l0_2.length : Int) then (Ak.j1 kj3 t108 bt112.1 bt116.1 ((bt116.1.length : Int) != (l0_2.length : Int)) a0_0 a0_1 l0_2) else (Ak.j1 kj3 t108 bt112.1 bt116.1 true a0_0 a0_1 l0_2)) else (Ak.j1 kj3 t108 bt112.1 bt116.1 true a0_0 a0_1 l0_2)) else (Ak.j1 kj3 t108 bt112.1 bt116.1 true a0_0 a0_1 l0_2))))))) = some r := H
     have A15 := Aa.mk A150
     clear A150
     replace H := Option.bind_eq_some_iff.mp H
     obtain ⟨⟨t112, t115⟩, A160, H⟩ := H
     replace H : ((Ba.f kj3 a0_0 a0_1 l0_2).bind fun bt116 => ((Aw.f t111).bind fun t120 => ((Aw.f t115).bind fun t121 => ((Aw.f bt116.2).bind fun t122 => (if (wrap64 ((wrap64 (t120 + t121)) + t122)) = 0 then (if (t108.length : Int) = (l0_2.length : Int) then (if (t112.length : Int) = (l0_2.length : Int) then (Ak.j1 kj3 t108 t112 bt116.1 ((bt116.1.length : Int) != (l0_2.length : Int)) a0_0 a0_1 l0_2) else (Ak.j1 kj3 t108 t112 bt116.1 true a0_0 a0_1 l0_2)) else (Ak.j1 kj3 t108 t112 bt116.1 true a0_0 a0_1 l0_2)) else (Ak.j1 kj3 t108 t112 bt116.1 true a0_0 a0_1 l0_2)))))) = some r := H
     have A16 := Aa.mk A160
     clear A160
     replace H := Option.bind_eq_some_iff.mp H
     obtain ⟨⟨t116, t119⟩, A170, H⟩ := H
     replace H : ((Aw.f t111).bind fun t120 => ((Aw.f t115).bind fun t121 => ((Aw.f t119).bind fun t122 => (if (wrap64 ((wrap64 (t120 + t121)) + t122)) = 0 then (if (t108.length : Int) = (l0_2.length : Int) then (if (t112.length : Int) = (l0_2.length : Int) then (Ak.j1 kj3 t108 t112 t116 ((t116.length : Int) != (l0_2.length : Int)) a0_0 a0_1 l0_2) else (Ak.j1 kj3 t108 t112 t116 true a0_0 a0_1 l0_2)) else (Ak.j1 kj3 t108 t112 t116 true a0_0 a0_1 l0_2)) else (Ak.j1 kj3 t108 t112 t116 true a0_0 a0_1 l0_2))))) = some r := H
     have A17 := Aa.mk A170
     clear A170
     have HC18 := Aa.mk H
     clear H
     have hcz19_0 : wc.cell? ⟨gb105, 0, none⟩ = some (.int .i64 a0_0) := (Ag BK105.out 0).trans rfl
     have hcz19_1 : wc.cell? ⟨gb105, 1, none⟩ = some (.int .i64 a0_1) := (Ag BK105.out 1).trans rfl
     have hcz19_2 : wc.cell? ⟨gb105, 2, none⟩ = some (.slice A0_2 l0_2.length c0_2) := (Ag BK105.out 2).trans rfl
     have hfz19_0 := Ae BK105.out 0
     have hfz19_1 := Ae BK105.out 1
     have hfz19_2 := Ae BK105.out 2
     go_upto_region 8 with (first | (go_at_call 31; (with_reducible refine (Cf.calls a0_0 a0_1 _ _ l0_2 4 t108 t111 _ ?side1 ?side2 A15.out).mono ?_); (case side1 => repeat (first | exact (Kd.B4 HR0_2.out HB.out) | (with_reducible refine Kd.Bj ?_ _) | (with_reducible refine Kd.Bu ?_ _) | (with_reducible refine Kd.B3 ?_))); (case side2 => exact HC0_2.out); rintro e w20 ⟨v109, rfl, ho0, hb⟩; have n0_ := Aa.mk (Kd.B6 ho0 (Ap (by repeat (first | (with_reducible first | exact HB.out | apply Ac | apply Ab | apply Ad | refine Ah ?_ GE105.out) | exact HB.out)))); have n1_ := Aa.mk (Ar (g := gb105) (o := .cells #[.int .i64 a0_0, .int .i64 a0_1, .slice A0_2 l0_2.length c0_2] 50 (0, 0)) (by (with_reducible repeat (first | refine Ai ?_ _ | refine Aj ?_ | refine Af ?_ _)); exact BK105.out) hb); have n2_ := Aa.mk (As (by repeat (first | (with_reducible first | exact HB.out | apply Ac | apply Ab | apply Ad | refine Ah ?_ GE105.out) | exact HB.out)) hb); clear BK105; clear HB; have HO110 := n0_; have BK105 := n1_; have HB := n2_; clear n0_ n1_ n2_; (try clear hb); (try clear hb2); (try clear hk); (try clear hi); (try clear ho0); have hcz21_0 : w20.cell? ⟨gb105, 0, none⟩ = some (.int .i64 a0_0) := (Ag BK105.out 0).trans rfl; have hcz21_1 : w20.cell? ⟨gb105, 1, none⟩ = some (.int .i64 a0_1) := (Ag BK105.out 1).trans rfl; have hcz21_2 : w20.cell? ⟨gb105, 2, none⟩ = some (.slice A0_2 l0_2.length c0_2) := (Ag BK105.out 2).trans rfl; have hfz21_0 := Ae BK105.out 0; have hfz21_1 := Ae BK105.out 1; have hfz21_2 := Ae BK105.out 2) | (go_at_call 31; (with_reducible refine (Cf.calls a0_0 a0_1 _ _ l0_2 8 t112 t115 _ ?side1 ?side2 A16.out).mono ?_); (case side1 => repeat (first | exact (Kd.B4 HR0_2.out HB.out) | (with_reducible refine Kd.Bj ?_ _) | (with_reducible refine Kd.Bu ?_ _) | (with_reducible refine Kd.B3 ?_))); (case side2 => exact HC0_2.out); rintro e w22 ⟨v113, rfl, ho0, hb⟩; have n0_ := Aa.mk (Kd.Bw (by (with_reducible repeat (first | apply Kd.Am | apply Kd.An | apply Kd.Aq)); exact HO110.out) (Kd.B9 ho0) hb); have n1_ := Aa.mk (Kd.B6 (Kd.Ca ho0 (Kd.Co (by (with_reducible repeat (first | apply Kd.Am | apply Kd.An | apply Kd.Aq)); exact HO110.out))) (Ap (by repeat (first | (with_reducible first | exact HB.out | apply Ac | apply Ab | apply Ad | refine Ah ?_ GE105.out) | exact HB.out)))); have n2_ := Aa.mk (Ar (g := gb105) (o := .cells #[.int .i64 a0_0, .int .i64 a0_1, .slice A0_2 l0_2.length c0_2] 50 (0, 0)) (by (with_reducible repeat (first | refine Ai ?_ _ | refine Aj ?_ | refine Af ?_ _)); exact BK105.out) hb); have n3_ := Aa.mk (As (by repeat (first | (with_reducible first | exact HB.out | apply Ac | apply Ab | apply Ad | refine Ah ?_ GE105.out) | exact HB.out)) hb); clear HO110; clear BK105; clear HB; have HO110 := n0_; have HO114 := n1_; have BK105 := n2_; have HB := n3_; clear n0_ n1_ n2_ n3_; (try clear hb); (try clear hb2); (try clear hk); (try clear hi); (try clear ho0); have hcz23_0 : w22.cell? ⟨gb105, 0, none⟩ = some (.int .i64 a0_0) := (Ag BK105.out 0).trans rfl; have hcz23_1 : w22.cell? ⟨gb105, 1, none⟩ = some (.int .i64 a0_1) := (Ag BK105.out 1).trans rfl; have hcz23_2 : w22.cell? ⟨gb105, 2, none⟩ = some (.slice A0_2 l0_2.length c0_2) := (Ag BK105.out 2).trans rfl; have hfz23_0 := Ae BK105.out 0; have hfz23_1 := Ae BK105.out 1; have hfz23_2 := Ae BK105.out 2) | (go_at_call 32; (with_reducible refine (Ba.calls kj3 a0_0 a0_1 _ _ l0_2 t116 t119 _ ?side1 ?side2 A17.out).mono ?_); (case side1 => repeat (first | exact (Kd.B4 HR0_2.out HB.out) | (with_reducible refine Kd.Bj ?_ _) | (with_reducible refine Kd.Bu ?_ _) | (with_reducible refine Kd.B3 ?_))); (case side2 => exact HC0_2.out); rintro e w24 ⟨v117, rfl, ho0, hb⟩; have n0_ := Aa.mk (Kd.Bw (by (with_reducible repeat (first | apply Kd.Am | apply Kd.An | apply Kd.Aq)); exact HO110.out) (Kd.B9 ho0) hb); have n1_ := Aa.mk (Kd.Bw (by (with_reducible repeat (first | apply Kd.Am | apply Kd.An | apply Kd.Aq)); exact HO114.out) (Kd.B9 ho0) hb); have n2_ := Aa.mk (Kd.B6 (Kd.Ca (Kd.Ca ho0 (Kd.Co (by (with_reducible repeat (first | apply Kd.Am | apply Kd.An | apply Kd.Aq)); exact HO110.out))) (Kd.Co (by (with_reducible repeat (first | apply Kd.Am | apply Kd.An | apply Kd.Aq)); exact HO114.out))) (Ap (by repeat (first | (with_reducible first | exact HB.out | apply Ac | apply Ab | apply Ad | refine Ah ?_ GE105.out) | exact HB.out)))); have n3_ := Aa.mk (Ar (g := gb105) (o := .cells #[.int .i64 a0_0, .int .i64 a0_1, .slice A0_2 l0_2.length c0_2] 50 (0, 0)) (by (with_reducible repeat (first | refine Ai ?_ _ | refine Aj ?_ | refine Af ?_ _)); exact BK105.out) hb); have n4_ := Aa.mk (As (by repeat (first | (with_reducible first | exact HB.out | apply Ac | apply Ab | apply Ad | refine Ah ?_ GE105.out) | exact HB.out)) hb); clear HO110; clear HO114; clear BK105; clear HB; have HO110 := n0_; have HO114 := n1_; have HO118 := n2_; have BK105 := n3_; have HB := n4_; clear n0_ n1_ n2_ n3_ n4_; (try clear hb); (try clear hb2); (try clear hk); (try clear hi); (try clear ho0)))
     repeat (go_quiet (first | (go_at_call 31; (with_reducible refine (Cf.calls a0_0 a0_1 _ _ l0_2 4 t108 t111 _ ?side1 ?side2 A15.out).mono ?_); (case side1 => repeat (first | exact (Kd.B4 HR0_2.out HB.out) | (with_reducible refine Kd.Bj ?_ _) | (with_reducible refine Kd.Bu ?_ _) | (with_reducible refine Kd.B3 ?_))); (case side2 => exact HC0_2.out); rintro e w20 ⟨v109, rfl, ho0, hb⟩; have n0_ := Aa.mk (Kd.B6 ho0 (Ap (by repeat (first | (with_reducible first | exact HB.out | apply Ac | apply Ab | apply Ad | refine Ah ?_ GE105.out) | exact HB.out)))); have n1_ := Aa.mk (Ar (g := gb105) (o := .cells #[.int .i64 a0_0, .int .i64 a0_1, .slice A0_2 l0_2.length c0_2] 50 (0, 0)) (by (with_reducible repeat (first | refine Ai ?_ _ | refine Aj ?_ | refine Af ?_ _)); exact BK105.out) hb); have n2_ := Aa.mk (As (by repeat (first | (with_reducible first | exact HB.out | apply Ac | apply Ab | apply Ad | refine Ah ?_ GE105.out) | exact HB.out)) hb); clear BK105; clear HB; have HO110 := n0_; have BK105 := n1_; have HB := n2_; clear n0_ n1_ n2_; (try clear hb); (try clear hb2); (try clear hk); (try clear hi); (try clear ho0); have hcz21_0 : w20.cell? ⟨gb105, 0, none⟩ = some (.int .i64 a0_0) := (Ag BK105.out 0).trans rfl; have hcz21_1 : w20.cell? ⟨gb105, 1, none⟩ = some (.int .i64 a0_1) := (Ag BK105.out 1).trans rfl; have hcz21_2 : w20.cell? ⟨gb105, 2, none⟩ = some (.slice A0_2 l0_2.length c0_2) := (Ag BK105.out 2).trans rfl; have hfz21_0 := Ae BK105.out 0; have hfz21_1 := Ae BK105.out 1; have hfz21_2 := Ae BK105.out 2) | (go_at_call 31; (with_reducible refine (Cf.calls a0_0 a0_1 _ _ l0_2 8 t112 t115 _ ?side1 ?side2 A16.out).mono ?_); (case side1 => repeat (first | exact (Kd.B4 HR0_2.out HB.out) | (with_reducible refine Kd.Bj ?_ _) | (with_reducible refine Kd.Bu ?_ _) | (with_reducible refine Kd.B3 ?_))); (case side2 => exact HC0_2.out); rintro e w22 ⟨v113, rfl, ho0, hb⟩; have n0_ := Aa.mk (Kd.Bw (by (with_reducible repeat (first | apply Kd.Am | apply Kd.An | apply Kd.Aq)); exact HO110.out) (Kd.B9 ho0) hb); have n1_ := Aa.mk (Kd.B6 (Kd.Ca ho0 (Kd.Co (by (with_reducible repeat (first | apply Kd.Am | apply Kd.An | apply Kd.Aq)); exact HO110.out))) (Ap (by repeat (first | (with_reducible first | exact HB.out | apply Ac | apply Ab | apply Ad | refine Ah ?_ GE105.out) | exact HB.out)))); have n2_ := Aa.mk (Ar (g := gb105) (o := .cells #[.int .i64 a0_0, .int .i64 a0_1, .slice A0_2 l0_2.length c0_2] 50 (0, 0)) (by (with_reducible repeat (first | refine Ai ?_ _ | refine Aj ?_ | refine Af ?_ _)); exact BK105.out) hb); have n3_ := Aa.mk (As (by repeat (first | (with_reducible first | exact HB.out | apply Ac | apply Ab | apply Ad | refine Ah ?_ GE105.out) | exact HB.out)) hb); clear HO110; clear BK105; clear HB; have HO110 := n0_; have HO114 := n1_; have BK105 := n2_; have HB := n3_; clear n0_ n1_ n2_ n3_; (try clear hb); (try clear hb2); (try clear hk); (try clear hi); (try clear ho0); have hcz23_0 : w22.cell? ⟨gb105, 0, none⟩ = some (.int .i64 a0_0) := (Ag BK105.out 0).trans rfl; have hcz23_1 : w22.cell? ⟨gb105, 1, none⟩ = some (.int .i64 a0_1) := (Ag BK105.out 1).trans rfl; have hcz23_2 : w22.cell? ⟨gb105, 2, none⟩ = some (.slice A0_2 l0_2.length c0_2) := (Ag BK105.out 2).trans rfl; have hfz23_0 := Ae BK105.out 0; have hfz23_1 := Ae BK105.out 1; have hfz23_2 := Ae BK105.out 2) | (go_at_call 32; (with_reducible refine (Ba.calls kj3 a0_0 a0_1 _ _ l0_2 t116 t119 _ ?side1 ?side2 A17.out).mono ?_); (case side1 => repeat (first | exact (Kd.B4 HR0_2.out HB.out) | (with_reducible refine Kd.Bj ?_ _) | (with_reducible refine Kd.Bu ?_ _) | (with_reducible refine Kd.B3 ?_))); (case side2 => exact HC0_2.out); rintro e w24 ⟨v117, rfl, ho0, hb⟩; have n0_ := Aa.mk (Kd.Bw (by (with_reducible repeat (first | apply Kd.Am | apply Kd.An | apply Kd.Aq)); exact HO110.out) (Kd.B9 ho0) hb); have n1_ := Aa.mk (Kd.Bw (by (with_reducible repeat (first | apply Kd.Am | apply Kd.An | apply Kd.Aq)); exact HO114.out) (Kd.B9 ho0) hb); have n2_ := Aa.mk (Kd.B6 (Kd.Ca (Kd.Ca ho0 (Kd.Co (by (with_reducible repeat (first | apply Kd.Am | apply Kd.An | apply Kd.Aq)); exact HO110.out))) (Kd.Co (by (with_reducible repeat (first | apply Kd.Am | apply Kd.An | apply Kd.Aq)); exact HO114.out))) (Ap (by repeat (first | (with_reducible first | exact HB.out | apply Ac | apply Ab | apply Ad | refine Ah ?_ GE105.out) | exact HB.out)))); have n3_ := Aa.mk (Ar (g := gb105) (o := .cells #[.int .i64 a0_0, .int .i64 a0_1, .slice A0_2 l0_2.length c0_2] 50 (0, 0)) (by (with_reducible repeat (first | refine Ai ?_ _ | refine Aj ?_ | refine Af ?_ _)); exact BK105.out) hb); have n4_ := Aa.mk (As (by repeat (first | (with_reducible first | exact HB.out | apply Ac | apply Ab | apply Ad | refine Ah ?_ GE105.out) | exact HB.out)) hb); clear HO110; clear HO114; clear BK105; clear HB; have HO110 := n0_; have HO114 := n1_; have HO118 := n2_; have BK105 := n3_; have HB := n4_; clear n0_ n1_ n2_ n3_ n4_; (try clear hb); (try clear hb2); (try clear hk); (try clear hi); (try clear ho0))); go_upto_region 8 with (first | (go_at_call 31; (with_reducible refine (Cf.calls a0_0 a0_1 _ _ l0_2 4 t108 t111 _ ?side1 ?side2 A15.out).mono ?_); (case side1 => repeat (first | exact (Kd.B4 HR0_2.out HB.out) | (with_reducible refine Kd.Bj ?_ _) | (with_reducible refine Kd.Bu ?_ _) | (with_reducible refine Kd.B3 ?_))); (case side2 => exact HC0_2.out); rintro e w20 ⟨v109, rfl, ho0, hb⟩; have n0_ := Aa.mk (Kd.B6 ho0 (Ap (by repeat (first | (with_reducible first | exact HB.out | apply Ac | apply Ab | apply Ad | refine Ah ?_ GE105.out) | exact HB.out)))); have n1_ := Aa.mk (Ar (g := gb105) (o := .cells #[.int .i64 a0_0, .int .i64 a0_1, .slice A0_2 l0_2.length c0_2] 50 (0, 0)) (by (with_reducible repeat (first | refine Ai ?_ _ | refine Aj ?_ | refine Af ?_ _)); exact BK105.out) hb); have n2_ := Aa.mk (As (by repeat (first | (with_reducible first | exact HB.out | apply Ac | apply Ab | apply Ad | refine Ah ?_ GE105.out) | exact HB.out)) hb); clear BK105; clear HB; have HO110 := n0_; have BK105 := n1_; have HB := n2_; clear n0_ n1_ n2_; (try clear hb); (try clear hb2); (try clear hk); (try clear hi); (try clear ho0); have hcz21_0 : w20.cell? ⟨gb105, 0, none⟩ = some (.int .i64 a0_0) := (Ag BK105.out 0).trans rfl; have hcz21_1 : w20.cell? ⟨gb105, 1, none⟩ = some (.int .i64 a0_1) := (Ag BK105.out 1).trans rfl; have hcz21_2 : w20.cell? ⟨gb105, 2, none⟩ = some (.slice A0_2 l0_2.length c0_2) := (Ag BK105.out 2).trans rfl; have hfz21_0 := Ae BK105.out 0; have hfz21_1 := Ae BK105.out 1; have hfz21_2 := Ae BK105.out 2) | (go_at_call 31; (with_reducible refine (Cf.calls a0_0 a0_1 _ _ l0_2 8 t112 t115 _ ?side1 ?side2 A16.out).mono ?_); (case side1 => repeat (first | exact (Kd.B4 HR0_2.out HB.out) | (with_reducible refine Kd.Bj ?_ _) | (with_reducible refine Kd.Bu ?_ _) | (with_reducible refine Kd.B3 ?_))); (case side2 => exact HC0_2.out); rintro e w22 ⟨v113, rfl, ho0, hb⟩; have n0_ := Aa.mk (Kd.Bw (by (with_reducible repeat (first | apply Kd.Am | apply Kd.An | apply Kd.Aq)); exact HO110.out) (Kd.B9 ho0) hb); have n1_ := Aa.mk (Kd.B6 (Kd.Ca ho0 (Kd.Co (by (with_reducible repeat (first | apply Kd.Am | apply Kd.An | apply Kd.Aq)); exact HO110.out))) (Ap (by repeat (first | (with_reducible first | exact HB.out | apply Ac | apply Ab | apply Ad | refine Ah ?_ GE105.out) | exact HB.out)))); have n2_ := Aa.mk (Ar (g := gb105) (o := .cells #[.int .i64 a0_0, .int .i64 a0_1, .slice A0_2 l0_2.length c0_2] 50 (0, 0)) (by (with_reducible repeat (first | refine Ai ?_ _ | refine Aj ?_ | refine Af ?_ _)); exact BK105.out) hb); have n3_ := Aa.mk (As (by repeat (first | (with_reducible first | exact HB.out | apply Ac | apply Ab | apply Ad | refine Ah ?_ GE105.out) | exact HB.out)) hb); clear HO110; clear BK105; clear HB; have HO110 := n0_; have HO114 := n1_; have BK105 := n2_; have HB := n3_; clear n0_ n1_ n2_ n3_; (try clear hb); (try clear hb2); (try clear hk); (try clear hi); (try clear ho0); have hcz23_0 : w22.cell? ⟨gb105, 0, none⟩ = some (.int .i64 a0_0) := (Ag BK105.out 0).trans rfl; have hcz23_1 : w22.cell? ⟨gb105, 1, none⟩ = some (.int .i64 a0_1) := (Ag BK105.out 1).trans rfl; have hcz23_2 : w22.cell? ⟨gb105, 2, none⟩ = some (.slice A0_2 l0_2.length c0_2) := (Ag BK105.out 2).trans rfl; have hfz23_0 := Ae BK105.out 0; have hfz23_1 := Ae BK105.out 1; have hfz23_2 := Ae BK105.out 2) | (go_at_call 32; (with_reducible refine (Ba.calls kj3 a0_0 a0_1 _ _ l0_2 t116 t119 _ ?side1 ?side2 A17.out).mono ?_); (case side1 => repeat (first | exact (Kd.B4 HR0_2.out HB.out) | (with_reducible refine Kd.Bj ?_ _) | (with_reducible refine Kd.Bu ?_ _) | (with_reducible refine Kd.B3 ?_))); (case side2 => exact HC0_2.out); rintro e w24 ⟨v117, rfl, ho0, hb⟩; have n0_ := Aa.mk (Kd.Bw (by (with_reducible repeat (first | apply Kd.Am | apply Kd.An | apply Kd.Aq)); exact HO110.out) (Kd.B9 ho0) hb); have n1_ := Aa.mk (Kd.Bw (by (with_reducible repeat (first | apply Kd.Am | apply Kd.An | apply Kd.Aq)); exact HO114.out) (Kd.B9 ho0) hb); have n2_ := Aa.mk (Kd.B6 (Kd.Ca (Kd.Ca ho0 (Kd.Co (by (with_reducible repeat (first | apply Kd.Am | apply Kd.An | apply Kd.Aq)); exact HO110.out))) (Kd.Co (by (with_reducible repeat (first | apply Kd.Am | apply Kd.An | apply Kd.Aq)); exact HO114.out))) (Ap (by repeat (first | (with_reducible first | exact HB.out | apply Ac | apply Ab | apply Ad | refine Ah ?_ GE105.out) | exact HB.out)))); have n3_ := Aa.mk (Ar (g := gb105) (o := .cells #[.int .i64 a0_0, .int .i64 a0_1, .slice A0_2 l0_2.length c0_2] 50 (0, 0)) (by (with_reducible repeat (first | refine Ai ?_ _ | refine Aj ?_ | refine Af ?_ _)); exact BK105.out) hb); have n4_ := Aa.mk (As (by repeat (first | (with_reducible first | exact HB.out | apply Ac | apply Ab | apply Ad | refine Ah ?_ GE105.out) | exact HB.out)) hb); clear HO110; clear HO114; clear BK105; clear HB; have HO110 := n0_; have HO114 := n1_; have HO118 := n2_; have BK105 := n3_; have HB := n4_; clear n0_ n1_ n2_ n3_ n4_; (try clear hb); (try clear hb2); (try clear hk); (try clear hi); (try clear ho0))))
     (try simp only [Act.put, List.setIfInBounds_toArray, List.set_cons_zero, List.set_cons_succ])
     go_cut [74] (fun v74 wc => ∃ (kq : Nat) (x74_17 : Bool), v74 = .bool x74_17 ∧ Aa (Ak.j1 kq t108 t112 t116 x74_17 a0_0 a0_1 l0_2 = some r) ∧ Aa (kq ≤ kj3) ∧ Aa (Kd.R (Kd.int .i64) 3 wc w.heap.size (fun k_ => some k_ ≠ (v113 : Value).ownBlock ∧ some k_ ≠ (v117 : Value).ownBlock) v109 t108) ∧ Aa (Kd.R (Kd.int .i64) 3 wc w.heap.size (fun k_ => some k_ ≠ (v109 : Value).ownBlock ∧ some k_ ≠ (v117 : Value).ownBlock) v113 t112) ∧ Aa (Kd.R (Kd.int .i64) 3 wc w.heap.size (fun k_ => some k_ ≠ (v109 : Value).ownBlock ∧ some k_ ≠ (v113 : Value).ownBlock) v117 t116) ∧ Aa (wc.heap[gb105]? = some (.cells #[.int .i64 a0_0, .int .i64 a0_1, (.slice A0_2 l0_2.length c0_2)] 50 (0, 0))) ∧ Aa (Below w.heap.size w wc))
     case first => as_aux_lemma =>
      have H := HC18.out
      clear HC18
      replace H := Option.bind_eq_some_iff.mp H
      obtain ⟨t120, A250, H⟩ := H
      replace H : ((Aw.f t115).bind fun t121 => ((Aw.f t119).bind fun t122 => (if (wrap64 ((wrap64 (t120 + t121)) + t122)) = 0 then (if (t108.length : Int) = (l0_2.length : Int) then (if (t112.length : Int) = (l0_2.length : Int) then (Ak.j1 kj3 t108 t112 t116 ((t116.length : Int) != (l0_2.length : Int)) a0_0 a0_1 l0_2) else (Ak.j1 kj3 t108 t112 t116 true a0_0 a0_1 l0_2)) else (Ak.j1 kj3 t108 t112 t116 true a0_0 a0_1 l0_2)) else (Ak.j1 kj3 t108 t112 t116 true a0_0 a0_1 l0_2)))) = some r := H
      have A25 := Aa.mk A250
      clear A250
      replace H := Option.bind_eq_some_iff.mp H
      obtain ⟨t121, A260, H⟩ := H
      replace H : ((Aw.f t119).bind fun t122 => (if (wrap64 ((wrap64 (t120 + t121)) + t122)) = 0 then (if (t108.length : Int) = (l0_2.length : Int) then (if (t112.length : Int) = (l0_2.length : Int) then (Ak.j1 kj3 t108 t112 t116 ((t116.length : Int) != (l0_2.length : Int)) a0_0 a0_1 l0_2) else (Ak.j1 kj3 t108 t112 t116 true a0_0 a0_1 l0_2)) else (Ak.j1 kj3 t108 t112 t116 true a0_0 a0_1 l0_2)) else (Ak.j1 kj3 t108 t112 t116 true a0_0 a0_1 l0_2))) = some r := H
      have A26 := Aa.mk A260
      clear A260
      replace H := Option.bind_eq_some_iff.mp H
      obtain ⟨t122, A270, H⟩ := H
      replace H : (if (wrap64 ((wrap64 (t120 + t121)) + t122)) = 0 then (if (t108.length : Int) = (l0_2.length : Int) then (if (t112.length : Int) = (l0_2.length : Int) then (Ak.j1 kj3 t108 t112 t116 ((t116.length : Int) != (l0_2.length : Int)) a0_0 a0_1 l0_2) else (Ak.j1 kj3 t108 t112 t116 true a0_0 a0_1 l0_2)) else (Ak.j1 kj3 t108 t112 t116 true a0_0 a0_1 l0_2)) else (Ak.j1 kj3 t108 t112 t116 true a0_0 a0_1 l0_2)) = some r := H
      have A27 := Aa.mk A270
      clear A270
      by_cases c28 : (wrap64 ((wrap64 (t120 + t121)) + t122)) = 0
      ·rw [if_pos c28] at H
       have c28b0 : ((wrap64 ((wrap64 (t120 + t121)) + t122)) == 0) = true := beq_iff_eq.mpr c28
       have c28b1 : ((wrap64 ((wrap64 (t120 + t121)) + t122)) != 0) = false := bne_eq_false_iff_eq.mpr c28
       clear c28
       (first | rw [c28b0] | (simp only [i64_w, i32_w]; rw [c28b0]) | skip)
       by_cases c29 : (t108.length : Int) = (l0_2.length : Int)
       ·rw [if_pos c29] at H
        have c29b0 : ((t108.length : Int) == (l0_2.length : Int)) = true := beq_iff_eq.mpr c29
        have c29b1 : ((t108.length : Int) != (l0_2.length : Int)) = false := bne_eq_false_iff_eq.mpr c29
        have c29b2 : (t108.length == l0_2.length) = true := by first | simpa using c29 | (simp at c29 ⊢; omega)
        clear c29
        by_cases c30 : (t112.length : Int) = (l0_2.length : Int)
        ·rw [if_pos c30] at H
         have c30b0 : ((t112.length : Int) == (l0_2.length : Int)) = true := beq_iff_eq.mpr c30
         have c30b1 : ((t112.length : Int) != (l0_2.length : Int)) = false := bne_eq_false_iff_eq.mpr c30
         have c30b2 : (t112.length == l0_2.length) = true := by first | simpa using c30 | (simp at c30 ⊢; omega)
         clear c30
         have H' := Aa.mk H
         clear H
         go_wp2_with (first | (go_at_call 17; (with_reducible refine (Aw.calls t111 t120 _ A25.out).mono ?_); rintro e w' ⟨rfl, ⟨nd, rfl⟩⟩; (try first | exact ⟨rfl, _, World.drewN_drewN _ _ _⟩ | exact ⟨rfl, _, Eq.trans (World.drewN_drewN _ _ _) (congrArg (World.drewN _) (Nat.add_assoc _ _ _))⟩)) | (go_at_call 17; (with_reducible refine (Aw.calls t115 t121 _ A26.out).mono ?_); rintro e w' ⟨rfl, ⟨nd, rfl⟩⟩; (try first | exact ⟨rfl, _, World.drewN_drewN _ _ _⟩ | exact ⟨rfl, _, Eq.trans (World.drewN_drewN _ _ _) (congrArg (World.drewN _) (Nat.add_assoc _ _ _))⟩)) | (go_at_call 17; (with_reducible refine (Aw.calls t119 t122 _ A27.out).mono ?_); rintro e w' ⟨rfl, ⟨nd, rfl⟩⟩; (try first | exact ⟨rfl, _, World.drewN_drewN _ _ _⟩ | exact ⟨rfl, _, Eq.trans (World.drewN_drewN _ _ _) (congrArg (World.drewN _) (Nat.add_assoc _ _ _))⟩); obtain ⟨Ao31, co31, eo31⟩ := Kd.Bz HO110.out; subst eo31; have hcz32_0 : w24.cell? ⟨gb105, 0, none⟩ = some (.int .i64 a0_0) := (Ag BK105.out 0).trans rfl; have hcz32_1 : w24.cell? ⟨gb105, 1, none⟩ = some (.int .i64 a0_1) := (Ag BK105.out 1).trans rfl; have hcz32_2 : w24.cell? ⟨gb105, 2, none⟩ = some (.slice A0_2 l0_2.length c0_2) := (Ag BK105.out 2).trans rfl; have hfz32_0 := Ae BK105.out 0; have hfz32_1 := Ae BK105.out 1; have hfz32_2 := Ae BK105.out 2; obtain ⟨Ao33, co33, eo33⟩ := Kd.Bz HO114.out; subst eo33; obtain ⟨Ao34, co34, eo34⟩ := Kd.Bz HO118.out; subst eo34))
         repeat (go_quiet (first | (go_at_call 17; (with_reducible refine (Aw.calls t111 t120 _ A25.out).mono ?_); rintro e w' ⟨rfl, ⟨nd, rfl⟩⟩; (try first | exact ⟨rfl, _, World.drewN_drewN _ _ _⟩ | exact ⟨rfl, _, Eq.trans (World.drewN_drewN _ _ _) (congrArg (World.drewN _) (Nat.add_assoc _ _ _))⟩)) | (go_at_call 17; (with_reducible refine (Aw.calls t115 t121 _ A26.out).mono ?_); rintro e w' ⟨rfl, ⟨nd, rfl⟩⟩; (try first | exact ⟨rfl, _, World.drewN_drewN _ _ _⟩ | exact ⟨rfl, _, Eq.trans (World.drewN_drewN _ _ _) (congrArg (World.drewN _) (Nat.add_assoc _ _ _))⟩)) | (go_at_call 17; (with_reducible refine (Aw.calls t119 t122 _ A27.out).mono ?_); rintro e w' ⟨rfl, ⟨nd, rfl⟩⟩; (try first | exact ⟨rfl, _, World.drewN_drewN _ _ _⟩ | exact ⟨rfl, _, Eq.trans (World.drewN_drewN _ _ _) (congrArg (World.drewN _) (Nat.add_assoc _ _ _))⟩); obtain ⟨Ao31, co31, eo31⟩ := Kd.Bz HO110.out; subst eo31; have hcz32_0 : w24.cell? ⟨gb105, 0, none⟩ = some (.int .i64 a0_0) := (Ag BK105.out 0).trans rfl; have hcz32_1 : w24.cell? ⟨gb105, 1, none⟩ = some (.int .i64 a0_1) := (Ag BK105.out 1).trans rfl; have hcz32_2 : w24.cell? ⟨gb105, 2, none⟩ = some (.slice A0_2 l0_2.length c0_2) := (Ag BK105.out 2).trans rfl; have hfz32_0 := Ae BK105.out 0; have hfz32_1 := Ae BK105.out 1; have hfz32_2 := Ae BK105.out 2; obtain ⟨Ao33, co33, eo33⟩ := Kd.Bz HO114.out; subst eo33; obtain ⟨Ao34, co34, eo34⟩ := Kd.Bz HO118.out; subst eo34)); try go_wp2_with (first | (go_at_call 17; (with_reducible refine (Aw.calls t111 t120 _ A25.out).mono ?_); rintro e w' ⟨rfl, ⟨nd, rfl⟩⟩; (try first | exact ⟨rfl, _, World.drewN_drewN _ _ _⟩ | exact ⟨rfl, _, Eq.trans (World.drewN_drewN _ _ _) (congrArg (World.drewN _) (Nat.add_assoc _ _ _))⟩)) | (go_at_call 17; (with_reducible refine (Aw.calls t115 t121 _ A26.out).mono ?_); rintro e w' ⟨rfl, ⟨nd, rfl⟩⟩; (try first | exact ⟨rfl, _, World.drewN_drewN _ _ _⟩ | exact ⟨rfl, _, Eq.trans (World.drewN_drewN _ _ _) (congrArg (World.drewN _) (Nat.add_assoc _ _ _))⟩)) | (go_at_call 17; (with_reducible refine (Aw.calls t119 t122 _ A27.out).mono ?_); rintro e w' ⟨rfl, ⟨nd, rfl⟩⟩; (try first | exact ⟨rfl, _, World.drewN_drewN _ _ _⟩ | exact ⟨rfl, _, Eq.trans (World.drewN_drewN _ _ _) (congrArg (World.drewN _) (Nat.add_assoc _ _ _))⟩); obtain ⟨Ao31, co31, eo31⟩ := Kd.Bz HO110.out; subst eo31; have hcz32_0 : w24.cell? ⟨gb105, 0, none⟩ = some (.int .i64 a0_0) := (Ag BK105.out 0).trans rfl; have hcz32_1 : w24.cell? ⟨gb105, 1, none⟩ = some (.int .i64 a0_1) := (Ag BK105.out 1).trans rfl; have hcz32_2 : w24.cell? ⟨gb105, 2, none⟩ = some (.slice A0_2 l0_2.length c0_2) := (Ag BK105.out 2).trans rfl; have hfz32_0 := Ae BK105.out 0; have hfz32_1 := Ae BK105.out 1; have hfz32_2 := Ae BK105.out 2; obtain ⟨Ao33, co33, eo33⟩ := Kd.Bz HO114.out; subst eo33; obtain ⟨Ao34, co34, eo34⟩ := Kd.Bz HO118.out; subst eo34)))
         go_meet
         case rel => exact ⟨_, (((t116.length : Int) != (l0_2.length : Int))), (by first | rfl | (simp; done) | (simp [*]; done)), H', ⟨by have := HJ3.out; first | omega | exact Nat.le_refl _⟩, ⟨by (with_reducible repeat (first | apply Kd.Am | apply Kd.An | apply Kd.Aq)); exact Kd.Bo HO110.out (fun _ hk => ⟨hk.1.2, hk.2⟩)⟩, ⟨by (with_reducible repeat (first | apply Kd.Am | apply Kd.An | apply Kd.Aq)); exact Kd.Bo HO114.out (fun _ hk => ⟨hk.1.2, hk.2⟩)⟩, ⟨by (with_reducible repeat (first | apply Kd.Am | apply Kd.An | apply Kd.Aq)); exact Kd.Bo HO118.out (fun _ hk => ⟨hk.1.2, hk.2⟩)⟩, ⟨by (with_reducible repeat (first | refine Ai ?_ _ | refine Aj ?_ | refine Af ?_ _)); exact BK105.out⟩, ⟨by repeat (first | (with_reducible first | exact HB.out | apply Ac | apply Ab | apply Ad | refine Ah ?_ GE105.out) | exact HB.out)⟩⟩
        ·rw [if_neg c30] at H
         have c30b0 : ((t112.length : Int) == (l0_2.length : Int)) = false := beq_eq_false_iff_ne.mpr c30
         have c30b1 : ((t112.length : Int) != (l0_2.length : Int)) = true := bne_iff_ne.mpr c30
         have c30b2 : (t112.length == l0_2.length) = false := by first | simpa using c30 | (simp at c30 ⊢; omega)
         have H' := Aa.mk H
         clear H
         go_wp2_with (first | (go_at_call 17; (with_reducible refine (Aw.calls t111 t120 _ A25.out).mono ?_); rintro e w' ⟨rfl, ⟨nd, rfl⟩⟩; (try first | exact ⟨rfl, _, World.drewN_drewN _ _ _⟩ | exact ⟨rfl, _, Eq.trans (World.drewN_drewN _ _ _) (congrArg (World.drewN _) (Nat.add_assoc _ _ _))⟩)) | (go_at_call 17; (with_reducible refine (Aw.calls t115 t121 _ A26.out).mono ?_); rintro e w' ⟨rfl, ⟨nd, rfl⟩⟩; (try first | exact ⟨rfl, _, World.drewN_drewN _ _ _⟩ | exact ⟨rfl, _, Eq.trans (World.drewN_drewN _ _ _) (congrArg (World.drewN _) (Nat.add_assoc _ _ _))⟩)) | (go_at_call 17; (with_reducible refine (Aw.calls t119 t122 _ A27.out).mono ?_); rintro e w' ⟨rfl, ⟨nd, rfl⟩⟩; (try first | exact ⟨rfl, _, World.drewN_drewN _ _ _⟩ | exact ⟨rfl, _, Eq.trans (World.drewN_drewN _ _ _) (congrArg (World.drewN _) (Nat.add_assoc _ _ _))⟩); obtain ⟨Ao35, co35, eo35⟩ := Kd.Bz HO110.out; subst eo35; have hcz36_0 : w24.cell? ⟨gb105, 0, none⟩ = some (.int .i64 a0_0) := (Ag BK105.out 0).trans rfl; have hcz36_1 : w24.cell? ⟨gb105, 1, none⟩ = some (.int .i64 a0_1) := (Ag BK105.out 1).trans rfl; have hcz36_2 : w24.cell? ⟨gb105, 2, none⟩ = some (.slice A0_2 l0_2.length c0_2) := (Ag BK105.out 2).trans rfl; have hfz36_0 := Ae BK105.out 0; have hfz36_1 := Ae BK105.out 1; have hfz36_2 := Ae BK105.out 2; obtain ⟨Ao37, co37, eo37⟩ := Kd.Bz HO114.out; subst eo37))
         repeat (go_quiet (first | (go_at_call 17; (with_reducible refine (Aw.calls t111 t120 _ A25.out).mono ?_); rintro e w' ⟨rfl, ⟨nd, rfl⟩⟩; (try first | exact ⟨rfl, _, World.drewN_drewN _ _ _⟩ | exact ⟨rfl, _, Eq.trans (World.drewN_drewN _ _ _) (congrArg (World.drewN _) (Nat.add_assoc _ _ _))⟩)) | (go_at_call 17; (with_reducible refine (Aw.calls t115 t121 _ A26.out).mono ?_); rintro e w' ⟨rfl, ⟨nd, rfl⟩⟩; (try first | exact ⟨rfl, _, World.drewN_drewN _ _ _⟩ | exact ⟨rfl, _, Eq.trans (World.drewN_drewN _ _ _) (congrArg (World.drewN _) (Nat.add_assoc _ _ _))⟩)) | (go_at_call 17; (with_reducible refine (Aw.calls t119 t122 _ A27.out).mono ?_); rintro e w' ⟨rfl, ⟨nd, rfl⟩⟩; (try first | exact ⟨rfl, _, World.drewN_drewN _ _ _⟩ | exact ⟨rfl, _, Eq.trans (World.drewN_drewN _ _ _) (congrArg (World.drewN _) (Nat.add_assoc _ _ _))⟩); obtain ⟨Ao35, co35, eo35⟩ := Kd.Bz HO110.out; subst eo35; have hcz36_0 : w24.cell? ⟨gb105, 0, none⟩ = some (.int .i64 a0_0) := (Ag BK105.out 0).trans rfl; have hcz36_1 : w24.cell? ⟨gb105, 1, none⟩ = some (.int .i64 a0_1) := (Ag BK105.out 1).trans rfl; have hcz36_2 : w24.cell? ⟨gb105, 2, none⟩ = some (.slice A0_2 l0_2.length c0_2) := (Ag BK105.out 2).trans rfl; have hfz36_0 := Ae BK105.out 0; have hfz36_1 := Ae BK105.out 1; have hfz36_2 := Ae BK105.out 2; obtain ⟨Ao37, co37, eo37⟩ := Kd.Bz HO114.out; subst eo37)); try go_wp2_with (first | (go_at_call 17; (with_reducible refine (Aw.calls t111 t120 _ A25.out).mono ?_); rintro e w' ⟨rfl, ⟨nd, rfl⟩⟩; (try first | exact ⟨rfl, _, World.drewN_drewN _ _ _⟩ | exact ⟨rfl, _, Eq.trans (World.drewN_drewN _ _ _) (congrArg (World.drewN _) (Nat.add_assoc _ _ _))⟩)) | (go_at_call 17; (with_reducible refine (Aw.calls t115 t121 _ A26.out).mono ?_); rintro e w' ⟨rfl, ⟨nd, rfl⟩⟩; (try first | exact ⟨rfl, _, World.drewN_drewN _ _ _⟩ | exact ⟨rfl, _, Eq.trans (World.drewN_drewN _ _ _) (congrArg (World.drewN _) (Nat.add_assoc _ _ _))⟩)) | (go_at_call 17; (with_reducible refine (Aw.calls t119 t122 _ A27.out).mono ?_); rintro e w' ⟨rfl, ⟨nd, rfl⟩⟩; (try first | exact ⟨rfl, _, World.drewN_drewN _ _ _⟩ | exact ⟨rfl, _, Eq.trans (World.drewN_drewN _ _ _) (congrArg (World.drewN _) (Nat.add_assoc _ _ _))⟩); obtain ⟨Ao35, co35, eo35⟩ := Kd.Bz HO110.out; subst eo35; have hcz36_0 : w24.cell? ⟨gb105, 0, none⟩ = some (.int .i64 a0_0) := (Ag BK105.out 0).trans rfl; have hcz36_1 : w24.cell? ⟨gb105, 1, none⟩ = some (.int .i64 a0_1) := (Ag BK105.out 1).trans rfl; have hcz36_2 : w24.cell? ⟨gb105, 2, none⟩ = some (.slice A0_2 l0_2.length c0_2) := (Ag BK105.out 2).trans rfl; have hfz36_0 := Ae BK105.out 0; have hfz36_1 := Ae BK105.out 1; have hfz36_2 := Ae BK105.out 2; obtain ⟨Ao37, co37, eo37⟩ := Kd.Bz HO114.out; subst eo37)))
         go_meet
         case rel => exact ⟨_, (true), (by first | rfl | (simp; done) | (simp [*]; done)), H', ⟨by have := HJ3.out; first | omega | exact Nat.le_refl _⟩, ⟨by (with_reducible repeat (first | apply Kd.Am | apply Kd.An | apply Kd.Aq)); exact Kd.Bo HO110.out (fun _ hk => ⟨hk.1.2, hk.2⟩)⟩, ⟨by (with_reducible repeat (first | apply Kd.Am | apply Kd.An | apply Kd.Aq)); exact Kd.Bo HO114.out (fun _ hk => ⟨hk.1.2, hk.2⟩)⟩, ⟨by (with_reducible repeat (first | apply Kd.Am | apply Kd.An | apply Kd.Aq)); exact Kd.Bo HO118.out (fun _ hk => ⟨hk.1.2, hk.2⟩)⟩, ⟨by (with_reducible repeat (first | refine Ai ?_ _ | refine Aj ?_ | refine Af ?_ _)); exact BK105.out⟩, ⟨by repeat (first | (with_reducible first | exact HB.out | apply Ac | apply Ab | apply Ad | refine Ah ?_ GE105.out) | exact HB.out)⟩⟩
       ·rw [if_neg c29] at H
        have c29b0 : ((t108.length : Int) == (l0_2.length : Int)) = false := beq_eq_false_iff_ne.mpr c29
        have c29b1 : ((t108.length : Int) != (l0_2.length : Int)) = true := bne_iff_ne.mpr c29
        have c29b2 : (t108.length == l0_2.length) = false := by first | simpa using c29 | (simp at c29 ⊢; omega)
        have H' := Aa.mk H
        clear H
        go_wp2_with (first | (go_at_call 17; (with_reducible refine (Aw.calls t111 t120 _ A25.out).mono ?_); rintro e w' ⟨rfl, ⟨nd, rfl⟩⟩; (try first | exact ⟨rfl, _, World.drewN_drewN _ _ _⟩ | exact ⟨rfl, _, Eq.trans (World.drewN_drewN _ _ _) (congrArg (World.drewN _) (Nat.add_assoc _ _ _))⟩)) | (go_at_call 17; (with_reducible refine (Aw.calls t115 t121 _ A26.out).mono ?_); rintro e w' ⟨rfl, ⟨nd, rfl⟩⟩; (try first | exact ⟨rfl, _, World.drewN_drewN _ _ _⟩ | exact ⟨rfl, _, Eq.trans (World.drewN_drewN _ _ _) (congrArg (World.drewN _) (Nat.add_assoc _ _ _))⟩)) | (go_at_call 17; (with_reducible refine (Aw.calls t119 t122 _ A27.out).mono ?_); rintro e w' ⟨rfl, ⟨nd, rfl⟩⟩; (try first | exact ⟨rfl, _, World.drewN_drewN _ _ _⟩ | exact ⟨rfl, _, Eq.trans (World.drewN_drewN _ _ _) (congrArg (World.drewN _) (Nat.add_assoc _ _ _))⟩); obtain ⟨Ao38, co38, eo38⟩ := Kd.Bz HO110.out; subst eo38; have hcz39_0 : w24.cell? ⟨gb105, 0, none⟩ = some (.int .i64 a0_0) := (Ag BK105.out 0).trans rfl; have hcz39_1 : w24.cell? ⟨gb105, 1, none⟩ = some (.int .i64 a0_1) := (Ag BK105.out 1).trans rfl; have hcz39_2 : w24.cell? ⟨gb105, 2, none⟩ = some (.slice A0_2 l0_2.length c0_2) := (Ag BK105.out 2).trans rfl; have hfz39_0 := Ae BK105.out 0; have hfz39_1 := Ae BK105.out 1; have hfz39_2 := Ae BK105.out 2))
        repeat (go_quiet (first | (go_at_call 17; (with_reducible refine (Aw.calls t111 t120 _ A25.out).mono ?_); rintro e w' ⟨rfl, ⟨nd, rfl⟩⟩; (try first | exact ⟨rfl, _, World.drewN_drewN _ _ _⟩ | exact ⟨rfl, _, Eq.trans (World.drewN_drewN _ _ _) (congrArg (World.drewN _) (Nat.add_assoc _ _ _))⟩)) | (go_at_call 17; (with_reducible refine (Aw.calls t115 t121 _ A26.out).mono ?_); rintro e w' ⟨rfl, ⟨nd, rfl⟩⟩; (try first | exact ⟨rfl, _, World.drewN_drewN _ _ _⟩ | exact ⟨rfl, _, Eq.trans (World.drewN_drewN _ _ _) (congrArg (World.drewN _) (Nat.add_assoc _ _ _))⟩)) | (go_at_call 17; (with_reducible refine (Aw.calls t119 t122 _ A27.out).mono ?_); rintro e w' ⟨rfl, ⟨nd, rfl⟩⟩; (try first | exact ⟨rfl, _, World.drewN_drewN _ _ _⟩ | exact ⟨rfl, _, Eq.trans (World.drewN_drewN _ _ _) (congrArg (World.drewN _) (Nat.add_assoc _ _ _))⟩); obtain ⟨Ao38, co38, eo38⟩ := Kd.Bz HO110.out; subst eo38; have hcz39_0 : w24.cell? ⟨gb105, 0, none⟩ = some (.int .i64 a0_0) := (Ag BK105.out 0).trans rfl; have hcz39_1 : w24.cell? ⟨gb105, 1, none⟩ = some (.int .i64 a0_1) := (Ag BK105.out 1).trans rfl; have hcz39_2 : w24.cell? ⟨gb105, 2, none⟩ = some (.slice A0_2 l0_2.length c0_2) := (Ag BK105.out 2).trans rfl; have hfz39_0 := Ae BK105.out 0; have hfz39_1 := Ae BK105.out 1; have hfz39_2 := Ae BK105.out 2)); try go_wp2_with (first | (go_at_call 17; (with_reducible refine (Aw.calls t111 t120 _ A25.out).mono ?_); rintro e w' ⟨rfl, ⟨nd, rfl⟩⟩; (try first | exact ⟨rfl, _, World.drewN_drewN _ _ _⟩ | exact ⟨rfl, _, Eq.trans (World.drewN_drewN _ _ _) (congrArg (World.drewN _) (Nat.add_assoc _ _ _))⟩)) | (go_at_call 17; (with_reducible refine (Aw.calls t115 t121 _ A26.out).mono ?_); rintro e w' ⟨rfl, ⟨nd, rfl⟩⟩; (try first | exact ⟨rfl, _, World.drewN_drewN _ _ _⟩ | exact ⟨rfl, _, Eq.trans (World.drewN_drewN _ _ _) (congrArg (World.drewN _) (Nat.add_assoc _ _ _))⟩)) | (go_at_call 17; (with_reducible refine (Aw.calls t119 t122 _ A27.out).mono ?_); rintro e w' ⟨rfl, ⟨nd, rfl⟩⟩; (try first | exact ⟨rfl, _, World.drewN_drewN _ _ _⟩ | exact ⟨rfl, _, Eq.trans (World.drewN_drewN _ _ _) (congrArg (World.drewN _) (Nat.add_assoc _ _ _))⟩); obtain ⟨Ao38, co38, eo38⟩ := Kd.Bz HO110.out; subst eo38; have hcz39_0 : w24.cell? ⟨gb105, 0, none⟩ = some (.int .i64 a0_0) := (Ag BK105.out 0).trans rfl; have hcz39_1 : w24.cell? ⟨gb105, 1, none⟩ = some (.int .i64 a0_1) := (Ag BK105.out 1).trans rfl; have hcz39_2 : w24.cell? ⟨gb105, 2, none⟩ = some (.slice A0_2 l0_2.length c0_2) := (Ag BK105.out 2).trans rfl; have hfz39_0 := Ae BK105.out 0; have hfz39_1 := Ae BK105.out 1; have hfz39_2 := Ae BK105.out 2)))
        go_meet
        case rel => exact ⟨_, (true), (by first | rfl | (simp; done) | (simp [*]; done)), H', ⟨by have := HJ3.out; first | omega | exact Nat.le_refl _⟩, ⟨by (with_reducible repeat (first | apply Kd.Am | apply Kd.An | apply Kd.Aq)); exact Kd.Bo HO110.out (fun _ hk => ⟨hk.1.2, hk.2⟩)⟩, ⟨by (with_reducible repeat (first | apply Kd.Am | apply Kd.An | apply Kd.Aq)); exact Kd.Bo HO114.out (fun _ hk => ⟨hk.1.2, hk.2⟩)⟩, ⟨by (with_reducible repeat (first | apply Kd.Am | apply Kd.An | apply Kd.Aq)); exact Kd.Bo HO118.out (fun _ hk => ⟨hk.1.2, hk.2⟩)⟩, ⟨by (with_reducible repeat (first | refine Ai ?_ _ | refine Aj ?_ | refine Af ?_ _)); exact BK105.out⟩, ⟨by repeat (first | (with_reducible first | exact HB.out | apply Ac | apply Ab | apply Ad | refine Ah ?_ GE105.out) | exact HB.out)⟩⟩
      ·rw [if_neg c28] at H
       have c28b0 : ((wrap64 ((wrap64 (t120 + t121)) + t122)) == 0) = false := beq_eq_false_iff_ne.mpr c28
       have c28b1 : ((wrap64 ((wrap64 (t120 + t121)) + t122)) != 0) = true := bne_iff_ne.mpr c28
       (first | rw [c28b0] | (simp only [i64_w, i32_w]; rw [c28b0]) | skip)
       have H' := Aa.mk H
       clear H
       go_wp2_with (first | (go_at_call 17; (with_reducible refine (Aw.calls t111 t120 _ A25.out).mono ?_); rintro e w' ⟨rfl, ⟨nd, rfl⟩⟩; (try first | exact ⟨rfl, _, World.drewN_drewN _ _ _⟩ | exact ⟨rfl, _, Eq.trans (World.drewN_drewN _ _ _) (congrArg (World.drewN _) (Nat.add_assoc _ _ _))⟩)) | (go_at_call 17; (with_reducible refine (Aw.calls t115 t121 _ A26.out).mono ?_); rintro e w' ⟨rfl, ⟨nd, rfl⟩⟩; (try first | exact ⟨rfl, _, World.drewN_drewN _ _ _⟩ | exact ⟨rfl, _, Eq.trans (World.drewN_drewN _ _ _) (congrArg (World.drewN _) (Nat.add_assoc _ _ _))⟩)) | (go_at_call 17; (with_reducible refine (Aw.calls t119 t122 _ A27.out).mono ?_); rintro e w' ⟨rfl, ⟨nd, rfl⟩⟩; (try first | exact ⟨rfl, _, World.drewN_drewN _ _ _⟩ | exact ⟨rfl, _, Eq.trans (World.drewN_drewN _ _ _) (congrArg (World.drewN _) (Nat.add_assoc _ _ _))⟩)))
       repeat (go_quiet (first | (go_at_call 17; (with_reducible refine (Aw.calls t111 t120 _ A25.out).mono ?_); rintro e w' ⟨rfl, ⟨nd, rfl⟩⟩; (try first | exact ⟨rfl, _, World.drewN_drewN _ _ _⟩ | exact ⟨rfl, _, Eq.trans (World.drewN_drewN _ _ _) (congrArg (World.drewN _) (Nat.add_assoc _ _ _))⟩)) | (go_at_call 17; (with_reducible refine (Aw.calls t115 t121 _ A26.out).mono ?_); rintro e w' ⟨rfl, ⟨nd, rfl⟩⟩; (try first | exact ⟨rfl, _, World.drewN_drewN _ _ _⟩ | exact ⟨rfl, _, Eq.trans (World.drewN_drewN _ _ _) (congrArg (World.drewN _) (Nat.add_assoc _ _ _))⟩)) | (go_at_call 17; (with_reducible refine (Aw.calls t119 t122 _ A27.out).mono ?_); rintro e w' ⟨rfl, ⟨nd, rfl⟩⟩; (try first | exact ⟨rfl, _, World.drewN_drewN _ _ _⟩ | exact ⟨rfl, _, Eq.trans (World.drewN_drewN _ _ _) (congrArg (World.drewN _) (Nat.add_assoc _ _ _))⟩))); try go_wp2_with (first | (go_at_call 17; (with_reducible refine (Aw.calls t111 t120 _ A25.out).mono ?_); rintro e w' ⟨rfl, ⟨nd, rfl⟩⟩; (try first | exact ⟨rfl, _, World.drewN_drewN _ _ _⟩ | exact ⟨rfl, _, Eq.trans (World.drewN_drewN _ _ _) (congrArg (World.drewN _) (Nat.add_assoc _ _ _))⟩)) | (go_at_call 17; (with_reducible refine (Aw.calls t115 t121 _ A26.out).mono ?_); rintro e w' ⟨rfl, ⟨nd, rfl⟩⟩; (try first | exact ⟨rfl, _, World.drewN_drewN _ _ _⟩ | exact ⟨rfl, _, Eq.trans (World.drewN_drewN _ _ _) (congrArg (World.drewN _) (Nat.add_assoc _ _ _))⟩)) | (go_at_call 17; (with_reducible refine (Aw.calls t119 t122 _ A27.out).mono ?_); rintro e w' ⟨rfl, ⟨nd, rfl⟩⟩; (try first | exact ⟨rfl, _, World.drewN_drewN _ _ _⟩ | exact ⟨rfl, _, Eq.trans (World.drewN_drewN _ _ _) (congrArg (World.drewN _) (Nat.add_assoc _ _ _))⟩))))
       go_meet
       case rel => exact ⟨_, (true), (by first | rfl | (simp; done) | (simp [*]; done)), H', ⟨by have := HJ3.out; first | omega | exact Nat.le_refl _⟩, ⟨by (with_reducible repeat (first | apply Kd.Am | apply Kd.An | apply Kd.Aq)); exact Kd.Bo HO110.out (fun _ hk => ⟨hk.1.2, hk.2⟩)⟩, ⟨by (with_reducible repeat (first | apply Kd.Am | apply Kd.An | apply Kd.Aq)); exact Kd.Bo HO114.out (fun _ hk => ⟨hk.1.2, hk.2⟩)⟩, ⟨by (with_reducible repeat (first | apply Kd.Am | apply Kd.An | apply Kd.Aq)); exact Kd.Bo HO118.out (fun _ hk => ⟨hk.1.2, hk.2⟩)⟩, ⟨by (with_reducible repeat (first | refine Ai ?_ _ | refine Aj ?_ | refine Af ?_ _)); exact BK105.out⟩, ⟨by repeat (first | (with_reducible first | exact HB.out | apply Ac | apply Ab | apply Ad | refine Ah ?_ GE105.out) | exact HB.out)⟩⟩
     case rest => as_aux_lemma =>
      clear HC18
      try clear c1
      try clear c2
      try clear p2
      try clear c3
      try clear p6
      try clear c8
      try clear c14
      try clear c28
      try clear c28b0
      try clear c28b1
      try clear c29
      try clear c29b0
      try clear c29b1
      try clear c29b2
      try clear c30
      try clear c30b0
      try clear c30b1
      try clear c30b2
      try clear hcz11_0
      try clear hcz11_1
      try clear hcz11_2
      try clear hcz12_0
      try clear hcz12_1
      try clear hcz12_2
      try clear hcz19_0
      try clear hcz19_1
      try clear hcz19_2
      try clear hcz21_0
      try clear hcz21_1
      try clear hcz21_2
      try clear hcz23_0
      try clear hcz23_1
      try clear hcz23_2
      try clear hcz32_0
      try clear hcz32_1
      try clear hcz32_2
      try clear hcz36_0
      try clear hcz36_1
      try clear hcz36_2
      try clear hcz39_0
      try clear hcz39_1
      try clear hcz39_2
      try clear hcz9_0
      try clear hcz9_1
      try clear hcz9_2
      try clear hfz11_0
      try clear hfz11_1
      try clear hfz11_2
      try clear hfz12_0
      try clear hfz12_1
      try clear hfz12_2
      try clear hfz19_0
      try clear hfz19_1
      try clear hfz19_2
      try clear hfz21_0
      try clear hfz21_1
      try clear hfz21_2
      try clear hfz23_0
      try clear hfz23_1
      try clear hfz23_2
      try clear hfz32_0
      try clear hfz32_1
      try clear hfz32_2
      try clear hfz36_0
      try clear hfz36_1
      try clear hfz36_2
      try clear hfz39_0
      try clear hfz39_1
      try clear hfz39_2
      try clear hfz9_0
      try clear hfz9_1
      try clear hfz9_2
      try clear p2
      obtain ⟨kq, x74_17, rfl, HA, HJ17, HO_3, HO_5, HO_7, BK105, HB⟩ := hcut
      cases kq with
      | zero => exact absurd HA.out (by simp [Ak.j1])
      | succ kj17 =>
       have H := HA.out
       clear HA
       simp only [Ak.j1] at H
       by_cases c40 : x74_17 = true
       ·subst c40
        have H1 : (some false) = some r := by rw [if_pos rfl] at H; exact H
        clear H
        have H := H1
        clear H1
        exact absurd (H.trans (congrArg some HT.out)) (by decide)
       ·replace c40 := Bool.eq_false_iff.mpr c40
        subst c40
        have H1 : (Ak.l0 kj17 t108 t112 t116 0 a0_0 a0_1 l0_2) = some r := by rw [if_neg (show ¬ (false = true) by decide)] at H; exact H
        clear H
        have H := H1
        clear H1
        have H' := Aa.mk H
        clear H
        go_wp2
        repeat (go_quiet (fail); try go_wp2)
        go_loopg [9] kj17 (fun kq v9 w' => ∃ (x9_3 : Int), v9 = .int .i64 x9_3 ∧ Aa (Ak.l0 kq t108 t112 t116 x9_3 a0_0 a0_1 l0_2 = some r) ∧ Aa (kq ≤ kj17) ∧ Aa (Kd.R (Kd.int .i64) 3 w' w.heap.size (fun k_ => some k_ ≠ (v113 : Value).ownBlock ∧ some k_ ≠ (v117 : Value).ownBlock) v109 t108) ∧ Aa (Kd.R (Kd.int .i64) 3 w' w.heap.size (fun k_ => some k_ ≠ (v109 : Value).ownBlock ∧ some k_ ≠ (v117 : Value).ownBlock) v113 t112) ∧ Aa (Kd.R (Kd.int .i64) 3 w' w.heap.size (fun k_ => some k_ ≠ (v109 : Value).ownBlock ∧ some k_ ≠ (v113 : Value).ownBlock) v117 t116) ∧ Aa (w'.heap[gb105]? = some (.cells #[.int .i64 a0_0, .int .i64 a0_1, (.slice A0_2 l0_2.length c0_2)] 50 (0, 0))) ∧ Aa (Below w.heap.size w w'))
        case atStart => exact ⟨(0), (by first | rfl | (simp; done) | (simp [*]; done)), H', ⟨Nat.le_refl _⟩, ⟨by (with_reducible repeat (first | apply Kd.Am | apply Kd.An | apply Kd.Aq)); exact HO_3.out⟩, ⟨by (with_reducible repeat (first | apply Kd.Am | apply Kd.An | apply Kd.Aq)); exact HO_5.out⟩, ⟨by (with_reducible repeat (first | apply Kd.Am | apply Kd.An | apply Kd.Aq)); exact HO_7.out⟩, ⟨by (with_reducible repeat (first | refine Ai ?_ _ | refine Aj ?_ | refine Af ?_ _)); exact BK105.out⟩, ⟨by repeat (first | (with_reducible first | exact HB.out | apply Ac | apply Ab | apply Ad | refine Ah ?_ GE105.out) | exact HB.out)⟩⟩
        case round => as_aux_lemma =>
         clear H'
         try clear c1
         try clear c2
         try clear p2
         try clear c3
         try clear c4
         try clear p6
         try clear c8
         try clear c14
         try clear c28
         try clear c28b0
         try clear c28b1
         try clear c29
         try clear c29b0
         try clear c29b1
         try clear c29b2
         try clear c30
         try clear c30b0
         try clear c30b1
         try clear c30b2
         try clear c40
         try clear hcz11_0
         try clear hcz11_1
         try clear hcz11_2
         try clear hcz12_0
         try clear hcz12_1
         try clear hcz12_2
         try clear hcz19_0
         try clear hcz19_1
         try clear hcz19_2
         try clear hcz21_0
         try clear hcz21_1
         try clear hcz21_2
         try clear hcz23_0
         try clear hcz23_1
         try clear hcz23_2
         try clear hcz32_0
         try clear hcz32_1
         try clear hcz32_2
         try clear hcz36_0
         try clear hcz36_1
         try clear hcz36_2
         try clear hcz39_0
         try clear hcz39_1
         try clear hcz39_2
         try clear hcz9_0
         try clear hcz9_1
         try clear hcz9_2
         try clear hfz11_0
         try clear hfz11_1
         try clear hfz11_2
         try clear hfz12_0
         try clear hfz12_1
         try clear hfz12_2
         try clear hfz19_0
         try clear hfz19_1
         try clear hfz19_2
         try clear hfz21_0
         try clear hfz21_1
         try clear hfz21_2
         try clear hfz23_0
         try clear hfz23_1
         try clear hfz23_2
         try clear hfz32_0
         try clear hfz32_1
         try clear hfz32_2
         try clear hfz36_0
         try clear hfz36_1
         try clear hfz36_2
         try clear hfz39_0
         try clear hfz39_1
         try clear hfz39_2
         try clear hfz9_0
         try clear hfz9_1
         try clear hfz9_2
         try clear p2
         try clear p6
         obtain ⟨x9_3, rfl, HA, HK3, HO_3, HO_5, HO_7, BK105, HB⟩ := hrel
         cases gk with
         | zero => exact absurd HA.out (by simp [Ak.l0])
         | succ k3 =>
          have H := HA.out
          clear HA
          simp only [Ak.l0] at H
          by_cases c41 : x9_3 < (l0_2.length : Int)
          ·rw [if_pos c41] at H
           have c41b0 : decide (x9_3 < (l0_2.length : Int)) = true := decide_eq_true c41
           clear c41
           have H' := Aa.mk H
           clear H
           have hcz42_0 : wr.cell? ⟨gb105, 0, none⟩ = some (.int .i64 a0_0) := (Ag BK105.out 0).trans rfl
           have hcz42_1 : wr.cell? ⟨gb105, 1, none⟩ = some (.int .i64 a0_1) := (Ag BK105.out 1).trans rfl
           have hcz42_2 : wr.cell? ⟨gb105, 2, none⟩ = some (.slice A0_2 l0_2.length c0_2) := (Ag BK105.out 2).trans rfl
           have hfz42_0 := Ae BK105.out 0
           have hfz42_1 := Ae BK105.out 1
           have hfz42_2 := Ae BK105.out 2
           go_wp2
           repeat (go_quiet (fail); try go_wp2)
           go_loopg [10, 11, 12, 13] k3 (fun kq v10 v11 v12 v13 w' => ∃ (x10_4 : Int) (x11_4 : Int) (x12_4 : Int) (x13_4 : Int), v10 = .int .i64 x10_4 ∧ v11 = .int .i64 x11_4 ∧ v12 = .int .i64 x12_4 ∧ v13 = .int .i64 x13_4 ∧ Aa (Ak.l1 kq t108 t112 t116 x9_3 x10_4 x11_4 x12_4 x13_4 a0_0 a0_1 l0_2 = some r) ∧ Aa (kq ≤ k3) ∧ Aa (Kd.R (Kd.int .i64) 3 w' w.heap.size (fun k_ => some k_ ≠ (v113 : Value).ownBlock ∧ some k_ ≠ (v117 : Value).ownBlock) v109 t108) ∧ Aa (Kd.R (Kd.int .i64) 3 w' w.heap.size (fun k_ => some k_ ≠ (v109 : Value).ownBlock ∧ some k_ ≠ (v117 : Value).ownBlock) v113 t112) ∧ Aa (Kd.R (Kd.int .i64) 3 w' w.heap.size (fun k_ => some k_ ≠ (v109 : Value).ownBlock ∧ some k_ ≠ (v113 : Value).ownBlock) v117 t116) ∧ Aa (w'.heap[gb105]? = some (.cells #[.int .i64 a0_0, .int .i64 a0_1, (.slice A0_2 l0_2.length c0_2)] 50 (0, 0))) ∧ Aa (Below w.heap.size w w'))
           case atStart => exact ⟨((-1)), ((-1)), ((-1)), (0), (by first | rfl | (simp; done) | (simp [*]; done)), (by first | rfl | (simp; done) | (simp [*]; done)), (by first | rfl | (simp; done) | (simp [*]; done)), (by first | rfl | (simp; done) | (simp [*]; done)), H', ⟨Nat.le_refl _⟩, ⟨by (with_reducible repeat (first | apply Kd.Am | apply Kd.An | apply Kd.Aq)); exact HO_3.out⟩, ⟨by (with_reducible repeat (first | apply Kd.Am | apply Kd.An | apply Kd.Aq)); exact HO_5.out⟩, ⟨by (with_reducible repeat (first | apply Kd.Am | apply Kd.An | apply Kd.Aq)); exact HO_7.out⟩, ⟨by (with_reducible repeat (first | refine Ai ?_ _ | refine Aj ?_ | refine Af ?_ _)); exact BK105.out⟩, ⟨by repeat (first | (with_reducible first | exact HB.out | apply Ac | apply Ab | apply Ad | refine Ah ?_ GE105.out) | exact HB.out)⟩⟩
           case round => as_aux_lemma =>
            clear H'
            try clear c1
            try clear c2
            try clear p2
            try clear c3
            try clear c4
            try clear p6
            try clear c8
            try clear c14
            try clear c28
            try clear c28b0
            try clear c28b1
            try clear c29
            try clear c29b0
            try clear c29b1
            try clear c29b2
            try clear c30
            try clear c30b0
            try clear c30b1
            try clear c30b2
            try clear c40
            try clear c41
            try clear c41b0
            try clear hcz11_0
            try clear hcz11_1
            try clear hcz11_2
            try clear hcz12_0
            try clear hcz12_1
            try clear hcz12_2
            try clear hcz19_0
            try clear hcz19_1
            try clear hcz19_2
            try clear hcz21_0
            try clear hcz21_1
            try clear hcz21_2
            try clear hcz23_0
            try clear hcz23_1
            try clear hcz23_2
            try clear hcz32_0
            try clear hcz32_1
            try clear hcz32_2
            try clear hcz36_0
            try clear hcz36_1
            try clear hcz36_2
            try clear hcz39_0
            try clear hcz39_1
            try clear hcz39_2
            try clear hcz42_0
            try clear hcz42_1
            try clear hcz42_2
            try clear hcz9_0
            try clear hcz9_1
            try clear hcz9_2
            try clear hfz11_0
            try clear hfz11_1
            try clear hfz11_2
            try clear hfz12_0
            try clear hfz12_1
            try clear hfz12_2
            try clear hfz19_0
            try clear hfz19_1
            try clear hfz19_2
            try clear hfz21_0
            try clear hfz21_1
            try clear hfz21_2
            try clear hfz23_0
            try clear hfz23_1
            try clear hfz23_2
            try clear hfz32_0
            try clear hfz32_1
            try clear hfz32_2
            try clear hfz36_0
            try clear hfz36_1
            try clear hfz36_2
            try clear hfz39_0
            try clear hfz39_1
            try clear hfz39_2
            try clear hfz42_0
            try clear hfz42_1
            try clear hfz42_2
            try clear hfz9_0
            try clear hfz9_1
            try clear hfz9_2
            try clear p2
            try clear p6
            obtain ⟨x10_4, x11_4, x12_4, x13_4, rfl, rfl, rfl, rfl, HA, HK4, HO_3, HO_5, HO_7, BK105, HB⟩ := hrel
            cases gk with
            | zero => exact absurd HA.out (by simp [Ak.l1])
            | succ k4 =>
             have H := HA.out
             clear HA
             simp only [Ak.l1] at H
             by_cases c43 : x13_4 < (l0_2.length : Int)
             ·rw [if_pos c43] at H
              have c43b0 : decide (x13_4 < (l0_2.length : Int)) = true := decide_eq_true c43
              clear c43
              by_cases c44 : 0 ≤ x13_4
              ·rw [if_pos c44] at H
               have c44b0 : decide (0 ≤ x13_4) = true := decide_eq_true c44
               clear c44
               obtain ⟨bq45, hbq45⟩ : ∃ b_ : Bool, b_ = (rdOf false l0_2 x13_4) := ⟨_, rfl⟩
               replace H : (if bq45 = true then (if a0_0 = 0 then (none) else (if x10_4 < 0 then (Ak.l1 k4 t108 t112 t116 x9_3 (mn (wrap64 ((mx (wrap64 ((Int.tmod x9_3 a0_0) - (Int.tmod x13_4 a0_0))) (wrap64 (-(wrap64 ((Int.tmod x9_3 a0_0) - (Int.tmod x13_4 a0_0)))))) + (mx (wrap64 ((wrap64 (Int.tdiv x9_3 a0_0)) - (wrap64 (Int.tdiv x13_4 a0_0)))) (wrap64 (-(wrap64 ((wrap64 (Int.tdiv x9_3 a0_0)) - (wrap64 (Int.tdiv x13_4 a0_0))))))))) (wrap64 ((mx (wrap64 ((Int.tmod x9_3 a0_0) - (Int.tmod x13_4 a0_0))) (wrap64 (-(wrap64 ((Int.tmod x9_3 a0_0) - (Int.tmod x13_4 a0_0)))))) + (mx (wrap64 ((wrap64 (Int.tdiv x9_3 a0_0)) - (wrap64 (Int.tdiv x13_4 a0_0)))) (wrap64 (-(wrap64 ((wrap64 (Int.tdiv x9_3 a0_0)) - (wrap64 (Int.tdiv x13_4 a0_0)))))))))) (mn (mx (mx (wrap64 ((Int.tmod x9_3 a0_0) - (Int.tmod x13_4 a0_0))) (wrap64 (-(wrap64 ((Int.tmod x9_3 a0_0) - (Int.tmod x13_4 a0_0)))))) (mx (wrap64 ((wrap64 (Int.tdiv x9_3 a0_0)) - (wrap64 (Int.tdiv x13_4 a0_0)))) (wrap64 (-(wrap64 ((wrap64 (Int.tdiv x9_3 a0_0)) - (wrap64 (Int.tdiv x13_4 a0_0)))))))) (mx (mx (wrap64 ((Int.tmod x9_3 a0_0) - (Int.tmod x13_4 a0_0))) (wrap64 (-(wrap64 ((Int.tmod x9_3 a0_0) - (Int.tmod x13_4 a0_0)))))) (mx (wrap64 ((wrap64 (Int.tdiv x9_3 a0_0)) - (wrap64 (Int.tdiv x13_4 a0_0)))) (wrap64 (-(wrap64 ((wrap64 (Int.tdiv x9_3 a0_0)) - (wrap64 (Int.tdiv x13_4 a0_0))))))))) (mn (wrap64 ((wrap64 ((mx (wrap64 ((Int.tmod x9_3 a0_0) - (Int.tmod x13_4 a0_0))) (wrap64 (-(wrap64 ((Int.tmod x9_3 a0_0) - (Int.tmod x13_4 a0_0)))))) * (mx (wrap64 ((Int.tmod x9_3 a0_0) - (Int.tmod x13_4 a0_0))) (wrap64 (-(wrap64 ((Int.tmod x9_3 a0_0) - (Int.tmod x13_4 a0_0)))))))) + (wrap64 ((mx (wrap64 ((wrap64 (Int.tdiv x9_3 a0_0)) - (wrap64 (Int.tdiv x13_4 a0_0)))) (wrap64 (-(wrap64 ((wrap64 (Int.tdiv x9_3 a0_0)) - (wrap64 (Int.tdiv x13_4 a0_0))))))) * (mx (wrap64 ((wrap64 (Int.tdiv x9_3 a0_0)) - (wrap64 (Int.tdiv x13_4 a0_0)))) (wrap64 (-(wrap64 ((wrap64 (Int.tdiv x9_3 a0_0)) - (wrap64 (Int.tdiv x13_4 a0_0))))))))))) (wrap64 ((wrap64 ((mx (wrap64 ((Int.tmod x9_3 a0_0) - (Int.tmod x13_4 a0_0))) (wrap64 (-(wrap64 ((Int.tmod x9_3 a0_0) - (Int.tmod x13_4 a0_0)))))) * (mx (wrap64 ((Int.tmod x9_3 a0_0) - (Int.tmod x13_4 a0_0))) (wrap64 (-(wrap64 ((Int.tmod x9_3 a0_0) - (Int.tmod x13_4 a0_0)))))))) + (wrap64 ((mx (wrap64 ((wrap64 (Int.tdiv x9_3 a0_0)) - (wrap64 (Int.tdiv x13_4 a0_0)))) (wrap64 (-(wrap64 ((wrap64 (Int.tdiv x9_3 a0_0)) - (wrap64 (Int.tdiv x13_4 a0_0))))))) * (mx (wrap64 ((wrap64 (Int.tdiv x9_3 a0_0)) - (wrap64 (Int.tdiv x13_4 a0_0)))) (wrap64 (-(wrap64 ((wrap64 (Int.tdiv x9_3 a0_0)) - (wrap64 (Int.tdiv x13_4 a0_0)))))))))))) (wrap64 (x13_4 + 1)) a0_0 a0_1 l0_2) else (Ak.l1 k4 t108 t112 t116 x9_3 (mn x10_4 (wrap64 ((mx (wrap64 ((Int.tmod x9_3 a0_0) - (Int.tmod x13_4 a0_0))) (wrap64 (-(wrap64 ((Int.tmod x9_3 a0_0) - (Int.tmod x13_4 a0_0)))))) + (mx (wrap64 ((wrap64 (Int.tdiv x9_3 a0_0)) - (wrap64 (Int.tdiv x13_4 a0_0)))) (wrap64 (-(wrap64 ((wrap64 (Int.tdiv x9_3 a0_0)) - (wrap64 (Int.tdiv x13_4 a0_0)))))))))) (mn x11_4 (mx (mx (wrap64 ((Int.tmod x9_3 a0_0) - (Int.tmod x13_4 a0_0))) (wrap64 (-(wrap64 ((Int.tmod x9_3 a0_0) - (Int.tmod x13_4 a0_0)))))) (mx (wrap64 ((wrap64 (Int.tdiv x9_3 a0_0)) - (wrap64 (Int.tdiv x13_4 a0_0)))) (wrap64 (-(wrap64 ((wrap64 (Int.tdiv x9_3 a0_0)) - (wrap64 (Int.tdiv x13_4 a0_0))))))))) (mn x12_4 (wrap64 ((wrap64 ((mx (wrap64 ((Int.tmod x9_3 a0_0) - (Int.tmod x13_4 a0_0))) (wrap64 (-(wrap64 ((Int.tmod x9_3 a0_0) - (Int.tmod x13_4 a0_0)))))) * (mx (wrap64 ((Int.tmod x9_3 a0_0) - (Int.tmod x13_4 a0_0))) (wrap64 (-(wrap64 ((Int.tmod x9_3 a0_0) - (Int.tmod x13_4 a0_0)))))))) + (wrap64 ((mx (wrap64 ((wrap64 (Int.tdiv x9_3 a0_0)) - (wrap64 (Int.tdiv x13_4 a0_0)))) (wrap64 (-(wrap64 ((wrap64 (Int.tdiv x9_3 a0_0)) - (wrap64 (Int.tdiv x13_4 a0_0))))))) * (mx (wrap64 ((wrap64 (Int.tdiv x9_3 a0_0)) - (wrap64 (Int.tdiv x13_4 a0_0)))) (wrap64 (-(wrap64 ((wrap64 (Int.tdiv x9_3 a0_0)) - (wrap64 (Int.tdiv x13_4 a0_0)))))))))))) (wrap64 (x13_4 + 1)) a0_0 a0_1 l0_2))) else (Ak.l1 k4 t108 t112 t116 x9_3 x10_4 x11_4 x12_4 (wrap64 (x13_4 + 1)) a0_0 a0_1 l0_2)) = some r := by rw [← hbq45] at H; exact H
               have Nbq45 := Aa.mk hbq45
               clear hbq45
               by_cases c46 : bq45 = true
               ·subst c46
                have H1 : (if a0_0 = 0 then (none) else (if x10_4 < 0 then (Ak.l1 k4 t108 t112 t116 x9_3 (mn (wrap64 ((mx (wrap64 ((Int.tmod x9_3 a0_0) - (Int.tmod x13_4 a0_0))) (wrap64 (-(wrap64 ((Int.tmod x9_3 a0_0) - (Int.tmod x13_4 a0_0)))))) + (mx (wrap64 ((wrap64 (Int.tdiv x9_3 a0_0)) - (wrap64 (Int.tdiv x13_4 a0_0)))) (wrap64 (-(wrap64 ((wrap64 (Int.tdiv x9_3 a0_0)) - (wrap64 (Int.tdiv x13_4 a0_0))))))))) (wrap64 ((mx (wrap64 ((Int.tmod x9_3 a0_0) - (Int.tmod x13_4 a0_0))) (wrap64 (-(wrap64 ((Int.tmod x9_3 a0_0) - (Int.tmod x13_4 a0_0)))))) + (mx (wrap64 ((wrap64 (Int.tdiv x9_3 a0_0)) - (wrap64 (Int.tdiv x13_4 a0_0)))) (wrap64 (-(wrap64 ((wrap64 (Int.tdiv x9_3 a0_0)) - (wrap64 (Int.tdiv x13_4 a0_0)))))))))) (mn (mx (mx (wrap64 ((Int.tmod x9_3 a0_0) - (Int.tmod x13_4 a0_0))) (wrap64 (-(wrap64 ((Int.tmod x9_3 a0_0) - (Int.tmod x13_4 a0_0)))))) (mx (wrap64 ((wrap64 (Int.tdiv x9_3 a0_0)) - (wrap64 (Int.tdiv x13_4 a0_0)))) (wrap64 (-(wrap64 ((wrap64 (Int.tdiv x9_3 a0_0)) - (wrap64 (Int.tdiv x13_4 a0_0)))))))) (mx (mx (wrap64 ((Int.tmod x9_3 a0_0) - (Int.tmod x13_4 a0_0))) (wrap64 (-(wrap64 ((Int.tmod x9_3 a0_0) - (Int.tmod x13_4 a0_0)))))) (mx (wrap64 ((wrap64 (Int.tdiv x9_3 a0_0)) - (wrap64 (Int.tdiv x13_4 a0_0)))) (wrap64 (-(wrap64 ((wrap64 (Int.tdiv x9_3 a0_0)) - (wrap64 (Int.tdiv x13_4 a0_0))))))))) (mn (wrap64 ((wrap64 ((mx (wrap64 ((Int.tmod x9_3 a0_0) - (Int.tmod x13_4 a0_0))) (wrap64 (-(wrap64 ((Int.tmod x9_3 a0_0) - (Int.tmod x13_4 a0_0)))))) * (mx (wrap64 ((Int.tmod x9_3 a0_0) - (Int.tmod x13_4 a0_0))) (wrap64 (-(wrap64 ((Int.tmod x9_3 a0_0) - (Int.tmod x13_4 a0_0)))))))) + (wrap64 ((mx (wrap64 ((wrap64 (Int.tdiv x9_3 a0_0)) - (wrap64 (Int.tdiv x13_4 a0_0)))) (wrap64 (-(wrap64 ((wrap64 (Int.tdiv x9_3 a0_0)) - (wrap64 (Int.tdiv x13_4 a0_0))))))) * (mx (wrap64 ((wrap64 (Int.tdiv x9_3 a0_0)) - (wrap64 (Int.tdiv x13_4 a0_0)))) (wrap64 (-(wrap64 ((wrap64 (Int.tdiv x9_3 a0_0)) - (wrap64 (Int.tdiv x13_4 a0_0))))))))))) (wrap64 ((wrap64 ((mx (wrap64 ((Int.tmod x9_3 a0_0) - (Int.tmod x13_4 a0_0))) (wrap64 (-(wrap64 ((Int.tmod x9_3 a0_0) - (Int.tmod x13_4 a0_0)))))) * (mx (wrap64 ((Int.tmod x9_3 a0_0) - (Int.tmod x13_4 a0_0))) (wrap64 (-(wrap64 ((Int.tmod x9_3 a0_0) - (Int.tmod x13_4 a0_0)))))))) + (wrap64 ((mx (wrap64 ((wrap64 (Int.tdiv x9_3 a0_0)) - (wrap64 (Int.tdiv x13_4 a0_0)))) (wrap64 (-(wrap64 ((wrap64 (Int.tdiv x9_3 a0_0)) - (wrap64 (Int.tdiv x13_4 a0_0))))))) * (mx (wrap64 ((wrap64 (Int.tdiv x9_3 a0_0)) - (wrap64 (Int.tdiv x13_4 a0_0)))) (wrap64 (-(wrap64 ((wrap64 (Int.tdiv x9_3 a0_0)) - (wrap64 (Int.tdiv x13_4 a0_0)))))))))))) (wrap64 (x13_4 + 1)) a0_0 a0_1 l0_2) else (Ak.l1 k4 t108 t112 t116 x9_3 (mn x10_4 (wrap64 ((mx (wrap64 ((Int.tmod x9_3 a0_0) - (Int.tmod x13_4 a0_0))) (wrap64 (-(wrap64 ((Int.tmod x9_3 a0_0) - (Int.tmod x13_4 a0_0)))))) + (mx (wrap64 ((wrap64 (Int.tdiv x9_3 a0_0)) - (wrap64 (Int.tdiv x13_4 a0_0)))) (wrap64 (-(wrap64 ((wrap64 (Int.tdiv x9_3 a0_0)) - (wrap64 (Int.tdiv x13_4 a0_0)))))))))) (mn x11_4 (mx (mx (wrap64 ((Int.tmod x9_3 a0_0) - (Int.tmod x13_4 a0_0))) (wrap64 (-(wrap64 ((Int.tmod x9_3 a0_0) - (Int.tmod x13_4 a0_0)))))) (mx (wrap64 ((wrap64 (Int.tdiv x9_3 a0_0)) - (wrap64 (Int.tdiv x13_4 a0_0)))) (wrap64 (-(wrap64 ((wrap64 (Int.tdiv x9_3 a0_0)) - (wrap64 (Int.tdiv x13_4 a0_0))))))))) (mn x12_4 (wrap64 ((wrap64 ((mx (wrap64 ((Int.tmod x9_3 a0_0) - (Int.tmod x13_4 a0_0))) (wrap64 (-(wrap64 ((Int.tmod x9_3 a0_0) - (Int.tmod x13_4 a0_0)))))) * (mx (wrap64 ((Int.tmod x9_3 a0_0) - (Int.tmod x13_4 a0_0))) (wrap64 (-(wrap64 ((Int.tmod x9_3 a0_0) - (Int.tmod x13_4 a0_0)))))))) + (wrap64 ((mx (wrap64 ((wrap64 (Int.tdiv x9_3 a0_0)) - (wrap64 (Int.tdiv x13_4 a0_0)))) (wrap64 (-(wrap64 ((wrap64 (Int.tdiv x9_3 a0_0)) - (wrap64 (Int.tdiv x13_4 a0_0))))))) * (mx (wrap64 ((wrap64 (Int.tdiv x9_3 a0_0)) - (wrap64 (Int.tdiv x13_4 a0_0)))) (wrap64 (-(wrap64 ((wrap64 (Int.tdiv x9_3 a0_0)) - (wrap64 (Int.tdiv x13_4 a0_0)))))))))))) (wrap64 (x13_4 + 1)) a0_0 a0_1 l0_2))) = some r := by rw [if_pos rfl] at H; exact H
                clear H
                have H := H1
                clear H1
                by_cases c47 : a0_0 = 0
                ·rw [if_pos c47] at H
                 exact absurd H (by simp)
                ·rw [if_neg c47] at H
                 have c47b0 : (a0_0 == 0) = false := beq_eq_false_iff_ne.mpr c47
                 have c47b1 : (a0_0 != 0) = true := bne_iff_ne.mpr c47
                 obtain ⟨ji48, hji48⟩ : ∃ j_ : Int, (mx (wrap64 ((Int.tmod x9_3 a0_0) - (Int.tmod x13_4 a0_0))) (wrap64 (-(wrap64 ((Int.tmod x9_3 a0_0) - (Int.tmod x13_4 a0_0)))))) = j_ := ⟨_, rfl⟩
                 replace H : (if x10_4 < 0 then (Ak.l1 k4 t108 t112 t116 x9_3 (mn (wrap64 ((ji48) + (mx (wrap64 ((wrap64 (Int.tdiv x9_3 a0_0)) - (wrap64 (Int.tdiv x13_4 a0_0)))) (wrap64 (-(wrap64 ((wrap64 (Int.tdiv x9_3 a0_0)) - (wrap64 (Int.tdiv x13_4 a0_0))))))))) (wrap64 ((ji48) + (mx (wrap64 ((wrap64 (Int.tdiv x9_3 a0_0)) - (wrap64 (Int.tdiv x13_4 a0_0)))) (wrap64 (-(wrap64 ((wrap64 (Int.tdiv x9_3 a0_0)) - (wrap64 (Int.tdiv x13_4 a0_0)))))))))) (mn (mx (ji48) (mx (wrap64 ((wrap64 (Int.tdiv x9_3 a0_0)) - (wrap64 (Int.tdiv x13_4 a0_0)))) (wrap64 (-(wrap64 ((wrap64 (Int.tdiv x9_3 a0_0)) - (wrap64 (Int.tdiv x13_4 a0_0)))))))) (mx (ji48) (mx (wrap64 ((wrap64 (Int.tdiv x9_3 a0_0)) - (wrap64 (Int.tdiv x13_4 a0_0)))) (wrap64 (-(wrap64 ((wrap64 (Int.tdiv x9_3 a0_0)) - (wrap64 (Int.tdiv x13_4 a0_0))))))))) (mn (wrap64 ((wrap64 ((ji48) * (ji48))) + (wrap64 ((mx (wrap64 ((wrap64 (Int.tdiv x9_3 a0_0)) - (wrap64 (Int.tdiv x13_4 a0_0)))) (wrap64 (-(wrap64 ((wrap64 (Int.tdiv x9_3 a0_0)) - (wrap64 (Int.tdiv x13_4 a0_0))))))) * (mx (wrap64 ((wrap64 (Int.tdiv x9_3 a0_0)) - (wrap64 (Int.tdiv x13_4 a0_0)))) (wrap64 (-(wrap64 ((wrap64 (Int.tdiv x9_3 a0_0)) - (wrap64 (Int.tdiv x13_4 a0_0))))))))))) (wrap64 ((wrap64 ((ji48) * (ji48))) + (wrap64 ((mx (wrap64 ((wrap64 (Int.tdiv x9_3 a0_0)) - (wrap64 (Int.tdiv x13_4 a0_0)))) (wrap64 (-(wrap64 ((wrap64 (Int.tdiv x9_3 a0_0)) - (wrap64 (Int.tdiv x13_4 a0_0))))))) * (mx (wrap64 ((wrap64 (Int.tdiv x9_3 a0_0)) - (wrap64 (Int.tdiv x13_4 a0_0)))) (wrap64 (-(wrap64 ((wrap64 (Int.tdiv x9_3 a0_0)) - (wrap64 (Int.tdiv x13_4 a0_0)))))))))))) (wrap64 (x13_4 + 1)) a0_0 a0_1 l0_2) else (Ak.l1 k4 t108 t112 t116 x9_3 (mn x10_4 (wrap64 ((ji48) + (mx (wrap64 ((wrap64 (Int.tdiv x9_3 a0_0)) - (wrap64 (Int.tdiv x13_4 a0_0)))) (wrap64 (-(wrap64 ((wrap64 (Int.tdiv x9_3 a0_0)) - (wrap64 (Int.tdiv x13_4 a0_0)))))))))) (mn x11_4 (mx (ji48) (mx (wrap64 ((wrap64 (Int.tdiv x9_3 a0_0)) - (wrap64 (Int.tdiv x13_4 a0_0)))) (wrap64 (-(wrap64 ((wrap64 (Int.tdiv x9_3 a0_0)) - (wrap64 (Int.tdiv x13_4 a0_0))))))))) (mn x12_4 (wrap64 ((wrap64 ((ji48) * (ji48))) + (wrap64 ((mx (wrap64 ((wrap64 (Int.tdiv x9_3 a0_0)) - (wrap64 (Int.tdiv x13_4 a0_0)))) (wrap64 (-(wrap64 ((wrap64 (Int.tdiv x9_3 a0_0)) - (wrap64 (Int.tdiv x13_4 a0_0))))))) * (mx (wrap64 ((wrap64 (Int.tdiv x9_3 a0_0)) - (wrap64 (Int.tdiv x13_4 a0_0)))) (wrap64 (-(wrap64 ((wrap64 (Int.tdiv x9_3 a0_0)) - (wrap64 (Int.tdiv x13_4 a0_0)))))))))))) (wrap64 (x13_4 + 1)) a0_0 a0_1 l0_2)) = some r := by first | (rw [hji48] at H; exact H) | (simp only [hji48] at H ⊢; exact H)
                 have hji48_ : (if (wrap64 ((Int.tmod x9_3 a0_0) - (Int.tmod x13_4 a0_0))) < (wrap64 (-(wrap64 ((Int.tmod x9_3 a0_0) - (Int.tmod x13_4 a0_0))))) then (wrap64 (-(wrap64 ((Int.tmod x9_3 a0_0) - (Int.tmod x13_4 a0_0))))) else (wrap64 ((Int.tmod x9_3 a0_0) - (Int.tmod x13_4 a0_0)))) = ji48 := hji48
                 obtain ⟨ji49, hji49⟩ : ∃ j_ : Int, (mx (wrap64 ((wrap64 (Int.tdiv x9_3 a0_0)) - (wrap64 (Int.tdiv x13_4 a0_0)))) (wrap64 (-(wrap64 ((wrap64 (Int.tdiv x9_3 a0_0)) - (wrap64 (Int.tdiv x13_4 a0_0))))))) = j_ := ⟨_, rfl⟩
                 replace H : (if x10_4 < 0 then (Ak.l1 k4 t108 t112 t116 x9_3 (mn (wrap64 ((ji48) + (ji49))) (wrap64 ((ji48) + (ji49)))) (mn (mx (ji48) (ji49)) (mx (ji48) (ji49))) (mn (wrap64 ((wrap64 ((ji48) * (ji48))) + (wrap64 ((ji49) * (ji49))))) (wrap64 ((wrap64 ((ji48) * (ji48))) + (wrap64 ((ji49) * (ji49)))))) (wrap64 (x13_4 + 1)) a0_0 a0_1 l0_2) else (Ak.l1 k4 t108 t112 t116 x9_3 (mn x10_4 (wrap64 ((ji48) + (ji49)))) (mn x11_4 (mx (ji48) (ji49))) (mn x12_4 (wrap64 ((wrap64 ((ji48) * (ji48))) + (wrap64 ((ji49) * (ji49)))))) (wrap64 (x13_4 + 1)) a0_0 a0_1 l0_2)) = some r := by first | (rw [hji49] at H; exact H) | (simp only [hji49] at H ⊢; exact H)
                 have hji49_ : (if (wrap64 ((wrap64 (Int.tdiv x9_3 a0_0)) - (wrap64 (Int.tdiv x13_4 a0_0)))) < (wrap64 (-(wrap64 ((wrap64 (Int.tdiv x9_3 a0_0)) - (wrap64 (Int.tdiv x13_4 a0_0)))))) then (wrap64 (-(wrap64 ((wrap64 (Int.tdiv x9_3 a0_0)) - (wrap64 (Int.tdiv x13_4 a0_0)))))) else (wrap64 ((wrap64 (Int.tdiv x9_3 a0_0)) - (wrap64 (Int.tdiv x13_4 a0_0))))) = ji49 := hji49
                 by_cases c50 : x10_4 < 0
                 ·rw [if_pos c50] at H
                  have c50b0 : decide (x10_4 < 0) = true := decide_eq_true c50
                  clear c50
                  obtain ⟨ji51, hji51⟩ : ∃ j_ : Int, (mx (ji48) (ji49)) = j_ := ⟨_, rfl⟩
                  replace H : (Ak.l1 k4 t108 t112 t116 x9_3 (mn (wrap64 ((ji48) + (ji49))) (wrap64 ((ji48) + (ji49)))) (mn (ji51) (ji51)) (mn (wrap64 ((wrap64 ((ji48) * (ji48))) + (wrap64 ((ji49) * (ji49))))) (wrap64 ((wrap64 ((ji48) * (ji48))) + (wrap64 ((ji49) * (ji49)))))) (wrap64 (x13_4 + 1)) a0_0 a0_1 l0_2) = some r := by first | (rw [hji51] at H; exact H) | (simp only [hji51] at H ⊢; exact H)
                  have hji51_ : (if (ji48) < (ji49) then (ji49) else (ji48)) = ji51 := hji51
                  obtain ⟨ji52, hji52⟩ : ∃ j_ : Int, (mn (wrap64 ((ji48) + (ji49))) (wrap64 ((ji48) + (ji49)))) = j_ := ⟨_, rfl⟩
                  replace H : (Ak.l1 k4 t108 t112 t116 x9_3 ji52 (mn (ji51) (ji51)) (mn (wrap64 ((wrap64 ((ji48) * (ji48))) + (wrap64 ((ji49) * (ji49))))) (wrap64 ((wrap64 ((ji48) * (ji48))) + (wrap64 ((ji49) * (ji49)))))) (wrap64 (x13_4 + 1)) a0_0 a0_1 l0_2) = some r := by first | (rw [hji52] at H; exact H) | (simp only [hji52] at H ⊢; exact H)
                  have hji52_ : (if (wrap64 ((ji48) + (ji49))) < (wrap64 ((ji48) + (ji49))) then (wrap64 ((ji48) + (ji49))) else (wrap64 ((ji48) + (ji49)))) = ji52 := hji52
                  obtain ⟨ji54, hji54⟩ : ∃ j_ : Int, (mn (ji51) (ji51)) = j_ := ⟨_, rfl⟩
                  replace H : (Ak.l1 k4 t108 t112 t116 x9_3 ji52 ji54 (mn (wrap64 ((wrap64 ((ji48) * (ji48))) + (wrap64 ((ji49) * (ji49))))) (wrap64 ((wrap64 ((ji48) * (ji48))) + (wrap64 ((ji49) * (ji49)))))) (wrap64 (x13_4 + 1)) a0_0 a0_1 l0_2) = some r := by first | (rw [hji54] at H; exact H) | (simp only [hji54] at H ⊢; exact H)
                  have hji54_ : (if (ji51) < (ji51) then (ji51) else (ji51)) = ji54 := hji54
                  obtain ⟨ji55, hji55⟩ : ∃ j_ : Int, (mn (wrap64 ((wrap64 ((ji48) * (ji48))) + (wrap64 ((ji49) * (ji49))))) (wrap64 ((wrap64 ((ji48) * (ji48))) + (wrap64 ((ji49) * (ji49)))))) = j_ := ⟨_, rfl⟩
                  replace H : (Ak.l1 k4 t108 t112 t116 x9_3 ji52 ji54 ji55 (wrap64 (x13_4 + 1)) a0_0 a0_1 l0_2) = some r := by first | (rw [hji55] at H; exact H) | (simp only [hji55] at H ⊢; exact H)
                  have hji55_ : (if (wrap64 ((wrap64 ((ji48) * (ji48))) + (wrap64 ((ji49) * (ji49))))) < (wrap64 ((wrap64 ((ji48) * (ji48))) + (wrap64 ((ji49) * (ji49))))) then (wrap64 ((wrap64 ((ji48) * (ji48))) + (wrap64 ((ji49) * (ji49))))) else (wrap64 ((wrap64 ((ji48) * (ji48))) + (wrap64 ((ji49) * (ji49)))))) = ji55 := hji55
                  have H' := Aa.mk H
                  clear H
                  have hcz56_0 : wr.cell? ⟨gb105, 0, none⟩ = some (.int .i64 a0_0) := (Ag BK105.out 0).trans rfl
                  have hcz56_1 : wr.cell? ⟨gb105, 1, none⟩ = some (.int .i64 a0_1) := (Ag BK105.out 1).trans rfl
                  have hcz56_2 : wr.cell? ⟨gb105, 2, none⟩ = some (.slice A0_2 l0_2.length c0_2) := (Ag BK105.out 2).trans rfl
                  have hfz56_0 := Ae BK105.out 0
                  have hfz56_1 := Ae BK105.out 1
                  have hfz56_2 := Ae BK105.out 2
                  have p123 : 0 ≤ (x13_4 : Int) := of_decide_eq_true (by first | (with_reducible assumption) | assumption)
                  have q123 : x13_4 < (l0_2.length : Int) := of_decide_eq_true (by first | (with_reducible assumption) | assumption)
                  obtain ⟨ad123, e123, hx123_0⟩ := Kd.at_bool HR0_2.out x13_4 p123 q123
                  (try rw [← Nbq45.out] at hx123_0)
                  cases e123
                  replace hx123_0 := (HB.out.cell (World.block_lt_of_cell? w _ hx123_0)).trans hx123_0
                  replace p123 := eq_true p123
                  replace q123 := eq_true q123
                  go_wp2
                  repeat (go_quiet (fail); try go_wp2)
                  go_roundg k4
                  case measure => have := HJ3.out; have := HJ17.out; have := HK3.out; have := HK4.out; omega
                  case rel => exact ⟨(ji52), (ji54), (ji55), (wrap64 (x13_4 + 1)), (by first | rfl | (simp; done) | (simp only [← hji52] <;> (first | rfl | (simp; done) | (unfold mn; split <;> rfl))) | (simp [*]; done)), (by first | rfl | (simp; done) | (simp only [← hji54] <;> (first | rfl | (simp; done) | (unfold mn; split <;> rfl))) | (simp [*]; done)), (by first | rfl | (simp; done) | (simp only [← hji55] <;> (first | rfl | (simp; done) | (unfold mn; split <;> rfl))) | (simp [*]; done)), (by first | rfl | (simp; done) | (simp [*]; done)), H', ⟨by have := HJ3.out; have := HJ17.out; have := HK3.out; have := HK4.out; omega⟩, ⟨by (with_reducible repeat (first | apply Kd.Am | apply Kd.An | apply Kd.Aq)); exact HO_3.out⟩, ⟨by (with_reducible repeat (first | apply Kd.Am | apply Kd.An | apply Kd.Aq)); exact HO_5.out⟩, ⟨by (with_reducible repeat (first | apply Kd.Am | apply Kd.An | apply Kd.Aq)); exact HO_7.out⟩, ⟨by (with_reducible repeat (first | refine Ai ?_ _ | refine Aj ?_ | refine Af ?_ _)); exact BK105.out⟩, ⟨by repeat (first | (with_reducible first | exact HB.out | apply Ac | apply Ab | apply Ad | refine Ah ?_ GE105.out) | exact HB.out)⟩⟩
                 ·rw [if_neg c50] at H
                  have c50b0 : decide (x10_4 < 0) = false := decide_eq_false c50
                  clear c50
                  obtain ⟨ji57, hji57⟩ : ∃ j_ : Int, (mn x10_4 (wrap64 ((ji48) + (ji49)))) = j_ := ⟨_, rfl⟩
                  replace H : (Ak.l1 k4 t108 t112 t116 x9_3 ji57 (mn x11_4 (mx (ji48) (ji49))) (mn x12_4 (wrap64 ((wrap64 ((ji48) * (ji48))) + (wrap64 ((ji49) * (ji49)))))) (wrap64 (x13_4 + 1)) a0_0 a0_1 l0_2) = some r := by first | (rw [hji57] at H; exact H) | (simp only [hji57] at H ⊢; exact H)
                  have hji57_ : (if (wrap64 ((ji48) + (ji49))) < x10_4 then (wrap64 ((ji48) + (ji49))) else x10_4) = ji57 := hji57
                  obtain ⟨ji58, hji58⟩ : ∃ j_ : Int, (mx (ji48) (ji49)) = j_ := ⟨_, rfl⟩
                  replace H : (Ak.l1 k4 t108 t112 t116 x9_3 ji57 (mn x11_4 (ji58)) (mn x12_4 (wrap64 ((wrap64 ((ji48) * (ji48))) + (wrap64 ((ji49) * (ji49)))))) (wrap64 (x13_4 + 1)) a0_0 a0_1 l0_2) = some r := by first | (rw [hji58] at H; exact H) | (simp only [hji58] at H ⊢; exact H)
                  have hji58_ : (if (ji48) < (ji49) then (ji49) else (ji48)) = ji58 := hji58
                  obtain ⟨ji59, hji59⟩ : ∃ j_ : Int, (mn x11_4 (ji58)) = j_ := ⟨_, rfl⟩
                  replace H : (Ak.l1 k4 t108 t112 t116 x9_3 ji57 ji59 (mn x12_4 (wrap64 ((wrap64 ((ji48) * (ji48))) + (wrap64 ((ji49) * (ji49)))))) (wrap64 (x13_4 + 1)) a0_0 a0_1 l0_2) = some r := by first | (rw [hji59] at H; exact H) | (simp only [hji59] at H ⊢; exact H)
                  have hji59_ : (if (ji58) < x11_4 then (ji58) else x11_4) = ji59 := hji59
                  obtain ⟨ji60, hji60⟩ : ∃ j_ : Int, (mn x12_4 (wrap64 ((wrap64 ((ji48) * (ji48))) + (wrap64 ((ji49) * (ji49)))))) = j_ := ⟨_, rfl⟩
                  replace H : (Ak.l1 k4 t108 t112 t116 x9_3 ji57 ji59 ji60 (wrap64 (x13_4 + 1)) a0_0 a0_1 l0_2) = some r := by first | (rw [hji60] at H; exact H) | (simp only [hji60] at H ⊢; exact H)
                  have hji60_ : (if (wrap64 ((wrap64 ((ji48) * (ji48))) + (wrap64 ((ji49) * (ji49))))) < x12_4 then (wrap64 ((wrap64 ((ji48) * (ji48))) + (wrap64 ((ji49) * (ji49))))) else x12_4) = ji60 := hji60
                  have H' := Aa.mk H
                  clear H
                  have hcz61_0 : wr.cell? ⟨gb105, 0, none⟩ = some (.int .i64 a0_0) := (Ag BK105.out 0).trans rfl
                  have hcz61_1 : wr.cell? ⟨gb105, 1, none⟩ = some (.int .i64 a0_1) := (Ag BK105.out 1).trans rfl
                  have hcz61_2 : wr.cell? ⟨gb105, 2, none⟩ = some (.slice A0_2 l0_2.length c0_2) := (Ag BK105.out 2).trans rfl
                  have hfz61_0 := Ae BK105.out 0
                  have hfz61_1 := Ae BK105.out 1
                  have hfz61_2 := Ae BK105.out 2
                  have p123 : 0 ≤ (x13_4 : Int) := of_decide_eq_true (by first | (with_reducible assumption) | assumption)
                  have q123 : x13_4 < (l0_2.length : Int) := of_decide_eq_true (by first | (with_reducible assumption) | assumption)
                  obtain ⟨ad123, e123, hx123_0⟩ := Kd.at_bool HR0_2.out x13_4 p123 q123
                  (try rw [← Nbq45.out] at hx123_0)
                  cases e123
                  replace hx123_0 := (HB.out.cell (World.block_lt_of_cell? w _ hx123_0)).trans hx123_0
                  replace p123 := eq_true p123
                  replace q123 := eq_true q123
                  go_wp2
                  repeat (go_quiet (fail); try go_wp2)
                  go_roundg k4
                  case measure => have := HJ3.out; have := HJ17.out; have := HK3.out; have := HK4.out; omega
                  case rel => exact ⟨(ji57), (ji59), (ji60), (wrap64 (x13_4 + 1)), (by first | rfl | (simp; done) | (simp only [← hji57] <;> (first | rfl | (simp; done) | (unfold mn; split <;> rfl))) | (simp [*]; done)), (by first | rfl | (simp; done) | (simp only [← hji59] <;> (first | rfl | (simp; done) | (unfold mn; split <;> rfl))) | (simp [*]; done)), (by first | rfl | (simp; done) | (simp only [← hji60] <;> (first | rfl | (simp; done) | (unfold mn; split <;> rfl))) | (simp [*]; done)), (by first | rfl | (simp; done) | (simp [*]; done)), H', ⟨by have := HJ3.out; have := HJ17.out; have := HK3.out; have := HK4.out; omega⟩, ⟨by (with_reducible repeat (first | apply Kd.Am | apply Kd.An | apply Kd.Aq)); exact HO_3.out⟩, ⟨by (with_reducible repeat (first | apply Kd.Am | apply Kd.An | apply Kd.Aq)); exact HO_5.out⟩, ⟨by (with_reducible repeat (first | apply Kd.Am | apply Kd.An | apply Kd.Aq)); exact HO_7.out⟩, ⟨by (with_reducible repeat (first | refine Ai ?_ _ | refine Aj ?_ | refine Af ?_ _)); exact BK105.out⟩, ⟨by repeat (first | (with_reducible first | exact HB.out | apply Ac | apply Ab | apply Ad | refine Ah ?_ GE105.out) | exact HB.out)⟩⟩
               ·replace c46 := Bool.eq_false_iff.mpr c46
                subst c46
                have H1 : (Ak.l1 k4 t108 t112 t116 x9_3 x10_4 x11_4 x12_4 (wrap64 (x13_4 + 1)) a0_0 a0_1 l0_2) = some r := by rw [if_neg (show ¬ (false = true) by decide)] at H; exact H
                clear H
                have H := H1
                clear H1
                have H' := Aa.mk H
                clear H
                have hcz62_0 : wr.cell? ⟨gb105, 0, none⟩ = some (.int .i64 a0_0) := (Ag BK105.out 0).trans rfl
                have hcz62_1 : wr.cell? ⟨gb105, 1, none⟩ = some (.int .i64 a0_1) := (Ag BK105.out 1).trans rfl
                have hcz62_2 : wr.cell? ⟨gb105, 2, none⟩ = some (.slice A0_2 l0_2.length c0_2) := (Ag BK105.out 2).trans rfl
                have hfz62_0 := Ae BK105.out 0
                have hfz62_1 := Ae BK105.out 1
                have hfz62_2 := Ae BK105.out 2
                have p123 : 0 ≤ (x13_4 : Int) := of_decide_eq_true (by first | (with_reducible assumption) | assumption)
                have q123 : x13_4 < (l0_2.length : Int) := of_decide_eq_true (by first | (with_reducible assumption) | assumption)
                obtain ⟨ad123, e123, hx123_0⟩ := Kd.at_bool HR0_2.out x13_4 p123 q123
                (try rw [← Nbq45.out] at hx123_0)
                cases e123
                replace hx123_0 := (HB.out.cell (World.block_lt_of_cell? w _ hx123_0)).trans hx123_0
                replace p123 := eq_true p123
                replace q123 := eq_true q123
                go_wp2
                repeat (go_quiet (fail); try go_wp2)
                go_roundg k4
                case measure => have := HJ3.out; have := HJ17.out; have := HK3.out; have := HK4.out; omega
                case rel => exact ⟨(x10_4), (x11_4), (x12_4), (wrap64 (x13_4 + 1)), (by first | rfl | (simp; done) | (simp [*]; done)), (by first | rfl | (simp; done) | (simp [*]; done)), (by first | rfl | (simp; done) | (simp [*]; done)), (by first | rfl | (simp; done) | (simp [*]; done)), H', ⟨by have := HJ3.out; have := HJ17.out; have := HK3.out; have := HK4.out; omega⟩, ⟨by (with_reducible repeat (first | apply Kd.Am | apply Kd.An | apply Kd.Aq)); exact HO_3.out⟩, ⟨by (with_reducible repeat (first | apply Kd.Am | apply Kd.An | apply Kd.Aq)); exact HO_5.out⟩, ⟨by (with_reducible repeat (first | apply Kd.Am | apply Kd.An | apply Kd.Aq)); exact HO_7.out⟩, ⟨by (with_reducible repeat (first | refine Ai ?_ _ | refine Aj ?_ | refine Af ?_ _)); exact BK105.out⟩, ⟨by repeat (first | (with_reducible first | exact HB.out | apply Ac | apply Ab | apply Ad | refine Ah ?_ GE105.out) | exact HB.out)⟩⟩
              ·rw [if_neg c44] at H
               exact absurd H (by simp)
             ·rw [if_neg c43] at H
              have c43b0 : decide (x13_4 < (l0_2.length : Int)) = false := decide_eq_false c43
              clear c43
              have HC63 := Aa.mk H
              clear H
              have hcz64_0 : wr.cell? ⟨gb105, 0, none⟩ = some (.int .i64 a0_0) := (Ag BK105.out 0).trans rfl
              have hcz64_1 : wr.cell? ⟨gb105, 1, none⟩ = some (.int .i64 a0_1) := (Ag BK105.out 1).trans rfl
              have hcz64_2 : wr.cell? ⟨gb105, 2, none⟩ = some (.slice A0_2 l0_2.length c0_2) := (Ag BK105.out 2).trans rfl
              have hfz64_0 := Ae BK105.out 0
              have hfz64_1 := Ae BK105.out 1
              have hfz64_2 := Ae BK105.out 2
              go_upto_region 23 with (fail)
              repeat (go_quiet (fail); go_upto_region 23 with (fail))
              go_cut [176] (fun v176 wc => ∃ (kq : Nat) (x176_62 : Bool), v176 = .bool x176_62 ∧ Aa (Ak.j4 kq t108 t112 t116 x9_3 x10_4 x11_4 x12_4 x176_62 a0_0 a0_1 l0_2 = some r) ∧ Aa (kq ≤ k4) ∧ Aa (Kd.R (Kd.int .i64) 3 wc w.heap.size (fun k_ => some k_ ≠ (v113 : Value).ownBlock ∧ some k_ ≠ (v117 : Value).ownBlock) v109 t108) ∧ Aa (Kd.R (Kd.int .i64) 3 wc w.heap.size (fun k_ => some k_ ≠ (v109 : Value).ownBlock ∧ some k_ ≠ (v117 : Value).ownBlock) v113 t112) ∧ Aa (Kd.R (Kd.int .i64) 3 wc w.heap.size (fun k_ => some k_ ≠ (v109 : Value).ownBlock ∧ some k_ ≠ (v113 : Value).ownBlock) v117 t116) ∧ Aa (wc.heap[gb105]? = some (.cells #[.int .i64 a0_0, .int .i64 a0_1, (.slice A0_2 l0_2.length c0_2)] 50 (0, 0))) ∧ Aa (Below w.heap.size w wc))
              case first => as_aux_lemma =>
               have H := HC63.out
               clear HC63
               by_cases c65 : 0 ≤ x9_3
               ·rw [if_pos c65] at H
                have c65b0 : decide (0 ≤ x9_3) = true := decide_eq_true c65
                clear c65
                (first | rw [c65b0] | (simp only [i64_w, i32_w]; rw [c65b0]) | skip)
                by_cases c66 : x9_3 < (t108.length : Int)
                ·rw [if_pos c66] at H
                 have c66b0 : decide (x9_3 < (t108.length : Int)) = true := decide_eq_true c66
                 clear c66
                 by_cases c67 : (rd t108 x9_3) = x10_4
                 ·rw [if_pos c67] at H
                  have c67b0 : ((rd t108 x9_3) == x10_4) = true := beq_iff_eq.mpr c67
                  have c67b1 : ((rd t108 x9_3) != x10_4) = false := bne_eq_false_iff_eq.mpr c67
                  clear c67
                  by_cases c68 : x9_3 < (t112.length : Int)
                  ·rw [if_pos c68] at H
                   have c68b0 : decide (x9_3 < (t112.length : Int)) = true := decide_eq_true c68
                   clear c68
                   by_cases c69 : (rd t112 x9_3) = x11_4
                   ·rw [if_pos c69] at H
                    have c69b0 : ((rd t112 x9_3) == x11_4) = true := beq_iff_eq.mpr c69
                    have c69b1 : ((rd t112 x9_3) != x11_4) = false := bne_eq_false_iff_eq.mpr c69
                    clear c69
                    by_cases c70 : x9_3 < (t116.length : Int)
                    ·rw [if_pos c70] at H
                     have c70b0 : decide (x9_3 < (t116.length : Int)) = true := decide_eq_true c70
                     clear c70
                     have H' := Aa.mk H
                     clear H
                     obtain ⟨Ao71, co71, eo71⟩ := Kd.Bz HO_3.out
                     subst eo71
                     have p124 : 0 ≤ (x9_3 : Int) := of_decide_eq_true (by first | (with_reducible assumption) | assumption)
                     have q124 : x9_3 < (t108.length : Int) := of_decide_eq_true (by first | (with_reducible assumption) | assumption)
                     obtain ⟨ad124, e124, hx124_0⟩ := Kd.at_int (Kd.Az HO_3.out).2.2 x9_3 p124 q124
                     cases e124
                     replace p124 := eq_true p124
                     replace q124 := eq_true q124
                     obtain ⟨Ao72, co72, eo72⟩ := Kd.Bz HO_5.out
                     subst eo72
                     have p125 : 0 ≤ (x9_3 : Int) := of_decide_eq_true (by first | (with_reducible assumption) | assumption)
                     have q125 : x9_3 < (t112.length : Int) := of_decide_eq_true (by first | (with_reducible assumption) | assumption)
                     obtain ⟨ad125, e125, hx125_0⟩ := Kd.at_int (Kd.Az HO_5.out).2.2 x9_3 p125 q125
                     cases e125
                     replace p125 := eq_true p125
                     replace q125 := eq_true q125
                     obtain ⟨Ao73, co73, eo73⟩ := Kd.Bz HO_7.out
                     subst eo73
                     have p126 : 0 ≤ (x9_3 : Int) := of_decide_eq_true (by first | (with_reducible assumption) | assumption)
                     have q126 : x9_3 < (t116.length : Int) := of_decide_eq_true (by first | (with_reducible assumption) | assumption)
                     obtain ⟨ad126, e126, hx126_0⟩ := Kd.at_int (Kd.Az HO_7.out).2.2 x9_3 p126 q126
                     cases e126
                     replace p126 := eq_true p126
                     replace q126 := eq_true q126
                     go_wp2
                     repeat (go_quiet (fail); try go_wp2)
                     go_meet
                     case rel => exact ⟨_, (((rd t116 x9_3) != x12_4)), (by first | rfl | (simp; done) | (simp [*]; done)), H', ⟨by have := HJ3.out; have := HJ17.out; have := HK3.out; have := HK4.out; first | omega | exact Nat.le_refl _⟩, ⟨by (with_reducible repeat (first | apply Kd.Am | apply Kd.An | apply Kd.Aq)); exact HO_3.out⟩, ⟨by (with_reducible repeat (first | apply Kd.Am | apply Kd.An | apply Kd.Aq)); exact HO_5.out⟩, ⟨by (with_reducible repeat (first | apply Kd.Am | apply Kd.An | apply Kd.Aq)); exact HO_7.out⟩, ⟨by (with_reducible repeat (first | refine Ai ?_ _ | refine Aj ?_ | refine Af ?_ _)); exact BK105.out⟩, ⟨by repeat (first | (with_reducible first | exact HB.out | apply Ac | apply Ab | apply Ad | refine Ah ?_ GE105.out) | exact HB.out)⟩⟩
                    ·rw [if_neg c70] at H
                     exact absurd H (by simp)
                   ·rw [if_neg c69] at H
                    have c69b0 : ((rd t112 x9_3) == x11_4) = false := beq_eq_false_iff_ne.mpr c69
                    have c69b1 : ((rd t112 x9_3) != x11_4) = true := bne_iff_ne.mpr c69
                    have H' := Aa.mk H
                    clear H
                    obtain ⟨Ao74, co74, eo74⟩ := Kd.Bz HO_3.out
                    subst eo74
                    have p124 : 0 ≤ (x9_3 : Int) := of_decide_eq_true (by first | (with_reducible assumption) | assumption)
                    have q124 : x9_3 < (t108.length : Int) := of_decide_eq_true (by first | (with_reducible assumption) | assumption)
                    obtain ⟨ad124, e124, hx124_0⟩ := Kd.at_int (Kd.Az HO_3.out).2.2 x9_3 p124 q124
                    cases e124
                    replace p124 := eq_true p124
                    replace q124 := eq_true q124
                    obtain ⟨Ao75, co75, eo75⟩ := Kd.Bz HO_5.out
                    subst eo75
                    have p125 : 0 ≤ (x9_3 : Int) := of_decide_eq_true (by first | (with_reducible assumption) | assumption)
                    have q125 : x9_3 < (t112.length : Int) := of_decide_eq_true (by first | (with_reducible assumption) | assumption)
                    obtain ⟨ad125, e125, hx125_0⟩ := Kd.at_int (Kd.Az HO_5.out).2.2 x9_3 p125 q125
                    cases e125
                    replace p125 := eq_true p125
                    replace q125 := eq_true q125
                    go_wp2
                    repeat (go_quiet (fail); try go_wp2)
                    go_meet
                    case rel => exact ⟨_, (true), (by first | rfl | (simp; done) | (simp [*]; done)), H', ⟨by have := HJ3.out; have := HJ17.out; have := HK3.out; have := HK4.out; first | omega | exact Nat.le_refl _⟩, ⟨by (with_reducible repeat (first | apply Kd.Am | apply Kd.An | apply Kd.Aq)); exact HO_3.out⟩, ⟨by (with_reducible repeat (first | apply Kd.Am | apply Kd.An | apply Kd.Aq)); exact HO_5.out⟩, ⟨by (with_reducible repeat (first | apply Kd.Am | apply Kd.An | apply Kd.Aq)); exact HO_7.out⟩, ⟨by (with_reducible repeat (first | refine Ai ?_ _ | refine Aj ?_ | refine Af ?_ _)); exact BK105.out⟩, ⟨by repeat (first | (with_reducible first | exact HB.out | apply Ac | apply Ab | apply Ad | refine Ah ?_ GE105.out) | exact HB.out)⟩⟩
                  ·rw [if_neg c68] at H
                   exact absurd H (by simp)
                 ·rw [if_neg c67] at H
                  have c67b0 : ((rd t108 x9_3) == x10_4) = false := beq_eq_false_iff_ne.mpr c67
                  have c67b1 : ((rd t108 x9_3) != x10_4) = true := bne_iff_ne.mpr c67
                  have H' := Aa.mk H
                  clear H
                  obtain ⟨Ao76, co76, eo76⟩ := Kd.Bz HO_3.out
                  subst eo76
                  have p124 : 0 ≤ (x9_3 : Int) := of_decide_eq_true (by first | (with_reducible assumption) | assumption)
                  have q124 : x9_3 < (t108.length : Int) := of_decide_eq_true (by first | (with_reducible assumption) | assumption)
                  obtain ⟨ad124, e124, hx124_0⟩ := Kd.at_int (Kd.Az HO_3.out).2.2 x9_3 p124 q124
                  cases e124
                  replace p124 := eq_true p124
                  replace q124 := eq_true q124
                  go_wp2
                  repeat (go_quiet (fail); try go_wp2)
                  go_meet
                  case rel => exact ⟨_, (true), (by first | rfl | (simp; done) | (simp [*]; done)), H', ⟨by have := HJ3.out; have := HJ17.out; have := HK3.out; have := HK4.out; first | omega | exact Nat.le_refl _⟩, ⟨by (with_reducible repeat (first | apply Kd.Am | apply Kd.An | apply Kd.Aq)); exact HO_3.out⟩, ⟨by (with_reducible repeat (first | apply Kd.Am | apply Kd.An | apply Kd.Aq)); exact HO_5.out⟩, ⟨by (with_reducible repeat (first | apply Kd.Am | apply Kd.An | apply Kd.Aq)); exact HO_7.out⟩, ⟨by (with_reducible repeat (first | refine Ai ?_ _ | refine Aj ?_ | refine Af ?_ _)); exact BK105.out⟩, ⟨by repeat (first | (with_reducible first | exact HB.out | apply Ac | apply Ab | apply Ad | refine Ah ?_ GE105.out) | exact HB.out)⟩⟩
                ·rw [if_neg c66] at H
                 exact absurd H (by simp)
               ·rw [if_neg c65] at H
                exact absurd H (by simp)
              case rest => as_aux_lemma =>
               clear HC63
               try clear c1
               try clear p1
               try clear q1
               try clear hx1
               try clear c2
               try clear p2
               try clear c3
               try clear c4
               try clear q4
               try clear c5
               try clear c6
               try clear p6
               try clear c7
               try clear c8
               try clear p12
               try clear q12
               try clear hx12
               try clear c14
               try clear c28
               try clear c28b0
               try clear c28b1
               try clear c29
               try clear c29b0
               try clear c29b1
               try clear c29b2
               try clear c30
               try clear c30b0
               try clear c30b1
               try clear c30b2
               try clear c40
               try clear c41
               try clear c41b0
               try clear c43
               try clear c43b0
               try clear c44
               try clear c44b0
               try clear q45
               try clear c46
               try clear c47
               try clear c47b0
               try clear c47b1
               try clear c50
               try clear c50b0
               try clear c53
               try clear c53b0
               try clear p64
               try clear c65
               try clear c65b0
               try clear c66
               try clear c66b0
               try clear c67
               try clear c67b0
               try clear c67b1
               try clear c68
               try clear c68b0
               try clear c69
               try clear c69b0
               try clear c69b1
               try clear c70
               try clear c70b0
               try clear hcz11_0
               try clear hcz11_1
               try clear hcz11_2
               try clear hcz12_0
               try clear hcz12_1
               try clear hcz12_2
               try clear hcz19_0
               try clear hcz19_1
               try clear hcz19_2
               try clear hcz21_0
               try clear hcz21_1
               try clear hcz21_2
               try clear hcz23_0
               try clear hcz23_1
               try clear hcz23_2
               try clear hcz32_0
               try clear hcz32_1
               try clear hcz32_2
               try clear hcz36_0
               try clear hcz36_1
               try clear hcz36_2
               try clear hcz39_0
               try clear hcz39_1
               try clear hcz39_2
               try clear hcz42_0
               try clear hcz42_1
               try clear hcz42_2
               try clear hcz56_0
               try clear hcz56_1
               try clear hcz56_2
               try clear hcz61_0
               try clear hcz61_1
               try clear hcz61_2
               try clear hcz62_0
               try clear hcz62_1
               try clear hcz62_2
               try clear hcz64_0
               try clear hcz64_1
               try clear hcz64_2
               try clear hcz9_0
               try clear hcz9_1
               try clear hcz9_2
               try clear hfz11_0
               try clear hfz11_1
               try clear hfz11_2
               try clear hfz12_0
               try clear hfz12_1
               try clear hfz12_2
               try clear hfz19_0
               try clear hfz19_1
               try clear hfz19_2
               try clear hfz21_0
               try clear hfz21_1
               try clear hfz21_2
               try clear hfz23_0
               try clear hfz23_1
               try clear hfz23_2
               try clear hfz32_0
               try clear hfz32_1
               try clear hfz32_2
               try clear hfz36_0
               try clear hfz36_1
               try clear hfz36_2
               try clear hfz39_0
               try clear hfz39_1
               try clear hfz39_2
               try clear hfz42_0
               try clear hfz42_1
               try clear hfz42_2
               try clear hfz56_0
               try clear hfz56_1
               try clear hfz56_2
               try clear hfz61_0
               try clear hfz61_1
               try clear hfz61_2
               try clear hfz62_0
               try clear hfz62_1
               try clear hfz62_2
               try clear hfz64_0
               try clear hfz64_1
               try clear hfz64_2
               try clear hfz9_0
               try clear hfz9_1
               try clear hfz9_2
               try clear hx123_0
               try clear hx124_0
               try clear hx125_0
               try clear hx126_0
               try clear p123
               try clear p124
               try clear p125
               try clear p126
               try clear p2
               try clear p6
               try clear q123
               try clear q124
               try clear q125
               try clear q126
               obtain ⟨kq, x176_62, rfl, HA, HJ62, HO_3, HO_5, HO_7, BK105, HB⟩ := hcut
               cases kq with
               | zero => exact absurd HA.out (by simp [Ak.j4])
               | succ kj62 =>
                have H := HA.out
                clear HA
                simp only [Ak.j4] at H
                by_cases c77 : x176_62 = true
                ·subst c77
                 have H1 : (some false) = some r := by rw [if_pos rfl] at H; exact H
                 clear H
                 have H := H1
                 clear H1
                 exact absurd (H.trans (congrArg some HT.out)) (by decide)
                ·replace c77 := Bool.eq_false_iff.mpr c77
                 subst c77
                 have H1 : (if x10_4 ≥ 0 then (if x12_4 > (wrap64 (x10_4 * x10_4)) then (some false) else (if x12_4 < (wrap64 (x11_4 * x11_4)) then (some false) else (if x12_4 > (wrap64 ((wrap64 (2 * x11_4)) * x11_4)) then (some false) else (Ak.l0 kj62 t108 t112 t116 (wrap64 (x9_3 + 1)) a0_0 a0_1 l0_2)))) else (Ak.l0 kj62 t108 t112 t116 (wrap64 (x9_3 + 1)) a0_0 a0_1 l0_2)) = some r := by rw [if_neg (show ¬ (false = true) by decide)] at H; exact H
                 clear H
                 have H := H1
                 clear H1
                 by_cases c78 : x10_4 ≥ 0
                 ·rw [if_pos c78] at H
                  have c78b0 : decide (0 ≤ x10_4) = true := decide_eq_true c78
                  clear c78
                  by_cases c79 : x12_4 > (wrap64 (x10_4 * x10_4))
                  ·rw [if_pos c79] at H
                   have c79b0 : decide ((wrap64 (x10_4 * x10_4)) < x12_4) = true := decide_eq_true c79
                   clear c79
                   exact absurd (H.trans (congrArg some HT.out)) (by decide)
                  ·rw [if_neg c79] at H
                   have c79b0 : decide ((wrap64 (x10_4 * x10_4)) < x12_4) = false := decide_eq_false c79
                   clear c79
                   by_cases c80 : x12_4 < (wrap64 (x11_4 * x11_4))
                   ·rw [if_pos c80] at H
                    have c80b0 : decide (x12_4 < (wrap64 (x11_4 * x11_4))) = true := decide_eq_true c80
                    clear c80
                    exact absurd (H.trans (congrArg some HT.out)) (by decide)
                   ·rw [if_neg c80] at H
                    have c80b0 : decide (x12_4 < (wrap64 (x11_4 * x11_4))) = false := decide_eq_false c80
                    clear c80
                    by_cases c81 : x12_4 > (wrap64 ((wrap64 (2 * x11_4)) * x11_4))
                    ·rw [if_pos c81] at H
                     have c81b0 : decide ((wrap64 ((wrap64 (2 * x11_4)) * x11_4)) < x12_4) = true := decide_eq_true c81
                     clear c81
                     exact absurd (H.trans (congrArg some HT.out)) (by decide)
                    ·rw [if_neg c81] at H
                     have c81b0 : decide ((wrap64 ((wrap64 (2 * x11_4)) * x11_4)) < x12_4) = false := decide_eq_false c81
                     clear c81
                     have H' := Aa.mk H
                     clear H
                     go_wp2
                     repeat (go_quiet (fail); try go_wp2)
                     go_roundg kj62
                     case measure => have := HJ3.out; have := HJ17.out; have := HK3.out; have := HK4.out; have := HJ62.out; omega
                     case rel => exact ⟨(wrap64 (x9_3 + 1)), (by first | rfl | (simp; done) | (simp [*]; done)), H', ⟨by have := HJ3.out; have := HJ17.out; have := HK3.out; have := HK4.out; have := HJ62.out; omega⟩, ⟨by (with_reducible repeat (first | apply Kd.Am | apply Kd.An | apply Kd.Aq)); exact HO_3.out⟩, ⟨by (with_reducible repeat (first | apply Kd.Am | apply Kd.An | apply Kd.Aq)); exact HO_5.out⟩, ⟨by (with_reducible repeat (first | apply Kd.Am | apply Kd.An | apply Kd.Aq)); exact HO_7.out⟩, ⟨by (with_reducible repeat (first | refine Ai ?_ _ | refine Aj ?_ | refine Af ?_ _)); exact BK105.out⟩, ⟨by repeat (first | (with_reducible first | exact HB.out | apply Ac | apply Ab | apply Ad | refine Ah ?_ GE105.out) | exact HB.out)⟩⟩
                 ·rw [if_neg c78] at H
                  have c78b0 : decide (0 ≤ x10_4) = false := decide_eq_false c78
                  clear c78
                  have H' := Aa.mk H
                  clear H
                  go_wp2
                  repeat (go_quiet (fail); try go_wp2)
                  go_roundg kj62
                  case measure => have := HJ3.out; have := HJ17.out; have := HK3.out; have := HK4.out; have := HJ62.out; omega
                  case rel => exact ⟨(wrap64 (x9_3 + 1)), (by first | rfl | (simp; done) | (simp [*]; done)), H', ⟨by have := HJ3.out; have := HJ17.out; have := HK3.out; have := HK4.out; have := HJ62.out; omega⟩, ⟨by (with_reducible repeat (first | apply Kd.Am | apply Kd.An | apply Kd.Aq)); exact HO_3.out⟩, ⟨by (with_reducible repeat (first | apply Kd.Am | apply Kd.An | apply Kd.Aq)); exact HO_5.out⟩, ⟨by (with_reducible repeat (first | apply Kd.Am | apply Kd.An | apply Kd.Aq)); exact HO_7.out⟩, ⟨by (with_reducible repeat (first | refine Ai ?_ _ | refine Aj ?_ | refine Af ?_ _)); exact BK105.out⟩, ⟨by repeat (first | (with_reducible first | exact HB.out | apply Ac | apply Ab | apply Ad | refine Ah ?_ GE105.out) | exact HB.out)⟩⟩
          ·rw [if_neg c41] at H
           have c41b0 : decide (x9_3 < (l0_2.length : Int)) = false := decide_eq_false c41
           clear c41
           obtain rfl := Option.some.inj H
           have hcz82_0 : wr.cell? ⟨gb105, 0, none⟩ = some (.int .i64 a0_0) := (Ag BK105.out 0).trans rfl
           have hcz82_1 : wr.cell? ⟨gb105, 1, none⟩ = some (.int .i64 a0_1) := (Ag BK105.out 1).trans rfl
           have hcz82_2 : wr.cell? ⟨gb105, 2, none⟩ = some (.slice A0_2 l0_2.length c0_2) := (Ag BK105.out 2).trans rfl
           have hfz82_0 := Ae BK105.out 0
           have hfz82_1 := Ae BK105.out 1
           have hfz82_2 := Ae BK105.out 2
           go_wp2
           repeat (go_quiet (fail); try go_wp2)
           go_ret
           exact ⟨by first | rfl | (simp [Bd, Bc] <;> rfl) | (simp [*, Bd, Bc] <;> rfl), by repeat (first | (with_reducible first | exact HB.out | apply Ac | apply Ab | apply Ad | refine Ah ?_ GE105.out) | exact HB.out)⟩
 ·replace c3 := Bool.eq_false_iff.mpr c3
  subst c3
  have H1 : (some false) = some r := by rw [if_neg (show ¬ (false = true) by decide)] at H; exact H
  clear H
  have H := H1
  clear H1
  exact absurd (H.trans (congrArg some HT.out)) (by decide)

end Go.Proofs.Yteamphcehoaleaa.PFF

