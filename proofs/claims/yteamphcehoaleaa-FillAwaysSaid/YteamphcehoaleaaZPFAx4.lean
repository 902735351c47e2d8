import Derived.Test.YteamphcehoaleaaZWAt
import Derived.Test.YteamphcehoaleaaZPFAx0
import Derived.Test.YteamphcehoaleaaZPFAx2
import Derived.Test.YteamphcehoaleaaZPFAx3
namespace Go.Proofs.Yteamphcehoaleaa.PFA
open Go.RowKit Go.Proofs.YteamphcehoaleaaW.PrintWords Go.Proofs.YteamphcehoaleaaW.PrintLast Go.Proofs.YteamphcehoaleaaW.PrintMore
attribute [local go_sem] max2_int min2_int max_two min_two max_three min_three max_four min_four
set_option linter.unusedVariables false
set_option linter.unusedSimpArgs false

mutual
def Bf.l0 : Nat → List Int → List Int → Int → Int → Int → Int → List Bool → Option (List Int × Int)
 | 0, _, _, _, _, _, _, _ => none
 | k + 1, x5, x6, x25, x26, aG, bq, br => if x26 < x25 then (if aG = 0 then (none) else (if 0 ≤ x26 then (if x26 < (x6.length : Int) then (if 0 ≤ (wrap64 (x26 - (Int.tmod x26 aG))) then (if (wrap64 (x26 - (Int.tmod x26 aG))) ≤ (wrap64 ((wrap64 (x26 - (Int.tmod x26 aG))) + aG)) then (if (wrap64 ((wrap64 (x26 - (Int.tmod x26 aG))) + aG)) ≤ (x5.length : Int) then ((some ((x5.take ((wrap64 ((wrap64 (x26 - (Int.tmod x26 aG))) + aG)) : Int).toNat).drop ((wrap64 (x26 - (Int.tmod x26 aG))) : Int).toNat : List Int)).bind fun aC => (Bf.l1 k x5 (x6.set (x26 : Int).toNat (-1)) x26 (Int.tmod x26 aG) x25 x26 aC (aC.length : Int) 0 aG bq br)) else (none)) else (none)) else (none)) else (none)) else (none))) else (some (x6, 0))
def Bf.l1 : Nat → List Int → List Int → Int → Int → Int → Int → List Int → Int → Int → Int → Int → List Bool → Option (List Int × Int)
 | 0, _, _, _, _, _, _, _, _, _, _, _, _ => none
 | k + 1, x5, x6, x7, x8, x25, x26, x48, x49, x50, aG, bq, br => if x50 < x49 then (if 0 ≤ x50 then (if x50 < (x48.length : Int) then (if (rd x48 x50) < 1048576 then (if 0 ≤ x7 then (if x7 < (x6.length : Int) then (if (rd x6 x7) < 0 then (Bf.l1 k x5 (x6.set (x7 : Int).toNat (wrap64 ((wrap64 ((wrap64 (x50 - x8)) * (wrap64 (x50 - x8)))) + (wrap64 ((rd x48 x50) * (rd x48 x50)))))) x7 x8 x25 x26 x48 x49 (wrap64 (x50 + 1)) aG bq br) else (if (wrap64 ((wrap64 ((wrap64 (x50 - x8)) * (wrap64 (x50 - x8)))) + (wrap64 ((rd x48 x50) * (rd x48 x50))))) < (rd x6 x7) then (Bf.l1 k x5 (x6.set (x7 : Int).toNat (wrap64 ((wrap64 ((wrap64 (x50 - x8)) * (wrap64 (x50 - x8)))) + (wrap64 ((rd x48 x50) * (rd x48 x50)))))) x7 x8 x25 x26 x48 x49 (wrap64 (x50 + 1)) aG bq br) else (Bf.l1 k x5 x6 x7 x8 x25 x26 x48 x49 (wrap64 (x50 + 1)) aG bq br))) else (none)) else (none)) else (Bf.l1 k x5 x6 x7 x8 x25 x26 x48 x49 (wrap64 (x50 + 1)) aG bq br)) else (none)) else (none)) else (Bf.l0 k x5 x6 x25 (wrap64 (x26 + 1)) aG bq br)
end
def Bf.f (k : Nat) (ah : Int) (aA : Int) (aq : List Bool) : Option (List Int × Int) := (Cn.f ah aA aq).bind fun bz => (if bz = 0 then ((Bb.f k ah aA aq).bind fun bm => (if 0 ≤ (aq.length : Int) then (if ((aq.length : Int) : Int).toNat ≤ 35184372088832 then ((some (List.replicate ((aq.length : Int) : Int).toNat 0 : List Int)).bind fun bu => (Bf.l0 k bm bu (bu.length : Int) 0 ah aA aq)) else (none)) else (none))) else (some (([] : List Int), bz)))
theorem Bf.mono_l : ∀ k, (∀ y0 y1 y2 y3 y4 y5 y6, LeO (Bf.l0 k y0 y1 y2 y3 y4 y5 y6) (Bf.l0 (k + 1) y0 y1 y2 y3 y4 y5 y6)) ∧ (∀ y0 y1 y2 y3 y4 y5 y6 y7 y8 y9 y10 y11, LeO (Bf.l1 k y0 y1 y2 y3 y4 y5 y6 y7 y8 y9 y10 y11) (Bf.l1 (k + 1) y0 y1 y2 y3 y4 y5 y6 y7 y8 y9 y10 y11))
 | 0 => ⟨fun _ _ _ _ _ _ _ r h => by simp [Bf.l0] at h, fun _ _ _ _ _ _ _ _ _ _ _ _ r h => by simp [Bf.l1] at h⟩
 | k + 1 => by
  obtain ⟨ih0, ih1⟩ := Bf.mono_l k
  refine ⟨?_, ?_⟩
  ·intro y0 y1 y2 y3 y4 y5 y6
   unfold Bf.l0
   repeat' first
   | (with_reducible exact ih0 _ _ _ _ _ _ _)
   | (with_reducible exact ih1 _ _ _ _ _ _ _ _ _ _ _ _)
   | (with_reducible exact Bb.mono _ _ _ _)
   | (with_reducible exact LeO.refl _)
   | (with_reducible exact LeO.none _)
   | (with_reducible refine LeO.ite ?_ ?_)
   | (with_reducible refine LeO.bind ?_ (fun _ => ?_))
   | exact ih0 _ _ _ _ _ _ _
   | exact ih1 _ _ _ _ _ _ _ _ _ _ _ _
   | exact Bb.mono _ _ _ _
   | exact LeO.none _
   | refine LeO.ite ?_ ?_
   | refine LeO.bind ?_ (fun _ => ?_)
  ·intro y0 y1 y2 y3 y4 y5 y6 y7 y8 y9 y10 y11
   unfold Bf.l1
   repeat' first
   | (with_reducible exact ih0 _ _ _ _ _ _ _)
   | (with_reducible exact ih1 _ _ _ _ _ _ _ _ _ _ _ _)
   | (with_reducible exact Bb.mono _ _ _ _)
   | (with_reducible exact LeO.refl _)
   | (with_reducible exact LeO.none _)
   | (with_reducible refine LeO.ite ?_ ?_)
   | (with_reducible refine LeO.bind ?_ (fun _ => ?_))
   | exact ih0 _ _ _ _ _ _ _
   | exact ih1 _ _ _ _ _ _ _ _ _ _ _ _
   | exact Bb.mono _ _ _ _
   | exact LeO.none _
   | refine LeO.ite ?_ ?_
   | refine LeO.bind ?_ (fun _ => ?_)
theorem Bf.mono : ∀ a0 a1 a2 k, LeO (Bf.f k a0 a1 a2) (Bf.f (k + 1) a0 a1 a2) := by
 intro a0 a1 a2 k
 obtain ⟨ih0, ih1⟩ := Bf.mono_l k
 unfold Bf.f
 repeat' first
   | (with_reducible exact ih0 _ _ _ _ _ _ _)
   | (with_reducible exact ih1 _ _ _ _ _ _ _ _ _ _ _ _)
   | (with_reducible exact Bb.mono _ _ _ _)
   | (with_reducible exact LeO.refl _)
   | (with_reducible exact LeO.none _)
   | (with_reducible refine LeO.ite ?_ ?_)
   | (with_reducible refine LeO.bind ?_ (fun _ => ?_))
   | exact ih0 _ _ _ _ _ _ _
   | exact ih1 _ _ _ _ _ _ _ _ _ _ _ _
   | exact Bb.mono _ _ _ _
   | exact LeO.none _
   | refine LeO.ite ?_ ?_
   | refine LeO.bind ?_ (fun _ => ?_)
set_option maxHeartbeats 8000000 in
set_option maxRecDepth 100000 in
theorem Bf.calls (k : Nat) (ah : Int) (aA : Int) (aX : Option Addr) (aW : Nat) (aq : List Bool) (r1 : List Int) (r2 : Int) (w : World) (bY : Kd.C Kd.bool w aX aq.length aq) (bZ : aq.length ≤ aW) (h : Bf.f k ah aA aq = some (r1, r2)) :
  Calls Try.prog 32 #[.agg #[.int .i64 ah, .int .i64 aA, .slice aX aq.length aW]] w fun e w' => ∃ v0_ : Value, e = .returned (.tuple #[v0_, .int .i64 r2]) ∧ Kd.R (Kd.int .i64) 3 w' w.heap.size (fun _ => True) v0_ r1 ∧ Below w.heap.size w w' := by
 have hu50 := Try.underlying50
 have b3 := Aa.mk bY
 have cp := Aa.mk bZ
 clear bY bZ
 have HB := Aa.mk (Below.refl w.heap.size w)
 have H : ((Cn.f ah aA aq).bind fun bz => (if bz = 0 then ((Bb.f k ah aA aq).bind fun bm => (if 0 ≤ (aq.length : Int) then (if ((aq.length : Int) : Int).toNat ≤ 35184372088832 then ((some (List.replicate ((aq.length : Int) : Int).toNat 0 : List Int)).bind fun bu => (Bf.l0 k bm bu (bu.length : Int) 0 ah aA aq)) else (none)) else (none))) else (some (([] : List Int), bz)))) = some (r1, r2) := h
 clear h
 replace H := Option.bind_eq_some_iff.mp H
 obtain ⟨bz, A20, H⟩ := H
 try dsimp only at H
 have A2 := Aa.mk A20
 clear A20
 by_cases c3 : bz = 0
 ·rw [if_pos c3] at H
  have cK : (bz == 0) = true := beq_iff_eq.mpr c3
  have cL : (bz != 0) = false := bne_eq_false_iff_eq.mpr c3
  clear c3
  replace H := Option.bind_eq_some_iff.mp H
  obtain ⟨bm, A40, H⟩ := H
  try dsimp only at H
  have A4 := Aa.mk A40
  clear A40
  by_cases c5 : 0 ≤ (aq.length : Int)
  ·rw [if_pos c5] at H
   have dv := eq_true c5
   have dQ : decide (0 ≤ (aq.length : Int)) = true := decide_eq_true c5
   clear c5
   by_cases c6 : ((aq.length : Int) : Int).toNat ≤ 35184372088832
   ·rw [if_pos c6] at H
    have dw := eq_true c6
    have dR : decide (((aq.length : Int) : Int).toNat ≤ 35184372088832) = true := decide_eq_true c6
    clear c6
    obtain ⟨bu, cM⟩ : ∃ y_ : List Int, y_ = (List.replicate ((aq.length : Int) : Int).toNat 0) := ⟨_, rfl⟩
    (try rw [Option.bind_some] at H); try rw [← cM] at H
    have dq := Aa.mk cM
    clear cM
    have H' := Aa.mk H
    clear H
    go_enter Try.func32, Try.ntmps32
    go_wp2_with (first | ((with_reducible refine Bq (N := 1) rfl ?_); refine Bt ?hg (N := 1) ?hd (cs := #[.int .i64 ah, .int .i64 aA, .slice aX aq.length aW]) (t := 50) ?hr ?_; (case hd => rfl); (case hg => rfl); (case hr => first | (go_simp; done) | (go_simp; rfl)); intro aD hg w7 hbox hb; have n0_ := Aa.mk (Au (lU HB.out) hb); have n1_ := Aa.mk (hbox); have n2_ := Aa.mk ((by rw [hg]; exact (An (lU HB.out)) : w.heap.size ≤ aD)); have n3_ := Aa.mk ((by rw [hg]; exact (An (lU HB.out)) : w.heap.size ≤ aD)); clear HB; have HB := n0_; have af := n1_; have dS := n2_; have bo := n3_; clear n0_ n1_ n2_ n3_; clear hb hbox hg; have cO : w7.cell? ⟨aD, 0, none⟩ = some (.int .i64 ah) := (Ad af.out 0).trans rfl; have cP : w7.cell? ⟨aD, 1, none⟩ = some (.int .i64 aA) := (Ad af.out 1).trans rfl; have cQ : w7.cell? ⟨aD, 2, none⟩ = some (.slice aX aq.length aW) := (Ad af.out 2).trans rfl; have cR := Af af.out 0; have cS := Af af.out 1; have cU := Af af.out 2) | (go_at_call 46; (with_reducible refine (Cn.calls ah aA _ _ aq bz _ ?side1 ?side2 A2.out).mono ?_); (case side1 => repeat (first | exact (Kd.Ce b3.out HB.out) | (with_reducible refine Kd.Bw ?_ _) | (with_reducible refine Kd.B6 ?_ _) | (with_reducible refine Kd.Cf ?_))); (case side2 => exact cp.out); rintro e w9 ⟨rfl, hb⟩; have n0_ := Aa.mk (Ao (g := aD) (o := .cells #[.int .i64 ah, .int .i64 aA, .slice aX aq.length aW] 50 (0, 0)) (by exact bU <| af.out) hb); have n1_ := Aa.mk (Au (by repeat (first | (with_reducible first | exact HB.out | apply Ae | apply Ac | apply Ah | refine Ag ?_ bo.out) | exact HB.out)) hb); clear af; clear HB; have af := n0_; have HB := n1_; clear n0_ n1_; (try clear hb); (try clear hb2); (try clear hk); (try clear hi); have bF : w9.cell? ⟨aD, 0, none⟩ = some (.int .i64 ah) := (Ad af.out 0).trans rfl; have bG : w9.cell? ⟨aD, 1, none⟩ = some (.int .i64 aA) := (Ad af.out 1).trans rfl; have bH : w9.cell? ⟨aD, 2, none⟩ = some (.slice aX aq.length aW) := (Ad af.out 2).trans rfl; have bI := Af af.out 0; have bJ := Af af.out 1; have bK := Af af.out 2) | (go_at_call 79; (with_reducible refine (Bb.calls k ah aA _ _ aq bm _ ?side1 ?side2 A4.out).mono ?_); (case side1 => repeat (first | exact (Kd.Ce b3.out HB.out) | (with_reducible refine Kd.Bw ?_ _) | (with_reducible refine Kd.B6 ?_ _) | (with_reducible refine Kd.Cf ?_))); (case side2 => exact cp.out); rintro e w11 ⟨v135, rfl, ho0, hb⟩; have n0_ := Aa.mk (Kd.Cc ho0 (An (by repeat (first | (with_reducible first | exact HB.out | apply Ae | apply Ac | apply Ah | refine Ag ?_ bo.out) | exact HB.out)))); have n1_ := Aa.mk (Ao (g := aD) (o := .cells #[.int .i64 ah, .int .i64 aA, .slice aX aq.length aW] 50 (0, 0)) (by exact bU <| af.out) hb); have n2_ := Aa.mk (Au (by repeat (first | (with_reducible first | exact HB.out | apply Ae | apply Ac | apply Ah | refine Ag ?_ bo.out) | exact HB.out)) hb); clear af; clear HB; have b4 := n0_; have af := n1_; have HB := n2_; clear n0_ n1_ n2_; (try clear hb); (try clear hb2); (try clear hk); (try clear hi); (try clear ho0); have cr : w11.cell? ⟨aD, 0, none⟩ = some (.int .i64 ah) := (Ad af.out 0).trans rfl; have ct : w11.cell? ⟨aD, 1, none⟩ = some (.int .i64 aA) := (Ad af.out 1).trans rfl; have cu : w11.cell? ⟨aD, 2, none⟩ = some (.slice aX aq.length aW) := (Ad af.out 2).trans rfl; have cx := Af af.out 0; have cy := Af af.out 1; have cz := Af af.out 2) | ((with_reducible refine Bq (N := 23) rfl ?_); refine Kd.R_make (Kd.int .i64) _ 3 rfl (N := 23) rfl 31 _ _ rfl (aq.length : Int) rfl rfl Try.underlying31 (.int .i64 0) 8 info3 rfl (by decide) (by omega) 0 (ok := fun _ => True) (okp := fun _ => True) rfl (fun _ hk => hk) trivial (of_decide_eq_true (by with_reducible assumption)) (Nat.le_trans (Nat.mul_le_mul_right _ (of_decide_eq_true (by with_reducible assumption) : (aq.length : Int).toNat ≤ 35184372088832)) (by omega)) (Below.refl _ _) (Nat.le_refl _) ?_; intro v138 w13 ho14 hb hg_ hnew_; clear hg_ hnew_; (first | rw [← dq.out] at ho14 | (simp only [Int.reduceToNat] at ho14; rw [← dq.out] at ho14)); have n0_ := Aa.mk (Kd.B7 (by exact rU <| b4.out) (Kd.Ch ho14) hb); have n1_ := Aa.mk (Kd.Cc (Kd.Ci ho14 (Kd.Cy (by exact rU <| b4.out))) (An (by repeat (first | (with_reducible first | exact HB.out | apply Ae | apply Ac | apply Ah | refine Ag ?_ bo.out) | exact HB.out)))); have n2_ := Aa.mk (Ao (g := aD) (o := .cells #[.int .i64 ah, .int .i64 aA, .slice aX aq.length aW] 50 (0, 0)) (by exact bU <| af.out) hb); have n3_ := Aa.mk (Au (by repeat (first | (with_reducible first | exact HB.out | apply Ae | apply Ac | apply Ah | refine Ag ?_ bo.out) | exact HB.out)) hb); clear b4; clear af; clear HB; have b4 := n0_; have dr := n1_; have af := n2_; have HB := n3_; clear n0_ n1_ n2_ n3_; clear hb ho14; obtain ⟨dT, bp, fG⟩ := Kd.B0 dr.out; subst fG))
    repeat (go_quiet (fail); try go_wp2_with (fail))
    go_loopg [26] k (fun kq v26 w' => ∃ (bE : List Int) (ac : Int), v26 = .int .i64 ac ∧ Aa (Bf.l0 kq bm bE (bu.length : Int) ac ah aA aq = some (r1, r2)) ∧ Aa (kq ≤ k) ∧ Aa (Kd.R (Kd.int .i64) 3 w' w.heap.size (fun k_ => some k_ ≠ ((.slice dT bu.length bp) : Value).ownBlock) v135 bm) ∧ Aa (Kd.R (Kd.int .i64) 3 w' w.heap.size (fun k_ => some k_ ≠ (v135 : Value).ownBlock) (.slice dT bu.length bp) bE) ∧ Aa (w'.heap[aD]? = some (.cells #[.int .i64 ah, .int .i64 aA, (.slice aX aq.length aW)] 50 (0, 0))) ∧ Aa (Below w.heap.size w w'))
    case atStart => exact ⟨(bu), (0), (by first | rfl | (simp; done) | (simp [*]; done)), H', ⟨Nat.le_refl _⟩, ⟨by exact rU <| Kd.Bj b4.out (fun _ hk => hk.2)⟩, ⟨by exact rU <| Kd.Bj dr.out (fun _ hk => hk.2)⟩, ⟨by exact bU <| af.out⟩, ⟨by repeat (first | (with_reducible first | exact HB.out | apply Ae | apply Ac | apply Ah | refine Ag ?_ bo.out) | exact HB.out)⟩⟩
    case round =>
     clear H'
     try clear p2
     try clear c3
     try clear cK
     try clear cL
     try clear c5
     try clear dv
     try clear dQ
     try clear c6
     try clear dw
     try clear dR
     try clear bF
     try clear bG
     try clear bH
     try clear cr
     try clear ct
     try clear cu
     try clear cO
     try clear cP
     try clear cQ
     try clear bI
     try clear bJ
     try clear bK
     try clear cx
     try clear cy
     try clear cz
     try clear cR
     try clear cS
     try clear cU
     obtain ⟨bE, ac, rfl, HA, HK1, aU, aH, af, HB⟩ := hrel
     have aM := (Kd.Ba aH.out).1
     rw [aM] at aH
     (try simp only [aM])
     (try simp only [aM] at af)
     (try simp only [aM] at aU)
     cases gk with
     | zero => exact absurd HA.out (by simp [Bf.l0])
     | succ k1 =>
      have H := HA.out
      clear HA
      simp only [Bf.l0] at H
      by_cases c16 : ac < (bu.length : Int)
      ·rw [if_pos c16] at H
       have cA : decide (ac < (bu.length : Int)) = true := decide_eq_true c16
       rw [aM] at cA
       clear c16
       by_cases c17 : ah = 0
       ·rw [if_pos c17] at H
        exact absurd H (by simp)
       ·rw [if_neg c17] at H
        have dU : (ah == 0) = false := beq_eq_false_iff_ne.mpr c17
        have dV : (ah != 0) = true := bne_iff_ne.mpr c17
        by_cases c18 : 0 ≤ ac
        ·rw [if_pos c18] at H
         have dW : decide (0 ≤ ac) = true := decide_eq_true c18
         clear c18
         by_cases c19 : ac < (bE.length : Int)
         ·rw [if_pos c19] at H
          have dX : decide (ac < (bE.length : Int)) = true := decide_eq_true c19
          clear c19
          obtain ⟨dz, cV⟩ : ∃ y_ : List Int, y_ = (bE.set (ac : Int).toNat (-1)) := ⟨_, rfl⟩
          (try rw [Option.bind_some] at H); try rw [← cV] at H
          have dY := Aa.mk cV
          clear cV
          obtain ⟨aK, cW⟩ : ∃ j_ : Int, (wrap64 (ac - (Int.tmod ac ah))) = j_ := ⟨_, rfl⟩
          replace H : (if 0 ≤ (aK) then (if (aK) ≤ (wrap64 ((aK) + ah)) then (if (wrap64 ((aK) + ah)) ≤ (bm.length : Int) then ((some ((bm.take ((wrap64 ((aK) + ah)) : Int).toNat).drop ((aK) : Int).toNat : List Int)).bind fun aC => (Bf.l1 k1 bm dz ac (Int.tmod ac ah) (bu.length : Int) ac aC (aC.length : Int) 0 ah aA aq)) else (none)) else (none)) else (none)) = some (r1, r2) := by first | (rw [cW] at H; exact H) | (simp only [cW] at H ⊢; exact H)
          have hji21w : (IntKind.i64.wrap (ac - (Int.tmod ac ah))) = aK := (i64_w _).trans cW
          by_cases c22 : 0 ≤ (aK)
          ·rw [if_pos c22] at H
           have dZ := eq_true c22
           have d5 : decide (0 ≤ (aK)) = true := decide_eq_true c22
           clear c22
           by_cases c23 : (aK) ≤ (wrap64 ((aK) + ah))
           ·rw [if_pos c23] at H
            have d6 := eq_true c23
            have d7 : decide ((aK) ≤ (wrap64 ((aK) + ah))) = true := decide_eq_true c23
            by_cases c24 : (wrap64 ((aK) + ah)) ≤ (bm.length : Int)
            ·rw [if_pos c24] at H
             have d8 := eq_true c24
             have d9 : decide ((wrap64 ((aK) + ah)) ≤ (bm.length : Int)) = true := decide_eq_true c24
             obtain ⟨aC, cX⟩ : ∃ y_ : List Int, y_ = ((bm.take ((wrap64 ((aK) + ah)) : Int).toNat).drop ((aK) : Int).toNat) := ⟨_, rfl⟩
             (try rw [Option.bind_some] at H); try rw [← cX] at H
             have cB := Aa.mk cX
             clear cX
             have H' := Aa.mk H
             clear H
             have cC : wr.cell? ⟨aD, 0, none⟩ = some (.int .i64 ah) := (Ad af.out 0).trans rfl
             have cD : wr.cell? ⟨aD, 1, none⟩ = some (.int .i64 aA) := (Ad af.out 1).trans rfl
             have cE : wr.cell? ⟨aD, 2, none⟩ = some (.slice aX aq.length aW) := (Ad af.out 2).trans rfl
             have cF := Af af.out 0
             have cG := Af af.out 1
             have cH := Af af.out 2
             have p20 : 0 ≤ (ac : Int) := of_decide_eq_true (by with_reducible assumption)
             have q20 : (ac : Int) < ((bE.length : Int) : Int) := of_decide_eq_true (by with_reducible assumption)
             obtain ⟨go20, gp, ec, ed, gl20, cl20, HG20⟩ := Kd.Dd aH.out (by omega)
             (first | cases ec | (injection ec with ea_ en_ ec_; (first | subst ea_ | (injection ea_ with ea_; subst ea_)); subst ec_; clear en_))
             have GB20 := Aa.mk ed
             have GG20 := Aa.mk HG20
             clear ed gl20 HG20
             obtain ⟨cY, dA⟩ := Kd.Cx 0 aH.out (ac : Int) p20 q20
             replace p20 := eq_true p20
             replace q20 := eq_true q20
             have de := Kd.Db aH.out (ac : Int) (-1)
             go_wp2_with (fail)
             repeat (go_quiet (fail); try go_wp2_with (((with_reducible refine Cq (t := 3) (p := 41) rfl ?_); (try (rw [drewN_self wr]; generalize hq_ : World.drewN wr _ = wr; have n0_ := Aa.mk (Kd.R_at hq_ aU.out); have n1_ := Aa.mk (Kd.R_at hq_ aH.out); have n2_ := Aa.mk (blk_at hq_ af.out); have n3_ := Aa.mk (below_at hq_ HB.out); clear hq_ aU aH af HB; have aU := n0_; have aH := n1_; have af := n2_; have HB := n3_; clear n0_ n1_ n2_ n3_; (try (obtain ⟨cY, dA⟩ := Kd.Cx 0 aH.out (ac : Int) (of_eq_true p20) (of_eq_true q20); have de := Kd.Db aH.out (ac : Int) (-1))))); refine store_event (t := 3) (p := 41) (v := ?vo_w27) (w1 := (wr.setCell ⟨go20, (ac : Int).toNat, none⟩ (.int .i64 (-1)))) ?hg ?ho ?hn ?hr ?_; (case ho => rfl); (case hg => rfl); (case hn => rfl); (case hr => first | (go_simp; done) | (go_simp; rfl)); intro w27 hw; have hg : wr.grownBy w27 (some go20) := (by rw [hw]; exact de.2); have hp_ : Kd.R (Kd.int .i64) 3 w27 w.heap.size (fun k_ => some k_ ≠ (v135 : Value).ownBlock) (.slice (some ⟨go20, 0, none⟩) bE.length bp) dz := (by rw [hw, dY.out]; exact de.1); clear de; have n0_ := Aa.mk (Kd.C5 (v := (.slice (some ⟨go20, 0, none⟩) bE.length bp)) (v1 := (.slice (some ⟨go20, 0, none⟩) bE.length bp)) (ok := (fun _ => True)) (by exact rU <| Kd.Bj aU.out (fun _ hk => ⟨trivial, hk⟩)) hg (.inl rfl)); have n1_ := Aa.mk (hp_); have n2_ := Aa.mk (Bu (g := aD) (o := .cells #[.int .i64 ah, .int .i64 aA, .slice aX aq.length aW] 50 (0, 0)) (by exact bU <| af.out) hg (Kd.De aH.out af.out (by decide))); have n3_ := Aa.mk ((by rw [hw]; exact Ag (HB.out) GB20.out : Below w.heap.size w w27)); clear aU; clear aH; clear af; clear HB; have aU := n0_; have aH := n1_; have af := n2_; have HB := n3_; clear n0_ n1_ n2_ n3_; clear hg hw hp_; have df : w27.cell? ⟨aD, 0, none⟩ = some (.int .i64 ah) := (Ad af.out 0).trans rfl; have dg : w27.cell? ⟨aD, 1, none⟩ = some (.int .i64 aA) := (Ad af.out 1).trans rfl; have dh : w27.cell? ⟨aD, 2, none⟩ = some (.slice aX aq.length aW) := (Ad af.out 2).trans rfl; have di := Af af.out 0; have dj := Af af.out 1; have dk := Af af.out 2; obtain ⟨b5, bL, fH⟩ := Kd.B0 aU.out; subst fH; have q29 : ((wrap64 ((aK) + ah)) : Int) ≤ ((bm.length : Int) : Int) := of_decide_eq_true (by with_reducible assumption); obtain ⟨i029, hi029, _, hsz29, _⟩ := info_parts info3; have hroom29 : bm.length ≤ bL := (Kd.Ba aU.out).2.1; have hC29 : Kd.C (Kd.int .i64) _ b5 bm.length bm := (Kd.Ba aU.out).2.2; have ql29 : ((aK) : Int) ≤ ((wrap64 ((aK) + ah)) : Int) := of_decide_eq_true (by with_reducible assumption); have ee : (0 : Int) ≤ ((aK) : Int) := of_decide_eq_true (by with_reducible assumption); have hcut29 := cut_mid (P := Try.prog) 31 3 .i64 .i64 Try.underlying31 hi029 1 hsz29 b5 bm.length bL (aK) (wrap64 ((aK) + ah)) ee ql29 q29 hroom29; have hr29 := Kd.C_mid (lo := ((aK) : Int).toNat) (hi := ((wrap64 ((aK) + ah)) : Int).toNat) (c := bL) hC29 (by omega) (by omega) hroom29; obtain ⟨A29, hA29⟩ : ∃ A1, A1 = (if bL = ((aK) : Int).toNat then b5 else (b5 : Option Addr).map (·.add (((aK) : Int).toNat * 1))) := ⟨_, rfl⟩; obtain ⟨c29, hc29⟩ : ∃ c1, c1 = bL - ((aK) : Int).toNat := ⟨_, rfl⟩; have dl : aC.length = ((wrap64 ((aK) + ah)) : Int).toNat - ((aK) : Int).toNat := (by rw [cB.out, List.length_drop, List.length_take] <;> omega); rw [show ((bm).take ((wrap64 ((aK) + ah)) : Int).toNat).drop ((aK) : Int).toNat = aC from cB.out.symm] at hr29; replace hr29 : Kd.C (Kd.int .i64) _ A29 aC.length aC := (by rw [hA29]; exact hr29); rw [← dl, ← hA29, ← hc29] at hcut29; have HR144 := Aa.mk hr29; have HC144 := Aa.mk (show aC.length ≤ c29 from by rw [dl, hc29]; exact Nat.sub_le_sub_right (Nat.le_trans (by omega) hroom29) _); clear hr29 hC29 hroom29 hi029 hsz29 hc29; have KY29 := Aa.mk dl; have KA29 := Aa.mk hA29; clear dl hA29; have KL29 := Aa.mk (show ((wrap64 ((aK) + ah)) : Int).toNat ≤ bm.length from by omega); have KM29 := Aa.mk (show ((aK) : Int).toNat ≤ ((wrap64 ((aK) + ah)) : Int).toNat from by omega); replace q29 := eq_true q29)))
             go_loopg [50] k1 (fun kq v50 w' => ∃ (aN : List Int) (ag : Int), v50 = .int .i64 ag ∧ Aa (Bf.l1 kq bm aN ac (Int.tmod ac ah) (bu.length : Int) ac aC (aC.length : Int) ag ah aA aq = some (r1, r2)) ∧ Aa (kq ≤ k1) ∧ Aa (Kd.R (Kd.int .i64) 3 w' w.heap.size (fun k_ => some k_ ≠ ((.slice (some ⟨go20, 0, none⟩) bE.length bp) : Value).ownBlock) (.slice b5 bm.length bL) bm) ∧ Aa (Kd.R (Kd.int .i64) 3 w' w.heap.size (fun k_ => some k_ ≠ ((.slice b5 bm.length bL) : Value).ownBlock) (.slice (some ⟨go20, 0, none⟩) bE.length bp) aN) ∧ Aa (w'.heap[aD]? = some (.cells #[.int .i64 ah, .int .i64 aA, (.slice aX aq.length aW)] 50 (0, 0))) ∧ Aa (Kd.C (Kd.int .i64) w' A29 aC.length aC) ∧ Aa (Below w.heap.size w w'))
             case atStart => exact ⟨(dz), (0), (by first | rfl | (simp; done) | (simp [*]; done)), H', ⟨Nat.le_refl _⟩, ⟨by (try simp only [aM]); exact rU <| Kd.Bj aU.out (fun _ hk => hk.2)⟩, ⟨by (try simp only [aM]); exact rU <| aH.out⟩, ⟨by (try simp only [aM]); exact bU <| af.out⟩, ⟨by repeat (first | (with_reducible exact HR144.out) | (with_reducible refine Kd.Bw ?_ _) | (with_reducible refine Kd.B6 ?_ _) | (with_reducible refine Kd.Cf ?_) | exact HR144.out)⟩, ⟨by repeat (first | (with_reducible first | exact HB.out | apply Ae | apply Ac | apply Ah | refine Ag ?_ bo.out) | exact HB.out)⟩⟩
             case round =>
              clear H'
              try clear c1
              try clear c2
              try clear p2
              try clear q2
              try clear hx2
              try clear hf2
              try clear c3
              try clear cK
              try clear cL
              try clear c5
              try clear dv
              try clear dQ
              try clear c6
              try clear dw
              try clear dR
              try clear p6
              try clear c16
              try clear cA
              try clear c17
              try clear dU
              try clear dV
              try clear c18
              try clear dW
              try clear c19
              try clear dX
              try clear p20
              try clear q20
              try clear hx20
              try clear hf20
              try clear c22
              try clear dZ
              try clear d5
              try clear c23
              try clear d6
              try clear d7
              try clear c24
              try clear d8
              try clear d9
              try clear c29
              try clear q29
              try clear bF
              try clear bG
              try clear bH
              try clear cr
              try clear ct
              try clear cu
              try clear cC
              try clear cD
              try clear cE
              try clear df
              try clear dg
              try clear dh
              try clear cO
              try clear cP
              try clear cQ
              try clear bI
              try clear bJ
              try clear bK
              try clear cx
              try clear cy
              try clear cz
              try clear cF
              try clear cG
              try clear cH
              try clear di
              try clear dj
              try clear dk
              try clear cR
              try clear cS
              try clear cU
              try clear cY
              try clear p2
              try clear p20
              try clear ee
              try clear q20
              try clear q29
              obtain ⟨aN, ag, rfl, HA, HK2, aU, aH, af, HR144, HB⟩ := hrel
              have aQ := (Kd.Ba aH.out).1
              rw [aQ] at aH
              (try simp only [aQ])
              (try simp only [aQ] at af)
              (try simp only [aQ] at aU)
              cases gk with
              | zero => exact absurd HA.out (by simp [Bf.l1])
              | succ k2 =>
               have H := HA.out
               clear HA
               simp only [Bf.l1] at H
               by_cases c31 : ag < (aC.length : Int)
               ·rw [if_pos c31] at H
                have ef : decide (ag < (aC.length : Int)) = true := decide_eq_true c31
                clear c31
                by_cases c32 : 0 ≤ ag
                ·rw [if_pos c32] at H
                 have fU : decide (0 ≤ ag) = true := decide_eq_true c32
                 clear c32
                 by_cases c33 : ag < (aC.length : Int)
                 ·rw [if_pos c33] at H
                  have fV : decide (ag < (aC.length : Int)) = true := decide_eq_true c33
                  clear c33
                  by_cases c34 : (rd aC ag) < 1048576
                  ·rw [if_pos c34] at H
                   have eh : decide ((rd aC ag) < 1048576) = true := decide_eq_true c34
                   clear c34
                   by_cases c35 : 0 ≤ ac
                   ·rw [if_pos c35] at H
                    have fW : decide (0 ≤ ac) = true := decide_eq_true c35
                    clear c35
                    by_cases c36 : ac < (aN.length : Int)
                    ·rw [if_pos c36] at H
                     have fX : decide (ac < (aN.length : Int)) = true := decide_eq_true c36
                     clear c36
                     by_cases c37 : (rd aN ac) < 0
                     ·rw [if_pos c37] at H
                      have ei : decide ((rd aN ac) < 0) = true := decide_eq_true c37
                      clear c37
                      obtain ⟨ek, cZ⟩ : ∃ y_ : List Int, y_ = (aN.set (ac : Int).toNat (wrap64 ((wrap64 ((wrap64 (ag - (Int.tmod ac ah))) * (wrap64 (ag - (Int.tmod ac ah))))) + (wrap64 ((rd aC ag) * (rd aC ag)))))) := ⟨_, rfl⟩
                      (try rw [Option.bind_some] at H); try rw [← cZ] at H
                      have el := Aa.mk cZ
                      clear cZ
                      have H' := Aa.mk H
                      clear H
                      have bv : 0 ≤ (ag : Int) := of_decide_eq_true (by with_reducible assumption)
                      have bw : ag < (aC.length : Int) := of_decide_eq_true (by with_reducible assumption)
                      obtain ⟨b6, e145, bV⟩ := Kd.at_int HR144.out ag bv bw
                      cases e145
                      replace bv := eq_true bv
                      replace bw := eq_true bw
                      have bM : 0 ≤ (ac : Int) := of_decide_eq_true (by with_reducible assumption)
                      have bN : ac < (aN.length : Int) := of_decide_eq_true (by with_reducible assumption)
                      obtain ⟨b7, e146, bc⟩ := Kd.at_int (Kd.Ba aH.out).2.2 ac bM bN
                      obtain rfl : (⟨go20, 0, none⟩ : Addr) = b7 := (by injection e146)
                      (first | simp only [add_plain] at bc | simp only [add_at] at bc | simp only [Addr.add, Nat.zero_add] at bc | skip)
                      replace bM := eq_true bM
                      replace bN := eq_true bN
                      have p38 : 0 ≤ (ac : Int) := of_decide_eq_true (by with_reducible assumption)
                      have q38 : (ac : Int) < ((aN.length : Int) : Int) := of_decide_eq_true (by with_reducible assumption)
                      obtain ⟨fI, fJ⟩ := Kd.Cx 0 aH.out (ac : Int) p38 q38
                      replace p38 := eq_true p38
                      replace q38 := eq_true q38
                      have dn := Kd.Db aH.out (ac : Int) (wrap64 ((wrap64 ((wrap64 (ag - (Int.tmod ac ah))) * (wrap64 (ag - (Int.tmod ac ah))))) + (wrap64 ((rd aC ag) * (rd aC ag)))))
                      go_wp2_with (((with_reducible refine Cq (t := 3) (p := 86) rfl ?_); (try (rw [drewN_self wr]; generalize hq_ : World.drewN wr _ = wr; have n0_ := Aa.mk (Kd.R_at hq_ aU.out); have n1_ := Aa.mk (Kd.R_at hq_ aH.out); have n2_ := Aa.mk (blk_at hq_ af.out); have n3_ := Aa.mk (Kd.C_at hq_ HR144.out); have n4_ := Aa.mk (below_at hq_ HB.out); clear hq_ aU aH af HR144 HB; have aU := n0_; have aH := n1_; have af := n2_; have HR144 := n3_; have HB := n4_; clear n0_ n1_ n2_ n3_ n4_; (try (have dn := Kd.Db aH.out (ac : Int) (wrap64 ((wrap64 ((wrap64 (ag - (Int.tmod ac ah))) * (wrap64 (ag - (Int.tmod ac ah))))) + (wrap64 ((rd aC ag) * (rd aC ag))))))))); refine store_event (t := 3) (p := 86) (v := ?vo_w40) (w1 := (wr.setCell ⟨go20, (ac : Int).toNat, none⟩ (.int .i64 (wrap64 ((wrap64 ((wrap64 (ag - (Int.tmod ac ah))) * (wrap64 (ag - (Int.tmod ac ah))))) + (wrap64 ((rd aC ag) * (rd aC ag)))))))) ?hg ?ho ?hn ?hr ?_; (case ho => rfl); (case hg => rfl); (case hn => rfl); (case hr => first | (go_simp; done) | (go_simp; rfl)); intro w40 hw; have hg : wr.grownBy w40 (some go20) := (by rw [hw]; exact dn.2); have hp_ : Kd.R (Kd.int .i64) 3 w40 w.heap.size (fun k_ => some k_ ≠ (.slice b5 bm.length bL : Value).ownBlock) (.slice (some ⟨go20, 0, none⟩) aN.length bp) ek := (by rw [hw, el.out]; exact dn.1); clear dn; have n0_ := Aa.mk (Kd.C5 (v := (.slice (some ⟨go20, 0, none⟩) aN.length bp)) (v1 := (.slice (some ⟨go20, 0, none⟩) aN.length bp)) (ok := (fun _ => True)) (by exact rU <| Kd.Bj aU.out (fun _ hk => ⟨trivial, hk⟩)) hg (.inl rfl)); have n1_ := Aa.mk (hp_); have n2_ := Aa.mk (Bu (g := aD) (o := .cells #[.int .i64 ah, .int .i64 aA, .slice aX aq.length aW] 50 (0, 0)) (by exact bU <| af.out) hg (Kd.De aH.out af.out (by decide))); have n3_ := Aa.mk ((by rw [hw]; exact Ag (HB.out) GB20.out : Below w.heap.size w w40)); have n4_ := Aa.mk ((show Kd.C (Kd.int .i64) w40 (some b6) aC.length aC from by rw [cB.out, KA29.out]; exact Kd.C_mid (lo := ((aK) : Int).toNat) (hi := ((wrap64 ((aK) + ah)) : Int).toNat) (c := bL) ((Kd.Ba (Kd.C5 (v := (.slice (some ⟨go20, 0, none⟩) aN.length bp)) (v1 := (.slice (some ⟨go20, 0, none⟩) aN.length bp)) (ok := (fun _ => True)) (by exact rU <| Kd.Bj aU.out (fun _ hk => ⟨trivial, hk⟩)) hg (.inl rfl))).2.2) KM29.out KL29.out ((Kd.Ba (Kd.C5 (v := (.slice (some ⟨go20, 0, none⟩) aN.length bp)) (v1 := (.slice (some ⟨go20, 0, none⟩) aN.length bp)) (ok := (fun _ => True)) (by exact rU <| Kd.Bj aU.out (fun _ hk => ⟨trivial, hk⟩)) hg (.inl rfl))).2.1))); clear aU; clear aH; clear af; clear HB; clear HR144; have aU := n0_; have aH := n1_; have af := n2_; have HB := n3_; have HR144 := n4_; clear n0_ n1_ n2_ n3_ n4_; clear hg hw hp_))
                      repeat (go_quiet (fail); try go_wp2_with (fail))
                      (try simp only [← aQ])
                      go_roundg k2
                      case measure => have := HK1.out; have := HK2.out; omega
                      case rel => exact ⟨(ek), (wrap64 (ag + 1)), (by first | rfl | (simp; done) | (simp [*]; done)), H', ⟨by have := HK1.out; have := HK2.out; omega⟩, ⟨by (try simp only [aM]); (try simp only [aQ]); exact rU <| Kd.Bj aU.out (fun _ hk => hk.2)⟩, ⟨by (try simp only [aM]); (try simp only [aQ]); exact rU <| aH.out⟩, ⟨by (try simp only [aM]); (try simp only [aQ]); exact bU <| af.out⟩, ⟨by repeat (first | (with_reducible exact HR144.out) | (with_reducible refine Kd.Bw ?_ _) | (with_reducible refine Kd.B6 ?_ _) | (with_reducible refine Kd.Cf ?_) | exact HR144.out)⟩, ⟨by repeat (first | (with_reducible first | exact HB.out | apply Ae | apply Ac | apply Ah | refine Ag ?_ bo.out) | exact HB.out)⟩⟩
                     ·rw [if_neg c37] at H
                      have ei : decide ((rd aN ac) < 0) = false := decide_eq_false c37
                      clear c37
                      by_cases c41 : (wrap64 ((wrap64 ((wrap64 (ag - (Int.tmod ac ah))) * (wrap64 (ag - (Int.tmod ac ah))))) + (wrap64 ((rd aC ag) * (rd aC ag))))) < (rd aN ac)
                      ·rw [if_pos c41] at H
                       have eo : decide ((wrap64 ((wrap64 ((wrap64 (ag - (Int.tmod ac ah))) * (wrap64 (ag - (Int.tmod ac ah))))) + (wrap64 ((rd aC ag) * (rd aC ag))))) < (rd aN ac)) = true := decide_eq_true c41
                       clear c41
                       obtain ⟨ep, da⟩ : ∃ y_ : List Int, y_ = (aN.set (ac : Int).toNat (wrap64 ((wrap64 ((wrap64 (ag - (Int.tmod ac ah))) * (wrap64 (ag - (Int.tmod ac ah))))) + (wrap64 ((rd aC ag) * (rd aC ag)))))) := ⟨_, rfl⟩
                       (try rw [Option.bind_some] at H); try rw [← da] at H
                       have er := Aa.mk da
                       clear da
                       have H' := Aa.mk H
                       clear H
                       have bv : 0 ≤ (ag : Int) := of_decide_eq_true (by with_reducible assumption)
                       have bw : ag < (aC.length : Int) := of_decide_eq_true (by with_reducible assumption)
                       obtain ⟨b6, e145, bV⟩ := Kd.at_int HR144.out ag bv bw
                       cases e145
                       replace bv := eq_true bv
                       replace bw := eq_true bw
                       have bM : 0 ≤ (ac : Int) := of_decide_eq_true (by with_reducible assumption)
                       have bN : ac < (aN.length : Int) := of_decide_eq_true (by with_reducible assumption)
                       obtain ⟨b7, e146, bc⟩ := Kd.at_int (Kd.Ba aH.out).2.2 ac bM bN
                       obtain rfl : (⟨go20, 0, none⟩ : Addr) = b7 := (by injection e146)
                       (first | simp only [add_plain] at bc | simp only [add_at] at bc | simp only [Addr.add, Nat.zero_add] at bc | skip)
                       replace bM := eq_true bM
                       replace bN := eq_true bN
                       have cd : 0 ≤ (ac : Int) := of_decide_eq_true (by with_reducible assumption)
                       have ce : ac < (aN.length : Int) := of_decide_eq_true (by with_reducible assumption)
                       obtain ⟨db, e148, bs⟩ := Kd.at_int (Kd.Ba aH.out).2.2 ac cd ce
                       obtain rfl : (⟨go20, 0, none⟩ : Addr) = db := (by injection e148)
                       (first | simp only [add_plain] at bs | simp only [add_at] at bs | simp only [Addr.add, Nat.zero_add] at bs | skip)
                       replace cd := eq_true cd
                       replace ce := eq_true ce
                       have p42 : 0 ≤ (ac : Int) := of_decide_eq_true (by with_reducible assumption)
                       have q42 : (ac : Int) < ((aN.length : Int) : Int) := of_decide_eq_true (by with_reducible assumption)
                       obtain ⟨fK, fL⟩ := Kd.Cx 0 aH.out (ac : Int) p42 q42
                       replace p42 := eq_true p42
                       replace q42 := eq_true q42
                       have dp := Kd.Db aH.out (ac : Int) (wrap64 ((wrap64 ((wrap64 (ag - (Int.tmod ac ah))) * (wrap64 (ag - (Int.tmod ac ah))))) + (wrap64 ((rd aC ag) * (rd aC ag)))))
                       go_wp2_with (((with_reducible refine Cq (t := 3) (p := 86) rfl ?_); (try (rw [drewN_self wr]; generalize hq_ : World.drewN wr _ = wr; have n0_ := Aa.mk (Kd.R_at hq_ aU.out); have n1_ := Aa.mk (Kd.R_at hq_ aH.out); have n2_ := Aa.mk (blk_at hq_ af.out); have n3_ := Aa.mk (Kd.C_at hq_ HR144.out); have n4_ := Aa.mk (below_at hq_ HB.out); clear hq_ aU aH af HR144 HB; have aU := n0_; have aH := n1_; have af := n2_; have HR144 := n3_; have HB := n4_; clear n0_ n1_ n2_ n3_ n4_; (try (have dp := Kd.Db aH.out (ac : Int) (wrap64 ((wrap64 ((wrap64 (ag - (Int.tmod ac ah))) * (wrap64 (ag - (Int.tmod ac ah))))) + (wrap64 ((rd aC ag) * (rd aC ag))))))))); refine store_event (t := 3) (p := 86) (v := ?vo_w44) (w1 := (wr.setCell ⟨go20, (ac : Int).toNat, none⟩ (.int .i64 (wrap64 ((wrap64 ((wrap64 (ag - (Int.tmod ac ah))) * (wrap64 (ag - (Int.tmod ac ah))))) + (wrap64 ((rd aC ag) * (rd aC ag)))))))) ?hg ?ho ?hn ?hr ?_; (case ho => rfl); (case hg => rfl); (case hn => rfl); (case hr => first | (go_simp; done) | (go_simp; rfl)); intro w44 hw; have hg : wr.grownBy w44 (some go20) := (by rw [hw]; exact dp.2); have hp_ : Kd.R (Kd.int .i64) 3 w44 w.heap.size (fun k_ => some k_ ≠ (.slice b5 bm.length bL : Value).ownBlock) (.slice (some ⟨go20, 0, none⟩) aN.length bp) ep := (by rw [hw, er.out]; exact dp.1); clear dp; have n0_ := Aa.mk (Kd.C5 (v := (.slice (some ⟨go20, 0, none⟩) aN.length bp)) (v1 := (.slice (some ⟨go20, 0, none⟩) aN.length bp)) (ok := (fun _ => True)) (by exact rU <| Kd.Bj aU.out (fun _ hk => ⟨trivial, hk⟩)) hg (.inl rfl)); have n1_ := Aa.mk (hp_); have n2_ := Aa.mk (Bu (g := aD) (o := .cells #[.int .i64 ah, .int .i64 aA, .slice aX aq.length aW] 50 (0, 0)) (by exact bU <| af.out) hg (Kd.De aH.out af.out (by decide))); have n3_ := Aa.mk ((by rw [hw]; exact Ag (HB.out) GB20.out : Below w.heap.size w w44)); have n4_ := Aa.mk ((show Kd.C (Kd.int .i64) w44 (some b6) aC.length aC from by rw [cB.out, KA29.out]; exact Kd.C_mid (lo := ((aK) : Int).toNat) (hi := ((wrap64 ((aK) + ah)) : Int).toNat) (c := bL) ((Kd.Ba (Kd.C5 (v := (.slice (some ⟨go20, 0, none⟩) aN.length bp)) (v1 := (.slice (some ⟨go20, 0, none⟩) aN.length bp)) (ok := (fun _ => True)) (by exact rU <| Kd.Bj aU.out (fun _ hk => ⟨trivial, hk⟩)) hg (.inl rfl))).2.2) KM29.out KL29.out ((Kd.Ba (Kd.C5 (v := (.slice (some ⟨go20, 0, none⟩) aN.length bp)) (v1 := (.slice (some ⟨go20, 0, none⟩) aN.length bp)) (ok := (fun _ => True)) (by exact rU <| Kd.Bj aU.out (fun _ hk => ⟨trivial, hk⟩)) hg (.inl rfl))).2.1))); clear aU; clear aH; clear af; clear HB; clear HR144; have aU := n0_; have aH := n1_; have af := n2_; have HB := n3_; have HR144 := n4_; clear n0_ n1_ n2_ n3_ n4_; clear hg hw hp_))
                       repeat (go_quiet (fail); try go_wp2_with (fail))
                       (try simp only [← aQ])
                       go_roundg k2
                       case measure => have := HK1.out; have := HK2.out; omega
                       case rel => exact ⟨(ep), (wrap64 (ag + 1)), (by first | rfl | (simp; done) | (simp [*]; done)), H', ⟨by have := HK1.out; have := HK2.out; omega⟩, ⟨by (try simp only [aM]); (try simp only [aQ]); exact rU <| Kd.Bj aU.out (fun _ hk => hk.2)⟩, ⟨by (try simp only [aM]); (try simp only [aQ]); exact rU <| aH.out⟩, ⟨by (try simp only [aM]); (try simp only [aQ]); exact bU <| af.out⟩, ⟨by repeat (first | (with_reducible exact HR144.out) | (with_reducible refine Kd.Bw ?_ _) | (with_reducible refine Kd.B6 ?_ _) | (with_reducible refine Kd.Cf ?_) | exact HR144.out)⟩, ⟨by repeat (first | (with_reducible first | exact HB.out | apply Ae | apply Ac | apply Ah | refine Ag ?_ bo.out) | exact HB.out)⟩⟩
                      ·rw [if_neg c41] at H
                       have eo : decide ((wrap64 ((wrap64 ((wrap64 (ag - (Int.tmod ac ah))) * (wrap64 (ag - (Int.tmod ac ah))))) + (wrap64 ((rd aC ag) * (rd aC ag))))) < (rd aN ac)) = false := decide_eq_false c41
                       clear c41
                       have H' := Aa.mk H
                       clear H
                       have bv : 0 ≤ (ag : Int) := of_decide_eq_true (by with_reducible assumption)
                       have bw : ag < (aC.length : Int) := of_decide_eq_true (by with_reducible assumption)
                       obtain ⟨b6, e145, bV⟩ := Kd.at_int HR144.out ag bv bw
                       cases e145
                       replace bv := eq_true bv
                       replace bw := eq_true bw
                       have bM : 0 ≤ (ac : Int) := of_decide_eq_true (by with_reducible assumption)
                       have bN : ac < (aN.length : Int) := of_decide_eq_true (by with_reducible assumption)
                       obtain ⟨b7, e146, bc⟩ := Kd.at_int (Kd.Ba aH.out).2.2 ac bM bN
                       obtain rfl : (⟨go20, 0, none⟩ : Addr) = b7 := (by injection e146)
                       (first | simp only [add_plain] at bc | simp only [add_at] at bc | simp only [Addr.add, Nat.zero_add] at bc | skip)
                       replace bM := eq_true bM
                       replace bN := eq_true bN
                       have cd : 0 ≤ (ac : Int) := of_decide_eq_true (by with_reducible assumption)
                       have ce : ac < (aN.length : Int) := of_decide_eq_true (by with_reducible assumption)
                       obtain ⟨db, e148, bs⟩ := Kd.at_int (Kd.Ba aH.out).2.2 ac cd ce
                       obtain rfl : (⟨go20, 0, none⟩ : Addr) = db := (by injection e148)
                       (first | simp only [add_plain] at bs | simp only [add_at] at bs | simp only [Addr.add, Nat.zero_add] at bs | skip)
                       replace cd := eq_true cd
                       replace ce := eq_true ce
                       go_wp2
                       repeat (go_quiet (fail); try go_wp2)
                       (try simp only [← aQ])
                       go_roundg k2
                       case measure => have := HK1.out; have := HK2.out; omega
                       case rel => exact ⟨(aN), (wrap64 (ag + 1)), (by first | rfl | (simp; done) | (simp [*]; done)), H', ⟨by have := HK1.out; have := HK2.out; omega⟩, ⟨by (try simp only [aM]); (try simp only [aQ]); exact rU <| aU.out⟩, ⟨by (try simp only [aM]); (try simp only [aQ]); exact rU <| aH.out⟩, ⟨by (try simp only [aM]); (try simp only [aQ]); exact bU <| af.out⟩, ⟨by repeat (first | (with_reducible exact HR144.out) | (with_reducible refine Kd.Bw ?_ _) | (with_reducible refine Kd.B6 ?_ _) | (with_reducible refine Kd.Cf ?_) | exact HR144.out)⟩, ⟨by repeat (first | (with_reducible first | exact HB.out | apply Ae | apply Ac | apply Ah | refine Ag ?_ bo.out) | exact HB.out)⟩⟩
                    ·rw [if_neg c36] at H
                     exact absurd H (by simp)
                   ·rw [if_neg c35] at H
                    exact absurd H (by simp)
                  ·rw [if_neg c34] at H
                   have eh : decide ((rd aC ag) < 1048576) = false := decide_eq_false c34
                   clear c34
                   have H' := Aa.mk H
                   clear H
                   have bv : 0 ≤ (ag : Int) := of_decide_eq_true (by with_reducible assumption)
                   have bw : ag < (aC.length : Int) := of_decide_eq_true (by with_reducible assumption)
                   obtain ⟨b6, e145, bV⟩ := Kd.at_int HR144.out ag bv bw
                   cases e145
                   replace bv := eq_true bv
                   replace bw := eq_true bw
                   go_wp2
                   repeat (go_quiet (fail); try go_wp2)
                   (try simp only [← aQ])
                   go_roundg k2
                   case measure => have := HK1.out; have := HK2.out; omega
                   case rel => exact ⟨(aN), (wrap64 (ag + 1)), (by first | rfl | (simp; done) | (simp [*]; done)), H', ⟨by have := HK1.out; have := HK2.out; omega⟩, ⟨by (try simp only [aM]); (try simp only [aQ]); exact rU <| aU.out⟩, ⟨by (try simp only [aM]); (try simp only [aQ]); exact rU <| aH.out⟩, ⟨by (try simp only [aM]); (try simp only [aQ]); exact bU <| af.out⟩, ⟨by repeat (first | (with_reducible exact HR144.out) | (with_reducible refine Kd.Bw ?_ _) | (with_reducible refine Kd.B6 ?_ _) | (with_reducible refine Kd.Cf ?_) | exact HR144.out)⟩, ⟨by repeat (first | (with_reducible first | exact HB.out | apply Ae | apply Ac | apply Ah | refine Ag ?_ bo.out) | exact HB.out)⟩⟩
                 ·rw [if_neg c33] at H
                  exact absurd H (by simp)
                ·rw [if_neg c32] at H
                 exact absurd H (by simp)
               ·rw [if_neg c31] at H
                have ef : decide (ag < (aC.length : Int)) = false := decide_eq_false c31
                clear c31
                have H' := Aa.mk H
                clear H
                go_wp2
                repeat (go_quiet (fail); try go_wp2)
                (try simp only [← aM, ← aQ])
                go_roundg k2
                case measure => have := HK1.out; have := HK2.out; omega
                case rel => exact ⟨(aN), (wrap64 (ac + 1)), (by first | rfl | (simp; done) | (simp [*]; done)), H', ⟨by have := HK1.out; have := HK2.out; omega⟩, ⟨by (try simp only [aM]); (try simp only [aQ]); exact rU <| aU.out⟩, ⟨by (try simp only [aM]); (try simp only [aQ]); exact rU <| aH.out⟩, ⟨by (try simp only [aM]); (try simp only [aQ]); exact bU <| af.out⟩, ⟨by repeat (first | (with_reducible first | exact HB.out | apply Ae | apply Ac | apply Ah | refine Ag ?_ bo.out) | exact HB.out)⟩⟩
            ·rw [if_neg c24] at H
             exact absurd H (by simp)
           ·rw [if_neg c23] at H
            exact absurd H (by simp)
          ·rw [if_neg c22] at H
           exact absurd H (by simp)
         ·rw [if_neg c19] at H
          exact absurd H (by simp)
        ·rw [if_neg c18] at H
         exact absurd H (by simp)
      ·rw [if_neg c16] at H
       have cA : decide (ac < (bu.length : Int)) = false := decide_eq_false c16
       rw [aM] at cA
       clear c16
       simp only [Option.some.injEq, Prod.mk.injEq] at H
       obtain ⟨rfl, rfl⟩ := H
       go_wp2
       repeat (go_quiet (fail); try go_wp2)
       go_ret2
       exact ⟨_, by first | rfl | (simp [Be, Bd] <;> rfl) | (simp [*, Be, Bd] <;> rfl), by exact rU <| Kd.Bj aH.out (fun _ hk => trivial), by repeat (first | (with_reducible first | exact HB.out | apply Ae | apply Ac | apply Ah | refine Ag ?_ bo.out) | exact HB.out)⟩
   ·rw [if_neg c6] at H
    exact absurd H (by simp)
  ·rw [if_neg c5] at H
   exact absurd H (by simp)
 ·rw [if_neg c3] at H
  have cK : (bz == 0) = false := beq_eq_false_iff_ne.mpr c3
  have cL : (bz != 0) = true := bne_iff_ne.mpr c3
  simp only [Option.some.injEq, Prod.mk.injEq] at H
  obtain ⟨rfl, rfl⟩ := H
  go_enter Try.func32, Try.ntmps32
  go_wp2_with (first | ((with_reducible refine Bq (N := 1) rfl ?_); refine Bt ?hg (N := 1) ?hd (cs := #[.int .i64 ah, .int .i64 aA, .slice aX aq.length aW]) (t := 50) ?hr ?_; (case hd => rfl); (case hg => rfl); (case hr => first | (go_simp; done) | (go_simp; rfl)); intro aD hg w45 hbox hb; have n0_ := Aa.mk (Au (lU HB.out) hb); have n1_ := Aa.mk (hbox); have n2_ := Aa.mk ((by rw [hg]; exact (An (lU HB.out)) : w.heap.size ≤ aD)); have n3_ := Aa.mk ((by rw [hg]; exact (An (lU HB.out)) : w.heap.size ≤ aD)); clear HB; have HB := n0_; have af := n1_; have dS := n2_; have bo := n3_; clear n0_ n1_ n2_ n3_; clear hb hbox hg; have eH : w45.cell? ⟨aD, 0, none⟩ = some (.int .i64 ah) := (Ad af.out 0).trans rfl; have eI : w45.cell? ⟨aD, 1, none⟩ = some (.int .i64 aA) := (Ad af.out 1).trans rfl; have eJ : w45.cell? ⟨aD, 2, none⟩ = some (.slice aX aq.length aW) := (Ad af.out 2).trans rfl; have eK := Af af.out 0; have eL := Af af.out 1; have eM := Af af.out 2) | (go_at_call 46; (with_reducible refine (Cn.calls ah aA _ _ aq bz _ ?side1 ?side2 A2.out).mono ?_); (case side1 => repeat (first | exact (Kd.Ce b3.out HB.out) | (with_reducible refine Kd.Bw ?_ _) | (with_reducible refine Kd.B6 ?_ _) | (with_reducible refine Kd.Cf ?_))); (case side2 => exact cp.out); rintro e w47 ⟨rfl, hb⟩; have n0_ := Aa.mk (Ao (g := aD) (o := .cells #[.int .i64 ah, .int .i64 aA, .slice aX aq.length aW] 50 (0, 0)) (by exact bU <| af.out) hb); have n1_ := Aa.mk (Au (by repeat (first | (with_reducible first | exact HB.out | apply Ae | apply Ac | apply Ah | refine Ag ?_ bo.out) | exact HB.out)) hb); clear af; clear HB; have af := n0_; have HB := n1_; clear n0_ n1_; (try clear hb); (try clear hb2); (try clear hk); (try clear hi)))
  repeat (go_quiet (fail); try go_wp2_with (fail))
  go_ret2
  exact ⟨_, by first | rfl | (simp [Be, Bd] <;> rfl) | (simp [*, Be, Bd] <;> rfl), by first | exact Kd.C8 _ _ _ _ _ | exact Kd.N_nil _ _ _ _ _ | exact Kd.V_nil _ _ _ _ _ | exact Kd.Q_nil _ _ _ _ _ | exact Kd.S_nil _ _ _ _ _, by repeat (first | (with_reducible first | exact HB.out | apply Ae | apply Ac | apply Ah | refine Ag ?_ bo.out) | exact HB.out)⟩

def B8.l0 : Nat → List Bool → Int → Int → Int → Int → List Bool → Option (Int × Int × List Bool)
 | 0, _, _, _, _, _, _ => none
 | k + 1, x12, x13, x14, cI, cJ, bW => if x14 < x13 then (if 0 ≤ x14 then (if x14 < (x12.length : Int) then (if bW.length < 140737488355328 then (B8.l0 k x12 x13 (wrap64 (x14 + 1)) cI cJ (bW ++ [!(rdOf false x12 x14)])) else (none)) else (none)) else (none)) else (some (cI, cJ, bW))
def B8.f (k : Nat) (ah : Int) (aA : Int) (aq : List Bool) : Option (Int × Int × List Bool) := B8.l0 k aq (aq.length : Int) 0 ah aA ([] : List Bool)
theorem B8.mono_l : ∀ k, (∀ y0 y1 y2 y3 y4 y5, LeO (B8.l0 k y0 y1 y2 y3 y4 y5) (B8.l0 (k + 1) y0 y1 y2 y3 y4 y5))
 | 0 => fun _ _ _ _ _ _ r h => by simp [B8.l0] at h
 | k + 1 => by
  have ih0 := B8.mono_l k
  ·intro y0 y1 y2 y3 y4 y5
   unfold B8.l0
   repeat' first
   | (with_reducible exact ih0 _ _ _ _ _ _)
   | (with_reducible exact LeO.refl _)
   | (with_reducible exact LeO.none _)
   | (with_reducible refine LeO.ite ?_ ?_)
   | (with_reducible refine LeO.bind ?_ (fun _ => ?_))
   | exact ih0 _ _ _ _ _ _
   | exact LeO.none _
   | refine LeO.ite ?_ ?_
   | refine LeO.bind ?_ (fun _ => ?_)
theorem B8.mono : ∀ a0 a1 a2 k, LeO (B8.f k a0 a1 a2) (B8.f (k + 1) a0 a1 a2) := by
 intro a0 a1 a2 k
 have ih0 := B8.mono_l k
 unfold B8.f
 repeat' first
   | (with_reducible exact ih0 _ _ _ _ _ _)
   | (with_reducible exact LeO.refl _)
   | (with_reducible exact LeO.none _)
   | (with_reducible refine LeO.ite ?_ ?_)
   | (with_reducible refine LeO.bind ?_ (fun _ => ?_))
   | exact ih0 _ _ _ _ _ _
   | exact LeO.none _
   | refine LeO.ite ?_ ?_
   | refine LeO.bind ?_ (fun _ => ?_)
set_option maxHeartbeats 8000000 in
set_option maxRecDepth 100000 in
theorem B8.calls (k : Nat) (ah : Int) (aA : Int) (aX : Option Addr) (aW : Nat) (aq : List Bool) (r1 : Int) (r2 : Int) (r3 : List Bool) (w : World) (bY : Kd.C Kd.bool w aX aq.length aq) (bZ : aq.length ≤ aW) (h : B8.f k ah aA aq = some (r1, r2, r3)) :
  Calls Try.prog 83 #[.agg #[.int .i64 ah, .int .i64 aA, .slice aX aq.length aW]] w fun e w' => ∃ v2_ : Value, e = .returned (.agg #[.int .i64 r1, .int .i64 r2, v2_]) ∧ Kd.R Kd.bool 4 w' w.heap.size (fun _ => True) v2_ r3 ∧ Below w.heap.size w w' := by
 have hu50 := Try.underlying50
 have b3 := Aa.mk bY
 have cp := Aa.mk bZ
 clear bY bZ
 have HB := Aa.mk (Below.refl w.heap.size w)
 have H : (B8.l0 k aq (aq.length : Int) 0 ah aA ([] : List Bool)) = some (r1, r2, r3) := h
 clear h
 have H' := Aa.mk H
 clear H
 go_enter Try.func83, Try.ntmps83
 go_wp2_with (first | ((with_reducible refine Bq (N := 1) rfl ?_); refine Bt ?hg (N := 1) ?hd (cs := #[.int .i64 ah, .int .i64 aA, .slice aX aq.length aW]) (t := 50) ?hr ?_; (case hd => rfl); (case hg => rfl); (case hr => first | (go_simp; done) | (go_simp; rfl)); intro aZ hg w2 hbox hb; have n0_ := Aa.mk (Au (lU HB.out) hb); have n1_ := Aa.mk (hbox); have n2_ := Aa.mk ((by rw [hg]; exact (An (lU HB.out)) : w.heap.size ≤ aZ)); have n3_ := Aa.mk ((by rw [hg]; exact (An (lU HB.out)) : w.heap.size ≤ aZ)); clear HB; have HB := n0_; have aI := n1_; have fY := n2_; have bt := n3_; clear n0_ n1_ n2_ n3_; clear hb hbox hg) | ((with_reducible refine Bq (N := 2) rfl ?_); refine Bt ?hg (N := 2) ?hd (cs := #[.int .i64 0, .int .i64 0, .slice none 0 0]) (t := 50) ?hr ?_; (case hd => rfl); (case hg => rfl); (case hr => first | (go_simp; done) | (go_simp; rfl)); intro bh hg w3 hbox hb; have n0_ := Aa.mk (Ao (g := aZ) (o := .cells #[.int .i64 ah, .int .i64 aA, .slice aX aq.length aW] 50 (0, 0)) (by exact bU <| aI.out) hb); have n1_ := Aa.mk (Au (by repeat (first | (with_reducible first | exact HB.out | apply Ae | apply Ac | apply Ah | refine Ag ?_ bt.out) | exact HB.out)) hb); have n2_ := Aa.mk (hbox); have n3_ := Aa.mk ((by rw [hg]; exact (An (by repeat (first | (with_reducible first | exact HB.out | apply Ae | apply Ac | apply Ah | refine Ag ?_ bt.out) | exact HB.out))) : w.heap.size ≤ bh)); have n4_ := Aa.mk ((by rw [hg]; exact (An (by repeat (first | (with_reducible first | exact HB.out | apply Ae | apply Ac | apply Ah | refine Ag ?_ bt.out) | exact HB.out))) : w.heap.size ≤ bh)); have n5_ := Aa.mk ((by rw [hg]; exact Nat.ne_of_lt (Bz (g := aZ) (o := .cells #[.int .i64 ah, .int .i64 aA, .slice aX aq.length aW] 50 (0, 0)) (by exact bU <| aI.out)) : aZ ≠ bh)); have n6_ := Aa.mk ((by rw [hg]; exact Nat.ne_of_gt (Bz (g := aZ) (o := .cells #[.int .i64 ah, .int .i64 aA, .slice aX aq.length aW] 50 (0, 0)) (by exact bU <| aI.out)) : bh ≠ aZ)); clear aI; clear HB; have aI := n0_; have HB := n1_; have ba := n2_; have fZ := n3_; have bD := n4_; have bS := n5_; have bT := n6_; clear n0_ n1_ n2_ n3_ n4_ n5_ n6_; clear hb hbox hg; have gq := bS.out; have gt := bT.out; have dB : w3.cell? ⟨aZ, 0, none⟩ = some (.int .i64 ah) := (Ad aI.out 0).trans rfl; have dC : w3.cell? ⟨aZ, 1, none⟩ = some (.int .i64 aA) := (Ad aI.out 1).trans rfl; have dD : w3.cell? ⟨aZ, 2, none⟩ = some (.slice aX aq.length aW) := (Ad aI.out 2).trans rfl; have dE := Af aI.out 0; have dF := Af aI.out 1; have dG := Af aI.out 2) | ((with_reducible refine Bq (N := 3) rfl ?_); refine Bt ?hg (N := 3) ?hd (cs := #[.int .i64 0, .int .i64 0, .slice none 0 0]) (t := 50) ?hr ?_; (case hd => rfl); (case hg => rfl); (case hr => first | (go_simp; done) | (go_simp; rfl)); intro aY hg w6 hbox hb; have n0_ := Aa.mk (Ao (g := aZ) (o := .cells #[.int .i64 ah, .int .i64 aA, .slice aX aq.length aW] 50 (0, 0)) (by exact bU <| aI.out) hb); have n1_ := Aa.mk (Ao (g := bh) (o := .cells #[.int .i64 0, .int .i64 0, .slice none 0 0] 50 (0, 0)) (by exact bU <| ba.out) hb); have n2_ := Aa.mk (Au (by repeat (first | (with_reducible first | exact HB.out | apply Ae | apply Ac | apply Ah | refine Ag ?_ bt.out | refine Ag ?_ bD.out) | exact HB.out)) hb); have n3_ := Aa.mk (hbox); have n4_ := Aa.mk ((by rw [hg]; exact (An (by repeat (first | (with_reducible first | exact HB.out | apply Ae | apply Ac | apply Ah | refine Ag ?_ bt.out | refine Ag ?_ bD.out) | exact HB.out))) : w.heap.size ≤ aY)); have n5_ := Aa.mk ((by rw [hg]; exact (An (by repeat (first | (with_reducible first | exact HB.out | apply Ae | apply Ac | apply Ah | refine Ag ?_ bt.out | refine Ag ?_ bD.out) | exact HB.out))) : w.heap.size ≤ aY)); have n6_ := Aa.mk ((by rw [hg]; exact Nat.ne_of_lt (Bz (g := aZ) (o := .cells #[.int .i64 ah, .int .i64 aA, .slice aX aq.length aW] 50 (0, 0)) (by exact bU <| aI.out)) : aZ ≠ aY)); have n7_ := Aa.mk ((by rw [hg]; exact Nat.ne_of_gt (Bz (g := aZ) (o := .cells #[.int .i64 ah, .int .i64 aA, .slice aX aq.length aW] 50 (0, 0)) (by exact bU <| aI.out)) : aY ≠ aZ)); have n8_ := Aa.mk ((by rw [hg]; exact Nat.ne_of_lt (Bz (g := bh) (o := .cells #[.int .i64 0, .int .i64 0, .slice none 0 0] 50 (0, 0)) (by exact bU <| ba.out)) : bh ≠ aY)); have n9_ := Aa.mk ((by rw [hg]; exact Nat.ne_of_gt (Bz (g := bh) (o := .cells #[.int .i64 0, .int .i64 0, .slice none 0 0] 50 (0, 0)) (by exact bU <| ba.out)) : aY ≠ bh)); clear aI; clear ba; clear HB; have aI := n0_; have ba := n1_; have HB := n2_; have aE := n3_; have f7 := n4_; have b8 := n5_; have bj := n6_; have bB := n7_; have bk := n8_; have bC := n9_; clear n0_ n1_ n2_ n3_ n4_ n5_ n6_ n7_ n8_ n9_; clear hb hbox hg; have gu := bB.out; have gv := bj.out; have gw := bC.out; have gx := bk.out; have dH : w6.cell? ⟨aY, 0, none⟩ = some (.int .i64 0) := (Ad aE.out 0).trans rfl; have dI : w6.cell? ⟨aY, 1, none⟩ = some (.int .i64 0) := (Ad aE.out 1).trans rfl; have dJ : w6.cell? ⟨aY, 2, none⟩ = some (.slice none 0 0) := (Ad aE.out 2).trans rfl; have dK := Af aE.out 0; have dL := Af aE.out 1; have dM := Af aE.out 2; have bF : w6.cell? ⟨aZ, 0, none⟩ = some (.int .i64 ah) := (Ad aI.out 0).trans rfl; have bG : w6.cell? ⟨aZ, 1, none⟩ = some (.int .i64 aA) := (Ad aI.out 1).trans rfl; have bH : w6.cell? ⟨aZ, 2, none⟩ = some (.slice aX aq.length aW) := (Ad aI.out 2).trans rfl; have bI := Af aI.out 0; have bJ := Af aI.out 1; have bK := Af aI.out 2))
 go_loopg [14] k (fun kq v14 w' => ∃ (aa : Int) (bb : List Bool) (u153002 : Value), v14 = .int .i64 aa ∧ Aa (B8.l0 kq aq (aq.length : Int) aa ah aA bb = some (r1, r2, r3)) ∧ Aa (kq ≤ k) ∧ Aa (Kd.R Kd.bool 4 w' w.heap.size (fun _ => True) u153002 bb) ∧ Aa (w'.heap[aZ]? = some (.cells #[.int .i64 ah, .int .i64 aA, (.slice aX aq.length aW)] 50 (0, 0))) ∧ Aa (w'.heap[bh]? = some (.cells #[.int .i64 0, .int .i64 0, (.slice none 0 0)] 50 (0, 0))) ∧ Aa (w'.heap[aY]? = some (.cells #[.int .i64 ah, .int .i64 aA, u153002] 50 (0, 0))) ∧ Aa (Below w.heap.size w w'))
 case atStart => exact ⟨(0), (([] : List Bool)), (.slice none 0 0), (by first | rfl | (simp; done) | (simp [*]; done)), H', ⟨Nat.le_refl _⟩, ⟨by first | exact Kd.C8 _ _ _ _ _ | exact Kd.N_nil _ _ _ _ _ | exact Kd.V_nil _ _ _ _ _ | exact Kd.Q_nil _ _ _ _ _ | exact Kd.S_nil _ _ _ _ _⟩, ⟨by (with_reducible repeat (first | refine Ax ?_ _ | refine Ay ?_ | refine Ak ?_ _)); refine Bk ?_ bj.out _; (with_reducible repeat (first | refine Ax ?_ _ | refine Ay ?_ | refine Ak ?_ _)); refine Bk ?_ bj.out _; (with_reducible repeat (first | refine Ax ?_ _ | refine Ay ?_ | refine Ak ?_ _)); refine Bk ?_ bj.out _; exact bU <| aI.out⟩, ⟨by (with_reducible repeat (first | refine Ax ?_ _ | refine Ay ?_ | refine Ak ?_ _)); refine Bk ?_ bk.out _; (with_reducible repeat (first | refine Ax ?_ _ | refine Ay ?_ | refine Ak ?_ _)); refine Bk ?_ bk.out _; (with_reducible repeat (first | refine Ax ?_ _ | refine Ay ?_ | refine Ak ?_ _)); refine Bk ?_ bk.out _; exact bU <| ba.out⟩, ⟨by (with_reducible repeat (first | refine Ax ?_ _ | refine Ay ?_ | refine Ak ?_ _)); refine Bo (cs := #[.int .i64 ah, .int .i64 aA, .slice none 0 0]) ?_ 2 _ rfl; (with_reducible repeat (first | refine Ax ?_ _ | refine Ay ?_ | refine Ak ?_ _)); refine Bo (cs := #[.int .i64 ah, .int .i64 0, .slice none 0 0]) ?_ 1 _ rfl; (with_reducible repeat (first | refine Ax ?_ _ | refine Ay ?_ | refine Ak ?_ _)); refine Bo (cs := #[.int .i64 0, .int .i64 0, .slice none 0 0]) ?_ 0 _ rfl; exact bU <| aE.out⟩, ⟨by repeat (first | (with_reducible first | exact HB.out | apply Ae | apply Ac | apply Ah | refine Ag ?_ bt.out | refine Ag ?_ bD.out | refine Ag ?_ b8.out) | exact HB.out)⟩⟩
 case round =>
  clear H'
  try clear p2
  try clear c4
  try clear c7
  try clear c8
  try clear bF
  try clear bG
  try clear bH
  try clear dB
  try clear dC
  try clear dD
  try clear dH
  try clear dI
  try clear dJ
  try clear bI
  try clear bJ
  try clear bK
  try clear dE
  try clear dF
  try clear dG
  try clear dK
  try clear dL
  try clear dM
  obtain ⟨aa, bb, u153002, rfl, HA, HK1, bl, aI, ba, aE, HB⟩ := hrel
  cases gk with
  | zero => exact absurd HA.out (by simp [B8.l0])
  | succ k1 =>
   have H := HA.out
   clear HA
   simp only [B8.l0] at H
   by_cases c11 : aa < (aq.length : Int)
   ·rw [if_pos c11] at H
    have et : decide (aa < (aq.length : Int)) = true := decide_eq_true c11
    clear c11
    by_cases c12 : 0 ≤ aa
    ·rw [if_pos c12] at H
     have f8 : decide (0 ≤ aa) = true := decide_eq_true c12
     clear c12
     by_cases c13 : aa < (aq.length : Int)
     ·rw [if_pos c13] at H
      have f9 : decide (aa < (aq.length : Int)) = true := decide_eq_true c13
      clear c13
      by_cases c14 : bb.length < 140737488355328
      ·rw [if_pos c14] at H
       have LMc14 := Aa.mk c14
       clear c14
       obtain ⟨dN, dc⟩ : ∃ y_ : List Bool, y_ = (bb ++ [!(rdOf false aq aa)]) := ⟨_, rfl⟩
       (try rw [Option.bind_some] at H); try rw [← dc] at H
       have ew := Aa.mk dc
       clear dc
       have H' := Aa.mk H
       clear H
       have dO : 0 ≤ (aa : Int) := of_decide_eq_true (by with_reducible assumption)
       have dP : aa < (aq.length : Int) := of_decide_eq_true (by with_reducible assumption)
       obtain ⟨ez, e153, bX⟩ := Kd.at_bool b3.out aa dO dP
       cases e153
       replace bX := (HB.out.cell (World.block_lt_of_cell? w _ bX)).trans bX
       replace dO := eq_true dO
       replace dP := eq_true dP
       have ga := bB.out
       have gb := bj.out
       have gc := bC.out
       have ge := bk.out
       have eN : wr.cell? ⟨aY, 0, none⟩ = some (.int .i64 ah) := (Ad aE.out 0).trans rfl
       have eO : wr.cell? ⟨aY, 1, none⟩ = some (.int .i64 aA) := (Ad aE.out 1).trans rfl
       have eP : wr.cell? ⟨aY, 2, none⟩ = some (u153002) := (Ad aE.out 2).trans rfl
       have eQ := Af aE.out 0
       have eR := Af aE.out 1
       have eS := Af aE.out 2
       go_wp2_with (((with_reducible refine Cu (b := .append) (xs := #[.tmp 19, .tmp 22]) rfl ?_); at_builtin; refine Kd.Dk Kd.bool (w0 := w) w.heap.size rfl (.tmp 19) (.tmp 22) 48 4 (.bool false) 1 rfl Try.underlying48 info4 rfl (by decide) (by omega) u153002 bb (!(rdOf false aq aa)) [.bool (!(rdOf false aq aa))] (fun _ => True) (fun _ => False) rfl rfl ?aP (fun _ hk => hk.elim) ?aF ?aO ?aB ?aS ?aL ?_; (case aP => exact rfl); (case aB => exact (by repeat (first | (with_reducible first | exact HB.out | apply Ae | apply Ac | apply Ah | refine Ag ?_ bt.out | refine Ag ?_ bD.out | refine Ag ?_ b8.out) | exact HB.out))); (case aF => exact (fun _ _ => trivial)); (case aO => exact (by exact rU <| bl.out)); (case aS => exact (An (by repeat (first | (with_reducible first | exact HB.out | apply Ae | apply Ac | apply Ah | refine Ag ?_ bt.out | refine Ag ?_ bD.out | refine Ag ?_ b8.out) | exact HB.out)))); (case aL => have := LMc14.out; omega); intro v155 w18 ho hb hg hat; rw [← ew.out] at ho; have n0_ := Aa.mk (Bu (g := aZ) (o := .cells #[.int .i64 ah, .int .i64 aA, .slice (some ez) aq.length aW] 50 (0, 0)) (by exact bU <| aI.out) hg (Kd.De bl.out aI.out (by decide))); have n1_ := Aa.mk (Bu (g := bh) (o := .cells #[.int .i64 0, .int .i64 0, .slice none 0 0] 50 (0, 0)) (by exact bU <| ba.out) hg (Kd.De bl.out ba.out (by decide))); have n2_ := Aa.mk (Bu (g := aY) (o := .cells #[.int .i64 ah, .int .i64 aA, u153002] 50 (0, 0)) (by exact bU <| aE.out) hg (Kd.De bl.out aE.out (by decide))); have n3_ := Aa.mk (hb); have n4_ := Aa.mk (ho); clear aI; clear ba; clear aE; clear HB; clear bl; have aI := n0_; have ba := n1_; have aE := n2_; have HB := n3_; have dt := n4_; clear n0_ n1_ n2_ n3_ n4_; clear ho hb hg hat; obtain ⟨eC, eD, fM⟩ := Kd.B0 dt.out; subst fM; have eT : w18.cell? ⟨aY, 0, none⟩ = some (.int .i64 ah) := (Ad aE.out 0).trans rfl; have eU : w18.cell? ⟨aY, 1, none⟩ = some (.int .i64 aA) := (Ad aE.out 1).trans rfl; have eV : w18.cell? ⟨aY, 2, none⟩ = some (u153002) := (Ad aE.out 2).trans rfl; have eW := Af aE.out 0; have eX := Af aE.out 1; have eY := Af aE.out 2))
       go_roundg k1
       case measure => have := HK1.out; omega
       case rel => exact ⟨(wrap64 (aa + 1)), (dN), (.slice eC dN.length eD), (by first | rfl | (simp; done) | (simp [*]; done)), H', ⟨by have := HK1.out; omega⟩, ⟨by exact rU <| Kd.Bj (Kd.Bn (p := ⟨aY, 2, none⟩) (Kd.Cb dt.out aE.out (by decide)) (fun _ hk => hk.2) (.slice eC dN.length eD)) (fun _ hk => trivial)⟩, ⟨by (with_reducible repeat (first | refine Ax ?_ _ | refine Ay ?_ | refine Ak ?_ _)); refine Bk ?_ bj.out _; exact bU <| aI.out⟩, ⟨by (with_reducible repeat (first | refine Ax ?_ _ | refine Ay ?_ | refine Ak ?_ _)); refine Bk ?_ bk.out _; exact bU <| ba.out⟩, ⟨by (with_reducible repeat (first | refine Ax ?_ _ | refine Ay ?_ | refine Ak ?_ _)); refine Bo (cs := #[.int .i64 ah, .int .i64 aA, u153002]) ?_ 2 _ rfl; exact bU <| aE.out⟩, ⟨by repeat (first | (with_reducible first | exact HB.out | apply Ae | apply Ac | apply Ah | refine Ag ?_ bt.out | refine Ag ?_ bD.out | refine Ag ?_ b8.out) | exact HB.out)⟩⟩
      ·rw [if_neg c14] at H
       exact absurd H (by simp)
     ·rw [if_neg c13] at H
      exact absurd H (by simp)
    ·rw [if_neg c12] at H
     exact absurd H (by simp)
   ·rw [if_neg c11] at H
    have et : decide (aa < (aq.length : Int)) = false := decide_eq_false c11
    clear c11
    simp only [Option.some.injEq, Prod.mk.injEq] at H
    obtain ⟨rfl, rfl, rfl⟩ := H
    have gg := bB.out
    have gh := bj.out
    have gi := bC.out
    have gj := bk.out
    have eZ : wr.cell? ⟨aY, 0, none⟩ = some (.int .i64 ah) := (Ad aE.out 0).trans rfl
    have e7 : wr.cell? ⟨aY, 1, none⟩ = some (.int .i64 aA) := (Ad aE.out 1).trans rfl
    have e8 : wr.cell? ⟨aY, 2, none⟩ = some (u153002) := (Ad aE.out 2).trans rfl
    have fb := Af aE.out 0
    have fc := Af aE.out 1
    have fd := Af aE.out 2
    have gl := bT.out
    have gn := bS.out
    have cC : wr.cell? ⟨bh, 0, none⟩ = some (.int .i64 0) := (Ad ba.out 0).trans rfl
    have cD : wr.cell? ⟨bh, 1, none⟩ = some (.int .i64 0) := (Ad ba.out 1).trans rfl
    have cE : wr.cell? ⟨bh, 2, none⟩ = some (.slice none 0 0) := (Ad ba.out 2).trans rfl
    have cF := Af ba.out 0
    have cG := Af ba.out 1
    have cH := Af ba.out 2
    obtain ⟨eE, eF, fN⟩ := Kd.B0 bl.out
    subst fN
    go_wp2
    refine bodyPost_ret (results_cell_row rfl _ _ bh 50 #[.int .i64 ah, .int .i64 aA, .slice eE bb.length eF] (0, 0) _ rfl (by (with_reducible repeat (first | refine Ax ?_ _ | refine Ay ?_ | refine Ak ?_ _)); refine Bo (cs := #[.int .i64 ah, .int .i64 aA, .slice none 0 0]) ?_ 2 _ rfl; (with_reducible repeat (first | refine Ax ?_ _ | refine Ay ?_ | refine Ak ?_ _)); refine Bo (cs := #[.int .i64 ah, .int .i64 0, .slice none 0 0]) ?_ 1 _ rfl; (with_reducible repeat (first | refine Ax ?_ _ | refine Ay ?_ | refine Ak ?_ _)); refine Bo (cs := #[.int .i64 0, .int .i64 0, .slice none 0 0]) ?_ 0 _ rfl; exact bU <| ba.out) Try.underlying50 rfl (by kernel_rfl)) rfl ?_
    exact ⟨_, by first | rfl | (simp [Be, Bd] <;> rfl) | (simp [*, Be, Bd] <;> rfl), by exact rU <| Kd.Bj (Kd.Bn (p := ⟨bh, 2, none⟩) (Kd.Bn (p := ⟨bh, 1, none⟩) (Kd.Bn (p := ⟨bh, 0, none⟩) (Kd.Cb bl.out ba.out (by decide)) (fun _ hk => hk.2) (.int .i64 ah)) (fun _ hk => hk.2) (.int .i64 aA)) (fun _ hk => hk.2) (.slice eE bb.length eF)) (fun _ hk => trivial), by repeat (first | (with_reducible first | exact HB.out | apply Ae | apply Ac | apply Ah | refine Ag ?_ bt.out | refine Ag ?_ bD.out | refine Ag ?_ b8.out) | exact HB.out)⟩

def Cj.l0 : Nat → List (S101) → List (S101) → Int → Int → Option (Bool)
 | 0, _, _, _, _ => none
 | k + 1, x0, x12, x13, x14 => if x14 < x13 then (if 0 ≤ x14 then (if x14 < (x12.length : Int) then (if x14 < (x0.length : Int) then (if ((rd_T101 x0 x14).f0) = ((rd_T101 x12 x14).f0) then (if ((rd_T101 x0 x14).f2) = ((rd_T101 x12 x14).f2) then (Cj.l0 k x0 x12 x13 (wrap64 (x14 + 1))) else (some false)) else (some false)) else (none)) else (none)) else (none)) else (some true)
def Cj.f (k : Nat) (l0 : List (S101)) (l1 : List (S101)) : Option (Bool) := if (l0.length : Int) = (l1.length : Int) then (Cj.l0 k l0 l1 (l1.length : Int) 0) else (some false)
theorem Cj.mono_l : ∀ k, (∀ y0 y1 y2 y3, LeO (Cj.l0 k y0 y1 y2 y3) (Cj.l0 (k + 1) y0 y1 y2 y3))
 | 0 => fun _ _ _ _ r h => by simp [Cj.l0] at h
 | k + 1 => by
  have ih0 := Cj.mono_l k
  ·intro y0 y1 y2 y3
   unfold Cj.l0
   repeat' first
   | (with_reducible exact ih0 _ _ _ _)
   | (with_reducible exact LeO.refl _)
   | (with_reducible exact LeO.none _)
   | (with_reducible refine LeO.ite ?_ ?_)
   | (with_reducible refine LeO.bind ?_ (fun _ => ?_))
   | exact ih0 _ _ _ _
   | exact LeO.none _
   | refine LeO.ite ?_ ?_
   | refine LeO.bind ?_ (fun _ => ?_)
theorem Cj.mono : ∀ a0 a1 k, LeO (Cj.f k a0 a1) (Cj.f (k + 1) a0 a1) := by
 intro a0 a1 k
 have ih0 := Cj.mono_l k
 unfold Cj.f
 repeat' first
   | (with_reducible exact ih0 _ _ _ _)
   | (with_reducible exact LeO.refl _)
   | (with_reducible exact LeO.none _)
   | (with_reducible refine LeO.ite ?_ ?_)
   | (with_reducible refine LeO.bind ?_ (fun _ => ?_))
   | exact ih0 _ _ _ _
   | exact LeO.none _
   | refine LeO.ite ?_ ?_
   | refine LeO.bind ?_ (fun _ => ?_)
set_option maxHeartbeats 8000000 in
set_option maxRecDepth 100000 in
theorem Cj.calls (k : Nat) (A0 : Option Addr) (c0 : Nat) (l0 : List (S101)) (A1 : Option Addr) (c1 : Nat) (l1 : List (S101)) (r : Bool) (w : World) (hr0 : Kd.C k101 w A0 l0.length l0) (hc0 : l0.length ≤ c0) (hr1 : Kd.C k101 w A1 l1.length l1) (hc1 : l1.length ≤ c1) (h : Cj.f k l0 l1 = some r) :
  Calls Try.prog 97 #[.slice A0 l0.length c0, .slice A1 l1.length c1] w fun e w' => e = .returned (.bool r) ∧ Below w.heap.size w w' := by
 have hu101 := Try.underlying101
 have HR0 := Aa.mk hr0
 have HC0 := Aa.mk hc0
 clear hr0 hc0
 have HR1 := Aa.mk hr1
 have HC1 := Aa.mk hc1
 clear hr1 hc1
 have HB := Aa.mk (Below.refl w.heap.size w)
 have H : (if (l0.length : Int) = (l1.length : Int) then (Cj.l0 k l0 l1 (l1.length : Int) 0) else (some false)) = some r := h
 clear h
 by_cases c3 : (l0.length : Int) = (l1.length : Int)
 ·rw [if_pos c3] at H
  have cK : ((l0.length : Int) == (l1.length : Int)) = true := beq_iff_eq.mpr c3
  have cL : ((l0.length : Int) != (l1.length : Int)) = false := bne_eq_false_iff_eq.mpr c3
  have eG : (l0.length == l1.length) = true := by first | simpa using c3 | (simp at c3 ⊢; omega)
  clear c3
  have H' := Aa.mk H
  clear H
  go_enter Try.func97, Try.ntmps97
  go_wp2
  repeat (go_quiet (fail); try go_wp2)
  go_loopg [14] k (fun kq v14 w' => ∃ (aa : Int), v14 = .int .i64 aa ∧ Aa (Cj.l0 kq l0 l1 (l1.length : Int) aa = some r) ∧ Aa (kq ≤ k) ∧ Aa (Below w.heap.size w w'))
  case atStart => exact ⟨(0), (by first | rfl | (simp; done) | (simp [*]; done)), H', ⟨Nat.le_refl _⟩, ⟨by repeat (first | (with_reducible first | exact HB.out | apply Ae | apply Ac | apply Ah) | exact HB.out)⟩⟩
  case round =>
   clear H'
   try clear c1
   try clear p2
   try clear c3
   try clear cK
   try clear cL
   try clear eG
   obtain ⟨aa, rfl, HA, HK1, HB⟩ := hrel
   cases gk with
   | zero => exact absurd HA.out (by simp [Cj.l0])
   | succ k1 =>
    have H := HA.out
    clear HA
    simp only [Cj.l0] at H
    by_cases c4 : aa < (l1.length : Int)
    ·rw [if_pos c4] at H
     have fO : decide (aa < (l1.length : Int)) = true := decide_eq_true c4
     clear c4
     by_cases c5 : 0 ≤ aa
     ·rw [if_pos c5] at H
      have dv : decide (0 ≤ aa) = true := decide_eq_true c5
      clear c5
      by_cases c6 : aa < (l1.length : Int)
      ·rw [if_pos c6] at H
       have dw : decide (aa < (l1.length : Int)) = true := decide_eq_true c6
       clear c6
       by_cases c7 : aa < (l0.length : Int)
       ·rw [if_pos c7] at H
        have gy : decide (aa < (l0.length : Int)) = true := decide_eq_true c7
        clear c7
        by_cases c8 : ((rd_T101 l0 aa).f0) = ((rd_T101 l1 aa).f0)
        ·rw [if_pos c8] at H
         have fP : (((rd_T101 l0 aa).f0) == ((rd_T101 l1 aa).f0)) = true := beq_iff_eq.mpr c8
         have fQ : (((rd_T101 l0 aa).f0) != ((rd_T101 l1 aa).f0)) = false := bne_eq_false_iff_eq.mpr c8
         clear c8
         by_cases c9 : ((rd_T101 l0 aa).f2) = ((rd_T101 l1 aa).f2)
         ·rw [if_pos c9] at H
          have fR : (((rd_T101 l0 aa).f2) == ((rd_T101 l1 aa).f2)) = true := beq_iff_eq.mpr c9
          have fS : (((rd_T101 l0 aa).f2) != ((rd_T101 l1 aa).f2)) = false := bne_eq_false_iff_eq.mpr c9
          clear c9
          have H' := Aa.mk H
          clear H
          have bO : 0 ≤ (aa : Int) := of_decide_eq_true (by with_reducible assumption)
          have bP : aa < (l1.length : Int) := of_decide_eq_true (by with_reducible assumption)
          obtain ⟨du, e157, bd, be, bf, bg⟩ := at_T101 HR1.out aa bO bP
          cases e157
          replace bd := (HB.out.cell (World.block_lt_of_cell? w _ bd)).trans bd
          replace be := (HB.out.cell (World.block_lt_of_cell? w _ be)).trans be
          replace bf := (HB.out.cell (World.block_lt_of_cell? w _ bf)).trans bf
          replace bg := (HB.out.cell (World.block_lt_of_cell? w _ bg)).trans bg
          replace bO := eq_true bO
          replace bP := eq_true bP
          go_wp2_with (((with_reducible refine Bq (N := 6) rfl ?_); refine Bt ?hg (N := 6) ?hd (cs := #[.int .i64 0, .int .i64 0, .int .i64 0, .int .i64 0]) (t := 101) ?hr ?_; (case hd => rfl); (case hg => rfl); (case hr => first | (go_simp; done) | (go_simp; rfl)); intro ab hg w10 hbox hb; have n0_ := Aa.mk (Au (lU HB.out) hb); have n1_ := Aa.mk (hbox); have n2_ := Aa.mk ((by rw [hg]; exact (An (lU HB.out)) : w.heap.size ≤ ab)); have n3_ := Aa.mk ((by rw [hg]; exact (An (lU HB.out)) : w.heap.size ≤ ab)); clear HB; have HB := n0_; have aJ := n1_; have aV := n2_; have b9 := n3_; clear n0_ n1_ n2_ n3_; clear hb hbox hg; have fe : w10.cell? ⟨ab, 0, none⟩ = some (.int .i64 0) := (Ad aJ.out 0).trans rfl; have ff : w10.cell? ⟨ab, 1, none⟩ = some (.int .i64 0) := (Ad aJ.out 1).trans rfl; have fg : w10.cell? ⟨ab, 2, none⟩ = some (.int .i64 0) := (Ad aJ.out 2).trans rfl; have fh : w10.cell? ⟨ab, 3, none⟩ = some (.int .i64 0) := (Ad aJ.out 3).trans rfl; have fi := Af aJ.out 0; have fj := Af aJ.out 1; have fk := Af aJ.out 2; have fl := Af aJ.out 3; have bQ : 0 ≤ (aa : Int) := of_decide_eq_true (by with_reducible assumption); have bR : aa < (l0.length : Int) := of_decide_eq_true (by with_reducible assumption); obtain ⟨aT, e159, ae, am, an, ao⟩ := at_T101 HR0.out aa bQ bR; cases e159; have ai : aT.block ≠ ab := Nat.ne_of_lt (Nat.lt_of_lt_of_le (by have := World.block_lt_of_cell? _ _ ae; first | rwa [add_block] at this | exact this) aV.out); have aj : aT.block ≠ ab := Nat.ne_of_lt (Nat.lt_of_lt_of_le (by have := World.block_lt_of_cell? _ _ ae; first | rwa [add_block] at this | exact this) aV.out); have ak : aT.block ≠ ab := Nat.ne_of_lt (Nat.lt_of_lt_of_le (by have := World.block_lt_of_cell? _ _ ae; first | rwa [add_block] at this | exact this) aV.out); have al : aT.block ≠ ab := Nat.ne_of_lt (Nat.lt_of_lt_of_le (by have := World.block_lt_of_cell? _ _ ae; first | rwa [add_block] at this | exact this) aV.out); replace ae := (HB.out.cell (World.block_lt_of_cell? w _ ae)).trans ae; replace am := (HB.out.cell (World.block_lt_of_cell? w _ am)).trans am; replace an := (HB.out.cell (World.block_lt_of_cell? w _ an)).trans an; replace ao := (HB.out.cell (World.block_lt_of_cell? w _ ao)).trans ao; replace ae := (cell_far (p := ⟨ab, 0, none⟩) (by first | (rw [add_block]; exact ai) | (show (Addr.add _ _).block ≠ _; rw [add_block]; exact ai) | exact ai) (.int .i64 ((rd_T101 l1 aa).f0))).trans ae; replace am := (cell_far (p := ⟨ab, 0, none⟩) (by first | (rw [add_block]; exact ai) | (show (Addr.add _ _).block ≠ _; rw [add_block]; exact ai) | exact ai) (.int .i64 ((rd_T101 l1 aa).f0))).trans am; replace an := (cell_far (p := ⟨ab, 0, none⟩) (by first | (rw [add_block]; exact ai) | (show (Addr.add _ _).block ≠ _; rw [add_block]; exact ai) | exact ai) (.int .i64 ((rd_T101 l1 aa).f0))).trans an; replace ao := (cell_far (p := ⟨ab, 0, none⟩) (by first | (rw [add_block]; exact ai) | (show (Addr.add _ _).block ≠ _; rw [add_block]; exact ai) | exact ai) (.int .i64 ((rd_T101 l1 aa).f0))).trans ao; replace ae := (cell_far (p := ⟨ab, 1, none⟩) (by first | (rw [add_block]; exact aj) | (show (Addr.add _ _).block ≠ _; rw [add_block]; exact aj) | exact aj) (.int .i64 ((rd_T101 l1 aa).f1))).trans ae; replace am := (cell_far (p := ⟨ab, 1, none⟩) (by first | (rw [add_block]; exact aj) | (show (Addr.add _ _).block ≠ _; rw [add_block]; exact aj) | exact aj) (.int .i64 ((rd_T101 l1 aa).f1))).trans am; replace an := (cell_far (p := ⟨ab, 1, none⟩) (by first | (rw [add_block]; exact aj) | (show (Addr.add _ _).block ≠ _; rw [add_block]; exact aj) | exact aj) (.int .i64 ((rd_T101 l1 aa).f1))).trans an; replace ao := (cell_far (p := ⟨ab, 1, none⟩) (by first | (rw [add_block]; exact aj) | (show (Addr.add _ _).block ≠ _; rw [add_block]; exact aj) | exact aj) (.int .i64 ((rd_T101 l1 aa).f1))).trans ao; replace ae := (cell_far (p := ⟨ab, 2, none⟩) (by first | (rw [add_block]; exact ak) | (show (Addr.add _ _).block ≠ _; rw [add_block]; exact ak) | exact ak) (.int .i64 ((rd_T101 l1 aa).f2))).trans ae; replace am := (cell_far (p := ⟨ab, 2, none⟩) (by first | (rw [add_block]; exact ak) | (show (Addr.add _ _).block ≠ _; rw [add_block]; exact ak) | exact ak) (.int .i64 ((rd_T101 l1 aa).f2))).trans am; replace an := (cell_far (p := ⟨ab, 2, none⟩) (by first | (rw [add_block]; exact ak) | (show (Addr.add _ _).block ≠ _; rw [add_block]; exact ak) | exact ak) (.int .i64 ((rd_T101 l1 aa).f2))).trans an; replace ao := (cell_far (p := ⟨ab, 2, none⟩) (by first | (rw [add_block]; exact ak) | (show (Addr.add _ _).block ≠ _; rw [add_block]; exact ak) | exact ak) (.int .i64 ((rd_T101 l1 aa).f2))).trans ao; replace ae := (cell_far (p := ⟨ab, 3, none⟩) (by first | (rw [add_block]; exact al) | (show (Addr.add _ _).block ≠ _; rw [add_block]; exact al) | exact al) (.int .i64 ((rd_T101 l1 aa).f3))).trans ae; replace am := (cell_far (p := ⟨ab, 3, none⟩) (by first | (rw [add_block]; exact al) | (show (Addr.add _ _).block ≠ _; rw [add_block]; exact al) | exact al) (.int .i64 ((rd_T101 l1 aa).f3))).trans am; replace an := (cell_far (p := ⟨ab, 3, none⟩) (by first | (rw [add_block]; exact al) | (show (Addr.add _ _).block ≠ _; rw [add_block]; exact al) | exact al) (.int .i64 ((rd_T101 l1 aa).f3))).trans an; replace ao := (cell_far (p := ⟨ab, 3, none⟩) (by first | (rw [add_block]; exact al) | (show (Addr.add _ _).block ≠ _; rw [add_block]; exact al) | exact al) (.int .i64 ((rd_T101 l1 aa).f3))).trans ao; (try have hy159_0 := fun (n_ : Nat) => (show ((((((w10.drewN n_).setCell ⟨ab, 0, none⟩ (.int .i64 ((rd_T101 l1 aa).f0))).setCell ⟨ab, 1, none⟩ (.int .i64 ((rd_T101 l1 aa).f1))).setCell ⟨ab, 2, none⟩ (.int .i64 ((rd_T101 l1 aa).f2))).setCell ⟨ab, 3, none⟩ (.int .i64 ((rd_T101 l1 aa).f3)))).cell? _ = some _ from ae)); (try have hy159_1 := fun (n_ : Nat) => (show ((((((w10.drewN n_).setCell ⟨ab, 0, none⟩ (.int .i64 ((rd_T101 l1 aa).f0))).setCell ⟨ab, 1, none⟩ (.int .i64 ((rd_T101 l1 aa).f1))).setCell ⟨ab, 2, none⟩ (.int .i64 ((rd_T101 l1 aa).f2))).setCell ⟨ab, 3, none⟩ (.int .i64 ((rd_T101 l1 aa).f3)))).cell? _ = some _ from am)); (try have hy159_2 := fun (n_ : Nat) => (show ((((((w10.drewN n_).setCell ⟨ab, 0, none⟩ (.int .i64 ((rd_T101 l1 aa).f0))).setCell ⟨ab, 1, none⟩ (.int .i64 ((rd_T101 l1 aa).f1))).setCell ⟨ab, 2, none⟩ (.int .i64 ((rd_T101 l1 aa).f2))).setCell ⟨ab, 3, none⟩ (.int .i64 ((rd_T101 l1 aa).f3)))).cell? _ = some _ from an)); (try have hy159_3 := fun (n_ : Nat) => (show ((((((w10.drewN n_).setCell ⟨ab, 0, none⟩ (.int .i64 ((rd_T101 l1 aa).f0))).setCell ⟨ab, 1, none⟩ (.int .i64 ((rd_T101 l1 aa).f1))).setCell ⟨ab, 2, none⟩ (.int .i64 ((rd_T101 l1 aa).f2))).setCell ⟨ab, 3, none⟩ (.int .i64 ((rd_T101 l1 aa).f3)))).cell? _ = some _ from ao)); clear ai; clear aj; clear ak; clear al; replace bQ := eq_true bQ; replace bR := eq_true bR; have cg : 0 ≤ (aa : Int) := of_decide_eq_true (by with_reducible assumption); have ck : aa < (l0.length : Int) := of_decide_eq_true (by with_reducible assumption); obtain ⟨dd, e160, ap, ax, ay, az⟩ := at_T101 HR0.out aa cg ck; obtain rfl : aT = dd := (by injection e160); have ar : aT.block ≠ ab := Nat.ne_of_lt (Nat.lt_of_lt_of_le (by have := World.block_lt_of_cell? _ _ ap; first | rwa [add_block] at this | exact this) aV.out); have au : aT.block ≠ ab := Nat.ne_of_lt (Nat.lt_of_lt_of_le (by have := World.block_lt_of_cell? _ _ ap; first | rwa [add_block] at this | exact this) aV.out); have av : aT.block ≠ ab := Nat.ne_of_lt (Nat.lt_of_lt_of_le (by have := World.block_lt_of_cell? _ _ ap; first | rwa [add_block] at this | exact this) aV.out); have aw : aT.block ≠ ab := Nat.ne_of_lt (Nat.lt_of_lt_of_le (by have := World.block_lt_of_cell? _ _ ap; first | rwa [add_block] at this | exact this) aV.out); replace ap := (HB.out.cell (World.block_lt_of_cell? w _ ap)).trans ap; replace ax := (HB.out.cell (World.block_lt_of_cell? w _ ax)).trans ax; replace ay := (HB.out.cell (World.block_lt_of_cell? w _ ay)).trans ay; replace az := (HB.out.cell (World.block_lt_of_cell? w _ az)).trans az; replace ap := (cell_far (p := ⟨ab, 0, none⟩) (by first | (rw [add_block]; exact ar) | (show (Addr.add _ _).block ≠ _; rw [add_block]; exact ar) | exact ar) (.int .i64 ((rd_T101 l1 aa).f0))).trans ap; replace ax := (cell_far (p := ⟨ab, 0, none⟩) (by first | (rw [add_block]; exact ar) | (show (Addr.add _ _).block ≠ _; rw [add_block]; exact ar) | exact ar) (.int .i64 ((rd_T101 l1 aa).f0))).trans ax; replace ay := (cell_far (p := ⟨ab, 0, none⟩) (by first | (rw [add_block]; exact ar) | (show (Addr.add _ _).block ≠ _; rw [add_block]; exact ar) | exact ar) (.int .i64 ((rd_T101 l1 aa).f0))).trans ay; replace az := (cell_far (p := ⟨ab, 0, none⟩) (by first | (rw [add_block]; exact ar) | (show (Addr.add _ _).block ≠ _; rw [add_block]; exact ar) | exact ar) (.int .i64 ((rd_T101 l1 aa).f0))).trans az; replace ap := (cell_far (p := ⟨ab, 1, none⟩) (by first | (rw [add_block]; exact au) | (show (Addr.add _ _).block ≠ _; rw [add_block]; exact au) | exact au) (.int .i64 ((rd_T101 l1 aa).f1))).trans ap; replace ax := (cell_far (p := ⟨ab, 1, none⟩) (by first | (rw [add_block]; exact au) | (show (Addr.add _ _).block ≠ _; rw [add_block]; exact au) | exact au) (.int .i64 ((rd_T101 l1 aa).f1))).trans ax; replace ay := (cell_far (p := ⟨ab, 1, none⟩) (by first | (rw [add_block]; exact au) | (show (Addr.add _ _).block ≠ _; rw [add_block]; exact au) | exact au) (.int .i64 ((rd_T101 l1 aa).f1))).trans ay; replace az := (cell_far (p := ⟨ab, 1, none⟩) (by first | (rw [add_block]; exact au) | (show (Addr.add _ _).block ≠ _; rw [add_block]; exact au) | exact au) (.int .i64 ((rd_T101 l1 aa).f1))).trans az; replace ap := (cell_far (p := ⟨ab, 2, none⟩) (by first | (rw [add_block]; exact av) | (show (Addr.add _ _).block ≠ _; rw [add_block]; exact av) | exact av) (.int .i64 ((rd_T101 l1 aa).f2))).trans ap; replace ax := (cell_far (p := ⟨ab, 2, none⟩) (by first | (rw [add_block]; exact av) | (show (Addr.add _ _).block ≠ _; rw [add_block]; exact av) | exact av) (.int .i64 ((rd_T101 l1 aa).f2))).trans ax; replace ay := (cell_far (p := ⟨ab, 2, none⟩) (by first | (rw [add_block]; exact av) | (show (Addr.add _ _).block ≠ _; rw [add_block]; exact av) | exact av) (.int .i64 ((rd_T101 l1 aa).f2))).trans ay; replace az := (cell_far (p := ⟨ab, 2, none⟩) (by first | (rw [add_block]; exact av) | (show (Addr.add _ _).block ≠ _; rw [add_block]; exact av) | exact av) (.int .i64 ((rd_T101 l1 aa).f2))).trans az; replace ap := (cell_far (p := ⟨ab, 3, none⟩) (by first | (rw [add_block]; exact aw) | (show (Addr.add _ _).block ≠ _; rw [add_block]; exact aw) | exact aw) (.int .i64 ((rd_T101 l1 aa).f3))).trans ap; replace ax := (cell_far (p := ⟨ab, 3, none⟩) (by first | (rw [add_block]; exact aw) | (show (Addr.add _ _).block ≠ _; rw [add_block]; exact aw) | exact aw) (.int .i64 ((rd_T101 l1 aa).f3))).trans ax; replace ay := (cell_far (p := ⟨ab, 3, none⟩) (by first | (rw [add_block]; exact aw) | (show (Addr.add _ _).block ≠ _; rw [add_block]; exact aw) | exact aw) (.int .i64 ((rd_T101 l1 aa).f3))).trans ay; replace az := (cell_far (p := ⟨ab, 3, none⟩) (by first | (rw [add_block]; exact aw) | (show (Addr.add _ _).block ≠ _; rw [add_block]; exact aw) | exact aw) (.int .i64 ((rd_T101 l1 aa).f3))).trans az; (try have hy160_0 := fun (n_ : Nat) => (show ((((((w10.drewN n_).setCell ⟨ab, 0, none⟩ (.int .i64 ((rd_T101 l1 aa).f0))).setCell ⟨ab, 1, none⟩ (.int .i64 ((rd_T101 l1 aa).f1))).setCell ⟨ab, 2, none⟩ (.int .i64 ((rd_T101 l1 aa).f2))).setCell ⟨ab, 3, none⟩ (.int .i64 ((rd_T101 l1 aa).f3)))).cell? _ = some _ from ap)); (try have hy160_1 := fun (n_ : Nat) => (show ((((((w10.drewN n_).setCell ⟨ab, 0, none⟩ (.int .i64 ((rd_T101 l1 aa).f0))).setCell ⟨ab, 1, none⟩ (.int .i64 ((rd_T101 l1 aa).f1))).setCell ⟨ab, 2, none⟩ (.int .i64 ((rd_T101 l1 aa).f2))).setCell ⟨ab, 3, none⟩ (.int .i64 ((rd_T101 l1 aa).f3)))).cell? _ = some _ from ax)); (try have hy160_2 := fun (n_ : Nat) => (show ((((((w10.drewN n_).setCell ⟨ab, 0, none⟩ (.int .i64 ((rd_T101 l1 aa).f0))).setCell ⟨ab, 1, none⟩ (.int .i64 ((rd_T101 l1 aa).f1))).setCell ⟨ab, 2, none⟩ (.int .i64 ((rd_T101 l1 aa).f2))).setCell ⟨ab, 3, none⟩ (.int .i64 ((rd_T101 l1 aa).f3)))).cell? _ = some _ from ay)); (try have hy160_3 := fun (n_ : Nat) => (show ((((((w10.drewN n_).setCell ⟨ab, 0, none⟩ (.int .i64 ((rd_T101 l1 aa).f0))).setCell ⟨ab, 1, none⟩ (.int .i64 ((rd_T101 l1 aa).f1))).setCell ⟨ab, 2, none⟩ (.int .i64 ((rd_T101 l1 aa).f2))).setCell ⟨ab, 3, none⟩ (.int .i64 ((rd_T101 l1 aa).f3)))).cell? _ = some _ from az)); clear ar; clear au; clear av; clear aw; replace cg := eq_true cg; replace ck := eq_true ck))
          repeat (go_quiet (fail); try go_wp2_with (fail))
          go_roundg k1
          case measure => have := HK1.out; omega
          case rel => exact ⟨(wrap64 (aa + 1)), (by first | rfl | (simp; done) | (simp [*]; done)), H', ⟨by have := HK1.out; omega⟩, ⟨by repeat (first | (with_reducible first | exact HB.out | apply Ae | apply Ac | apply Ah | refine Ag ?_ b9.out) | exact HB.out)⟩⟩
         ·rw [if_neg c9] at H
          have fR : (((rd_T101 l0 aa).f2) == ((rd_T101 l1 aa).f2)) = false := beq_eq_false_iff_ne.mpr c9
          have fS : (((rd_T101 l0 aa).f2) != ((rd_T101 l1 aa).f2)) = true := bne_iff_ne.mpr c9
          obtain rfl := Option.some.inj H
          have bO : 0 ≤ (aa : Int) := of_decide_eq_true (by with_reducible assumption)
          have bP : aa < (l1.length : Int) := of_decide_eq_true (by with_reducible assumption)
          obtain ⟨du, e157, bd, be, bf, bg⟩ := at_T101 HR1.out aa bO bP
          cases e157
          replace bd := (HB.out.cell (World.block_lt_of_cell? w _ bd)).trans bd
          replace be := (HB.out.cell (World.block_lt_of_cell? w _ be)).trans be
          replace bf := (HB.out.cell (World.block_lt_of_cell? w _ bf)).trans bf
          replace bg := (HB.out.cell (World.block_lt_of_cell? w _ bg)).trans bg
          replace bO := eq_true bO
          replace bP := eq_true bP
          go_wp2_with (((with_reducible refine Bq (N := 6) rfl ?_); refine Bt ?hg (N := 6) ?hd (cs := #[.int .i64 0, .int .i64 0, .int .i64 0, .int .i64 0]) (t := 101) ?hr ?_; (case hd => rfl); (case hg => rfl); (case hr => first | (go_simp; done) | (go_simp; rfl)); intro ab hg w12 hbox hb; have n0_ := Aa.mk (Au (lU HB.out) hb); have n1_ := Aa.mk (hbox); have n2_ := Aa.mk ((by rw [hg]; exact (An (lU HB.out)) : w.heap.size ≤ ab)); have n3_ := Aa.mk ((by rw [hg]; exact (An (lU HB.out)) : w.heap.size ≤ ab)); clear HB; have HB := n0_; have aJ := n1_; have aV := n2_; have b9 := n3_; clear n0_ n1_ n2_ n3_; clear hb hbox hg; have fm : w12.cell? ⟨ab, 0, none⟩ = some (.int .i64 0) := (Ad aJ.out 0).trans rfl; have fo : w12.cell? ⟨ab, 1, none⟩ = some (.int .i64 0) := (Ad aJ.out 1).trans rfl; have fp : w12.cell? ⟨ab, 2, none⟩ = some (.int .i64 0) := (Ad aJ.out 2).trans rfl; have fq : w12.cell? ⟨ab, 3, none⟩ = some (.int .i64 0) := (Ad aJ.out 3).trans rfl; have ft := Af aJ.out 0; have fu := Af aJ.out 1; have fw := Af aJ.out 2; have fx := Af aJ.out 3; have bQ : 0 ≤ (aa : Int) := of_decide_eq_true (by with_reducible assumption); have bR : aa < (l0.length : Int) := of_decide_eq_true (by with_reducible assumption); obtain ⟨aT, e159, ae, am, an, ao⟩ := at_T101 HR0.out aa bQ bR; cases e159; have ai : aT.block ≠ ab := Nat.ne_of_lt (Nat.lt_of_lt_of_le (by have := World.block_lt_of_cell? _ _ ae; first | rwa [add_block] at this | exact this) aV.out); have aj : aT.block ≠ ab := Nat.ne_of_lt (Nat.lt_of_lt_of_le (by have := World.block_lt_of_cell? _ _ ae; first | rwa [add_block] at this | exact this) aV.out); have ak : aT.block ≠ ab := Nat.ne_of_lt (Nat.lt_of_lt_of_le (by have := World.block_lt_of_cell? _ _ ae; first | rwa [add_block] at this | exact this) aV.out); have al : aT.block ≠ ab := Nat.ne_of_lt (Nat.lt_of_lt_of_le (by have := World.block_lt_of_cell? _ _ ae; first | rwa [add_block] at this | exact this) aV.out); replace ae := (HB.out.cell (World.block_lt_of_cell? w _ ae)).trans ae; replace am := (HB.out.cell (World.block_lt_of_cell? w _ am)).trans am; replace an := (HB.out.cell (World.block_lt_of_cell? w _ an)).trans an; replace ao := (HB.out.cell (World.block_lt_of_cell? w _ ao)).trans ao; replace ae := (cell_far (p := ⟨ab, 0, none⟩) (by first | (rw [add_block]; exact ai) | (show (Addr.add _ _).block ≠ _; rw [add_block]; exact ai) | exact ai) (.int .i64 ((rd_T101 l1 aa).f0))).trans ae; replace am := (cell_far (p := ⟨ab, 0, none⟩) (by first | (rw [add_block]; exact ai) | (show (Addr.add _ _).block ≠ _; rw [add_block]; exact ai) | exact ai) (.int .i64 ((rd_T101 l1 aa).f0))).trans am; replace an := (cell_far (p := ⟨ab, 0, none⟩) (by first | (rw [add_block]; exact ai) | (show (Addr.add _ _).block ≠ _; rw [add_block]; exact ai) | exact ai) (.int .i64 ((rd_T101 l1 aa).f0))).trans an; replace ao := (cell_far (p := ⟨ab, 0, none⟩) (by first | (rw [add_block]; exact ai) | (show (Addr.add _ _).block ≠ _; rw [add_block]; exact ai) | exact ai) (.int .i64 ((rd_T101 l1 aa).f0))).trans ao; replace ae := (cell_far (p := ⟨ab, 1, none⟩) (by first | (rw [add_block]; exact aj) | (show (Addr.add _ _).block ≠ _; rw [add_block]; exact aj) | exact aj) (.int .i64 ((rd_T101 l1 aa).f1))).trans ae; replace am := (cell_far (p := ⟨ab, 1, none⟩) (by first | (rw [add_block]; exact aj) | (show (Addr.add _ _).block ≠ _; rw [add_block]; exact aj) | exact aj) (.int .i64 ((rd_T101 l1 aa).f1))).trans am; replace an := (cell_far (p := ⟨ab, 1, none⟩) (by first | (rw [add_block]; exact aj) | (show (Addr.add _ _).block ≠ _; rw [add_block]; exact aj) | exact aj) (.int .i64 ((rd_T101 l1 aa).f1))).trans an; replace ao := (cell_far (p := ⟨ab, 1, none⟩) (by first | (rw [add_block]; exact aj) | (show (Addr.add _ _).block ≠ _; rw [add_block]; exact aj) | exact aj) (.int .i64 ((rd_T101 l1 aa).f1))).trans ao; replace ae := (cell_far (p := ⟨ab, 2, none⟩) (by first | (rw [add_block]; exact ak) | (show (Addr.add _ _).block ≠ _; rw [add_block]; exact ak) | exact ak) (.int .i64 ((rd_T101 l1 aa).f2))).trans ae; replace am := (cell_far (p := ⟨ab, 2, none⟩) (by first | (rw [add_block]; exact ak) | (show (Addr.add _ _).block ≠ _; rw [add_block]; exact ak) | exact ak) (.int .i64 ((rd_T101 l1 aa).f2))).trans am; replace an := (cell_far (p := ⟨ab, 2, none⟩) (by first | (rw [add_block]; exact ak) | (show (Addr.add _ _).block ≠ _; rw [add_block]; exact ak) | exact ak) (.int .i64 ((rd_T101 l1 aa).f2))).trans an; replace ao := (cell_far (p := ⟨ab, 2, none⟩) (by first | (rw [add_block]; exact ak) | (show (Addr.add _ _).block ≠ _; rw [add_block]; exact ak) | exact ak) (.int .i64 ((rd_T101 l1 aa).f2))).trans ao; replace ae := (cell_far (p := ⟨ab, 3, none⟩) (by first | (rw [add_block]; exact al) | (show (Addr.add _ _).block ≠ _; rw [add_block]; exact al) | exact al) (.int .i64 ((rd_T101 l1 aa).f3))).trans ae; replace am := (cell_far (p := ⟨ab, 3, none⟩) (by first | (rw [add_block]; exact al) | (show (Addr.add _ _).block ≠ _; rw [add_block]; exact al) | exact al) (.int .i64 ((rd_T101 l1 aa).f3))).trans am; replace an := (cell_far (p := ⟨ab, 3, none⟩) (by first | (rw [add_block]; exact al) | (show (Addr.add _ _).block ≠ _; rw [add_block]; exact al) | exact al) (.int .i64 ((rd_T101 l1 aa).f3))).trans an; replace ao := (cell_far (p := ⟨ab, 3, none⟩) (by first | (rw [add_block]; exact al) | (show (Addr.add _ _).block ≠ _; rw [add_block]; exact al) | exact al) (.int .i64 ((rd_T101 l1 aa).f3))).trans ao; (try have hy159_0 := fun (n_ : Nat) => (show ((((((w12.drewN n_).setCell ⟨ab, 0, none⟩ (.int .i64 ((rd_T101 l1 aa).f0))).setCell ⟨ab, 1, none⟩ (.int .i64 ((rd_T101 l1 aa).f1))).setCell ⟨ab, 2, none⟩ (.int .i64 ((rd_T101 l1 aa).f2))).setCell ⟨ab, 3, none⟩ (.int .i64 ((rd_T101 l1 aa).f3)))).cell? _ = some _ from ae)); (try have hy159_1 := fun (n_ : Nat) => (show ((((((w12.drewN n_).setCell ⟨ab, 0, none⟩ (.int .i64 ((rd_T101 l1 aa).f0))).setCell ⟨ab, 1, none⟩ (.int .i64 ((rd_T101 l1 aa).f1))).setCell ⟨ab, 2, none⟩ (.int .i64 ((rd_T101 l1 aa).f2))).setCell ⟨ab, 3, none⟩ (.int .i64 ((rd_T101 l1 aa).f3)))).cell? _ = some _ from am)); (try have hy159_2 := fun (n_ : Nat) => (show ((((((w12.drewN n_).setCell ⟨ab, 0, none⟩ (.int .i64 ((rd_T101 l1 aa).f0))).setCell ⟨ab, 1, none⟩ (.int .i64 ((rd_T101 l1 aa).f1))).setCell ⟨ab, 2, none⟩ (.int .i64 ((rd_T101 l1 aa).f2))).setCell ⟨ab, 3, none⟩ (.int .i64 ((rd_T101 l1 aa).f3)))).cell? _ = some _ from an)); (try have hy159_3 := fun (n_ : Nat) => (show ((((((w12.drewN n_).setCell ⟨ab, 0, none⟩ (.int .i64 ((rd_T101 l1 aa).f0))).setCell ⟨ab, 1, none⟩ (.int .i64 ((rd_T101 l1 aa).f1))).setCell ⟨ab, 2, none⟩ (.int .i64 ((rd_T101 l1 aa).f2))).setCell ⟨ab, 3, none⟩ (.int .i64 ((rd_T101 l1 aa).f3)))).cell? _ = some _ from ao)); clear ai; clear aj; clear ak; clear al; replace bQ := eq_true bQ; replace bR := eq_true bR; have cg : 0 ≤ (aa : Int) := of_decide_eq_true (by with_reducible assumption); have ck : aa < (l0.length : Int) := of_decide_eq_true (by with_reducible assumption); obtain ⟨dd, e160, ap, ax, ay, az⟩ := at_T101 HR0.out aa cg ck; obtain rfl : aT = dd := (by injection e160); have ar : aT.block ≠ ab := Nat.ne_of_lt (Nat.lt_of_lt_of_le (by have := World.block_lt_of_cell? _ _ ap; first | rwa [add_block] at this | exact this) aV.out); have au : aT.block ≠ ab := Nat.ne_of_lt (Nat.lt_of_lt_of_le (by have := World.block_lt_of_cell? _ _ ap; first | rwa [add_block] at this | exact this) aV.out); have av : aT.block ≠ ab := Nat.ne_of_lt (Nat.lt_of_lt_of_le (by have := World.block_lt_of_cell? _ _ ap; first | rwa [add_block] at this | exact this) aV.out); have aw : aT.block ≠ ab := Nat.ne_of_lt (Nat.lt_of_lt_of_le (by have := World.block_lt_of_cell? _ _ ap; first | rwa [add_block] at this | exact this) aV.out); replace ap := (HB.out.cell (World.block_lt_of_cell? w _ ap)).trans ap; replace ax := (HB.out.cell (World.block_lt_of_cell? w _ ax)).trans ax; replace ay := (HB.out.cell (World.block_lt_of_cell? w _ ay)).trans ay; replace az := (HB.out.cell (World.block_lt_of_cell? w _ az)).trans az; replace ap := (cell_far (p := ⟨ab, 0, none⟩) (by first | (rw [add_block]; exact ar) | (show (Addr.add _ _).block ≠ _; rw [add_block]; exact ar) | exact ar) (.int .i64 ((rd_T101 l1 aa).f0))).trans ap; replace ax := (cell_far (p := ⟨ab, 0, none⟩) (by first | (rw [add_block]; exact ar) | (show (Addr.add _ _).block ≠ _; rw [add_block]; exact ar) | exact ar) (.int .i64 ((rd_T101 l1 aa).f0))).trans ax; replace ay := (cell_far (p := ⟨ab, 0, none⟩) (by first | (rw [add_block]; exact ar) | (show (Addr.add _ _).block ≠ _; rw [add_block]; exact ar) | exact ar) (.int .i64 ((rd_T101 l1 aa).f0))).trans ay; replace az := (cell_far (p := ⟨ab, 0, none⟩) (by first | (rw [add_block]; exact ar) | (show (Addr.add _ _).block ≠ _; rw [add_block]; exact ar) | exact ar) (.int .i64 ((rd_T101 l1 aa).f0))).trans az; replace ap := (cell_far (p := ⟨ab, 1, none⟩) (by first | (rw [add_block]; exact au) | (show (Addr.add _ _).block ≠ _; rw [add_block]; exact au) | exact au) (.int .i64 ((rd_T101 l1 aa).f1))).trans ap; replace ax := (cell_far (p := ⟨ab, 1, none⟩) (by first | (rw [add_block]; exact au) | (show (Addr.add _ _).block ≠ _; rw [add_block]; exact au) | exact au) (.int .i64 ((rd_T101 l1 aa).f1))).trans ax; replace ay := (cell_far (p := ⟨ab, 1, none⟩) (by first | (rw [add_block]; exact au) | (show (Addr.add _ _).block ≠ _; rw [add_block]; exact au) | exact au) (.int .i64 ((rd_T101 l1 aa).f1))).trans ay; replace az := (cell_far (p := ⟨ab, 1, none⟩) (by first | (rw [add_block]; exact au) | (show (Addr.add _ _).block ≠ _; rw [add_block]; exact au) | exact au) (.int .i64 ((rd_T101 l1 aa).f1))).trans az; replace ap := (cell_far (p := ⟨ab, 2, none⟩) (by first | (rw [add_block]; exact av) | (show (Addr.add _ _).block ≠ _; rw [add_block]; exact av) | exact av) (.int .i64 ((rd_T101 l1 aa).f2))).trans ap; replace ax := (cell_far (p := ⟨ab, 2, none⟩) (by first | (rw [add_block]; exact av) | (show (Addr.add _ _).block ≠ _; rw [add_block]; exact av) | exact av) (.int .i64 ((rd_T101 l1 aa).f2))).trans ax; replace ay := (cell_far (p := ⟨ab, 2, none⟩) (by first | (rw [add_block]; exact av) | (show (Addr.add _ _).block ≠ _; rw [add_block]; exact av) | exact av) (.int .i64 ((rd_T101 l1 aa).f2))).trans ay; replace az := (cell_far (p := ⟨ab, 2, none⟩) (by first | (rw [add_block]; exact av) | (show (Addr.add _ _).block ≠ _; rw [add_block]; exact av) | exact av) (.int .i64 ((rd_T101 l1 aa).f2))).trans az; replace ap := (cell_far (p := ⟨ab, 3, none⟩) (by first | (rw [add_block]; exact aw) | (show (Addr.add _ _).block ≠ _; rw [add_block]; exact aw) | exact aw) (.int .i64 ((rd_T101 l1 aa).f3))).trans ap; replace ax := (cell_far (p := ⟨ab, 3, none⟩) (by first | (rw [add_block]; exact aw) | (show (Addr.add _ _).block ≠ _; rw [add_block]; exact aw) | exact aw) (.int .i64 ((rd_T101 l1 aa).f3))).trans ax; replace ay := (cell_far (p := ⟨ab, 3, none⟩) (by first | (rw [add_block]; exact aw) | (show (Addr.add _ _).block ≠ _; rw [add_block]; exact aw) | exact aw) (.int .i64 ((rd_T101 l1 aa).f3))).trans ay; replace az := (cell_far (p := ⟨ab, 3, none⟩) (by first | (rw [add_block]; exact aw) | (show (Addr.add _ _).block ≠ _; rw [add_block]; exact aw) | exact aw) (.int .i64 ((rd_T101 l1 aa).f3))).trans az; (try have hy160_0 := fun (n_ : Nat) => (show ((((((w12.drewN n_).setCell ⟨ab, 0, none⟩ (.int .i64 ((rd_T101 l1 aa).f0))).setCell ⟨ab, 1, none⟩ (.int .i64 ((rd_T101 l1 aa).f1))).setCell ⟨ab, 2, none⟩ (.int .i64 ((rd_T101 l1 aa).f2))).setCell ⟨ab, 3, none⟩ (.int .i64 ((rd_T101 l1 aa).f3)))).cell? _ = some _ from ap)); (try have hy160_1 := fun (n_ : Nat) => (show ((((((w12.drewN n_).setCell ⟨ab, 0, none⟩ (.int .i64 ((rd_T101 l1 aa).f0))).setCell ⟨ab, 1, none⟩ (.int .i64 ((rd_T101 l1 aa).f1))).setCell ⟨ab, 2, none⟩ (.int .i64 ((rd_T101 l1 aa).f2))).setCell ⟨ab, 3, none⟩ (.int .i64 ((rd_T101 l1 aa).f3)))).cell? _ = some _ from ax)); (try have hy160_2 := fun (n_ : Nat) => (show ((((((w12.drewN n_).setCell ⟨ab, 0, none⟩ (.int .i64 ((rd_T101 l1 aa).f0))).setCell ⟨ab, 1, none⟩ (.int .i64 ((rd_T101 l1 aa).f1))).setCell ⟨ab, 2, none⟩ (.int .i64 ((rd_T101 l1 aa).f2))).setCell ⟨ab, 3, none⟩ (.int .i64 ((rd_T101 l1 aa).f3)))).cell? _ = some _ from ay)); (try have hy160_3 := fun (n_ : Nat) => (show ((((((w12.drewN n_).setCell ⟨ab, 0, none⟩ (.int .i64 ((rd_T101 l1 aa).f0))).setCell ⟨ab, 1, none⟩ (.int .i64 ((rd_T101 l1 aa).f1))).setCell ⟨ab, 2, none⟩ (.int .i64 ((rd_T101 l1 aa).f2))).setCell ⟨ab, 3, none⟩ (.int .i64 ((rd_T101 l1 aa).f3)))).cell? _ = some _ from az)); clear ar; clear au; clear av; clear aw; replace cg := eq_true cg; replace ck := eq_true ck))
          repeat (go_quiet (fail); try go_wp2_with (fail))
          go_ret
          exact ⟨by first | rfl | (simp [Be, Bd] <;> rfl) | (simp [*, Be, Bd] <;> rfl), by repeat (first | (with_reducible first | exact HB.out | apply Ae | apply Ac | apply Ah | refine Ag ?_ b9.out) | exact HB.out)⟩
        ·rw [if_neg c8] at H
         have fP : (((rd_T101 l0 aa).f0) == ((rd_T101 l1 aa).f0)) = false := beq_eq_false_iff_ne.mpr c8
         have fQ : (((rd_T101 l0 aa).f0) != ((rd_T101 l1 aa).f0)) = true := bne_iff_ne.mpr c8
         obtain rfl := Option.some.inj H
         have bO : 0 ≤ (aa : Int) := of_decide_eq_true (by with_reducible assumption)
         have bP : aa < (l1.length : Int) := of_decide_eq_true (by with_reducible assumption)
         obtain ⟨du, e157, bd, be, bf, bg⟩ := at_T101 HR1.out aa bO bP
         cases e157
         replace bd := (HB.out.cell (World.block_lt_of_cell? w _ bd)).trans bd
         replace be := (HB.out.cell (World.block_lt_of_cell? w _ be)).trans be
         replace bf := (HB.out.cell (World.block_lt_of_cell? w _ bf)).trans bf
         replace bg := (HB.out.cell (World.block_lt_of_cell? w _ bg)).trans bg
         replace bO := eq_true bO
         replace bP := eq_true bP
         go_wp2_with (((with_reducible refine Bq (N := 6) rfl ?_); refine Bt ?hg (N := 6) ?hd (cs := #[.int .i64 0, .int .i64 0, .int .i64 0, .int .i64 0]) (t := 101) ?hr ?_; (case hd => rfl); (case hg => rfl); (case hr => first | (go_simp; done) | (go_simp; rfl)); intro ab hg w14 hbox hb; have n0_ := Aa.mk (Au (lU HB.out) hb); have n1_ := Aa.mk (hbox); have n2_ := Aa.mk ((by rw [hg]; exact (An (lU HB.out)) : w.heap.size ≤ ab)); have n3_ := Aa.mk ((by rw [hg]; exact (An (lU HB.out)) : w.heap.size ≤ ab)); clear HB; have HB := n0_; have aJ := n1_; have aV := n2_; have b9 := n3_; clear n0_ n1_ n2_ n3_; clear hb hbox hg; have fy : w14.cell? ⟨ab, 0, none⟩ = some (.int .i64 0) := (Ad aJ.out 0).trans rfl; have fz : w14.cell? ⟨ab, 1, none⟩ = some (.int .i64 0) := (Ad aJ.out 1).trans rfl; have fA : w14.cell? ⟨ab, 2, none⟩ = some (.int .i64 0) := (Ad aJ.out 2).trans rfl; have fB : w14.cell? ⟨ab, 3, none⟩ = some (.int .i64 0) := (Ad aJ.out 3).trans rfl; have fC := Af aJ.out 0; have fD := Af aJ.out 1; have fE := Af aJ.out 2; have fF := Af aJ.out 3; have bQ : 0 ≤ (aa : Int) := of_decide_eq_true (by with_reducible assumption); have bR : aa < (l0.length : Int) := of_decide_eq_true (by with_reducible assumption); obtain ⟨aT, e159, ae, am, an, ao⟩ := at_T101 HR0.out aa bQ bR; cases e159; have ai : aT.block ≠ ab := Nat.ne_of_lt (Nat.lt_of_lt_of_le (by have := World.block_lt_of_cell? _ _ ae; first | rwa [add_block] at this | exact this) aV.out); have aj : aT.block ≠ ab := Nat.ne_of_lt (Nat.lt_of_lt_of_le (by have := World.block_lt_of_cell? _ _ ae; first | rwa [add_block] at this | exact this) aV.out); have ak : aT.block ≠ ab := Nat.ne_of_lt (Nat.lt_of_lt_of_le (by have := World.block_lt_of_cell? _ _ ae; first | rwa [add_block] at this | exact this) aV.out); have al : aT.block ≠ ab := Nat.ne_of_lt (Nat.lt_of_lt_of_le (by have := World.block_lt_of_cell? _ _ ae; first | rwa [add_block] at this | exact this) aV.out); replace ae := (HB.out.cell (World.block_lt_of_cell? w _ ae)).trans ae; replace am := (HB.out.cell (World.block_lt_of_cell? w _ am)).trans am; replace an := (HB.out.cell (World.block_lt_of_cell? w _ an)).trans an; replace ao := (HB.out.cell (World.block_lt_of_cell? w _ ao)).trans ao; replace ae := (cell_far (p := ⟨ab, 0, none⟩) (by first | (rw [add_block]; exact ai) | (show (Addr.add _ _).block ≠ _; rw [add_block]; exact ai) | exact ai) (.int .i64 ((rd_T101 l1 aa).f0))).trans ae; replace am := (cell_far (p := ⟨ab, 0, none⟩) (by first | (rw [add_block]; exact ai) | (show (Addr.add _ _).block ≠ _; rw [add_block]; exact ai) | exact ai) (.int .i64 ((rd_T101 l1 aa).f0))).trans am; replace an := (cell_far (p := ⟨ab, 0, none⟩) (by first | (rw [add_block]; exact ai) | (show (Addr.add _ _).block ≠ _; rw [add_block]; exact ai) | exact ai) (.int .i64 ((rd_T101 l1 aa).f0))).trans an; replace ao := (cell_far (p := ⟨ab, 0, none⟩) (by first | (rw [add_block]; exact ai) | (show (Addr.add _ _).block ≠ _; rw [add_block]; exact ai) | exact ai) (.int .i64 ((rd_T101 l1 aa).f0))).trans ao; replace ae := (cell_far (p := ⟨ab, 1, none⟩) (by first | (rw [add_block]; exact aj) | (show (Addr.add _ _).block ≠ _; rw [add_block]; exact aj) | exact aj) (.int .i64 ((rd_T101 l1 aa).f1))).trans ae; replace am := (cell_far (p := ⟨ab, 1, none⟩) (by first | (rw [add_block]; exact aj) | (show (Addr.add _ _).block ≠ _; rw [add_block]; exact aj) | exact aj) (.int .i64 ((rd_T101 l1 aa).f1))).trans am; replace an := (cell_far (p := ⟨ab, 1, none⟩) (by first | (rw [add_block]; exact aj) | (show (Addr.add _ _).block ≠ _; rw [add_block]; exact aj) | exact aj) (.int .i64 ((rd_T101 l1 aa).f1))).trans an; replace ao := (cell_far (p := ⟨ab, 1, none⟩) (by first | (rw [add_block]; exact aj) | (show (Addr.add _ _).block ≠ _; rw [add_block]; exact aj) | exact aj) (.int .i64 ((rd_T101 l1 aa).f1))).trans ao; replace ae := (cell_far (p := ⟨ab, 2, none⟩) (by first | (rw [add_block]; exact ak) | (show (Addr.add _ _).block ≠ _; rw [add_block]; exact ak) | exact ak) (.int .i64 ((rd_T101 l1 aa).f2))).trans ae; replace am := (cell_far (p := ⟨ab, 2, none⟩) (by first | (rw [add_block]; exact ak) | (show (Addr.add _ _).block ≠ _; rw [add_block]; exact ak) | exact ak) (.int .i64 ((rd_T101 l1 aa).f2))).trans am; replace an := (cell_far (p := ⟨ab, 2, none⟩) (by first | (rw [add_block]; exact ak) | (show (Addr.add _ _).block ≠ _; rw [add_block]; exact ak) | exact ak) (.int .i64 ((rd_T101 l1 aa).f2))).trans an; replace ao := (cell_far (p := ⟨ab, 2, none⟩) (by first | (rw [add_block]; exact ak) | (show (Addr.add _ _).block ≠ _; rw [add_block]; exact ak) | exact ak) (.int .i64 ((rd_T101 l1 aa).f2))).trans ao; replace ae := (cell_far (p := ⟨ab, 3, none⟩) (by first | (rw [add_block]; exact al) | (show (Addr.add _ _).block ≠ _; rw [add_block]; exact al) | exact al) (.int .i64 ((rd_T101 l1 aa).f3))).trans ae; replace am := (cell_far (p := ⟨ab, 3, none⟩) (by first | (rw [add_block]; exact al) | (show (Addr.add _ _).block ≠ _; rw [add_block]; exact al) | exact al) (.int .i64 ((rd_T101 l1 aa).f3))).trans am; replace an := (cell_far (p := ⟨ab, 3, none⟩) (by first | (rw [add_block]; exact al) | (show (Addr.add _ _).block ≠ _; rw [add_block]; exact al) | exact al) (.int .i64 ((rd_T101 l1 aa).f3))).trans an; replace ao := (cell_far (p := ⟨ab, 3, none⟩) (by first | (rw [add_block]; exact al) | (show (Addr.add _ _).block ≠ _; rw [add_block]; exact al) | exact al) (.int .i64 ((rd_T101 l1 aa).f3))).trans ao; (try have hy159_0 := fun (n_ : Nat) => (show ((((((w14.drewN n_).setCell ⟨ab, 0, none⟩ (.int .i64 ((rd_T101 l1 aa).f0))).setCell ⟨ab, 1, none⟩ (.int .i64 ((rd_T101 l1 aa).f1))).setCell ⟨ab, 2, none⟩ (.int .i64 ((rd_T101 l1 aa).f2))).setCell ⟨ab, 3, none⟩ (.int .i64 ((rd_T101 l1 aa).f3)))).cell? _ = some _ from ae)); (try have hy159_1 := fun (n_ : Nat) => (show ((((((w14.drewN n_).setCell ⟨ab, 0, none⟩ (.int .i64 ((rd_T101 l1 aa).f0))).setCell ⟨ab, 1, none⟩ (.int .i64 ((rd_T101 l1 aa).f1))).setCell ⟨ab, 2, none⟩ (.int .i64 ((rd_T101 l1 aa).f2))).setCell ⟨ab, 3, none⟩ (.int .i64 ((rd_T101 l1 aa).f3)))).cell? _ = some _ from am)); (try have hy159_2 := fun (n_ : Nat) => (show ((((((w14.drewN n_).setCell ⟨ab, 0, none⟩ (.int .i64 ((rd_T101 l1 aa).f0))).setCell ⟨ab, 1, none⟩ (.int .i64 ((rd_T101 l1 aa).f1))).setCell ⟨ab, 2, none⟩ (.int .i64 ((rd_T101 l1 aa).f2))).setCell ⟨ab, 3, none⟩ (.int .i64 ((rd_T101 l1 aa).f3)))).cell? _ = some _ from an)); (try have hy159_3 := fun (n_ : Nat) => (show ((((((w14.drewN n_).setCell ⟨ab, 0, none⟩ (.int .i64 ((rd_T101 l1 aa).f0))).setCell ⟨ab, 1, none⟩ (.int .i64 ((rd_T101 l1 aa).f1))).setCell ⟨ab, 2, none⟩ (.int .i64 ((rd_T101 l1 aa).f2))).setCell ⟨ab, 3, none⟩ (.int .i64 ((rd_T101 l1 aa).f3)))).cell? _ = some _ from ao)); clear ai; clear aj; clear ak; clear al; replace bQ := eq_true bQ; replace bR := eq_true bR))
         repeat (go_quiet (fail); try go_wp2_with (fail))
         go_ret
         exact ⟨by first | rfl | (simp [Be, Bd] <;> rfl) | (simp [*, Be, Bd] <;> rfl), by repeat (first | (with_reducible first | exact HB.out | apply Ae | apply Ac | apply Ah | refine Ag ?_ b9.out) | exact HB.out)⟩
       ·rw [if_neg c7] at H
        exact absurd H (by simp)
      ·rw [if_neg c6] at H
       exact absurd H (by simp)
     ·rw [if_neg c5] at H
      exact absurd H (by simp)
    ·rw [if_neg c4] at H
     have fO : decide (aa < (l1.length : Int)) = false := decide_eq_false c4
     clear c4
     obtain rfl := Option.some.inj H
     go_wp2
     repeat (go_quiet (fail); try go_wp2)
     go_ret
     exact ⟨by first | rfl | (simp [Be, Bd] <;> rfl) | (simp [*, Be, Bd] <;> rfl), by repeat (first | (with_reducible first | exact HB.out | apply Ae | apply Ac | apply Ah) | exact HB.out)⟩
 ·rw [if_neg c3] at H
  have cK : ((l0.length : Int) == (l1.length : Int)) = false := beq_eq_false_iff_ne.mpr c3
  have cL : ((l0.length : Int) != (l1.length : Int)) = true := bne_iff_ne.mpr c3
  have eG : (l0.length == l1.length) = false := by first | simpa using c3 | (simp at c3 ⊢; omega)
  obtain rfl := Option.some.inj H
  go_enter Try.func97, Try.ntmps97
  go_wp2
  repeat (go_quiet (fail); try go_wp2)
  go_ret
  exact ⟨by first | rfl | (simp [Be, Bd] <;> rfl) | (simp [*, Be, Bd] <;> rfl), by repeat (first | (with_reducible first | exact HB.out | apply Ae | apply Ac | apply Ah) | exact HB.out)⟩

end Go.Proofs.Yteamphcehoaleaa.PFA

