import Derived.Test.YteamphcehoaleaaZPFAx0
namespace Go.Proofs.Yteamphcehoaleaa.PFA
open Go.RowKit Go.Proofs.YteamphcehoaleaaW.PrintWords Go.Proofs.YteamphcehoaleaaW.PrintLast Go.Proofs.YteamphcehoaleaaW.PrintMore
attribute [local go_sem] max2_int min2_int max_two min_two max_three min_three max_four min_four
set_option linter.unusedVariables false
set_option linter.unusedSimpArgs false

mutual
def Bb.l0 : Nat → List Int → Int → Int → Int → Int → List Bool → Option (List Int)
 | 0, _, _, _, _, _, _ => none
 | k + 1, x3, x13, x14, ac, ak, al => if x14 < x13 then (Bb.l1 k x3 x14 1048576 x13 x14 ak 0 ac ak al) else (some x3)
def Bb.l1 : Nat → List Int → Int → Int → Int → Int → Int → Int → Int → Int → List Bool → Option (List Int)
 | 0, _, _, _, _, _, _, _, _, _, _ => none
 | k + 1, x3, x4, x5, x13, x14, x18, x19, ac, ak, al => if x19 < x18 then (if 0 ≤ (wrap64 ((wrap64 (x19 * ac)) + x4)) then (if (wrap64 ((wrap64 (x19 * ac)) + x4)) < (al.length : Int) then (if rdOf false al (wrap64 ((wrap64 (x19 * ac)) + x4)) = true then (if (wrap64 ((wrap64 (x19 * ac)) + x4)) < (x3.length : Int) then (Bb.l1 k (x3.set ((wrap64 ((wrap64 (x19 * ac)) + x4)) : Int).toNat 0) x4 0 x13 x14 x18 (wrap64 (x19 + 1)) ac ak al) else (none)) else (if (wrap64 ((wrap64 (x19 * ac)) + x4)) < (x3.length : Int) then (Bb.l1 k (x3.set ((wrap64 ((wrap64 (x19 * ac)) + x4)) : Int).toNat (wrap64 (x5 + 1))) x4 (wrap64 (x5 + 1)) x13 x14 x18 (wrap64 (x19 + 1)) ac ak al) else (none))) else (none)) else (none)) else (Bb.l2 k x3 x4 1048576 (wrap64 (ak - 1)) x13 x14 ac ak al)
def Bb.l2 : Nat → List Int → Int → Int → Int → Int → Int → Int → Int → List Bool → Option (List Int)
 | 0, _, _, _, _, _, _, _, _, _ => none
 | k + 1, x3, x4, x5, x7, x13, x14, ac, ak, al => if x7 ≥ 0 then (if 0 ≤ (wrap64 ((wrap64 (x7 * ac)) + x4)) then (if (wrap64 ((wrap64 (x7 * ac)) + x4)) < (x3.length : Int) then (Bb.l2 k (x3.set ((wrap64 ((wrap64 (x7 * ac)) + x4)) : Int).toNat (mn (wrap64 (x5 + 1)) (rd x3 (wrap64 ((wrap64 (x7 * ac)) + x4))))) x4 (mn (wrap64 (x5 + 1)) (rd x3 (wrap64 ((wrap64 (x7 * ac)) + x4)))) (wrap64 (x7 - 1)) x13 x14 ac ak al) else (none)) else (none)) else (Bb.l0 k x3 x13 (wrap64 (x14 + 1)) ac ak al)
end
def Bb.f (k : Nat) (ae : Int) (ai : Int) (ab : List Bool) : Option (List Int) := if 0 ≤ (ab.length : Int) then (if ((ab.length : Int) : Int).toNat ≤ 35184372088832 then (Bb.l0 k (List.replicate ((ab.length : Int) : Int).toNat 0) ae 0 ae ai ab) else (none)) else (none)
theorem Bb.mono_l : ∀ k, (∀ y0 y1 y2 y3 y4 y5, LeO (Bb.l0 k y0 y1 y2 y3 y4 y5) (Bb.l0 (k + 1) y0 y1 y2 y3 y4 y5)) ∧ (∀ y0 y1 y2 y3 y4 y5 y6 y7 y8 y9, LeO (Bb.l1 k y0 y1 y2 y3 y4 y5 y6 y7 y8 y9) (Bb.l1 (k + 1) y0 y1 y2 y3 y4 y5 y6 y7 y8 y9)) ∧ (∀ y0 y1 y2 y3 y4 y5 y6 y7 y8, LeO (Bb.l2 k y0 y1 y2 y3 y4 y5 y6 y7 y8) (Bb.l2 (k + 1) y0 y1 y2 y3 y4 y5 y6 y7 y8))
 | 0 => ⟨fun _ _ _ _ _ _ r h => by simp [Bb.l0] at h, fun _ _ _ _ _ _ _ _ _ _ r h => by simp [Bb.l1] at h, fun _ _ _ _ _ _ _ _ _ r h => by simp [Bb.l2] at h⟩
 | k + 1 => by
  obtain ⟨ih0, ih1, ih2⟩ := Bb.mono_l k
  refine ⟨?_, ?_, ?_⟩
  ·intro y0 y1 y2 y3 y4 y5
   unfold Bb.l0
   repeat' first
   | (with_reducible exact ih0 _ _ _ _ _ _)
   | (with_reducible exact ih1 _ _ _ _ _ _ _ _ _ _)
   | (with_reducible exact ih2 _ _ _ _ _ _ _ _ _)
   | (with_reducible exact LeO.refl _)
   | (with_reducible exact LeO.none _)
   | (with_reducible refine LeO.ite ?_ ?_)
   | (with_reducible refine LeO.bind ?_ (fun _ => ?_))
   | exact ih0 _ _ _ _ _ _
   | exact ih1 _ _ _ _ _ _ _ _ _ _
   | exact ih2 _ _ _ _ _ _ _ _ _
   | exact LeO.none _
   | refine LeO.ite ?_ ?_
   | refine LeO.bind ?_ (fun _ => ?_)
  ·intro y0 y1 y2 y3 y4 y5 y6 y7 y8 y9
   unfold Bb.l1
   repeat' first
   | (with_reducible exact ih0 _ _ _ _ _ _)
   | (with_reducible exact ih1 _ _ _ _ _ _ _ _ _ _)
   | (with_reducible exact ih2 _ _ _ _ _ _ _ _ _)
   | (with_reducible exact LeO.refl _)
   | (with_reducible exact LeO.none _)
   | (with_reducible refine LeO.ite ?_ ?_)
   | (with_reducible refine LeO.bind ?_ (fun _ => ?_))
   | exact ih0 _ _ _ _ _ _
   | exact ih1 _ _ _ _ _ _ _ _ _ _
   | exact ih2 _ _ _ _ _ _ _ _ _
   | exact LeO.none _
   | refine LeO.ite ?_ ?_
   | refine LeO.bind ?_ (fun _ => ?_)
  ·intro y0 y1 y2 y3 y4 y5 y6 y7 y8
   unfold Bb.l2
   repeat' first
   | (with_reducible exact ih0 _ _ _ _ _ _)
   | (with_reducible exact ih1 _ _ _ _ _ _ _ _ _ _)
   | (with_reducible exact ih2 _ _ _ _ _ _ _ _ _)
   | (with_reducible exact LeO.refl _)
   | (with_reducible exact LeO.none _)
   | (with_reducible refine LeO.ite ?_ ?_)
   | (with_reducible refine LeO.bind ?_ (fun _ => ?_))
   | exact ih0 _ _ _ _ _ _
   | exact ih1 _ _ _ _ _ _ _ _ _ _
   | exact ih2 _ _ _ _ _ _ _ _ _
   | exact LeO.none _
   | refine LeO.ite ?_ ?_
   | refine LeO.bind ?_ (fun _ => ?_)
theorem Bb.mono : ∀ a0 a1 a2 k, LeO (Bb.f k a0 a1 a2) (Bb.f (k + 1) a0 a1 a2) := by
 intro a0 a1 a2 k
 obtain ⟨ih0, ih1, ih2⟩ := Bb.mono_l k
 unfold Bb.f
 repeat' first
   | (with_reducible exact ih0 _ _ _ _ _ _)
   | (with_reducible exact ih1 _ _ _ _ _ _ _ _ _ _)
   | (with_reducible exact ih2 _ _ _ _ _ _ _ _ _)
   | (with_reducible exact LeO.refl _)
   | (with_reducible exact LeO.none _)
   | (with_reducible refine LeO.ite ?_ ?_)
   | (with_reducible refine LeO.bind ?_ (fun _ => ?_))
   | exact ih0 _ _ _ _ _ _
   | exact ih1 _ _ _ _ _ _ _ _ _ _
   | exact ih2 _ _ _ _ _ _ _ _ _
   | exact LeO.none _
   | refine LeO.ite ?_ ?_
   | refine LeO.bind ?_ (fun _ => ?_)
set_option maxHeartbeats 8000000 in
set_option maxRecDepth 100000 in
theorem Bb.calls (k : Nat) (ae : Int) (ai : Int) (av : Option Addr) (ar : Nat) (ab : List Bool) (r : List Int) (w : World) (bJ : Kd.C Kd.bool w av ab.length ab) (bK : ab.length ≤ ar) (h : Bb.f k ae ai ab = some r) :
  Calls Try.prog 79 #[.agg #[.int .i64 ae, .int .i64 ai, .slice av ab.length ar]] w fun e w' => ∃ v0_ : Value, e = .returned (v0_) ∧ Kd.R (Kd.int .i64) 3 w' w.heap.size (fun _ => True) v0_ r ∧ Below w.heap.size w w' := by
 have hu50 := Try.underlying50
 have bL := Aa.mk bJ
 have cS := Aa.mk bK
 clear bJ bK
 have HB := Aa.mk (Below.refl w.heap.size w)
 have H : (if 0 ≤ (ab.length : Int) then (if ((ab.length : Int) : Int).toNat ≤ 35184372088832 then (Bb.l0 k (List.replicate ((ab.length : Int) : Int).toNat 0) ae 0 ae ai ab) else (none)) else (none)) = some r := h
 clear h
 by_cases c2 : 0 ≤ (ab.length : Int)
 ·rw [if_pos c2] at H
  have bP := eq_true c2
  have bQ : decide (0 ≤ (ab.length : Int)) = true := decide_eq_true c2
  clear c2
  by_cases c3 : ((ab.length : Int) : Int).toNat ≤ 35184372088832
  ·rw [if_pos c3] at H
   have bR := eq_true c3
   have bS : decide (((ab.length : Int) : Int).toNat ≤ 35184372088832) = true := decide_eq_true c3
   clear c3
   obtain ⟨cI, bc⟩ : ∃ y_ : List Int, y_ = (List.replicate ((ab.length : Int) : Int).toNat 0) := ⟨_, rfl⟩
   (try rw [Option.bind_some] at H); try rw [← bc] at H
   have bM := Aa.mk bc
   clear bc
   have H' := Aa.mk H
   clear H
   go_enter Try.func79, Try.ntmps79
   go_wp2_with (first | ((with_reducible refine Bq (N := 1) rfl ?_); refine Bt ?hg (N := 1) ?hd (cs := #[.int .i64 ae, .int .i64 ai, .slice av ab.length ar]) (t := 50) ?hr ?_; (case hd => rfl); (case hg => rfl); (case hr => first | (go_simp; done) | (go_simp; rfl)); intro af hg w4 hbox hb; have n0_ := Aa.mk (Au (lU HB.out) hb); have n1_ := Aa.mk (hbox); have n2_ := Aa.mk ((by rw [hg]; exact (An (lU HB.out)) : w.heap.size ≤ af)); have n3_ := Aa.mk ((by rw [hg]; exact (An (lU HB.out)) : w.heap.size ≤ af)); clear HB; have HB := n0_; have aa := n1_; have cU := n2_; have au := n3_; clear n0_ n1_ n2_ n3_; clear hb hbox hg; have aC : w4.cell? ⟨af, 0, none⟩ = some (.int .i64 ae) := (Ad aa.out 0).trans rfl; have aD : w4.cell? ⟨af, 1, none⟩ = some (.int .i64 ai) := (Ad aa.out 1).trans rfl; have aE : w4.cell? ⟨af, 2, none⟩ = some (.slice av ab.length ar) := (Ad aa.out 2).trans rfl; have aG := Af aa.out 0; have aH := Af aa.out 1; have aI := Af aa.out 2) | ((with_reducible refine Bq (N := 11) rfl ?_); refine Kd.R_make (Kd.int .i64) _ 3 rfl (N := 11) rfl 31 _ _ rfl (ab.length : Int) rfl rfl Try.underlying31 (.int .i64 0) 8 info3 rfl (by decide) (by omega) 0 (ok := fun _ => True) (okp := fun _ => True) rfl (fun _ hk => hk) trivial (of_decide_eq_true (by with_reducible assumption)) (Nat.le_trans (Nat.mul_le_mul_right _ (of_decide_eq_true (by with_reducible assumption) : (ab.length : Int).toNat ≤ 35184372088832)) (by omega)) (Below.refl _ _) (Nat.le_refl _) ?_; intro v125 w6 ho7 hb hg_ hnew_; clear hg_ hnew_; (first | rw [← bM.out] at ho7 | (simp only [Int.reduceToNat] at ho7; rw [← bM.out] at ho7)); have n0_ := Aa.mk (Kd.Cc ho7 (An (by repeat (first | (with_reducible first | exact HB.out | apply Ae | apply Ac | apply Ah | refine Ag ?_ au.out) | exact HB.out)))); have n1_ := Aa.mk (Ao (g := af) (o := .cells #[.int .i64 ae, .int .i64 ai, .slice av ab.length ar] 50 (0, 0)) (by exact bU <| aa.out) hb); have n2_ := Aa.mk (Au (by repeat (first | (with_reducible first | exact HB.out | apply Ae | apply Ac | apply Ah | refine Ag ?_ au.out) | exact HB.out)) hb); clear aa; clear HB; have b5 := n0_; have aa := n1_; have HB := n2_; clear n0_ n1_ n2_; clear hb ho7; have aJ : w6.cell? ⟨af, 0, none⟩ = some (.int .i64 ae) := (Ad aa.out 0).trans rfl; have aK : w6.cell? ⟨af, 1, none⟩ = some (.int .i64 ai) := (Ad aa.out 1).trans rfl; have aM : w6.cell? ⟨af, 2, none⟩ = some (.slice av ab.length ar) := (Ad aa.out 2).trans rfl; have aN := Af aa.out 0; have aQ := Af aa.out 1; have aT := Af aa.out 2))
   go_loopg [14] k (fun kq v14 w' => ∃ (bl : List Int) (ag : Int), v14 = .int .i64 ag ∧ Aa (Bb.l0 kq bl ae ag ae ai ab = some r) ∧ Aa (kq ≤ k) ∧ Aa (Kd.R (Kd.int .i64) 3 w' w.heap.size (fun _ => True) v125 bl) ∧ Aa (w'.heap[af]? = some (.cells #[.int .i64 ae, .int .i64 ai, (.slice av ab.length ar)] 50 (0, 0))) ∧ Aa (Below w.heap.size w w'))
   case atStart => exact ⟨(cI), (0), (by first | rfl | (simp; done) | (simp [*]; done)), H', ⟨Nat.le_refl _⟩, ⟨by exact rU <| b5.out⟩, ⟨by exact bU <| aa.out⟩, ⟨by repeat (first | (with_reducible first | exact HB.out | apply Ae | apply Ac | apply Ah | refine Ag ?_ au.out) | exact HB.out)⟩⟩
   case round =>
    clear H'
    try clear c2
    try clear bP
    try clear bQ
    try clear p2
    try clear c3
    try clear bR
    try clear bS
    try clear c7
    try clear aC
    try clear aD
    try clear aE
    try clear aJ
    try clear aK
    try clear aM
    try clear aG
    try clear aH
    try clear aI
    try clear aN
    try clear aQ
    try clear aT
    obtain ⟨bl, ag, rfl, HA, HK1, aj, aa, HB⟩ := hrel
    cases gk with
    | zero => exact absurd HA.out (by simp [Bb.l0])
    | succ k1 =>
     have H := HA.out
     clear HA
     simp only [Bb.l0] at H
     by_cases c9 : ag < ae
     ·rw [if_pos c9] at H
      have bT : decide (ag < ae) = true := decide_eq_true c9
      clear c9
      have H' := Aa.mk H
      clear H
      have aV : wr.cell? ⟨af, 0, none⟩ = some (.int .i64 ae) := (Ad aa.out 0).trans rfl
      have aW : wr.cell? ⟨af, 1, none⟩ = some (.int .i64 ai) := (Ad aa.out 1).trans rfl
      have aX : wr.cell? ⟨af, 2, none⟩ = some (.slice av ab.length ar) := (Ad aa.out 2).trans rfl
      have aY := Af aa.out 0
      have aZ := Af aa.out 1
      have ba := Af aa.out 2
      go_wp2
      go_loopg [5, 19] k1 (fun kq v5 v19 w' => ∃ (ao : List Int) (aw : Int) (ap : Int), v5 = .int .i64 aw ∧ v19 = .int .i64 ap ∧ Aa (Bb.l1 kq ao ag aw ae ag ai ap ae ai ab = some r) ∧ Aa (kq ≤ k1) ∧ Aa (Kd.R (Kd.int .i64) 3 w' w.heap.size (fun _ => True) v125 ao) ∧ Aa (w'.heap[af]? = some (.cells #[.int .i64 ae, .int .i64 ai, (.slice av ab.length ar)] 50 (0, 0))) ∧ Aa (Below w.heap.size w w'))
      case atStart => exact ⟨(bl), (1048576), (0), (by first | rfl | (simp; done) | (simp [*]; done)), (by first | rfl | (simp; done) | (simp [*]; done)), H', ⟨Nat.le_refl _⟩, ⟨by exact rU <| aj.out⟩, ⟨by exact bU <| aa.out⟩, ⟨by repeat (first | (with_reducible first | exact HB.out | apply Ae | apply Ac | apply Ah | refine Ag ?_ au.out) | exact HB.out)⟩⟩
      case round =>
       clear H'
       try clear c2
       try clear bP
       try clear bQ
       try clear p2
       try clear c3
       try clear bR
       try clear bS
       try clear c7
       try clear c9
       try clear bT
       try clear aV
       try clear aW
       try clear aX
       try clear aC
       try clear aD
       try clear aE
       try clear aJ
       try clear aK
       try clear aM
       try clear aY
       try clear aZ
       try clear ba
       try clear aG
       try clear aH
       try clear aI
       try clear aN
       try clear aQ
       try clear aT
       try clear p2
       obtain ⟨ao, aw, ap, rfl, rfl, HA, HK2, aj, aa, HB⟩ := hrel
       cases gk with
       | zero => exact absurd HA.out (by simp [Bb.l1])
       | succ k2 =>
        have H := HA.out
        clear HA
        simp only [Bb.l1] at H
        by_cases c11 : ap < ai
        ·rw [if_pos c11] at H
         have bN : decide (ap < ai) = true := decide_eq_true c11
         clear c11
         obtain ⟨ah, bd⟩ : ∃ j_ : Int, (wrap64 ((wrap64 (ap * ae)) + ag)) = j_ := ⟨_, rfl⟩
         replace H : (if 0 ≤ (ah) then (if (ah) < (ab.length : Int) then (if rdOf false ab (ah) = true then (if (ah) < (ao.length : Int) then (Bb.l1 k2 (ao.set ((ah) : Int).toNat 0) ag 0 ae ag ai (wrap64 (ap + 1)) ae ai ab) else (none)) else (if (ah) < (ao.length : Int) then (Bb.l1 k2 (ao.set ((ah) : Int).toNat (wrap64 (aw + 1))) ag (wrap64 (aw + 1)) ae ag ai (wrap64 (ap + 1)) ae ai ab) else (none))) else (none)) else (none)) = some r := by first | (rw [bd] at H; exact H) | (simp only [bd] at H ⊢; exact H)
         have hji12w : (IntKind.i64.wrap ((wrap64 (ap * ae)) + ag)) = ah := (i64_w _).trans bd
         by_cases c13 : 0 ≤ (ah)
         ·rw [if_pos c13] at H
          have b6 : decide (0 ≤ (ah)) = true := decide_eq_true c13
          clear c13
          by_cases c14 : (ah) < (ab.length : Int)
          ·rw [if_pos c14] at H
           have b7 : decide ((ah) < (ab.length : Int)) = true := decide_eq_true c14
           clear c14
           obtain ⟨bq15, be⟩ : ∃ b_ : Bool, b_ = (rdOf false ab (ah)) := ⟨_, rfl⟩
           replace H : (if bq15 = true then (if (ah) < (ao.length : Int) then (Bb.l1 k2 (ao.set ((ah) : Int).toNat 0) ag 0 ae ag ai (wrap64 (ap + 1)) ae ai ab) else (none)) else (if (ah) < (ao.length : Int) then (Bb.l1 k2 (ao.set ((ah) : Int).toNat (wrap64 (aw + 1))) ag (wrap64 (aw + 1)) ae ag ai (wrap64 (ap + 1)) ae ai ab) else (none))) = some r := by rw [← be] at H; exact H
           have bO := Aa.mk be
           clear be
           by_cases c16 : bq15 = true
           ·subst c16
            have H1 := H
            rw [if_pos rfl] at H1
            clear H
            have H := H1
            clear H1
            by_cases c17 : (ah) < (ao.length : Int)
            ·rw [if_pos c17] at H
             have b8 : decide ((ah) < (ao.length : Int)) = true := decide_eq_true c17
             clear c17
             obtain ⟨b9, bf⟩ : ∃ y_ : List Int, y_ = (ao.set ((ah) : Int).toNat 0) := ⟨_, rfl⟩
             (try rw [Option.bind_some] at H); try rw [← bf] at H
             have cd := Aa.mk bf
             clear bf
             have H' := Aa.mk H
             clear H
             have bm : wr.cell? ⟨af, 0, none⟩ = some (.int .i64 ae) := (Ad aa.out 0).trans rfl
             have bo : wr.cell? ⟨af, 1, none⟩ = some (.int .i64 ai) := (Ad aa.out 1).trans rfl
             have bp : wr.cell? ⟨af, 2, none⟩ = some (.slice av ab.length ar) := (Ad aa.out 2).trans rfl
             have bq := Af aa.out 0
             have br := Af aa.out 1
             have bs := Af aa.out 2
             have ay : 0 ≤ ((ah) : Int) := of_decide_eq_true (by with_reducible assumption)
             have az : (ah) < (ab.length : Int) := of_decide_eq_true (by with_reducible assumption)
             obtain ⟨bg, e127, am⟩ := Kd.at_bool bL.out (ah) ay az
             (try rw [← bO.out] at am)
             cases e127
             replace am := (HB.out.cell (World.block_lt_of_cell? w _ am)).trans am
             replace ay := eq_true ay
             replace az := eq_true az
             have p18 : 0 ≤ ((ah) : Int) := of_decide_eq_true (by with_reducible assumption)
             have q18 : ((ah) : Int) < ((ao.length : Int) : Int) := of_decide_eq_true (by with_reducible assumption)
             obtain ⟨go18, cJ, ce, cg, gl18, cl18, HG18⟩ := Kd.Dd aj.out (by omega)
             (first | cases ce | (injection ce with ea_ en_ ec_; (first | subst ea_ | (injection ea_ with ea_; subst ea_)); subst ec_; clear en_))
             have GB18 := Aa.mk cg
             have GG18 := Aa.mk HG18
             clear cg gl18 HG18
             obtain ⟨bV, cK⟩ := Kd.Cx 0 aj.out ((ah) : Int) p18 q18
             replace p18 := eq_true p18
             replace q18 := eq_true q18
             have bW := Kd.Db aj.out ((ah) : Int) 0
             go_wp2_with (((with_reducible refine Cq (t := 3) (p := 42) rfl ?_); refine store_event (t := 3) (p := 42) (v := ?vo_w21) (w1 := (wr.setCell ⟨go18, ((ah) : Int).toNat, none⟩ (.int .i64 0))) ?hg ?ho ?hn ?hr ?_; (case ho => rfl); (case hg => rfl); (case hn => rfl); (case hr => first | (go_simp; done) | (go_simp; rfl)); intro w21 hw; have hg : wr.grownBy w21 (some go18) := (by rw [hw]; exact bW.2); have hp_ : Kd.R (Kd.int .i64) 3 w21 w.heap.size (fun _ => True) (.slice (some ⟨go18, 0, none⟩) ao.length cJ) b9 := (by rw [hw, cd.out]; exact bW.1); clear bW; have n0_ := Aa.mk (hp_); have n1_ := Aa.mk (Bu (g := af) (o := .cells #[.int .i64 ae, .int .i64 ai, .slice (some bg) ab.length ar] 50 (0, 0)) (by exact bU <| aa.out) hg (Kd.De aj.out aa.out (by decide))); have n2_ := Aa.mk ((by rw [hw]; exact Ag (HB.out) GB18.out : Below w.heap.size w w21)); clear aj; clear aa; clear HB; have aj := n0_; have aa := n1_; have HB := n2_; clear n0_ n1_ n2_; clear hg hw hp_))
             go_roundg k2
             case measure => have := HK1.out; have := HK2.out; omega
             case rel => exact ⟨(b9), (0), (wrap64 (ap + 1)), (by first | rfl | (simp; done) | (simp [*]; done)), (by first | rfl | (simp; done) | (simp [*]; done)), H', ⟨by have := HK1.out; have := HK2.out; omega⟩, ⟨by exact rU <| aj.out⟩, ⟨by exact bU <| aa.out⟩, ⟨by repeat (first | (with_reducible first | exact HB.out | apply Ae | apply Ac | apply Ah | refine Ag ?_ au.out) | exact HB.out)⟩⟩
            ·rw [if_neg c17] at H
             exact absurd H (by simp)
           ·replace c16 := Bool.eq_false_iff.mpr c16
            subst c16
            have H1 := H
            rw [if_neg (show ¬ (false = true) by decide)] at H1
            clear H
            have H := H1
            clear H1
            by_cases c22 : (ah) < (ao.length : Int)
            ·rw [if_pos c22] at H
             have ck : decide ((ah) < (ao.length : Int)) = true := decide_eq_true c22
             clear c22
             obtain ⟨cp, bh⟩ : ∃ y_ : List Int, y_ = (ao.set ((ah) : Int).toNat (wrap64 (aw + 1))) := ⟨_, rfl⟩
             (try rw [Option.bind_some] at H); try rw [← bh] at H
             have cr := Aa.mk bh
             clear bh
             have H' := Aa.mk H
             clear H
             have bt : wr.cell? ⟨af, 0, none⟩ = some (.int .i64 ae) := (Ad aa.out 0).trans rfl
             have bu : wr.cell? ⟨af, 1, none⟩ = some (.int .i64 ai) := (Ad aa.out 1).trans rfl
             have bv : wr.cell? ⟨af, 2, none⟩ = some (.slice av ab.length ar) := (Ad aa.out 2).trans rfl
             have bw := Af aa.out 0
             have bz := Af aa.out 1
             have bB := Af aa.out 2
             have ay : 0 ≤ ((ah) : Int) := of_decide_eq_true (by with_reducible assumption)
             have az : (ah) < (ab.length : Int) := of_decide_eq_true (by with_reducible assumption)
             obtain ⟨bg, e127, am⟩ := Kd.at_bool bL.out (ah) ay az
             (try rw [← bO.out] at am)
             cases e127
             replace am := (HB.out.cell (World.block_lt_of_cell? w _ am)).trans am
             replace ay := eq_true ay
             replace az := eq_true az
             have p23 : 0 ≤ ((ah) : Int) := of_decide_eq_true (by with_reducible assumption)
             have q23 : ((ah) : Int) < ((ao.length : Int) : Int) := of_decide_eq_true (by with_reducible assumption)
             obtain ⟨go23, cL, ct, cu, gl23, cl23, HG23⟩ := Kd.Dd aj.out (by omega)
             (first | cases ct | (injection ct with ea_ en_ ec_; (first | subst ea_ | (injection ea_ with ea_; subst ea_)); subst ec_; clear en_))
             have GB23 := Aa.mk cu
             have GG23 := Aa.mk HG23
             clear cu gl23 HG23
             obtain ⟨bX, cM⟩ := Kd.Cx 0 aj.out ((ah) : Int) p23 q23
             replace p23 := eq_true p23
             replace q23 := eq_true q23
             have bY := Kd.Db aj.out ((ah) : Int) (wrap64 (aw + 1))
             go_wp2_with (((with_reducible refine Cq (t := 3) (p := 42) rfl ?_); refine store_event (t := 3) (p := 42) (v := ?vo_w26) (w1 := (wr.setCell ⟨go23, ((ah) : Int).toNat, none⟩ (.int .i64 (wrap64 (aw + 1))))) ?hg ?ho ?hn ?hr ?_; (case ho => rfl); (case hg => rfl); (case hn => rfl); (case hr => first | (go_simp; done) | (go_simp; rfl)); intro w26 hw; have hg : wr.grownBy w26 (some go23) := (by rw [hw]; exact bY.2); have hp_ : Kd.R (Kd.int .i64) 3 w26 w.heap.size (fun _ => True) (.slice (some ⟨go23, 0, none⟩) ao.length cL) cp := (by rw [hw, cr.out]; exact bY.1); clear bY; have n0_ := Aa.mk (hp_); have n1_ := Aa.mk (Bu (g := af) (o := .cells #[.int .i64 ae, .int .i64 ai, .slice (some bg) ab.length ar] 50 (0, 0)) (by exact bU <| aa.out) hg (Kd.De aj.out aa.out (by decide))); have n2_ := Aa.mk ((by rw [hw]; exact Ag (HB.out) GB23.out : Below w.heap.size w w26)); clear aj; clear aa; clear HB; have aj := n0_; have aa := n1_; have HB := n2_; clear n0_ n1_ n2_; clear hg hw hp_))
             go_roundg k2
             case measure => have := HK1.out; have := HK2.out; omega
             case rel => exact ⟨(cp), (wrap64 (aw + 1)), (wrap64 (ap + 1)), (by first | rfl | (simp; done) | (simp [*]; done)), (by first | rfl | (simp; done) | (simp [*]; done)), H', ⟨by have := HK1.out; have := HK2.out; omega⟩, ⟨by exact rU <| aj.out⟩, ⟨by exact bU <| aa.out⟩, ⟨by repeat (first | (with_reducible first | exact HB.out | apply Ae | apply Ac | apply Ah | refine Ag ?_ au.out) | exact HB.out)⟩⟩
            ·rw [if_neg c22] at H
             exact absurd H (by simp)
          ·rw [if_neg c14] at H
           exact absurd H (by simp)
         ·rw [if_neg c13] at H
          exact absurd H (by simp)
        ·rw [if_neg c11] at H
         have bN : decide (ap < ai) = false := decide_eq_false c11
         clear c11
         have H' := Aa.mk H
         clear H
         have bC : wr.cell? ⟨af, 0, none⟩ = some (.int .i64 ae) := (Ad aa.out 0).trans rfl
         have bD : wr.cell? ⟨af, 1, none⟩ = some (.int .i64 ai) := (Ad aa.out 1).trans rfl
         have bE : wr.cell? ⟨af, 2, none⟩ = some (.slice av ab.length ar) := (Ad aa.out 2).trans rfl
         have bF := Af aa.out 0
         have bG := Af aa.out 1
         have bH := Af aa.out 2
         go_wp2
         go_loopg [5, 7] k2 (fun kq v5 v7 w' => ∃ (aq : List Int) (aA : Int) (ax : Int), v5 = .int .i64 aA ∧ v7 = .int .i64 ax ∧ Aa (Bb.l2 kq aq ag aA ax ae ag ae ai ab = some r) ∧ Aa (kq ≤ k2) ∧ Aa (Kd.R (Kd.int .i64) 3 w' w.heap.size (fun _ => True) v125 aq) ∧ Aa (w'.heap[af]? = some (.cells #[.int .i64 ae, .int .i64 ai, (.slice av ab.length ar)] 50 (0, 0))) ∧ Aa (Below w.heap.size w w'))
         case atStart => exact ⟨(ao), (1048576), (wrap64 (ai - 1)), (by first | rfl | (simp; done) | (simp [*]; done)), (by first | rfl | (simp; done) | (simp [*]; done)), H', ⟨Nat.le_refl _⟩, ⟨by exact rU <| aj.out⟩, ⟨by exact bU <| aa.out⟩, ⟨by repeat (first | (with_reducible first | exact HB.out | apply Ae | apply Ac | apply Ah | refine Ag ?_ au.out) | exact HB.out)⟩⟩
         case round =>
          clear H'
          try clear c1
          try clear p1
          try clear q1
          try clear hx1
          try clear hf1
          try clear c2
          try clear bP
          try clear bQ
          try clear p2
          try clear q2
          try clear hx2
          try clear hf2
          try clear c3
          try clear bR
          try clear bS
          try clear p6
          try clear c7
          try clear c9
          try clear bT
          try clear c11
          try clear bN
          try clear p12
          try clear q12
          try clear hx12
          try clear c13
          try clear b6
          try clear c14
          try clear b7
          try clear q15
          try clear c16
          try clear c17
          try clear b8
          try clear p18
          try clear q18
          try clear hx18
          try clear hf18
          try clear c22
          try clear ck
          try clear p23
          try clear q23
          try clear hx23
          try clear hf23
          try clear aV
          try clear aW
          try clear aX
          try clear bm
          try clear bo
          try clear bp
          try clear bt
          try clear bu
          try clear bv
          try clear bC
          try clear bD
          try clear bE
          try clear aC
          try clear aD
          try clear aE
          try clear aJ
          try clear aK
          try clear aM
          try clear aY
          try clear aZ
          try clear ba
          try clear bq
          try clear br
          try clear bs
          try clear bw
          try clear bz
          try clear bB
          try clear bF
          try clear bG
          try clear bH
          try clear aG
          try clear aH
          try clear aI
          try clear aN
          try clear aQ
          try clear aT
          try clear am
          try clear bV
          try clear bX
          try clear ay
          try clear p18
          try clear p2
          try clear p23
          try clear az
          try clear q18
          try clear q23
          obtain ⟨aq, aA, ax, rfl, rfl, HA, HK3, aj, aa, HB⟩ := hrel
          cases gk with
          | zero => exact absurd HA.out (by simp [Bb.l2])
          | succ k3 =>
           have H := HA.out
           clear HA
           simp only [Bb.l2] at H
           by_cases c28 : ax ≥ 0
           ·rw [if_pos c28] at H
            have cx : decide (0 ≤ ax) = true := decide_eq_true c28
            clear c28
            obtain ⟨an, bj⟩ : ∃ j_ : Int, (wrap64 ((wrap64 (ax * ae)) + ag)) = j_ := ⟨_, rfl⟩
            replace H : (if 0 ≤ (an) then (if (an) < (aq.length : Int) then (Bb.l2 k3 (aq.set ((an) : Int).toNat (mn (wrap64 (aA + 1)) (rd aq (an)))) ag (mn (wrap64 (aA + 1)) (rd aq (an))) (wrap64 (ax - 1)) ae ag ae ai ab) else (none)) else (none)) = some r := by first | (rw [bj] at H; exact H) | (simp only [bj] at H ⊢; exact H)
            have hji29w : (IntKind.i64.wrap ((wrap64 (ax * ae)) + ag)) = an := (i64_w _).trans bj
            by_cases c30 : 0 ≤ (an)
            ·rw [if_pos c30] at H
             have cV : decide (0 ≤ (an)) = true := decide_eq_true c30
             clear c30
             by_cases c31 : (an) < (aq.length : Int)
             ·rw [if_pos c31] at H
              have cW : decide ((an) < (aq.length : Int)) = true := decide_eq_true c31
              clear c31
              obtain ⟨aU, bb⟩ : ∃ j_ : Int, (mn (wrap64 (aA + 1)) (rd aq (an))) = j_ := ⟨_, rfl⟩
              replace H : (Bb.l2 k3 (aq.set ((an) : Int).toNat (aU)) ag aU (wrap64 (ax - 1)) ae ag ae ai ab) = some r := by first | (rw [bb] at H; exact H) | (simp only [bb] at H ⊢; exact H)
              have hji32_ : (if (rd aq (an)) < (wrap64 (aA + 1)) then (rd aq (an)) else (wrap64 (aA + 1))) = aU := bb
              obtain ⟨cy, bk⟩ : ∃ y_ : List Int, y_ = (aq.set ((an) : Int).toNat (aU)) := ⟨_, rfl⟩
              (try rw [Option.bind_some] at H); try rw [← bk] at H
              have cz := Aa.mk bk
              clear bk
              have H' := Aa.mk H
              clear H
              have cC : wr.cell? ⟨af, 0, none⟩ = some (.int .i64 ae) := (Ad aa.out 0).trans rfl
              have cD : wr.cell? ⟨af, 1, none⟩ = some (.int .i64 ai) := (Ad aa.out 1).trans rfl
              have cE : wr.cell? ⟨af, 2, none⟩ = some (.slice av ab.length ar) := (Ad aa.out 2).trans rfl
              have cF := Af aa.out 0
              have cG := Af aa.out 1
              have cH := Af aa.out 2
              obtain ⟨cY, cO, cP⟩ := Kd.B0 aj.out
              subst cP
              have bZ : 0 ≤ ((an) : Int) := of_decide_eq_true (by with_reducible assumption)
              have b3 : (an) < (aq.length : Int) := of_decide_eq_true (by with_reducible assumption)
              obtain ⟨cX, e130, bI⟩ := Kd.at_int (Kd.Ba aj.out).2.2 (an) bZ b3
              cases e130
              replace bZ := eq_true bZ
              replace b3 := eq_true b3
              have p33 : 0 ≤ ((an) : Int) := of_decide_eq_true (by with_reducible assumption)
              have q33 : ((an) : Int) < ((aq.length : Int) : Int) := of_decide_eq_true (by with_reducible assumption)
              obtain ⟨go33, cZ, cA, cB, gl33, cl33, HG33⟩ := Kd.Dd aj.out (by omega)
              (first | cases cA | (injection cA with ea_ en_ ec_; (first | subst ea_ | (injection ea_ with ea_; subst ea_)); subst ec_; clear en_))
              have GB33 := Aa.mk cB
              have GG33 := Aa.mk HG33
              clear cB gl33 HG33
              (first | simp only [add_plain] at bI | skip)
              obtain ⟨cQ, cR⟩ := Kd.Cx 0 aj.out ((an) : Int) p33 q33
              replace p33 := eq_true p33
              replace q33 := eq_true q33
              have b4 := Kd.Db aj.out ((an) : Int) aU
              go_wp2_with (((with_reducible refine Cq (t := 3) (p := 71) rfl ?_); refine store_event (t := 3) (p := 71) (v := ?vo_w37) (w1 := (wr.setCell ⟨go33, ((an) : Int).toNat, none⟩ (.int .i64 aU))) ?hg ?ho ?hn ?hr ?_; (case ho => rfl); (case hg => rfl); (case hn => rfl); (case hr => first | (go_simp; done) | (go_simp; rfl)); intro w37 hw; have hg : wr.grownBy w37 (some go33) := (by rw [hw]; exact b4.2); have hp_ : Kd.R (Kd.int .i64) 3 w37 w.heap.size (fun _ => True) (.slice (some ⟨go33, 0, none⟩) aq.length cO) cy := (by rw [hw, cz.out]; exact b4.1); clear b4; have n0_ := Aa.mk (hp_); have n1_ := Aa.mk (Bu (g := af) (o := .cells #[.int .i64 ae, .int .i64 ai, .slice av ab.length ar] 50 (0, 0)) (by exact bU <| aa.out) hg (Kd.De aj.out aa.out (by decide))); have n2_ := Aa.mk ((by rw [hw]; exact Ag (HB.out) GB33.out : Below w.heap.size w w37)); clear aj; clear aa; clear HB; have aj := n0_; have aa := n1_; have HB := n2_; clear n0_ n1_ n2_; clear hg hw hp_))
              go_roundg k3
              case measure => have := HK1.out; have := HK2.out; have := HK3.out; omega
              case rel => exact ⟨(cy), (aU), (wrap64 (ax - 1)), (by first | rfl | (simp; done) | (simp only [← bb] <;> (first | rfl | simp)) | (simp [*]; done)), (by first | rfl | (simp; done) | (simp [*]; done)), H', ⟨by have := HK1.out; have := HK2.out; have := HK3.out; omega⟩, ⟨by exact rU <| aj.out⟩, ⟨by exact bU <| aa.out⟩, ⟨by repeat (first | (with_reducible first | exact HB.out | apply Ae | apply Ac | apply Ah | refine Ag ?_ au.out) | exact HB.out)⟩⟩
             ·rw [if_neg c31] at H
              exact absurd H (by simp)
            ·rw [if_neg c30] at H
             exact absurd H (by simp)
           ·rw [if_neg c28] at H
            have cx : decide (0 ≤ ax) = false := decide_eq_false c28
            clear c28
            have H' := Aa.mk H
            clear H
            go_wp2
            go_roundg k3
            case measure => have := HK1.out; have := HK2.out; have := HK3.out; omega
            case rel => exact ⟨(aq), (wrap64 (ag + 1)), (by first | rfl | (simp; done) | (simp [*]; done)), H', ⟨by have := HK1.out; have := HK2.out; have := HK3.out; omega⟩, ⟨by exact rU <| aj.out⟩, ⟨by exact bU <| aa.out⟩, ⟨by repeat (first | (with_reducible first | exact HB.out | apply Ae | apply Ac | apply Ah | refine Ag ?_ au.out) | exact HB.out)⟩⟩
     ·rw [if_neg c9] at H
      have bT : decide (ag < ae) = false := decide_eq_false c9
      clear c9
      obtain rfl := Option.some.inj H
      go_wp2
      go_ret
      exact ⟨_, by first | rfl | (simp [Be, Bd] <;> rfl) | (simp [*, Be, Bd] <;> rfl), by exact rU <| aj.out, by repeat (first | (with_reducible first | exact HB.out | apply Ae | apply Ac | apply Ah | refine Ag ?_ au.out) | exact HB.out)⟩
  ·rw [if_neg c3] at H
   exact absurd H (by simp)
 ·rw [if_neg c2] at H
  exact absurd H (by simp)

end Go.Proofs.Yteamphcehoaleaa.PFA

