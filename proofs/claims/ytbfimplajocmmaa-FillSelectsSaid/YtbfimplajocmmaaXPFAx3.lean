import Derived.Test.YtbfimplajocmmaaXPFAx0
namespace Go.Proofs.Ytbfimplajocmmaa.PFA
open Go.RowKit Go.Proofs.YtbfimplajocmmaaW.PrintWords Go.Proofs.YtbfimplajocmmaaW.PrintLast Go.Proofs.YtbfimplajocmmaaW.PrintMore
attribute [local go_sem] max2_int min2_int max_two min_two max_three min_three max_four min_four
set_option linter.unusedVariables false
set_option linter.unusedSimpArgs false

mutual
def Bj.l0 : Nat → List Int → Int → Int → Int → Int → List Bool → Option (List Int)
 | 0, _, _, _, _, _, _ => none
 | k + 1, x3, x13, x14, ac, aj, ak => if x14 < x13 then (Bj.l1 k x3 x14 1048576 x13 x14 aj 0 ac aj ak) else (some x3)
def Bj.l1 : Nat → List Int → Int → Int → Int → Int → Int → Int → Int → Int → List Bool → Option (List Int)
 | 0, _, _, _, _, _, _, _, _, _, _ => none
 | k + 1, x3, x4, x5, x13, x14, x18, x19, ac, aj, ak => if x19 < x18 then (if 0 ≤ (wrap64 ((wrap64 (x19 * ac)) + x4)) then (if (wrap64 ((wrap64 (x19 * ac)) + x4)) < (ak.length : Int) then (if rdOf false ak (wrap64 ((wrap64 (x19 * ac)) + x4)) = true then (if (wrap64 ((wrap64 (x19 * ac)) + x4)) < (x3.length : Int) then (Bj.l1 k (x3.set ((wrap64 ((wrap64 (x19 * ac)) + x4)) : Int).toNat 0) x4 0 x13 x14 x18 (wrap64 (x19 + 1)) ac aj ak) else (none)) else (if (wrap64 ((wrap64 (x19 * ac)) + x4)) < (x3.length : Int) then (Bj.l1 k (x3.set ((wrap64 ((wrap64 (x19 * ac)) + x4)) : Int).toNat (wrap64 (x5 + 1))) x4 (wrap64 (x5 + 1)) x13 x14 x18 (wrap64 (x19 + 1)) ac aj ak) else (none))) else (none)) else (none)) else (Bj.l2 k x3 x4 1048576 (wrap64 (aj - 1)) x13 x14 ac aj ak)
def Bj.l2 : Nat → List Int → Int → Int → Int → Int → Int → Int → Int → List Bool → Option (List Int)
 | 0, _, _, _, _, _, _, _, _, _ => none
 | k + 1, x3, x4, x5, x7, x13, x14, ac, aj, ak => if x7 ≥ 0 then (if 0 ≤ (wrap64 ((wrap64 (x7 * ac)) + x4)) then (if (wrap64 ((wrap64 (x7 * ac)) + x4)) < (x3.length : Int) then (Bj.l2 k (x3.set ((wrap64 ((wrap64 (x7 * ac)) + x4)) : Int).toNat (mn (wrap64 (x5 + 1)) (rd x3 (wrap64 ((wrap64 (x7 * ac)) + x4))))) x4 (mn (wrap64 (x5 + 1)) (rd x3 (wrap64 ((wrap64 (x7 * ac)) + x4)))) (wrap64 (x7 - 1)) x13 x14 ac aj ak) else (none)) else (none)) else (Bj.l0 k x3 x13 (wrap64 (x14 + 1)) ac aj ak)
end
def Bj.f (k : Nat) (ae : Int) (ai : Int) (ab : List Bool) : Option (List Int) := if 0 ≤ (ab.length : Int) then (if ((ab.length : Int) : Int).toNat ≤ 35184372088832 then (Bj.l0 k (List.replicate ((ab.length : Int) : Int).toNat 0) ae 0 ae ai ab) else (none)) else (none)
theorem Bj.mono_l : ∀ k, (∀ y0 y1 y2 y3 y4 y5, LeO (Bj.l0 k y0 y1 y2 y3 y4 y5) (Bj.l0 (k + 1) y0 y1 y2 y3 y4 y5)) ∧ (∀ y0 y1 y2 y3 y4 y5 y6 y7 y8 y9, LeO (Bj.l1 k y0 y1 y2 y3 y4 y5 y6 y7 y8 y9) (Bj.l1 (k + 1) y0 y1 y2 y3 y4 y5 y6 y7 y8 y9)) ∧ (∀ y0 y1 y2 y3 y4 y5 y6 y7 y8, LeO (Bj.l2 k y0 y1 y2 y3 y4 y5 y6 y7 y8) (Bj.l2 (k + 1) y0 y1 y2 y3 y4 y5 y6 y7 y8))
 | 0 => ⟨fun _ _ _ _ _ _ r h => by simp [Bj.l0] at h, fun _ _ _ _ _ _ _ _ _ _ r h => by simp [Bj.l1] at h, fun _ _ _ _ _ _ _ _ _ r h => by simp [Bj.l2] at h⟩
 | k + 1 => by
  obtain ⟨ih0, ih1, ih2⟩ := Bj.mono_l k; refine ⟨?_, ?_, ?_⟩
  ·intro y0 y1 y2 y3 y4 y5
   unfold Bj.l0
   repeat' first
   | (with_reducible exact ih0 _ _ _ _ _ _)
   | (with_reducible exact ih1 _ _ _ _ _ _ _ _ _ _)
   | (with_reducible exact ih2 _ _ _ _ _ _ _ _ _)
   | (with_reducible exact LeO.refl _)
   | (with_reducible exact LeO.none _)
   | (with_reducible refine LeO.ite ?_ ?_)
   | (with_reducible refine LeO.bind ?_ (fun _ => ?_))
   | exact ih0 _ _ _ _ _ _
   | exact ih1 _ _ _ _ _ _ _ _ _ _
   | exact ih2 _ _ _ _ _ _ _ _ _
   | exact LeO.none _
   | refine LeO.ite ?_ ?_
   | refine LeO.bind ?_ (fun _ => ?_)
  ·intro y0 y1 y2 y3 y4 y5 y6 y7 y8 y9
   unfold Bj.l1
   repeat' first
   | (with_reducible exact ih0 _ _ _ _ _ _)
   | (with_reducible exact ih1 _ _ _ _ _ _ _ _ _ _)
   | (with_reducible exact ih2 _ _ _ _ _ _ _ _ _)
   | (with_reducible exact LeO.refl _)
   | (with_reducible exact LeO.none _)
   | (with_reducible refine LeO.ite ?_ ?_)
   | (with_reducible refine LeO.bind ?_ (fun _ => ?_))
   | exact ih0 _ _ _ _ _ _
   | exact ih1 _ _ _ _ _ _ _ _ _ _
   | exact ih2 _ _ _ _ _ _ _ _ _
   | exact LeO.none _
   | refine LeO.ite ?_ ?_
   | refine LeO.bind ?_ (fun _ => ?_)
  ·intro y0 y1 y2 y3 y4 y5 y6 y7 y8
   unfold Bj.l2
   repeat' first
   | (with_reducible exact ih0 _ _ _ _ _ _)
   | (with_reducible exact ih1 _ _ _ _ _ _ _ _ _ _)
   | (with_reducible exact ih2 _ _ _ _ _ _ _ _ _)
   | (with_reducible exact LeO.refl _)
   | (with_reducible exact LeO.none _)
   | (with_reducible refine LeO.ite ?_ ?_)
   | (with_reducible refine LeO.bind ?_ (fun _ => ?_))
   | exact ih0 _ _ _ _ _ _
   | exact ih1 _ _ _ _ _ _ _ _ _ _
   | exact ih2 _ _ _ _ _ _ _ _ _
   | exact LeO.none _
   | refine LeO.ite ?_ ?_
   | refine LeO.bind ?_ (fun _ => ?_)
theorem Bj.mono : ∀ a0 a1 a2 k, LeO (Bj.f k a0 a1 a2) (Bj.f (k + 1) a0 a1 a2) := by
 intro a0 a1 a2 k; obtain ⟨ih0, ih1, ih2⟩ := Bj.mono_l k; unfold Bj.f
 repeat' first
   | (with_reducible exact ih0 _ _ _ _ _ _)
   | (with_reducible exact ih1 _ _ _ _ _ _ _ _ _ _)
   | (with_reducible exact ih2 _ _ _ _ _ _ _ _ _)
   | (with_reducible exact LeO.refl _)
   | (with_reducible exact LeO.none _)
   | (with_reducible refine LeO.ite ?_ ?_)
   | (with_reducible refine LeO.bind ?_ (fun _ => ?_))
   | exact ih0 _ _ _ _ _ _
   | exact ih1 _ _ _ _ _ _ _ _ _ _
   | exact ih2 _ _ _ _ _ _ _ _ _
   | exact LeO.none _
   | refine LeO.ite ?_ ?_
   | refine LeO.bind ?_ (fun _ => ?_)
set_option maxHeartbeats 8000000 in
set_option maxRecDepth 100000 in
theorem Bj.calls (k : Nat) (ae : Int) (ai : Int) (av : Option Addr) (ar : Nat) (ab : List Bool) (r : List Int) (w : World) (bN : Kd.C Kd.bool w av ab.length ab) (bO : ab.length ≤ ar) (h : Bj.f k ae ai ab = some r) :
  Calls Try.prog 67 #[.agg #[.int .i64 ae, .int .i64 ai, .slice av ab.length ar]] w fun e w' => ∃ v0_ : Value, e = .returned (v0_) ∧ Kd.R (Kd.int .i64) 3 w' w.heap.size (fun _ => True) v0_ r ∧ Below w.heap.size w w' := by
 have hu27 := Try.underlying27; have bP := Ae.mk bN; have db := Ae.mk bO; clear bN bO; have HB := Ae.mk (Below.refl w.heap.size w); have H : (if 0 ≤ (ab.length : Int) then (if ((ab.length : Int) : Int).toNat ≤ 35184372088832 then (Bj.l0 k (List.replicate ((ab.length : Int) : Int).toNat 0) ae 0 ae ai ab) else (none)) else (none)) = some r := h; clear h
 by_cases c2 : 0 ≤ (ab.length : Int)
 ·rw [if_pos c2] at H
  have bT := eq_true c2; have bV : decide (0 ≤ (ab.length : Int)) = true := decide_eq_true c2; clear c2
  by_cases c3 : ((ab.length : Int) : Int).toNat ≤ 35184372088832
  ·rw [if_pos c3] at H
   have bW := eq_true c3; have bX : decide (((ab.length : Int) : Int).toNat ≤ 35184372088832) = true := decide_eq_true c3; clear c3; obtain ⟨cR, bc⟩ : ∃ y_ : List Int, y_ = (List.replicate ((ab.length : Int) : Int).toNat 0) := ⟨_, rfl⟩; (try rw [Option.bind_some] at H); try rw [← bc] at H; have bQ := Ae.mk bc; clear bc; have H' := Ae.mk H; clear H; go_enter Try.func67, Try.ntmps67
   go_wp2_with (first | ((with_reducible refine Bq (N := 1) rfl ?_); refine Bo ?hg (N := 1) ?hd (cs := #[.int .i64 ae, .int .i64 ai, .slice av ab.length ar]) (t := 27) ?hr ?_; (case hd => rfl); (case hg => rfl); (case hr => first | (go_simp; done) | (go_simp; rfl)); intro af hg w4 hbox hb; have aa := Ae.mk (hbox); have dc := Ae.mk ((by rw [hg]; exact (Aq (lU HB.out)) : w.heap.size ≤ af)); have au := Ae.mk ((by rw [hg]; exact (Aq (lU HB.out)) : w.heap.size ≤ af)); replace HB := Ae.mk (At (lU HB.out) hb); clear hb hbox hg; have aC : w4.cell? ⟨af, 0, none⟩ = some (.int .i64 ae) := (Af aa.out 0).trans rfl; have aD : w4.cell? ⟨af, 1, none⟩ = some (.int .i64 ai) := (Af aa.out 1).trans rfl; have aE : w4.cell? ⟨af, 2, none⟩ = some (.slice av ab.length ar) := (Af aa.out 2).trans rfl; have aG := Ag aa.out 0; have aH := Ag aa.out 1; have aI := Ag aa.out 2) | ((with_reducible refine Bq (N := 11) rfl ?_); refine Kd.R_make (Kd.int .i64) _ 3 rfl (N := 11) rfl 35 _ _ rfl (ab.length : Int) rfl rfl Try.underlying35 (.int .i64 0) 8 info3 rfl (by decide) (by omega) 0 (ok := fun _ => True) (okp := fun _ => True) rfl (fun _ hk => hk) trivial (of_decide_eq_true (by with_reducible assumption)) (Nat.le_trans (Nat.mul_le_mul_right _ (of_decide_eq_true (by with_reducible assumption) : (ab.length : Int).toNat ≤ 35184372088832)) (by omega)) (Below.refl _ _) (Nat.le_refl _) ?_; intro v125 w6 ho7 hb hg_ hnew_; clear hg_ hnew_; (first | rw [← bQ.out] at ho7 | (simp only [Int.reduceToNat] at ho7; rw [← bQ.out] at ho7)); have cg := Ae.mk (Kd.B9 ho7 (Aq (by repeat (first | (with_reducible first | exact HB.out | apply Ah | apply Aj | apply Ak | refine Ai ?_ au.out) | exact HB.out)))); replace aa := Ae.mk (Ao (g := af) (o := .cells #[.int .i64 ae, .int .i64 ai, .slice av ab.length ar] 27 (0, 0)) (by exact bU <| aa.out) hb); replace HB := Ae.mk (At (by repeat (first | (with_reducible first | exact HB.out | apply Ah | apply Aj | apply Ak | refine Ai ?_ au.out) | exact HB.out)) hb); clear hb ho7; have aJ : w6.cell? ⟨af, 0, none⟩ = some (.int .i64 ae) := (Af aa.out 0).trans rfl; have aK : w6.cell? ⟨af, 1, none⟩ = some (.int .i64 ai) := (Af aa.out 1).trans rfl; have aM : w6.cell? ⟨af, 2, none⟩ = some (.slice av ab.length ar) := (Af aa.out 2).trans rfl; have aN := Ag aa.out 0; have aQ := Ag aa.out 1; have aT := Ag aa.out 2))
   go_loopg [14] k (fun kq v14 w' => ∃ (bp : List Int) (ag : Int), v14 = .int .i64 ag ∧ Ae (Bj.l0 kq bp ae ag ae ai ab = some r) ∧ Ae (kq ≤ k) ∧ Ae (Kd.R (Kd.int .i64) 3 w' w.heap.size (fun _ => True) v125 bp) ∧ Ae (w'.heap[af]? = some (.cells #[.int .i64 ae, .int .i64 ai, (.slice av ab.length ar)] 27 (0, 0))) ∧ Ae (Below w.heap.size w w'))
   case atStart => exact ⟨(cR), (0), (by first | rfl | (simp; done) | (simp [*]; done)), H', ⟨Nat.le_refl _⟩, ⟨by exact rU <| cg.out⟩, ⟨by exact bU <| aa.out⟩, ⟨by repeat (first | (with_reducible first | exact HB.out | apply Ah | apply Aj | apply Ak | refine Ai ?_ au.out) | exact HB.out)⟩⟩
   case round =>
    clear H'; (try clear c2); (try clear bT); (try clear bV); (try clear p2); (try clear c3); (try clear bW); (try clear bX); (try clear c6); (try clear aC); (try clear aD); (try clear aE); (try clear aJ); (try clear aK); (try clear aM); (try clear aG); (try clear aH); (try clear aI); (try clear aN); (try clear aQ); (try clear aT); obtain ⟨bp, ag, rfl, HA, HK1, am, aa, HB⟩ := hrel; cases gk with
    | zero => exact absurd HA.out (by simp [Bj.l0])
    | succ k1 =>
     have H := HA.out; clear HA
     simp only [Bj.l0] at H
     by_cases c9 : ag < ae
     ·rw [if_pos c9] at H
      have bY : decide (ag < ae) = true := decide_eq_true c9; clear c9; have H' := Ae.mk H; clear H; have aV : wr.cell? ⟨af, 0, none⟩ = some (.int .i64 ae) := (Af aa.out 0).trans rfl; have aW : wr.cell? ⟨af, 1, none⟩ = some (.int .i64 ai) := (Af aa.out 1).trans rfl; have aX : wr.cell? ⟨af, 2, none⟩ = some (.slice av ab.length ar) := (Af aa.out 2).trans rfl; have aY := Ag aa.out 0; have aZ := Ag aa.out 1; have ba := Ag aa.out 2
      go_wp2
      go_loopg [5, 19] k1 (fun kq v5 v19 w' => ∃ (ao : List Int) (aw : Int) (ap : Int), v5 = .int .i64 aw ∧ v19 = .int .i64 ap ∧ Ae (Bj.l1 kq ao ag aw ae ag ai ap ae ai ab = some r) ∧ Ae (kq ≤ k1) ∧ Ae (Kd.R (Kd.int .i64) 3 w' w.heap.size (fun _ => True) v125 ao) ∧ Ae (w'.heap[af]? = some (.cells #[.int .i64 ae, .int .i64 ai, (.slice av ab.length ar)] 27 (0, 0))) ∧ Ae (Below w.heap.size w w'))
      case atStart => exact ⟨(bp), (1048576), (0), (by first | rfl | (simp; done) | (simp [*]; done)), (by first | rfl | (simp; done) | (simp [*]; done)), H', ⟨Nat.le_refl _⟩, ⟨by exact rU <| am.out⟩, ⟨by exact bU <| aa.out⟩, ⟨by repeat (first | (with_reducible first | exact HB.out | apply Ah | apply Aj | apply Ak | refine Ai ?_ au.out) | exact HB.out)⟩⟩
      case round =>
       clear H'; (try clear c2); (try clear bT); (try clear bV); (try clear p2); (try clear c3); (try clear bW); (try clear bX); (try clear c6); (try clear c9); (try clear bY); (try clear aV); (try clear aW); (try clear aX); (try clear aC); (try clear aD); (try clear aE); (try clear aJ); (try clear aK); (try clear aM); (try clear aY); (try clear aZ); (try clear ba); (try clear aG); (try clear aH); (try clear aI); (try clear aN); (try clear aQ); (try clear aT); (try clear p2); obtain ⟨ao, aw, ap, rfl, rfl, HA, HK2, am, aa, HB⟩ := hrel; cases gk with
       | zero => exact absurd HA.out (by simp [Bj.l1])
       | succ k2 =>
        have H := HA.out; clear HA
        simp only [Bj.l1] at H
        by_cases c11 : ap < ai
        ·rw [if_pos c11] at H
         have bR : decide (ap < ai) = true := decide_eq_true c11; clear c11; obtain ⟨ah, bd⟩ : ∃ j_ : Int, (wrap64 ((wrap64 (ap * ae)) + ag)) = j_ := ⟨_, rfl⟩; replace H : (if 0 ≤ (ah) then (if (ah) < (ab.length : Int) then (if rdOf false ab (ah) = true then (if (ah) < (ao.length : Int) then (Bj.l1 k2 (ao.set ((ah) : Int).toNat 0) ag 0 ae ag ai (wrap64 (ap + 1)) ae ai ab) else (none)) else (if (ah) < (ao.length : Int) then (Bj.l1 k2 (ao.set ((ah) : Int).toNat (wrap64 (aw + 1))) ag (wrap64 (aw + 1)) ae ag ai (wrap64 (ap + 1)) ae ai ab) else (none))) else (none)) else (none)) = some r := by first | (rw [bd] at H; exact H) | (simp only [bd] at H ⊢; exact H)
         have hji12w : (IntKind.i64.wrap ((wrap64 (ap * ae)) + ag)) = ah := (i64_w _).trans bd
         by_cases c13 : 0 ≤ (ah)
         ·rw [if_pos c13] at H
          have cp : decide (0 ≤ (ah)) = true := decide_eq_true c13; clear c13
          by_cases c14 : (ah) < (ab.length : Int)
          ·rw [if_pos c14] at H
           have cr : decide ((ah) < (ab.length : Int)) = true := decide_eq_true c14; clear c14; obtain ⟨bq15, bf⟩ : ∃ b_ : Bool, b_ = (rdOf false ab (ah)) := ⟨_, rfl⟩; replace H : (if bq15 = true then (if (ah) < (ao.length : Int) then (Bj.l1 k2 (ao.set ((ah) : Int).toNat 0) ag 0 ae ag ai (wrap64 (ap + 1)) ae ai ab) else (none)) else (if (ah) < (ao.length : Int) then (Bj.l1 k2 (ao.set ((ah) : Int).toNat (wrap64 (aw + 1))) ag (wrap64 (aw + 1)) ae ag ai (wrap64 (ap + 1)) ae ai ab) else (none))) = some r := by rw [← bf] at H; exact H
           have bS := Ae.mk bf; clear bf
           by_cases c16 : bq15 = true
           ·subst c16
            have H1 := H; rw [if_pos rfl] at H1; clear H; have H := H1; clear H1
            by_cases c17 : (ah) < (ao.length : Int)
            ·rw [if_pos c17] at H
             have cu : decide ((ah) < (ao.length : Int)) = true := decide_eq_true c17; clear c17; obtain ⟨cx, bg⟩ : ∃ y_ : List Int, y_ = (ao.set ((ah) : Int).toNat 0) := ⟨_, rfl⟩; (try rw [Option.bind_some] at H); try rw [← bg] at H; have cy := Ae.mk bg; clear bg; have H' := Ae.mk H; clear H; have bq : wr.cell? ⟨af, 0, none⟩ = some (.int .i64 ae) := (Af aa.out 0).trans rfl; have br : wr.cell? ⟨af, 1, none⟩ = some (.int .i64 ai) := (Af aa.out 1).trans rfl; have bs : wr.cell? ⟨af, 2, none⟩ = some (.slice av ab.length ar) := (Af aa.out 2).trans rfl; have bu := Ag aa.out 0; have bv := Ag aa.out 1; have bw := Ag aa.out 2; have ay : 0 ≤ ((ah) : Int) := of_decide_eq_true (by with_reducible assumption); have az : (ah) < (ab.length : Int) := of_decide_eq_true (by with_reducible assumption); obtain ⟨bh, e127, al⟩ := Kd.at_bool bP.out (ah) ay az; (try rw [← bS.out] at al); cases e127; replace al := (HB.out.cell (World.block_lt_of_cell? w _ al)).trans al; replace ay := eq_true ay; replace az := eq_true az; have p18 : 0 ≤ ((ah) : Int) := of_decide_eq_true (by with_reducible assumption); have q18 : ((ah) : Int) < ((ao.length : Int) : Int) := of_decide_eq_true (by with_reducible assumption); obtain ⟨go18, cS, cz, cA, gl18, cl18, HG18⟩ := Kd.Dx am.out (by omega); (first | cases cz | (injection cz with ea_ en_ ec_; (first | subst ea_ | (injection ea_ with ea_; subst ea_)); subst ec_; clear en_)); have GB18 := Ae.mk cA; have GG18 := Ae.mk HG18; clear cA gl18 HG18; obtain ⟨bZ, cU⟩ := Kd.Dp 0 am.out ((ah) : Int) p18 q18; replace p18 := eq_true p18; replace q18 := eq_true q18; have b4 := Kd.R_putg am.out ((ah) : Int) 0
             go_wp2_with (first | ((with_reducible refine Dh (t := 3) (p := 42) rfl ?_); refine store_event (t := 3) (p := 42) (v := ?vo_w21) (w1 := (wr.setCell ⟨go18, ((ah) : Int).toNat, none⟩ (.int .i64 0))) ?hg ?ho ?hn ?hr ?_; (case ho => rfl); (case hg => rfl); (case hn => rfl); (case hr => first | (go_simp; done) | (go_simp; rfl)); intro w21 hw; have hg : wr.grownBy w21 (some go18) := (by rw [hw]; exact b4.2); have hp_ : Kd.R (Kd.int .i64) 3 w21 w.heap.size (fun _ => True) (.slice (some ⟨go18, 0, none⟩) ao.length cS) cx := (by rw [hw, cy.out]; exact b4.1); clear b4; replace aa := Ae.mk (Bz (g := af) (o := .cells #[.int .i64 ae, .int .i64 ai, .slice (some bh) ab.length ar] 27 (0, 0)) (by exact bU <| aa.out) hg (Kd.Do am.out aa.out (by decide))); replace am := Ae.mk (hp_); replace HB := Ae.mk ((by rw [hw]; exact Ai (HB.out) GB18.out : Below w.heap.size w w21)); clear hg hw hp_))
             go_roundg k2
             case measure => have := HK1.out; have := HK2.out; omega
             case rel => exact ⟨(cx), (0), (wrap64 (ap + 1)), (by first | rfl | (simp; done) | (simp [*]; done)), (by first | rfl | (simp; done) | (simp [*]; done)), H', ⟨by have := HK1.out; have := HK2.out; omega⟩, ⟨by exact rU <| am.out⟩, ⟨by exact bU <| aa.out⟩, ⟨by repeat (first | (with_reducible first | exact HB.out | apply Ah | apply Aj | apply Ak | refine Ai ?_ au.out) | exact HB.out)⟩⟩
            ·rw [if_neg c17] at H
             exact absurd H (by simp)
           ·replace c16 := Bool.eq_false_iff.mpr c16
            subst c16; have H1 := H; rw [if_neg (show ¬ (false = true) by decide)] at H1; clear H; have H := H1; clear H1
            by_cases c22 : (ah) < (ao.length : Int)
            ·rw [if_pos c22] at H
             have cB : decide ((ah) < (ao.length : Int)) = true := decide_eq_true c22; clear c22; obtain ⟨cC, bj⟩ : ∃ y_ : List Int, y_ = (ao.set ((ah) : Int).toNat (wrap64 (aw + 1))) := ⟨_, rfl⟩; (try rw [Option.bind_some] at H); try rw [← bj] at H; have cD := Ae.mk bj; clear bj; have H' := Ae.mk H; clear H; have bz : wr.cell? ⟨af, 0, none⟩ = some (.int .i64 ae) := (Af aa.out 0).trans rfl; have bB : wr.cell? ⟨af, 1, none⟩ = some (.int .i64 ai) := (Af aa.out 1).trans rfl; have bC : wr.cell? ⟨af, 2, none⟩ = some (.slice av ab.length ar) := (Af aa.out 2).trans rfl; have bD := Ag aa.out 0; have bE := Ag aa.out 1; have bF := Ag aa.out 2; have ay : 0 ≤ ((ah) : Int) := of_decide_eq_true (by with_reducible assumption); have az : (ah) < (ab.length : Int) := of_decide_eq_true (by with_reducible assumption); obtain ⟨bh, e127, al⟩ := Kd.at_bool bP.out (ah) ay az; (try rw [← bS.out] at al); cases e127; replace al := (HB.out.cell (World.block_lt_of_cell? w _ al)).trans al; replace ay := eq_true ay; replace az := eq_true az; have p23 : 0 ≤ ((ah) : Int) := of_decide_eq_true (by with_reducible assumption); have q23 : ((ah) : Int) < ((ao.length : Int) : Int) := of_decide_eq_true (by with_reducible assumption); obtain ⟨go23, cV, cE, cF, gl23, cl23, HG23⟩ := Kd.Dx am.out (by omega); (first | cases cE | (injection cE with ea_ en_ ec_; (first | subst ea_ | (injection ea_ with ea_; subst ea_)); subst ec_; clear en_)); have GB23 := Ae.mk cF; have GG23 := Ae.mk HG23; clear cF gl23 HG23; obtain ⟨b5, cW⟩ := Kd.Dp 0 am.out ((ah) : Int) p23 q23; replace p23 := eq_true p23; replace q23 := eq_true q23; have b6 := Kd.R_putg am.out ((ah) : Int) (wrap64 (aw + 1))
             go_wp2_with (first | ((with_reducible refine Dh (t := 3) (p := 42) rfl ?_); refine store_event (t := 3) (p := 42) (v := ?vo_w26) (w1 := (wr.setCell ⟨go23, ((ah) : Int).toNat, none⟩ (.int .i64 (wrap64 (aw + 1))))) ?hg ?ho ?hn ?hr ?_; (case ho => rfl); (case hg => rfl); (case hn => rfl); (case hr => first | (go_simp; done) | (go_simp; rfl)); intro w26 hw; have hg : wr.grownBy w26 (some go23) := (by rw [hw]; exact b6.2); have hp_ : Kd.R (Kd.int .i64) 3 w26 w.heap.size (fun _ => True) (.slice (some ⟨go23, 0, none⟩) ao.length cV) cC := (by rw [hw, cD.out]; exact b6.1); clear b6; replace aa := Ae.mk (Bz (g := af) (o := .cells #[.int .i64 ae, .int .i64 ai, .slice (some bh) ab.length ar] 27 (0, 0)) (by exact bU <| aa.out) hg (Kd.Do am.out aa.out (by decide))); replace am := Ae.mk (hp_); replace HB := Ae.mk ((by rw [hw]; exact Ai (HB.out) GB23.out : Below w.heap.size w w26)); clear hg hw hp_))
             go_roundg k2
             case measure => have := HK1.out; have := HK2.out; omega
             case rel => exact ⟨(cC), (wrap64 (aw + 1)), (wrap64 (ap + 1)), (by first | rfl | (simp; done) | (simp [*]; done)), (by first | rfl | (simp; done) | (simp [*]; done)), H', ⟨by have := HK1.out; have := HK2.out; omega⟩, ⟨by exact rU <| am.out⟩, ⟨by exact bU <| aa.out⟩, ⟨by repeat (first | (with_reducible first | exact HB.out | apply Ah | apply Aj | apply Ak | refine Ai ?_ au.out) | exact HB.out)⟩⟩
            ·rw [if_neg c22] at H
             exact absurd H (by simp)
          ·rw [if_neg c14] at H
           exact absurd H (by simp)
         ·rw [if_neg c13] at H
          exact absurd H (by simp)
        ·rw [if_neg c11] at H
         have bR : decide (ap < ai) = false := decide_eq_false c11; clear c11; have H' := Ae.mk H; clear H; have bG : wr.cell? ⟨af, 0, none⟩ = some (.int .i64 ae) := (Af aa.out 0).trans rfl; have bH : wr.cell? ⟨af, 1, none⟩ = some (.int .i64 ai) := (Af aa.out 1).trans rfl; have bI : wr.cell? ⟨af, 2, none⟩ = some (.slice av ab.length ar) := (Af aa.out 2).trans rfl; have bJ := Ag aa.out 0; have bK := Ag aa.out 1; have bL := Ag aa.out 2
         go_wp2
         go_loopg [5, 7] k2 (fun kq v5 v7 w' => ∃ (aq : List Int) (aA : Int) (ax : Int), v5 = .int .i64 aA ∧ v7 = .int .i64 ax ∧ Ae (Bj.l2 kq aq ag aA ax ae ag ae ai ab = some r) ∧ Ae (kq ≤ k2) ∧ Ae (Kd.R (Kd.int .i64) 3 w' w.heap.size (fun _ => True) v125 aq) ∧ Ae (w'.heap[af]? = some (.cells #[.int .i64 ae, .int .i64 ai, (.slice av ab.length ar)] 27 (0, 0))) ∧ Ae (Below w.heap.size w w'))
         case atStart => exact ⟨(ao), (1048576), (wrap64 (ai - 1)), (by first | rfl | (simp; done) | (simp [*]; done)), (by first | rfl | (simp; done) | (simp [*]; done)), H', ⟨Nat.le_refl _⟩, ⟨by exact rU <| am.out⟩, ⟨by exact bU <| aa.out⟩, ⟨by repeat (first | (with_reducible first | exact HB.out | apply Ah | apply Aj | apply Ak | refine Ai ?_ au.out) | exact HB.out)⟩⟩
         case round =>
          clear H'; (try clear c1); (try clear p1); (try clear q1); (try clear hx1); (try clear hf1); (try clear c2); (try clear bT); (try clear bV); (try clear p2); (try clear q2); (try clear hx2); (try clear hf2); (try clear c3); (try clear bW); (try clear bX); (try clear c6); (try clear p6); (try clear c9); (try clear bY); (try clear c11); (try clear bR); (try clear p12); (try clear q12); (try clear hx12); (try clear c13); (try clear cp); (try clear c14); (try clear cr); (try clear q15); (try clear c16); (try clear c17); (try clear cu); (try clear p18); (try clear q18); (try clear hx18); (try clear hf18); (try clear c22); (try clear cB); (try clear p23); (try clear q23); (try clear hx23); (try clear hf23); (try clear aV); (try clear aW); (try clear aX); (try clear bq); (try clear br); (try clear bs); (try clear bz); (try clear bB); (try clear bC); (try clear bG); (try clear bH); (try clear bI); (try clear aC); (try clear aD); (try clear aE); (try clear aJ); (try clear aK); (try clear aM); (try clear aY); (try clear aZ); (try clear ba); (try clear bu); (try clear bv); (try clear bw); (try clear bD); (try clear bE); (try clear bF); (try clear bJ); (try clear bK); (try clear bL); (try clear aG); (try clear aH); (try clear aI); (try clear aN); (try clear aQ); (try clear aT); (try clear al); (try clear bZ); (try clear b5); (try clear ay); (try clear p18); (try clear p2); (try clear p23); (try clear az); (try clear q18); (try clear q23); obtain ⟨aq, aA, ax, rfl, rfl, HA, HK3, am, aa, HB⟩ := hrel; cases gk with
          | zero => exact absurd HA.out (by simp [Bj.l2])
          | succ k3 =>
           have H := HA.out; clear HA
           simp only [Bj.l2] at H
           by_cases c28 : ax ≥ 0
           ·rw [if_pos c28] at H
            have cG : decide (0 ≤ ax) = true := decide_eq_true c28; clear c28; obtain ⟨an, bm⟩ : ∃ j_ : Int, (wrap64 ((wrap64 (ax * ae)) + ag)) = j_ := ⟨_, rfl⟩; replace H : (if 0 ≤ (an) then (if (an) < (aq.length : Int) then (Bj.l2 k3 (aq.set ((an) : Int).toNat (mn (wrap64 (aA + 1)) (rd aq (an)))) ag (mn (wrap64 (aA + 1)) (rd aq (an))) (wrap64 (ax - 1)) ae ag ae ai ab) else (none)) else (none)) = some r := by first | (rw [bm] at H; exact H) | (simp only [bm] at H ⊢; exact H)
            have hji29w : (IntKind.i64.wrap ((wrap64 (ax * ae)) + ag)) = an := (i64_w _).trans bm
            by_cases c30 : 0 ≤ (an)
            ·rw [if_pos c30] at H
             have dd : decide (0 ≤ (an)) = true := decide_eq_true c30; clear c30
             by_cases c31 : (an) < (aq.length : Int)
             ·rw [if_pos c31] at H
              have df : decide ((an) < (aq.length : Int)) = true := decide_eq_true c31; clear c31; obtain ⟨aU, bb⟩ : ∃ j_ : Int, (mn (wrap64 (aA + 1)) (rd aq (an))) = j_ := ⟨_, rfl⟩; replace H : (Bj.l2 k3 (aq.set ((an) : Int).toNat (aU)) ag aU (wrap64 (ax - 1)) ae ag ae ai ab) = some r := by first | (rw [bb] at H; exact H) | (simp only [bb] at H ⊢; exact H)
              have hji32_ : (if (rd aq (an)) < (wrap64 (aA + 1)) then (rd aq (an)) else (wrap64 (aA + 1))) = aU := bb; obtain ⟨cH, bo⟩ : ∃ y_ : List Int, y_ = (aq.set ((an) : Int).toNat (aU)) := ⟨_, rfl⟩; (try rw [Option.bind_some] at H); try rw [← bo] at H; have cI := Ae.mk bo; clear bo; have H' := Ae.mk H; clear H; have cL : wr.cell? ⟨af, 0, none⟩ = some (.int .i64 ae) := (Af aa.out 0).trans rfl; have cM : wr.cell? ⟨af, 1, none⟩ = some (.int .i64 ai) := (Af aa.out 1).trans rfl; have cN : wr.cell? ⟨af, 2, none⟩ = some (.slice av ab.length ar) := (Af aa.out 2).trans rfl; have cO := Ag aa.out 0; have cP := Ag aa.out 1; have cQ := Ag aa.out 2; obtain ⟨dh, cX, cY⟩ := Kd.B6 am.out; subst cY; have b7 : 0 ≤ ((an) : Int) := of_decide_eq_true (by with_reducible assumption); have b8 : (an) < (aq.length : Int) := of_decide_eq_true (by with_reducible assumption); obtain ⟨dg, e130, bM⟩ := Kd.at_int (Kd.Bf am.out).2.2 (an) b7 b8; cases e130; replace b7 := eq_true b7; replace b8 := eq_true b8; have p33 : 0 ≤ ((an) : Int) := of_decide_eq_true (by with_reducible assumption); have q33 : ((an) : Int) < ((aq.length : Int) : Int) := of_decide_eq_true (by with_reducible assumption); obtain ⟨go33, di, cJ, cK, gl33, cl33, HG33⟩ := Kd.Dx am.out (by omega); (first | cases cJ | (injection cJ with ea_ en_ ec_; (first | subst ea_ | (injection ea_ with ea_; subst ea_)); subst ec_; clear en_)); have GB33 := Ae.mk cK; have GG33 := Ae.mk HG33; clear cK gl33 HG33; (first | simp only [add_plain] at bM | skip); obtain ⟨cZ, da⟩ := Kd.Dp 0 am.out ((an) : Int) p33 q33; replace p33 := eq_true p33; replace q33 := eq_true q33; have b9 := Kd.R_putg am.out ((an) : Int) aU
              go_wp2_with (first | ((with_reducible refine Dh (t := 3) (p := 71) rfl ?_); refine store_event (t := 3) (p := 71) (v := ?vo_w37) (w1 := (wr.setCell ⟨go33, ((an) : Int).toNat, none⟩ (.int .i64 aU))) ?hg ?ho ?hn ?hr ?_; (case ho => rfl); (case hg => rfl); (case hn => rfl); (case hr => first | (go_simp; done) | (go_simp; rfl)); intro w37 hw; have hg : wr.grownBy w37 (some go33) := (by rw [hw]; exact b9.2); have hp_ : Kd.R (Kd.int .i64) 3 w37 w.heap.size (fun _ => True) (.slice (some ⟨go33, 0, none⟩) aq.length cX) cH := (by rw [hw, cI.out]; exact b9.1); clear b9; replace aa := Ae.mk (Bz (g := af) (o := .cells #[.int .i64 ae, .int .i64 ai, .slice av ab.length ar] 27 (0, 0)) (by exact bU <| aa.out) hg (Kd.Do am.out aa.out (by decide))); replace am := Ae.mk (hp_); replace HB := Ae.mk ((by rw [hw]; exact Ai (HB.out) GB33.out : Below w.heap.size w w37)); clear hg hw hp_))
              go_roundg k3
              case measure => have := HK1.out; have := HK2.out; have := HK3.out; omega
              case rel => exact ⟨(cH), (aU), (wrap64 (ax - 1)), (by first | rfl | (simp; done) | (simp only [← bb] <;> (first | rfl | simp)) | (simp [*]; done)), (by first | rfl | (simp; done) | (simp [*]; done)), H', ⟨by have := HK1.out; have := HK2.out; have := HK3.out; omega⟩, ⟨by exact rU <| am.out⟩, ⟨by exact bU <| aa.out⟩, ⟨by repeat (first | (with_reducible first | exact HB.out | apply Ah | apply Aj | apply Ak | refine Ai ?_ au.out) | exact HB.out)⟩⟩
             ·rw [if_neg c31] at H
              exact absurd H (by simp)
            ·rw [if_neg c30] at H
             exact absurd H (by simp)
           ·rw [if_neg c28] at H
            have cG : decide (0 ≤ ax) = false := decide_eq_false c28; clear c28; have H' := Ae.mk H; clear H
            go_wp2
            go_roundg k3
            case measure => have := HK1.out; have := HK2.out; have := HK3.out; omega
            case rel => exact ⟨(aq), (wrap64 (ag + 1)), (by first | rfl | (simp; done) | (simp [*]; done)), H', ⟨by have := HK1.out; have := HK2.out; have := HK3.out; omega⟩, ⟨by exact rU <| am.out⟩, ⟨by exact bU <| aa.out⟩, ⟨by repeat (first | (with_reducible first | exact HB.out | apply Ah | apply Aj | apply Ak | refine Ai ?_ au.out) | exact HB.out)⟩⟩
     ·rw [if_neg c9] at H
      have bY : decide (ag < ae) = false := decide_eq_false c9; clear c9; obtain rfl := Option.some.inj H
      go_wp2
      go_ret
      exact ⟨_, by first | rfl | (simp [Bc, Bb] <;> rfl) | (simp [*, Bc, Bb] <;> rfl), by exact rU <| am.out, by repeat (first | (with_reducible first | exact HB.out | apply Ah | apply Aj | apply Ak | refine Ai ?_ au.out) | exact HB.out)⟩
  ·rw [if_neg c3] at H
   exact absurd H (by simp)
 ·rw [if_neg c2] at H
  exact absurd H (by simp)

end Go.Proofs.Ytbfimplajocmmaa.PFA

