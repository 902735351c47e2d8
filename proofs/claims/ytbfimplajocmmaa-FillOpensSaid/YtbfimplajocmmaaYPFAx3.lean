import Derived.Test.YtbfimplajocmmaaYPRAx0
namespace Go.Proofs.Ytbfimplajocmmaa.PFA
open Go.RowKit Go.Proofs.YtbfimplajocmmaaW.PrintWords Go.Proofs.YtbfimplajocmmaaW.PrintLast Go.Proofs.YtbfimplajocmmaaW.PrintMore
attribute [local go_sem] max2_int min2_int max_two min_two max_three min_three max_four min_four
set_option linter.unusedVariables false
set_option linter.unusedSimpArgs false

mutual
def Bo.l0 : Nat → List Int → Int → Int → Int → Int → List Bool → Option (List Int)
 | 0, _, _, _, _, _, _ => none
 | k + 1, x3, x13, x14, af, am, an => if x14 < x13 then (Bo.l1 k x3 x14 1048576 x13 x14 am 0 af am an) else (some x3)
def Bo.l1 : Nat → List Int → Int → Int → Int → Int → Int → Int → Int → Int → List Bool → Option (List Int)
 | 0, _, _, _, _, _, _, _, _, _, _ => none
 | k + 1, x3, x4, x5, x13, x14, x18, x19, af, am, an => if x19 < x18 then (if 0 ≤ (wrap64 ((wrap64 (x19 * af)) + x4)) then (if (wrap64 ((wrap64 (x19 * af)) + x4)) < (an.length : Int) then (if rdOf false an (wrap64 ((wrap64 (x19 * af)) + x4)) = true then (if (wrap64 ((wrap64 (x19 * af)) + x4)) < (x3.length : Int) then (Bo.l1 k (x3.set ((wrap64 ((wrap64 (x19 * af)) + x4)) : Int).toNat 0) x4 0 x13 x14 x18 (wrap64 (x19 + 1)) af am an) else (none)) else (if (wrap64 ((wrap64 (x19 * af)) + x4)) < (x3.length : Int) then (Bo.l1 k (x3.set ((wrap64 ((wrap64 (x19 * af)) + x4)) : Int).toNat (wrap64 (x5 + 1))) x4 (wrap64 (x5 + 1)) x13 x14 x18 (wrap64 (x19 + 1)) af am an) else (none))) else (none)) else (none)) else (Bo.l2 k x3 x4 1048576 (wrap64 (am - 1)) x13 x14 af am an)
def Bo.l2 : Nat → List Int → Int → Int → Int → Int → Int → Int → Int → List Bool → Option (List Int)
 | 0, _, _, _, _, _, _, _, _, _ => none
 | k + 1, x3, x4, x5, x7, x13, x14, af, am, an => if x7 ≥ 0 then (if 0 ≤ (wrap64 ((wrap64 (x7 * af)) + x4)) then (if (wrap64 ((wrap64 (x7 * af)) + x4)) < (x3.length : Int) then (Bo.l2 k (x3.set ((wrap64 ((wrap64 (x7 * af)) + x4)) : Int).toNat (mn (wrap64 (x5 + 1)) (rd x3 (wrap64 ((wrap64 (x7 * af)) + x4))))) x4 (mn (wrap64 (x5 + 1)) (rd x3 (wrap64 ((wrap64 (x7 * af)) + x4)))) (wrap64 (x7 - 1)) x13 x14 af am an) else (none)) else (none)) else (Bo.l0 k x3 x13 (wrap64 (x14 + 1)) af am an)
end
def Bo.f (k : Nat) (ag : Int) (ak : Int) (ac : List Bool) : Option (List Int) := if 0 ≤ (ac.length : Int) then (if ((ac.length : Int) : Int).toNat ≤ 35184372088832 then (Bo.l0 k (List.replicate ((ac.length : Int) : Int).toNat 0) ag 0 ag ak ac) else (none)) else (none)
theorem Bo.mono_l : ∀ k, (∀ y0 y1 y2 y3 y4 y5, LeO (Bo.l0 k y0 y1 y2 y3 y4 y5) (Bo.l0 (k + 1) y0 y1 y2 y3 y4 y5)) ∧ (∀ y0 y1 y2 y3 y4 y5 y6 y7 y8 y9, LeO (Bo.l1 k y0 y1 y2 y3 y4 y5 y6 y7 y8 y9) (Bo.l1 (k + 1) y0 y1 y2 y3 y4 y5 y6 y7 y8 y9)) ∧ (∀ y0 y1 y2 y3 y4 y5 y6 y7 y8, LeO (Bo.l2 k y0 y1 y2 y3 y4 y5 y6 y7 y8) (Bo.l2 (k + 1) y0 y1 y2 y3 y4 y5 y6 y7 y8))
 | 0 => ⟨fun _ _ _ _ _ _ r h => by simp [Bo.l0] at h, fun _ _ _ _ _ _ _ _ _ _ r h => by simp [Bo.l1] at h, fun _ _ _ _ _ _ _ _ _ r h => by simp [Bo.l2] at h⟩
 | k + 1 => by
  obtain ⟨ih0, ih1, ih2⟩ := Bo.mono_l k; refine ⟨?_, ?_, ?_⟩
  ·intro y0 y1 y2 y3 y4 y5
   unfold Bo.l0
   repeat' first
   | (with_reducible exact ih0 _ _ _ _ _ _)
   | (with_reducible exact ih1 _ _ _ _ _ _ _ _ _ _)
   | (with_reducible exact ih2 _ _ _ _ _ _ _ _ _)
   | (with_reducible exact LeO.refl _)
   | (with_reducible exact LeO.none _)
   | (with_reducible refine LeO.ite ?_ ?_)
   | (with_reducible refine LeO.bind ?_ (fun _ => ?_))
   | exact ih0 _ _ _ _ _ _
   | exact ih1 _ _ _ _ _ _ _ _ _ _
   | exact ih2 _ _ _ _ _ _ _ _ _
   | exact LeO.none _
   | refine LeO.ite ?_ ?_
   | refine LeO.bind ?_ (fun _ => ?_)
  ·intro y0 y1 y2 y3 y4 y5 y6 y7 y8 y9
   unfold Bo.l1
   repeat' first
   | (with_reducible exact ih0 _ _ _ _ _ _)
   | (with_reducible exact ih1 _ _ _ _ _ _ _ _ _ _)
   | (with_reducible exact ih2 _ _ _ _ _ _ _ _ _)
   | (with_reducible exact LeO.refl _)
   | (with_reducible exact LeO.none _)
   | (with_reducible refine LeO.ite ?_ ?_)
   | (with_reducible refine LeO.bind ?_ (fun _ => ?_))
   | exact ih0 _ _ _ _ _ _
   | exact ih1 _ _ _ _ _ _ _ _ _ _
   | exact ih2 _ _ _ _ _ _ _ _ _
   | exact LeO.none _
   | refine LeO.ite ?_ ?_
   | refine LeO.bind ?_ (fun _ => ?_)
  ·intro y0 y1 y2 y3 y4 y5 y6 y7 y8
   unfold Bo.l2
   repeat' first
   | (with_reducible exact ih0 _ _ _ _ _ _)
   | (with_reducible exact ih1 _ _ _ _ _ _ _ _ _ _)
   | (with_reducible exact ih2 _ _ _ _ _ _ _ _ _)
   | (with_reducible exact LeO.refl _)
   | (with_reducible exact LeO.none _)
   | (with_reducible refine LeO.ite ?_ ?_)
   | (with_reducible refine LeO.bind ?_ (fun _ => ?_))
   | exact ih0 _ _ _ _ _ _
   | exact ih1 _ _ _ _ _ _ _ _ _ _
   | exact ih2 _ _ _ _ _ _ _ _ _
   | exact LeO.none _
   | refine LeO.ite ?_ ?_
   | refine LeO.bind ?_ (fun _ => ?_)
theorem Bo.mono : ∀ a0 a1 a2 k, LeO (Bo.f k a0 a1 a2) (Bo.f (k + 1) a0 a1 a2) := by
 intro a0 a1 a2 k; obtain ⟨ih0, ih1, ih2⟩ := Bo.mono_l k; unfold Bo.f
 repeat' first
   | (with_reducible exact ih0 _ _ _ _ _ _)
   | (with_reducible exact ih1 _ _ _ _ _ _ _ _ _ _)
   | (with_reducible exact ih2 _ _ _ _ _ _ _ _ _)
   | (with_reducible exact LeO.refl _)
   | (with_reducible exact LeO.none _)
   | (with_reducible refine LeO.ite ?_ ?_)
   | (with_reducible refine LeO.bind ?_ (fun _ => ?_))
   | exact ih0 _ _ _ _ _ _
   | exact ih1 _ _ _ _ _ _ _ _ _ _
   | exact ih2 _ _ _ _ _ _ _ _ _
   | exact LeO.none _
   | refine LeO.ite ?_ ?_
   | refine LeO.bind ?_ (fun _ => ?_)
set_option maxHeartbeats 8000000 in
set_option maxRecDepth 100000 in
theorem Bo.calls (k : Nat) (ag : Int) (ak : Int) (ay : Option Addr) (aw : Nat) (ac : List Bool) (r : List Int) (w : World) (bN : Kd.C Kd.bool w ay ac.length ac) (bO : ac.length ≤ aw) (h : Bo.f k ag ak ac = some r) :
  Calls Try.prog 67 #[.agg #[.int .i64 ag, .int .i64 ak, .slice ay ac.length aw]] w fun e w' => ∃ v0_ : Value, e = .returned (v0_) ∧ Kd.R (Kd.int .i64) 3 w' w.heap.size (fun _ => True) v0_ r ∧ Below w.heap.size w w' := by
 have hu27 := Try.underlying27; have bP := Ac.mk bN; have cV := Ac.mk bO; clear bN bO; have HB := Ac.mk (Below.refl w.heap.size w); have H : (if 0 ≤ (ac.length : Int) then (if ((ac.length : Int) : Int).toNat ≤ 35184372088832 then (Bo.l0 k (List.replicate ((ac.length : Int) : Int).toNat 0) ag 0 ag ak ac) else (none)) else (none)) = some r := h; clear h
 by_cases c2 : 0 ≤ (ac.length : Int)
 ·rw [if_pos c2] at H
  have bT := eq_true c2; have bV : decide (0 ≤ (ac.length : Int)) = true := decide_eq_true c2; clear c2
  by_cases c3 : ((ac.length : Int) : Int).toNat ≤ 35184372088832
  ·rw [if_pos c3] at H
   have bW := eq_true c3; have bX : decide (((ac.length : Int) : Int).toNat ≤ 35184372088832) = true := decide_eq_true c3; clear c3; obtain ⟨cL, bf⟩ : ∃ y_ : List Int, y_ = (List.replicate ((ac.length : Int) : Int).toNat 0) := ⟨_, rfl⟩; (try rw [Option.bind_some] at H); try rw [← bf] at H; have bQ := Ac.mk bf; clear bf; have H' := Ac.mk H; clear H; go_enter Try.func67, Try.ntmps67
   go_wp2_with (first | ((with_reducible refine Bf (N := 1) rfl ?_); refine Bc ?hg (N := 1) ?hd (cs := #[.int .i64 ag, .int .i64 ak, .slice ay ac.length aw]) (t := 27) ?hr ?_; (case hd => rfl); (case hg => rfl); (case hr => first | (go_simp; done) | (go_simp; rfl)); intro ah hg w4 hbox hb; have aa := Ac.mk (hbox); have cW := Ac.mk ((by rw [hg]; exact (Ak (lU HB.out)) : w.heap.size ≤ ah)); have ax := Ac.mk ((by rw [hg]; exact (Ak (lU HB.out)) : w.heap.size ≤ ah)); replace HB := Ac.mk (Aq (lU HB.out) hb); clear hb hbox hg; have aG : w4.cell? ⟨ah, 0, none⟩ = some (.int .i64 ag) := (Ad aa.out 0).trans rfl; have aH : w4.cell? ⟨ah, 1, none⟩ = some (.int .i64 ak) := (Ad aa.out 1).trans rfl; have aI : w4.cell? ⟨ah, 2, none⟩ = some (.slice ay ac.length aw) := (Ad aa.out 2).trans rfl; have aJ := Af aa.out 0; have aK := Af aa.out 1; have aM := Af aa.out 2) | ((with_reducible refine Bf (N := 11) rfl ?_); refine Kd.R_make (Kd.int .i64) _ 3 rfl (N := 11) rfl 35 _ _ rfl (ac.length : Int) rfl rfl Try.underlying35 (.int .i64 0) 8 info3 rfl (by decide) (by omega) 0 (ok := fun _ => True) (okp := fun _ => True) rfl (fun _ hk => hk) trivial (of_decide_eq_true (by with_reducible assumption)) (Nat.le_trans (Nat.mul_le_mul_right _ (of_decide_eq_true (by with_reducible assumption) : (ac.length : Int).toNat ≤ 35184372088832)) (by omega)) (Below.refl _ _) (Nat.le_refl _) ?_; intro v125 w6 ho7 hb hg_ hnew_; clear hg_ hnew_; (first | rw [← bQ.out] at ho7 | (simp only [Int.reduceToNat] at ho7; rw [← bQ.out] at ho7)); have b9 := Ac.mk (Kd.B9 ho7 (Ak (by repeat (first | (with_reducible first | exact HB.out | apply Ah | apply Ae | apply Ai | refine Ag ?_ ax.out) | exact HB.out)))); replace aa := Ac.mk (An (g := ah) (o := .cells #[.int .i64 ag, .int .i64 ak, .slice ay ac.length aw] 27 (0, 0)) (by exact bU <| aa.out) hb); replace HB := Ac.mk (Aq (by repeat (first | (with_reducible first | exact HB.out | apply Ah | apply Ae | apply Ai | refine Ag ?_ ax.out) | exact HB.out)) hb); clear hb ho7; have aN : w6.cell? ⟨ah, 0, none⟩ = some (.int .i64 ag) := (Ad aa.out 0).trans rfl; have aQ : w6.cell? ⟨ah, 1, none⟩ = some (.int .i64 ak) := (Ad aa.out 1).trans rfl; have aT : w6.cell? ⟨ah, 2, none⟩ = some (.slice ay ac.length aw) := (Ad aa.out 2).trans rfl; have aU := Af aa.out 0; have aV := Af aa.out 1; have aW := Af aa.out 2))
   go_loopg [14] k (fun kq v14 w' => ∃ (bq : List Int) (ai : Int), v14 = .int .i64 ai ∧ Ac (Bo.l0 kq bq ag ai ag ak ac = some r) ∧ Ac (kq ≤ k) ∧ Ac (Kd.R (Kd.int .i64) 3 w' w.heap.size (fun _ => True) v125 bq) ∧ Ac (w'.heap[ah]? = some (.cells #[.int .i64 ag, .int .i64 ak, (.slice ay ac.length aw)] 27 (0, 0))) ∧ Ac (Below w.heap.size w w'))
   case atStart => exact ⟨(cL), (0), (by first | rfl | (simp; done) | (simp [*]; done)), H', ⟨Nat.le_refl _⟩, ⟨by exact rU <| b9.out⟩, ⟨by exact bU <| aa.out⟩, ⟨by repeat (first | (with_reducible first | exact HB.out | apply Ah | apply Ae | apply Ai | refine Ag ?_ ax.out) | exact HB.out)⟩⟩
   case round =>
    clear H'; (try clear c2); (try clear bT); (try clear bV); (try clear p2); (try clear c3); (try clear bW); (try clear bX); (try clear c6); (try clear aG); (try clear aH); (try clear aI); (try clear aN); (try clear aQ); (try clear aT); (try clear aJ); (try clear aK); (try clear aM); (try clear aU); (try clear aV); (try clear aW); obtain ⟨bq, ai, rfl, HA, HK1, ap, aa, HB⟩ := hrel; cases gk with
    | zero => exact absurd HA.out (by simp [Bo.l0])
    | succ k1 =>
     have H := HA.out; clear HA
     simp only [Bo.l0] at H
     by_cases c9 : ai < ag
     ·rw [if_pos c9] at H
      have bY : decide (ai < ag) = true := decide_eq_true c9; clear c9; have H' := Ac.mk H; clear H; have aY : wr.cell? ⟨ah, 0, none⟩ = some (.int .i64 ag) := (Ad aa.out 0).trans rfl; have aZ : wr.cell? ⟨ah, 1, none⟩ = some (.int .i64 ak) := (Ad aa.out 1).trans rfl; have ba : wr.cell? ⟨ah, 2, none⟩ = some (.slice ay ac.length aw) := (Ad aa.out 2).trans rfl; have bb := Af aa.out 0; have bc := Af aa.out 1; have bd := Af aa.out 2
      go_wp2
      go_loopg [5, 19] k1 (fun kq v5 v19 w' => ∃ (ar : List Int) (az : Int) (au : Int), v5 = .int .i64 az ∧ v19 = .int .i64 au ∧ Ac (Bo.l1 kq ar ai az ag ai ak au ag ak ac = some r) ∧ Ac (kq ≤ k1) ∧ Ac (Kd.R (Kd.int .i64) 3 w' w.heap.size (fun _ => True) v125 ar) ∧ Ac (w'.heap[ah]? = some (.cells #[.int .i64 ag, .int .i64 ak, (.slice ay ac.length aw)] 27 (0, 0))) ∧ Ac (Below w.heap.size w w'))
      case atStart => exact ⟨(bq), (1048576), (0), (by first | rfl | (simp; done) | (simp [*]; done)), (by first | rfl | (simp; done) | (simp [*]; done)), H', ⟨Nat.le_refl _⟩, ⟨by exact rU <| ap.out⟩, ⟨by exact bU <| aa.out⟩, ⟨by repeat (first | (with_reducible first | exact HB.out | apply Ah | apply Ae | apply Ai | refine Ag ?_ ax.out) | exact HB.out)⟩⟩
      case round =>
       clear H'; (try clear c2); (try clear bT); (try clear bV); (try clear p2); (try clear c3); (try clear bW); (try clear bX); (try clear c6); (try clear c9); (try clear bY); (try clear aY); (try clear aZ); (try clear ba); (try clear aG); (try clear aH); (try clear aI); (try clear aN); (try clear aQ); (try clear aT); (try clear bb); (try clear bc); (try clear bd); (try clear aJ); (try clear aK); (try clear aM); (try clear aU); (try clear aV); (try clear aW); (try clear p2); obtain ⟨ar, az, au, rfl, rfl, HA, HK2, ap, aa, HB⟩ := hrel; cases gk with
       | zero => exact absurd HA.out (by simp [Bo.l1])
       | succ k2 =>
        have H := HA.out; clear HA
        simp only [Bo.l1] at H
        by_cases c11 : au < ak
        ·rw [if_pos c11] at H
         have bR : decide (au < ak) = true := decide_eq_true c11; clear c11; obtain ⟨aj, bg⟩ : ∃ j_ : Int, (wrap64 ((wrap64 (au * ag)) + ai)) = j_ := ⟨_, rfl⟩; replace H : (if 0 ≤ (aj) then (if (aj) < (ac.length : Int) then (if rdOf false ac (aj) = true then (if (aj) < (ar.length : Int) then (Bo.l1 k2 (ar.set ((aj) : Int).toNat 0) ai 0 ag ai ak (wrap64 (au + 1)) ag ak ac) else (none)) else (if (aj) < (ar.length : Int) then (Bo.l1 k2 (ar.set ((aj) : Int).toNat (wrap64 (az + 1))) ai (wrap64 (az + 1)) ag ai ak (wrap64 (au + 1)) ag ak ac) else (none))) else (none)) else (none)) = some r := by first | (rw [bg] at H; exact H) | (simp only [bg] at H ⊢; exact H)
         have hji12w : (IntKind.i64.wrap ((wrap64 (au * ag)) + ai)) = aj := (i64_w _).trans bg
         by_cases c13 : 0 ≤ (aj)
         ·rw [if_pos c13] at H
          have cd : decide (0 ≤ (aj)) = true := decide_eq_true c13; clear c13
          by_cases c14 : (aj) < (ac.length : Int)
          ·rw [if_pos c14] at H
           have ce : decide ((aj) < (ac.length : Int)) = true := decide_eq_true c14; clear c14; obtain ⟨bq15, bh⟩ : ∃ b_ : Bool, b_ = (rdOf false ac (aj)) := ⟨_, rfl⟩; replace H : (if bq15 = true then (if (aj) < (ar.length : Int) then (Bo.l1 k2 (ar.set ((aj) : Int).toNat 0) ai 0 ag ai ak (wrap64 (au + 1)) ag ak ac) else (none)) else (if (aj) < (ar.length : Int) then (Bo.l1 k2 (ar.set ((aj) : Int).toNat (wrap64 (az + 1))) ai (wrap64 (az + 1)) ag ai ak (wrap64 (au + 1)) ag ak ac) else (none))) = some r := by rw [← bh] at H; exact H
           have bS := Ac.mk bh; clear bh
           by_cases c16 : bq15 = true
           ·subst c16
            have H1 := H; rw [if_pos rfl] at H1; clear H; have H := H1; clear H1
            by_cases c17 : (aj) < (ar.length : Int)
            ·rw [if_pos c17] at H
             have cg : decide ((aj) < (ar.length : Int)) = true := decide_eq_true c17; clear c17; obtain ⟨ck, bj⟩ : ∃ y_ : List Int, y_ = (ar.set ((aj) : Int).toNat 0) := ⟨_, rfl⟩; (try rw [Option.bind_some] at H); try rw [← bj] at H; have cp := Ac.mk bj; clear bj; have H' := Ac.mk H; clear H; have br : wr.cell? ⟨ah, 0, none⟩ = some (.int .i64 ag) := (Ad aa.out 0).trans rfl; have bs : wr.cell? ⟨ah, 1, none⟩ = some (.int .i64 ak) := (Ad aa.out 1).trans rfl; have bt : wr.cell? ⟨ah, 2, none⟩ = some (.slice ay ac.length aw) := (Ad aa.out 2).trans rfl; have bu := Af aa.out 0; have bv := Af aa.out 1; have bw := Af aa.out 2; have aC : 0 ≤ ((aj) : Int) := of_decide_eq_true (by with_reducible assumption); have aD : (aj) < (ac.length : Int) := of_decide_eq_true (by with_reducible assumption); obtain ⟨bl, e127, ao⟩ := Kd.at_bool bP.out (aj) aC aD; (try rw [← bS.out] at ao); cases e127; replace ao := (HB.out.cell (World.block_lt_of_cell? w _ ao)).trans ao; replace aC := eq_true aC; replace aD := eq_true aD; have p18 : 0 ≤ ((aj) : Int) := of_decide_eq_true (by with_reducible assumption); have q18 : ((aj) : Int) < ((ar.length : Int) : Int) := of_decide_eq_true (by with_reducible assumption); obtain ⟨go18, cM, cr, ct, gl18, cl18, HG18⟩ := Kd.R_form ap.out (by omega); (first | cases cr | (injection cr with ea_ en_ ec_; (first | subst ea_ | (injection ea_ with ea_; subst ea_)); subst ec_; clear en_)); have GB18 := Ac.mk ct; have GG18 := Ac.mk HG18; clear ct gl18 HG18; obtain ⟨bZ, cN⟩ := Kd.R_celln 0 ap.out ((aj) : Int) p18 q18; replace p18 := eq_true p18; replace q18 := eq_true q18; have b3 := Kd.R_putg ap.out ((aj) : Int) 0
             go_wp2_with (first | ((with_reducible refine Dk (t := 3) (p := 42) rfl ?_); refine store_event (t := 3) (p := 42) (v := ?vo_w21) (w1 := (wr.setCell ⟨go18, ((aj) : Int).toNat, none⟩ (.int .i64 0))) ?hg ?ho ?hn ?hr ?_; (case ho => rfl); (case hg => rfl); (case hn => rfl); (case hr => first | (go_simp; done) | (go_simp; rfl)); intro w21 hw; have hg : wr.grownBy w21 (some go18) := (by rw [hw]; exact b3.2); have hp_ : Kd.R (Kd.int .i64) 3 w21 w.heap.size (fun _ => True) (.slice (some ⟨go18, 0, none⟩) ar.length cM) ck := (by rw [hw, cp.out]; exact b3.1); clear b3; replace aa := Ac.mk (B3 (g := ah) (o := .cells #[.int .i64 ag, .int .i64 ak, .slice (some bl) ac.length aw] 27 (0, 0)) (by exact bU <| aa.out) hg (Kd.Dr ap.out aa.out (by decide))); replace ap := Ac.mk (hp_); replace HB := Ac.mk ((by rw [hw]; exact Ag (HB.out) GB18.out : Below w.heap.size w w21)); clear hg hw hp_))
             go_roundg k2
             case measure => have := HK1.out; have := HK2.out; omega
             case rel => exact ⟨(ck), (0), (wrap64 (au + 1)), (by first | rfl | (simp; done) | (simp [*]; done)), (by first | rfl | (simp; done) | (simp [*]; done)), H', ⟨by have := HK1.out; have := HK2.out; omega⟩, ⟨by exact rU <| ap.out⟩, ⟨by exact bU <| aa.out⟩, ⟨by repeat (first | (with_reducible first | exact HB.out | apply Ah | apply Ae | apply Ai | refine Ag ?_ ax.out) | exact HB.out)⟩⟩
            ·rw [if_neg c17] at H
             exact absurd H (by simp)
           ·replace c16 := Bool.eq_false_iff.mpr c16
            subst c16; have H1 := H; rw [if_neg (show ¬ (false = true) by decide)] at H1; clear H; have H := H1; clear H1
            by_cases c22 : (aj) < (ar.length : Int)
            ·rw [if_pos c22] at H
             have cu : decide ((aj) < (ar.length : Int)) = true := decide_eq_true c22; clear c22; obtain ⟨cw, bm⟩ : ∃ y_ : List Int, y_ = (ar.set ((aj) : Int).toNat (wrap64 (az + 1))) := ⟨_, rfl⟩; (try rw [Option.bind_some] at H); try rw [← bm] at H; have cx := Ac.mk bm; clear bm; have H' := Ac.mk H; clear H; have bz : wr.cell? ⟨ah, 0, none⟩ = some (.int .i64 ag) := (Ad aa.out 0).trans rfl; have bB : wr.cell? ⟨ah, 1, none⟩ = some (.int .i64 ak) := (Ad aa.out 1).trans rfl; have bC : wr.cell? ⟨ah, 2, none⟩ = some (.slice ay ac.length aw) := (Ad aa.out 2).trans rfl; have bD := Af aa.out 0; have bE := Af aa.out 1; have bF := Af aa.out 2; have aC : 0 ≤ ((aj) : Int) := of_decide_eq_true (by with_reducible assumption); have aD : (aj) < (ac.length : Int) := of_decide_eq_true (by with_reducible assumption); obtain ⟨bl, e127, ao⟩ := Kd.at_bool bP.out (aj) aC aD; (try rw [← bS.out] at ao); cases e127; replace ao := (HB.out.cell (World.block_lt_of_cell? w _ ao)).trans ao; replace aC := eq_true aC; replace aD := eq_true aD; have p23 : 0 ≤ ((aj) : Int) := of_decide_eq_true (by with_reducible assumption); have q23 : ((aj) : Int) < ((ar.length : Int) : Int) := of_decide_eq_true (by with_reducible assumption); obtain ⟨go23, cO, cy, cz, gl23, cl23, HG23⟩ := Kd.R_form ap.out (by omega); (first | cases cy | (injection cy with ea_ en_ ec_; (first | subst ea_ | (injection ea_ with ea_; subst ea_)); subst ec_; clear en_)); have GB23 := Ac.mk cz; have GG23 := Ac.mk HG23; clear cz gl23 HG23; obtain ⟨b4, cP⟩ := Kd.R_celln 0 ap.out ((aj) : Int) p23 q23; replace p23 := eq_true p23; replace q23 := eq_true q23; have b5 := Kd.R_putg ap.out ((aj) : Int) (wrap64 (az + 1))
             go_wp2_with (first | ((with_reducible refine Dk (t := 3) (p := 42) rfl ?_); refine store_event (t := 3) (p := 42) (v := ?vo_w26) (w1 := (wr.setCell ⟨go23, ((aj) : Int).toNat, none⟩ (.int .i64 (wrap64 (az + 1))))) ?hg ?ho ?hn ?hr ?_; (case ho => rfl); (case hg => rfl); (case hn => rfl); (case hr => first | (go_simp; done) | (go_simp; rfl)); intro w26 hw; have hg : wr.grownBy w26 (some go23) := (by rw [hw]; exact b5.2); have hp_ : Kd.R (Kd.int .i64) 3 w26 w.heap.size (fun _ => True) (.slice (some ⟨go23, 0, none⟩) ar.length cO) cw := (by rw [hw, cx.out]; exact b5.1); clear b5; replace aa := Ac.mk (B3 (g := ah) (o := .cells #[.int .i64 ag, .int .i64 ak, .slice (some bl) ac.length aw] 27 (0, 0)) (by exact bU <| aa.out) hg (Kd.Dr ap.out aa.out (by decide))); replace ap := Ac.mk (hp_); replace HB := Ac.mk ((by rw [hw]; exact Ag (HB.out) GB23.out : Below w.heap.size w w26)); clear hg hw hp_))
             go_roundg k2
             case measure => have := HK1.out; have := HK2.out; omega
             case rel => exact ⟨(cw), (wrap64 (az + 1)), (wrap64 (au + 1)), (by first | rfl | (simp; done) | (simp [*]; done)), (by first | rfl | (simp; done) | (simp [*]; done)), H', ⟨by have := HK1.out; have := HK2.out; omega⟩, ⟨by exact rU <| ap.out⟩, ⟨by exact bU <| aa.out⟩, ⟨by repeat (first | (with_reducible first | exact HB.out | apply Ah | apply Ae | apply Ai | refine Ag ?_ ax.out) | exact HB.out)⟩⟩
            ·rw [if_neg c22] at H
             exact absurd H (by simp)
          ·rw [if_neg c14] at H
           exact absurd H (by simp)
         ·rw [if_neg c13] at H
          exact absurd H (by simp)
        ·rw [if_neg c11] at H
         have bR : decide (au < ak) = false := decide_eq_false c11; clear c11; have H' := Ac.mk H; clear H; have bG : wr.cell? ⟨ah, 0, none⟩ = some (.int .i64 ag) := (Ad aa.out 0).trans rfl; have bH : wr.cell? ⟨ah, 1, none⟩ = some (.int .i64 ak) := (Ad aa.out 1).trans rfl; have bI : wr.cell? ⟨ah, 2, none⟩ = some (.slice ay ac.length aw) := (Ad aa.out 2).trans rfl; have bJ := Af aa.out 0; have bK := Af aa.out 1; have bL := Af aa.out 2
         go_wp2
         go_loopg [5, 7] k2 (fun kq v5 v7 w' => ∃ (av : List Int) (aE : Int) (aA : Int), v5 = .int .i64 aE ∧ v7 = .int .i64 aA ∧ Ac (Bo.l2 kq av ai aE aA ag ai ag ak ac = some r) ∧ Ac (kq ≤ k2) ∧ Ac (Kd.R (Kd.int .i64) 3 w' w.heap.size (fun _ => True) v125 av) ∧ Ac (w'.heap[ah]? = some (.cells #[.int .i64 ag, .int .i64 ak, (.slice ay ac.length aw)] 27 (0, 0))) ∧ Ac (Below w.heap.size w w'))
         case atStart => exact ⟨(ar), (1048576), (wrap64 (ak - 1)), (by first | rfl | (simp; done) | (simp [*]; done)), (by first | rfl | (simp; done) | (simp [*]; done)), H', ⟨Nat.le_refl _⟩, ⟨by exact rU <| ap.out⟩, ⟨by exact bU <| aa.out⟩, ⟨by repeat (first | (with_reducible first | exact HB.out | apply Ah | apply Ae | apply Ai | refine Ag ?_ ax.out) | exact HB.out)⟩⟩
         case round =>
          clear H'; (try clear c1); (try clear p1); (try clear q1); (try clear hx1); (try clear hf1); (try clear c2); (try clear bT); (try clear bV); (try clear p2); (try clear q2); (try clear hx2); (try clear hf2); (try clear c3); (try clear bW); (try clear bX); (try clear c6); (try clear p6); (try clear c9); (try clear bY); (try clear c11); (try clear bR); (try clear p12); (try clear q12); (try clear hx12); (try clear c13); (try clear cd); (try clear c14); (try clear ce); (try clear q15); (try clear c16); (try clear c17); (try clear cg); (try clear p18); (try clear q18); (try clear hx18); (try clear hf18); (try clear c22); (try clear cu); (try clear p23); (try clear q23); (try clear hx23); (try clear hf23); (try clear aY); (try clear aZ); (try clear ba); (try clear br); (try clear bs); (try clear bt); (try clear bz); (try clear bB); (try clear bC); (try clear bG); (try clear bH); (try clear bI); (try clear aG); (try clear aH); (try clear aI); (try clear aN); (try clear aQ); (try clear aT); (try clear bb); (try clear bc); (try clear bd); (try clear bu); (try clear bv); (try clear bw); (try clear bD); (try clear bE); (try clear bF); (try clear bJ); (try clear bK); (try clear bL); (try clear aJ); (try clear aK); (try clear aM); (try clear aU); (try clear aV); (try clear aW); (try clear ao); (try clear bZ); (try clear b4); (try clear aC); (try clear p18); (try clear p2); (try clear p23); (try clear aD); (try clear q18); (try clear q23); obtain ⟨av, aE, aA, rfl, rfl, HA, HK3, ap, aa, HB⟩ := hrel; cases gk with
          | zero => exact absurd HA.out (by simp [Bo.l2])
          | succ k3 =>
           have H := HA.out; clear HA
           simp only [Bo.l2] at H
           by_cases c28 : aA ≥ 0
           ·rw [if_pos c28] at H
            have cA : decide (0 ≤ aA) = true := decide_eq_true c28; clear c28; obtain ⟨aq, bo⟩ : ∃ j_ : Int, (wrap64 ((wrap64 (aA * ag)) + ai)) = j_ := ⟨_, rfl⟩; replace H : (if 0 ≤ (aq) then (if (aq) < (av.length : Int) then (Bo.l2 k3 (av.set ((aq) : Int).toNat (mn (wrap64 (aE + 1)) (rd av (aq)))) ai (mn (wrap64 (aE + 1)) (rd av (aq))) (wrap64 (aA - 1)) ag ai ag ak ac) else (none)) else (none)) = some r := by first | (rw [bo] at H; exact H) | (simp only [bo] at H ⊢; exact H)
            have hji29w : (IntKind.i64.wrap ((wrap64 (aA * ag)) + ai)) = aq := (i64_w _).trans bo
            by_cases c30 : 0 ≤ (aq)
            ·rw [if_pos c30] at H
             have cX : decide (0 ≤ (aq)) = true := decide_eq_true c30; clear c30
             by_cases c31 : (aq) < (av.length : Int)
             ·rw [if_pos c31] at H
              have cY : decide ((aq) < (av.length : Int)) = true := decide_eq_true c31; clear c31; obtain ⟨aX, be⟩ : ∃ j_ : Int, (mn (wrap64 (aE + 1)) (rd av (aq))) = j_ := ⟨_, rfl⟩; replace H : (Bo.l2 k3 (av.set ((aq) : Int).toNat (aX)) ai aX (wrap64 (aA - 1)) ag ai ag ak ac) = some r := by first | (rw [be] at H; exact H) | (simp only [be] at H ⊢; exact H)
              have hji32_ : (if (rd av (aq)) < (wrap64 (aE + 1)) then (rd av (aq)) else (wrap64 (aE + 1))) = aX := be; obtain ⟨cB, bp⟩ : ∃ y_ : List Int, y_ = (av.set ((aq) : Int).toNat (aX)) := ⟨_, rfl⟩; (try rw [Option.bind_some] at H); try rw [← bp] at H; have cC := Ac.mk bp; clear bp; have H' := Ac.mk H; clear H; have cF : wr.cell? ⟨ah, 0, none⟩ = some (.int .i64 ag) := (Ad aa.out 0).trans rfl; have cG : wr.cell? ⟨ah, 1, none⟩ = some (.int .i64 ak) := (Ad aa.out 1).trans rfl; have cH : wr.cell? ⟨ah, 2, none⟩ = some (.slice ay ac.length aw) := (Ad aa.out 2).trans rfl; have cI := Af aa.out 0; have cJ := Af aa.out 1; have cK := Af aa.out 2; obtain ⟨da, cQ, cR⟩ := Kd.B0 ap.out; subst cR; have b6 : 0 ≤ ((aq) : Int) := of_decide_eq_true (by with_reducible assumption); have b7 : (aq) < (av.length : Int) := of_decide_eq_true (by with_reducible assumption); obtain ⟨cZ, e130, bM⟩ := Kd.at_int (Kd.Bn ap.out).2.2 (aq) b6 b7; cases e130; replace b6 := eq_true b6; replace b7 := eq_true b7; have p33 : 0 ≤ ((aq) : Int) := of_decide_eq_true (by with_reducible assumption); have q33 : ((aq) : Int) < ((av.length : Int) : Int) := of_decide_eq_true (by with_reducible assumption); obtain ⟨go33, db, cD, cE, gl33, cl33, HG33⟩ := Kd.R_form ap.out (by omega); (first | cases cD | (injection cD with ea_ en_ ec_; (first | subst ea_ | (injection ea_ with ea_; subst ea_)); subst ec_; clear en_)); have GB33 := Ac.mk cE; have GG33 := Ac.mk HG33; clear cE gl33 HG33; (first | simp only [add_plain] at bM | skip); obtain ⟨cS, cU⟩ := Kd.R_celln 0 ap.out ((aq) : Int) p33 q33; replace p33 := eq_true p33; replace q33 := eq_true q33; have b8 := Kd.R_putg ap.out ((aq) : Int) aX
              go_wp2_with (first | ((with_reducible refine Dk (t := 3) (p := 71) rfl ?_); refine store_event (t := 3) (p := 71) (v := ?vo_w37) (w1 := (wr.setCell ⟨go33, ((aq) : Int).toNat, none⟩ (.int .i64 aX))) ?hg ?ho ?hn ?hr ?_; (case ho => rfl); (case hg => rfl); (case hn => rfl); (case hr => first | (go_simp; done) | (go_simp; rfl)); intro w37 hw; have hg : wr.grownBy w37 (some go33) := (by rw [hw]; exact b8.2); have hp_ : Kd.R (Kd.int .i64) 3 w37 w.heap.size (fun _ => True) (.slice (some ⟨go33, 0, none⟩) av.length cQ) cB := (by rw [hw, cC.out]; exact b8.1); clear b8; replace aa := Ac.mk (B3 (g := ah) (o := .cells #[.int .i64 ag, .int .i64 ak, .slice ay ac.length aw] 27 (0, 0)) (by exact bU <| aa.out) hg (Kd.Dr ap.out aa.out (by decide))); replace ap := Ac.mk (hp_); replace HB := Ac.mk ((by rw [hw]; exact Ag (HB.out) GB33.out : Below w.heap.size w w37)); clear hg hw hp_))
              go_roundg k3
              case measure => have := HK1.out; have := HK2.out; have := HK3.out; omega
              case rel => exact ⟨(cB), (aX), (wrap64 (aA - 1)), (by first | rfl | (simp; done) | (simp only [← be] <;> (first | rfl | simp)) | (simp [*]; done)), (by first | rfl | (simp; done) | (simp [*]; done)), H', ⟨by have := HK1.out; have := HK2.out; have := HK3.out; omega⟩, ⟨by exact rU <| ap.out⟩, ⟨by exact bU <| aa.out⟩, ⟨by repeat (first | (with_reducible first | exact HB.out | apply Ah | apply Ae | apply Ai | refine Ag ?_ ax.out) | exact HB.out)⟩⟩
             ·rw [if_neg c31] at H
              exact absurd H (by simp)
            ·rw [if_neg c30] at H
             exact absurd H (by simp)
           ·rw [if_neg c28] at H
            have cA : decide (0 ≤ aA) = false := decide_eq_false c28; clear c28; have H' := Ac.mk H; clear H
            go_wp2
            go_roundg k3
            case measure => have := HK1.out; have := HK2.out; have := HK3.out; omega
            case rel => exact ⟨(av), (wrap64 (ai + 1)), (by first | rfl | (simp; done) | (simp [*]; done)), H', ⟨by have := HK1.out; have := HK2.out; have := HK3.out; omega⟩, ⟨by exact rU <| ap.out⟩, ⟨by exact bU <| aa.out⟩, ⟨by repeat (first | (with_reducible first | exact HB.out | apply Ah | apply Ae | apply Ai | refine Ag ?_ ax.out) | exact HB.out)⟩⟩
     ·rw [if_neg c9] at H
      have bY : decide (ai < ag) = false := decide_eq_false c9; clear c9; obtain rfl := Option.some.inj H
      go_wp2
      go_ret
      exact ⟨_, by first | rfl | (simp [At, As] <;> rfl) | (simp [*, At, As] <;> rfl), by exact rU <| ap.out, by repeat (first | (with_reducible first | exact HB.out | apply Ah | apply Ae | apply Ai | refine Ag ?_ ax.out) | exact HB.out)⟩
  ·rw [if_neg c3] at H
   exact absurd H (by simp)
 ·rw [if_neg c2] at H
  exact absurd H (by simp)

end Go.Proofs.Ytbfimplajocmmaa.PFA


