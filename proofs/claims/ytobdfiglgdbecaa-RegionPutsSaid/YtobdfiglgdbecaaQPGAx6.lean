import Derived.Test.YtobdfiglgdbecaaQUQ
import Derived.Test.YtobdfiglgdbecaaQPGAx0
import Derived.Test.YtobdfiglgdbecaaQPGAx2
import Derived.Test.YtobdfiglgdbecaaQPGAx5
namespace Go.Proofs.Ytobdfiglgdbecaa.PGA
open Go.Proofs.Ytobdfiglgdbecaa.PGB
open Go.RowKit Go.Proofs.YtobdfiglgdbecaaW.PrintWords Go.Proofs.YtobdfiglgdbecaaW.PrintLast Go.Proofs.YtobdfiglgdbecaaW.PrintMore
attribute [local go_sem] max2_int min2_int max_two min_two max_three min_three max_four min_four
set_option linter.unusedVariables false
set_option linter.unusedSimpArgs false

def Co.l0 : Nat → List (S58) → List (S58) → Int → List (List (S58)) → Int → Int → Option ((List (S58)) × Int)
 | 0, _, _, _, _, _, _ => none
 | k + 1, x0, x1, x2, x13, x14, x15 => if x15 < x14 then (if 0 ≤ x15 then (if x15 < (x13.length : Int) then ((Bw.f k (rd_L5 x13 x15)).bind fun an => (if an = 0 then (Co.l0 k x0 x1 x2 x13 x14 (wrap64 (x15 + 1))) else (some (([] : List (S58)), an)))) else (none)) else (none)) else ((Ar.f k x0 x1 x2).bind fun aD => ((Bs.f k aD).bind fun aJ => (some (aJ.1, aJ.2))))
def Co.f (k : Nat) (l0 : List (S58)) (l1 : List (S58)) (a2 : Int) : Option ((List (S58)) × Int) := (some (([l0, l1] : List (List (S58))) : List (List (S58)))).bind fun ae => (Co.l0 k l0 l1 a2 ae (ae.length : Int) 0)
set_option maxHeartbeats 8000000 in
set_option maxRecDepth 100000 in
theorem Co.calls (k : Nat) (P0_ : Nat → Prop) (A0 : Option Addr) (c0 : Nat) (l0 : List (S58)) (P1_ : Nat → Prop) (A1 : Option Addr) (c1 : Nat) (l1 : List (S58)) (a2 : Int) (r1 : List (S58)) (r2 : Int) (w : World) (hs0 : Kd.V k58 58 w w.heap.size (fun k_ => P0_ k_) (.slice A0 l0.length c0) l0) (hs1 : Kd.V k58 58 w w.heap.size (fun k_ => P1_ k_) (.slice A1 l1.length c1) l1) (h : Co.f k l0 l1 a2 = some (r1, r2)) (hk_ : Aa (IsKeep a2) := by first | assumption | exact ⟨by decide⟩) :
  Calls Try.prog 55 #[.slice A0 l0.length c0, .slice A1 l1.length c1, .func (.func a2.toNat) #[] #[]] w fun e w' => ∃ v0_ : Value, e = .returned (.tuple #[v0_, .int .i64 r2]) ∧ Kd.R k58 58 w' w.heap.size (fun k_ => (w.heap.size ≤ k_)) v0_ r1 ∧ Below w.heap.size w w' := by
 have HO0 := Aa.mk (show Kd.V k58 58 w w.heap.size (fun k_ => ((P0_ k_ ∨ P1_ k_) ∨ w.heap.size ≤ k_)) (.slice A0 l0.length c0) l0 from Kd.V_mono hs0 (fun k_ hk => .inl (.inl hk))); have HO1 := Aa.mk (show Kd.V k58 58 w w.heap.size (fun k_ => ((P0_ k_ ∨ P1_ k_) ∨ w.heap.size ≤ k_)) (.slice A1 l1.length c1) l1 from Kd.V_mono hs1 (fun k_ hk => .inl (.inr hk))); have HB := Aa.mk (Below.refl w.heap.size w); have H : ((some (([l0, l1] : List (List (S58))) : List (List (S58)))).bind fun ae => (Co.l0 k l0 l1 a2 ae (ae.length : Int) 0)) = some (r1, r2) := h; clear h; obtain ⟨ae, aE⟩ : ∃ y_ : List (List (S58)), y_ = (([l0, l1] : List (List (S58)))) := ⟨_, rfl⟩; (try rw [Option.bind_some] at H); try rw [← aE] at H; have aK := Aa.mk aE; clear aE; have H' := Aa.mk H; clear H; go_enter Try.func55, Try.ntmps55
 go_wp2_with (((with_reducible refine Bz (N := 13) rfl ?_); refine Kd.N_lit (Kd.slice 58 k58) _ 22 ?hg (N' := 13) ?hd (xs := ([l0, l1] : List (List (S58)))) (inner := [.slice A0 l0.length c0, .slice A1 l1.length c1]) (ok := (fun k_ => ((P0_ k_ ∨ P1_ k_) ∨ w.heap.size ≤ k_))) (okp := (fun k_ => ((P0_ k_ ∨ P1_ k_) ∨ w.heap.size ≤ k_))) ?hr ?hp (fun _ hk => hk) ((show ∀ k_, w.heap.size ≤ k_ → (fun k_ => ((P0_ k_ ∨ P1_ k_) ∨ w.heap.size ≤ k_)) k_ from fun k_ hk => (.inr (Nat.le_trans (Ae (lU HB.out)) hk))) _ (Nat.le_refl _)) (Below.refl _ _) (Nat.le_refl _) (by simp) ?_; (case hd => rfl); (case hg => rfl); (case hr => first | (go_simp; done) | (go_simp; rfl)); (case hp => exact (Reps.one (show Kd.FK (Kd.slice 58 k58) _ _ l0 [.slice A0 l0.length c0] from (Kd.FK_slice_mk (Kd.V_reads' (Kd.V_mono (ok' := (fun k_ => ((P0_ k_ ∨ P1_ k_) ∨ w.heap.size ≤ k_))) (HO0.out) (fun k_ hk => hk))).2.1 (Kd.V_F (Kd.V_mono (ok' := (fun k_ => ((P0_ k_ ∨ P1_ k_) ∨ w.heap.size ≤ k_))) (HO0.out) (fun k_ hk => hk))))) (Reps.one (show Kd.FK (Kd.slice 58 k58) _ _ l1 [.slice A1 l1.length c1] from (Kd.FK_slice_mk (Kd.V_reads' (Kd.V_mono (ok' := (fun k_ => ((P0_ k_ ∨ P1_ k_) ∨ w.heap.size ≤ k_))) (HO1.out) (fun k_ hk => hk))).2.1 (Kd.V_F (Kd.V_mono (ok' := (fun k_ => ((P0_ k_ ∨ P1_ k_) ∨ w.heap.size ≤ k_))) (HO1.out) (fun k_ hk => hk))))) (Reps.none _ _)))); intro v230 w4 ho5 hb hg_ hnew_; clear hg_ hnew_; (first | rw [← aK.out] at ho5 | (simp only [Int.reduceToNat] at ho5; rw [← aK.out] at ho5)); replace HO0 := Aa.mk (Kd.V_elder' (by (with_reducible repeat (first | apply Kd.V_alloc | apply Kd.V_drewN | apply Kd.V_drew)); exact HO0.out) (Kd.N_base ho5) hb); replace HO1 := Aa.mk (Kd.V_elder' (by (with_reducible repeat (first | apply Kd.V_alloc | apply Kd.V_drewN | apply Kd.V_drew)); exact HO1.out) (Kd.N_base ho5) hb); have aM := Aa.mk (Kd.N_lower ho5 (Ae (lU HB.out))); replace HB := Aa.mk (Ak (lU HB.out) hb); clear hb ho5; obtain ⟨Ao6, co6, eo6⟩ := Kd.N_slice aM.out; subst eo6))
 go_loopg [15] k (fun kq v15 w' => ∃ (ab : Int), v15 = .int .i64 ab ∧ Aa (Co.l0 kq l0 l1 a2 ae (ae.length : Int) ab = some (r1, r2)) ∧ Aa (kq ≤ k) ∧ Aa (Kd.V k58 58 w' w.heap.size (fun k_ => ((P0_ k_ ∨ P1_ k_) ∨ w.heap.size ≤ k_) ∧ some k_ ≠ ((.slice Ao6 ae.length co6) : Value).ownBlock) (.slice A0 l0.length c0) l0) ∧ Aa (Kd.V k58 58 w' w.heap.size (fun k_ => ((P0_ k_ ∨ P1_ k_) ∨ w.heap.size ≤ k_) ∧ some k_ ≠ ((.slice Ao6 ae.length co6) : Value).ownBlock) (.slice A1 l1.length c1) l1) ∧ Aa (Kd.N (Kd.slice 58 k58) 22 w' w.heap.size (fun k_ => ((P0_ k_ ∨ P1_ k_) ∨ w.heap.size ≤ k_)) (.slice Ao6 ae.length co6) ae) ∧ Aa (Below w.heap.size w w'))
 case atStart => exact ⟨(0), (by first | rfl | (simp; done) | (simp [*]; done)), H', ⟨Nat.le_refl _⟩, ⟨by (with_reducible repeat (first | apply Kd.V_alloc | apply Kd.V_drewN | apply Kd.V_drew)); exact HO0.out⟩, ⟨by (with_reducible repeat (first | apply Kd.V_alloc | apply Kd.V_drewN | apply Kd.V_drew)); exact HO1.out⟩, ⟨by (with_reducible repeat (first | apply Kd.N_alloc | apply Kd.N_drewN | apply Kd.N_drew)); exact aM.out⟩, ⟨by repeat (first | (with_reducible first | exact HB.out | apply Ad | apply Ab | apply Ac) | exact HB.out)⟩⟩
 case round =>
  clear H'; (try clear c1); (try clear p2); (try clear c5); obtain ⟨ab, rfl, HA, HK1, ao, ap, ag, HB⟩ := hrel; cases gk with
  | zero => exact absurd HA.out (by simp [Co.l0])
  | succ k1 =>
   have H := HA.out; clear HA
   simp only [Co.l0] at H
   by_cases c7 : ab < (ae.length : Int)
   ·rw [if_pos c7] at H
    have aI : decide (ab < (ae.length : Int)) = true := decide_eq_true c7; clear c7
    by_cases c8 : 0 ≤ ab
    ·rw [if_pos c8] at H
     have bz : decide (0 ≤ ab) = true := decide_eq_true c8; clear c8
     by_cases c9 : ab < (ae.length : Int)
     ·rw [if_pos c9] at H
      have bB : decide (ab < (ae.length : Int)) = true := decide_eq_true c9; clear c9; replace H := Option.bind_eq_some_iff.mp H; obtain ⟨an, A100, H⟩ := H
      try dsimp only at H
      have A10 := Aa.mk A100; clear A100
      by_cases c11 : an = 0
      ·rw [if_pos c11] at H
       have aV : (an == 0) = true := beq_iff_eq.mpr c11; have aW : (an != 0) = false := bne_eq_false_iff_eq.mpr c11; clear c11; have H' := Aa.mk H; clear H; have aq : 0 ≤ (ab : Int) := of_decide_eq_true (by with_reducible assumption); have ar : ab < (ae.length : Int) := of_decide_eq_true (by with_reducible assumption); obtain ⟨aX, ay, az, e232, au, ai, hi232_0⟩ := at_L5 (Kd.N_reads' ag.out).2.2 ab aq ar; cases e232; obtain ⟨ce232, hce232, hMe232, hcc232⟩ := Kd.N_get ag.out [] ab aq (by first | exact ar | exact of_decide_eq_true (by with_reducible assumption) | (have e_ := (Kd.N_reads' ag.out).1; omega)); obtain ⟨ua232_0, uc232_0, rfl, ul232_0, ge232_0⟩ := Kd.FK_slice_open hMe232; have hv232_0 := hcc232 0 _ rfl; rw [Nat.add_zero, show ((Kd.slice 58 k58)).sz = 1 from rfl, Nat.mul_one] at hv232_0; replace hv232_0 := Option.some.inj (hv232_0.symm.trans au); injection hv232_0 with hva_ hvn_ hvc_
       rw [hva_] at ge232_0; rw [hvc_] at ul232_0; have HL232_0 := Aa.mk (show Kd.V k58 58 _ w.heap.size _ _ (rd_L5 ae ab) from Kd.V_mk ul232_0 ge232_0); clear hva_ hvn_ hvc_ ge232_0 ul232_0; clear hcc232 hce232; have ac := Aa.mk hi232_0; have av := Aa.mk ai; clear hi232_0 ai; replace aq := eq_true aq; replace ar := eq_true ar
       go_wp2_with (((with_reducible refine As (f := 42) rfl ?_); refine gL (some 20) Try.func42 #[.slice ay (rd_L5 ae ab).length az] ?_; (with_reducible refine (Bw.calls k1 _ _ (rd_L5 ae ab) an _ ?side1 ?side2 A10.out).mono ?_); (case side1 => repeat (first | exact (by repeat (first | (with_reducible exact ac.out) | (with_reducible refine Kd.Bp ?_ _) | (with_reducible refine Kd.Bo ?_ _) | (with_reducible refine Kd.Bu ?_) | exact ac.out)) | (with_reducible refine Kd.Bp ?_ _) | (with_reducible refine Kd.Bo ?_ _) | (with_reducible refine Kd.Bu ?_))); (case side2 => exact av.out); rintro e w12 ⟨rfl, hb⟩; refine ⟨_, rfl, ?_⟩; replace ao := Aa.mk (Kd.V_below (by (with_reducible repeat (first | apply Kd.V_alloc | apply Kd.V_drewN | apply Kd.V_drew)); exact ao.out) hb); replace ap := Aa.mk (Kd.V_below (by (with_reducible repeat (first | apply Kd.V_alloc | apply Kd.V_drewN | apply Kd.V_drew)); exact ap.out) hb); replace ag := Aa.mk (Kd.N_below (by (with_reducible repeat (first | apply Kd.N_alloc | apply Kd.N_drewN | apply Kd.N_drew)); exact ag.out) hb); replace HL232_0 := Aa.mk (Kd.V_below (by (with_reducible repeat (first | apply Kd.V_alloc | apply Kd.V_drewN | apply Kd.V_drew)); exact HL232_0.out) hb); replace ac := Aa.mk (Kd.Cv (by repeat (first | (with_reducible exact ac.out) | (with_reducible refine Kd.Bp ?_ _) | (with_reducible refine Kd.Bo ?_ _) | (with_reducible refine Kd.Bu ?_) | exact ac.out)) hb); replace HB := Aa.mk (Ak (lU HB.out) hb); (try clear hb); (try clear hb2); (try clear hk); (try clear hi)))
       go_roundg k1
       case measure => have := HK1.out; omega
       case rel => exact ⟨(wrap64 (ab + 1)), (by first | rfl | (simp; done) | (simp [*]; done)), H', ⟨by have := HK1.out; omega⟩, ⟨by (with_reducible repeat (first | apply Kd.V_alloc | apply Kd.V_drewN | apply Kd.V_drew)); exact ao.out⟩, ⟨by (with_reducible repeat (first | apply Kd.V_alloc | apply Kd.V_drewN | apply Kd.V_drew)); exact ap.out⟩, ⟨by (with_reducible repeat (first | apply Kd.N_alloc | apply Kd.N_drewN | apply Kd.N_drew)); exact ag.out⟩, ⟨by repeat (first | (with_reducible first | exact HB.out | apply Ad | apply Ab | apply Ac) | exact HB.out)⟩⟩
      ·rw [if_neg c11] at H
       have aV : (an == 0) = false := beq_eq_false_iff_ne.mpr c11; have aW : (an != 0) = true := bne_iff_ne.mpr c11
       simp only [Option.some.injEq, Prod.mk.injEq] at H
       obtain ⟨rfl, rfl⟩ := H; have aq : 0 ≤ (ab : Int) := of_decide_eq_true (by with_reducible assumption); have ar : ab < (ae.length : Int) := of_decide_eq_true (by with_reducible assumption); obtain ⟨aX, ay, az, e232, au, ai, hi232_0⟩ := at_L5 (Kd.N_reads' ag.out).2.2 ab aq ar; cases e232; obtain ⟨ce232, hce232, hMe232, hcc232⟩ := Kd.N_get ag.out [] ab aq (by first | exact ar | exact of_decide_eq_true (by with_reducible assumption) | (have e_ := (Kd.N_reads' ag.out).1; omega)); obtain ⟨ua232_0, uc232_0, rfl, ul232_0, ge232_0⟩ := Kd.FK_slice_open hMe232; have hv232_0 := hcc232 0 _ rfl; rw [Nat.add_zero, show ((Kd.slice 58 k58)).sz = 1 from rfl, Nat.mul_one] at hv232_0; replace hv232_0 := Option.some.inj (hv232_0.symm.trans au); injection hv232_0 with hva_ hvn_ hvc_
       rw [hva_] at ge232_0; rw [hvc_] at ul232_0; have HL232_0 := Aa.mk (show Kd.V k58 58 _ w.heap.size _ _ (rd_L5 ae ab) from Kd.V_mk ul232_0 ge232_0); clear hva_ hvn_ hvc_ ge232_0 ul232_0; clear hcc232 hce232; have ac := Aa.mk hi232_0; have av := Aa.mk ai; clear hi232_0 ai; replace aq := eq_true aq; replace ar := eq_true ar
       go_wp2_with (((with_reducible refine As (f := 42) rfl ?_); refine gL (some 20) Try.func42 #[.slice ay (rd_L5 ae ab).length az] ?_; (with_reducible refine (Bw.calls k1 _ _ (rd_L5 ae ab) an _ ?side1 ?side2 A10.out).mono ?_); (case side1 => repeat (first | exact (by repeat (first | (with_reducible exact ac.out) | (with_reducible refine Kd.Bp ?_ _) | (with_reducible refine Kd.Bo ?_ _) | (with_reducible refine Kd.Bu ?_) | exact ac.out)) | (with_reducible refine Kd.Bp ?_ _) | (with_reducible refine Kd.Bo ?_ _) | (with_reducible refine Kd.Bu ?_))); (case side2 => exact av.out); rintro e w13 ⟨rfl, hb⟩; refine ⟨_, rfl, ?_⟩; replace ao := Aa.mk (Kd.V_below (by (with_reducible repeat (first | apply Kd.V_alloc | apply Kd.V_drewN | apply Kd.V_drew)); exact ao.out) hb); replace ap := Aa.mk (Kd.V_below (by (with_reducible repeat (first | apply Kd.V_alloc | apply Kd.V_drewN | apply Kd.V_drew)); exact ap.out) hb); replace ag := Aa.mk (Kd.N_below (by (with_reducible repeat (first | apply Kd.N_alloc | apply Kd.N_drewN | apply Kd.N_drew)); exact ag.out) hb); replace HL232_0 := Aa.mk (Kd.V_below (by (with_reducible repeat (first | apply Kd.V_alloc | apply Kd.V_drewN | apply Kd.V_drew)); exact HL232_0.out) hb); replace ac := Aa.mk (Kd.Cv (by repeat (first | (with_reducible exact ac.out) | (with_reducible refine Kd.Bp ?_ _) | (with_reducible refine Kd.Bo ?_ _) | (with_reducible refine Kd.Bu ?_) | exact ac.out)) hb); replace HB := Aa.mk (Ak (lU HB.out) hb); (try clear hb); (try clear hb2); (try clear hk); (try clear hi)))
       go_ret2
       exact ⟨_, by first | rfl | (simp [Au, At] <;> rfl) | (simp [*, Au, At] <;> rfl), by first | exact Kd.C2 _ _ _ _ _ | exact Kd.N_nil _ _ _ _ _ | exact Kd.V_nil _ _ _ _ _ | exact Kd.Q_nil _ _ _ _ _ | exact Kd.S_nil _ _ _ _ _, by repeat (first | (with_reducible first | exact HB.out | apply Ad | apply Ab | apply Ac) | exact HB.out)⟩
     ·rw [if_neg c9] at H
      exact absurd H (by simp)
    ·rw [if_neg c8] at H
     exact absurd H (by simp)
   ·rw [if_neg c7] at H
    have aI : decide (ab < (ae.length : Int)) = false := decide_eq_false c7; clear c7; replace H := Option.bind_eq_some_iff.mp H; obtain ⟨aD, A140, H⟩ := H
    try dsimp only at H
    have A14 := Aa.mk A140; clear A140; replace H := Option.bind_eq_some_iff.mp H; obtain ⟨⟨bg, bh⟩, A150, H⟩ := H
    try dsimp only at H
    have A15 := Aa.mk A150; clear A150
    simp only [Option.some.injEq, Prod.mk.injEq] at H
    obtain ⟨rfl, rfl⟩ := H
    go_wp2_with (first | ((with_reducible refine As (f := 47) rfl ?_); refine gL (some 28) Try.func47 #[.slice A0 l0.length c0, .slice A1 l1.length c1, .func (.func a2.toNat) #[] #[]] ?_; (with_reducible refine (Ar.calls k1 (fun k_ => (((P0_ k_ ∨ P1_ k_) ∨ w.heap.size ≤ k_) ∧ some k_ ≠ (.slice Ao6 ae.length co6 : Value).ownBlock)) _ _ l0 (fun k_ => (((P0_ k_ ∨ P1_ k_) ∨ w.heap.size ≤ k_) ∧ some k_ ≠ (.slice Ao6 ae.length co6 : Value).ownBlock)) _ _ l1 a2 aD _ ?side1 ?side2 A14.out).mono ?_); (case side1 => exact ao.out); (case side2 => exact ap.out); rintro e w16 ⟨v235, rfl, ho0, hb⟩; refine ⟨_, rfl, ?_⟩; replace ao := Aa.mk (Kd.V_elder' (by (with_reducible repeat (first | apply Kd.V_alloc | apply Kd.V_drewN | apply Kd.V_drew)); exact ao.out) (Kd.N_base ho0) hb); replace ap := Aa.mk (Kd.V_elder' (by (with_reducible repeat (first | apply Kd.V_alloc | apply Kd.V_drewN | apply Kd.V_drew)); exact ap.out) (Kd.N_base ho0) hb); have aw := Aa.mk (Kd.N_lower (Kd.N_mono (ok' := fun k_ => ((P0_ k_ ∨ P1_ k_) ∨ w.heap.size ≤ k_) ∧ some k_ ≠ (.slice Ao6 ae.length co6 : Value).ownBlock) ho0 (fun k_ hk_ => ⟨Or.elim hk_ (fun hs_ => Or.elim hs_ (fun hs_ => hs_.1) (fun hs_ => hs_.1)) (fun hn_ => (.inr (Nat.le_trans (Ae (lU HB.out)) hn_))), Or.elim hk_ (fun hs_ => Or.elim hs_ (fun hs_ => hs_.2) (fun hs_ => hs_.2)) (fun hn_ => (Kd.fresh' (Kd.N_lt (by (with_reducible repeat (first | apply Kd.N_alloc | apply Kd.N_drewN | apply Kd.N_drew)); exact ag.out)) k_ hn_))⟩)) (Ae (lU HB.out))); replace ag := Aa.mk (Kd.N_elder' (by (with_reducible repeat (first | apply Kd.N_alloc | apply Kd.N_drewN | apply Kd.N_drew)); exact ag.out) (Kd.N_base ho0) hb); replace HB := Aa.mk (Ak (lU HB.out) hb); (try clear hb); (try clear hb2); (try clear hk); (try clear hi); (try clear ho0); obtain ⟨bi, bj, bl⟩ := Kd.N_slice aw.out; subst bl) | ((with_reducible refine As (f := 46) rfl ?_); refine gL (some 29) Try.func46 #[.slice bi aD.length bj] ?_; (with_reducible refine (Bs.calls k1 _ _ aD bg bh _ ?side1 ?side2 A15.out).mono ?_); (case side1 => repeat (first | exact (Kd.N_reads' aw.out).2.2 | (with_reducible refine Kd.Bp ?_ _) | (with_reducible refine Kd.Bo ?_ _) | (with_reducible refine Kd.Bu ?_))); (case side2 => exact (Kd.N_reads' aw.out).2.1); rintro e w18 ⟨v239, rfl, ho0, hb⟩; refine ⟨_, rfl, ?_⟩; replace ao := Aa.mk (Kd.V_elder' (by (with_reducible repeat (first | apply Kd.V_alloc | apply Kd.V_drewN | apply Kd.V_drew)); exact ao.out) (Kd.Ay ho0) hb); replace ap := Aa.mk (Kd.V_elder' (by (with_reducible repeat (first | apply Kd.V_alloc | apply Kd.V_drewN | apply Kd.V_drew)); exact ap.out) (Kd.Ay ho0) hb); replace ag := Aa.mk (Kd.N_elder' (by (with_reducible repeat (first | apply Kd.N_alloc | apply Kd.N_drewN | apply Kd.N_drew)); exact ag.out) (Kd.Ay ho0) hb); replace aw := Aa.mk (Kd.N_elder' (by (with_reducible repeat (first | apply Kd.N_alloc | apply Kd.N_drewN | apply Kd.N_drew)); exact aw.out) (Kd.Ay ho0) hb); have aY := Aa.mk (Kd.Cb (Kd.C8 (M := fun k_ => (w.heap.size ≤ k_)) ho0 (Ae (lU HB.out)) (fun k_ h_ => h_)) (Ae (lU HB.out))); replace HB := Aa.mk (Ak (lU HB.out) hb); (try clear hb); (try clear hb2); (try clear hk); (try clear hi); (try clear ho0)))
    go_ret2
    exact ⟨_, by first | rfl | (simp [Au, At] <;> rfl) | (simp [*, Au, At] <;> rfl), by exact rU <| Kd.Bi aY.out (fun _ hk => hk.1), by repeat (first | (with_reducible first | exact HB.out | apply Ad | apply Ab | apply Ac) | exact HB.out)⟩


def Cg.l0 : Nat → List (S58) → Int → Int → Int → Int → List Int → Int → Int → Option ((List (S58)) × Int)
 | 0, _, _, _, _, _, _, _, _ => none
 | k + 1, x0, x1, x2, x3, x4, x24, x25, x26 => if x26 < x25 then (if 0 ≤ x26 then (if x26 < (x24.length : Int) then (if (rd x24 x26) < 0 then (some (([] : List (S58)), 61)) else (if (rd x24 x26) > 16384 then (some (([] : List (S58)), 61)) else (Cg.l0 k x0 x1 x2 x3 x4 x24 x25 (wrap64 (x26 + 1))))) else (none)) else (none)) else ((Ck.f k x0 x1 x2 x3 x4).bind fun aC => ((Ar.f k aC ([] : List (S58)) 49).bind fun aG => ((Bs.f k aG).bind fun aN => (some (aN.1, aN.2)))))
def Cg.f (k : Nat) (l0 : List (S58)) (a1 : Int) (a2 : Int) (a3 : Int) (a4 : Int) : Option ((List (S58)) × Int) := (Bw.f k l0).bind fun aj => (if aj = 0 then ((some (([a1, a2, a3, a4] : List Int) : List Int)).bind fun af => (Cg.l0 k l0 a1 a2 a3 a4 af (af.length : Int) 0)) else (some (([] : List (S58)), aj)))
set_option maxHeartbeats 8000000 in
set_option maxRecDepth 100000 in
theorem Cg.calls (k : Nat) (A0 : Option Addr) (c0 : Nat) (l0 : List (S58)) (a1 : Int) (a2 : Int) (a3 : Int) (a4 : Int) (r1 : List (S58)) (r2 : Int) (w : World) (hr0 : Kd.C k58 w A0 l0.length l0) (hc0 : l0.length ≤ c0) (h : Cg.f k l0 a1 a2 a3 a4 = some (r1, r2)) :
  Calls Try.prog 17 #[.slice A0 l0.length c0, .int .i64 a1, .int .i64 a2, .int .i64 a3, .int .i64 a4] w fun e w' => ∃ v0_ : Value, e = .returned (.tuple #[v0_, .int .i64 r2]) ∧ Kd.R k58 58 w' w.heap.size (fun _ => True) v0_ r1 ∧ Below w.heap.size w w' := by
 have HR0 := Aa.mk hr0; have HC0 := Aa.mk hc0; clear hr0 hc0; have HB := Aa.mk (Below.refl w.heap.size w); have H : ((Bw.f k l0).bind fun aj => (if aj = 0 then ((some (([a1, a2, a3, a4] : List Int) : List Int)).bind fun af => (Cg.l0 k l0 a1 a2 a3 a4 af (af.length : Int) 0)) else (some (([] : List (S58)), aj)))) = some (r1, r2) := h; clear h; replace H := Option.bind_eq_some_iff.mp H; obtain ⟨aj, A60, H⟩ := H
 try dsimp only at H
 have A6 := Aa.mk A60; clear A60
 by_cases c7 : aj = 0
 ·rw [if_pos c7] at H
  have aI : (aj == 0) = true := beq_iff_eq.mpr c7; have aZ : (aj != 0) = false := bne_eq_false_iff_eq.mpr c7; clear c7; obtain ⟨af, aH⟩ : ∃ y_ : List Int, y_ = (([a1, a2, a3, a4] : List Int)) := ⟨_, rfl⟩; (try rw [Option.bind_some] at H); try rw [← aH] at H; have aQ := Aa.mk aH; clear aH; have H' := Aa.mk H; clear H; go_enter Try.func17, Try.ntmps17
  go_wp2_with (first | ((with_reducible refine As (f := 42) rfl ?_); refine gL (some 16) Try.func42 #[.slice A0 l0.length c0] ?_; (with_reducible refine (Bw.calls k _ _ l0 aj _ ?side1 ?side2 A6.out).mono ?_); (case side1 => repeat (first | exact HR0.out | (with_reducible refine Kd.Bp ?_ _) | (with_reducible refine Kd.Bo ?_ _) | (with_reducible refine Kd.Bu ?_))); (case side2 => exact HC0.out); rintro e w8 ⟨rfl, hb⟩; refine ⟨_, rfl, ?_⟩; replace HB := Aa.mk (Ak (lU HB.out) hb); (try clear hb); (try clear hb2); (try clear hk); (try clear hi)) | ((with_reducible refine Bz (N := 24) rfl ?_); refine Kd.Dq (Kd.int .i64) _ 3 ?hg (N := 24) ?hd (xs := ([a1, a2, a3, a4] : List Int)) (inner := [.int .i64 a1, .int .i64 a2, .int .i64 a3, .int .i64 a4]) (ok := fun _ => True) (okp := fun _ => True) ?hr ?hp (fun _ hk => hk) trivial (Below.refl _ _) (Nat.le_refl _) (by simp) ?_; (case hd => rfl); (case hg => rfl); (case hr => first | (go_simp; done) | (go_simp; rfl)); (case hp => exact (Reps.one (show Kd.M (Kd.int .i64) _ _ _ a1 [.int .i64 a1] from rfl) (Reps.one (show Kd.M (Kd.int .i64) _ _ _ a2 [.int .i64 a2] from rfl) (Reps.one (show Kd.M (Kd.int .i64) _ _ _ a3 [.int .i64 a3] from rfl) (Reps.one (show Kd.M (Kd.int .i64) _ _ _ a4 [.int .i64 a4] from rfl) (Reps.none _ _)))))); intro v265 w9 ho10 hb hg_ hnew_; clear hg_ hnew_; (first | rw [← aQ.out] at ho10 | (simp only [Int.reduceToNat] at ho10; rw [← aQ.out] at ho10)); have aT := Aa.mk (Kd.Cb ho10 (Ae (lU HB.out))); replace HB := Aa.mk (Ak (lU HB.out) hb); clear hb ho10; obtain ⟨a5, a6, bm⟩ := Kd.Bg aT.out; subst bm))
  go_loopg [26] k (fun kq v26 w' => ∃ (aa : Int), v26 = .int .i64 aa ∧ Aa (Cg.l0 kq l0 a1 a2 a3 a4 af (af.length : Int) aa = some (r1, r2)) ∧ Aa (kq ≤ k) ∧ Aa (Kd.R (Kd.int .i64) 3 w' w.heap.size (fun _ => True) (.slice a5 af.length a6) af) ∧ Aa (Below w.heap.size w w'))
  case atStart => exact ⟨(0), (by first | rfl | (simp; done) | (simp [*]; done)), H', ⟨Nat.le_refl _⟩, ⟨by exact rU <| aT.out⟩, ⟨by repeat (first | (with_reducible first | exact HB.out | apply Ad | apply Ab | apply Ac) | exact HB.out)⟩⟩
  case round =>
   clear H'; (try clear c1); (try clear p2); (try clear c4); (try clear c7); (try clear aI); (try clear aZ); obtain ⟨aa, rfl, HA, HK1, ah, HB⟩ := hrel; cases gk with
   | zero => exact absurd HA.out (by simp [Cg.l0])
   | succ k1 =>
    have H := HA.out; clear HA
    simp only [Cg.l0] at H
    by_cases c12 : aa < (af.length : Int)
    ·rw [if_pos c12] at H
     have a7 : decide (aa < (af.length : Int)) = true := decide_eq_true c12; clear c12
     by_cases c13 : 0 ≤ aa
     ·rw [if_pos c13] at H
      have bw : decide (0 ≤ aa) = true := decide_eq_true c13; clear c13
      by_cases c14 : aa < (af.length : Int)
      ·rw [if_pos c14] at H
       have bx : decide (aa < (af.length : Int)) = true := decide_eq_true c14; clear c14
       by_cases c15 : (rd af aa) < 0
       ·rw [if_pos c15] at H
        have a8 : decide ((rd af aa) < 0) = true := decide_eq_true c15; clear c15
        simp only [Option.some.injEq, Prod.mk.injEq] at H
        obtain ⟨rfl, rfl⟩ := H; have al : 0 ≤ (aa : Int) := of_decide_eq_true (by with_reducible assumption); have am : aa < (af.length : Int) := of_decide_eq_true (by with_reducible assumption); obtain ⟨aU, e267, aA⟩ := Kd.at_int (Kd.Ao ah.out).2.2 aa al am; cases e267; replace al := eq_true al; replace am := eq_true am
        go_wp2
        go_ret2
        exact ⟨_, by first | rfl | (simp [Au, At] <;> rfl) | (simp [*, Au, At] <;> rfl), by first | exact Kd.C2 _ _ _ _ _ | exact Kd.N_nil _ _ _ _ _ | exact Kd.V_nil _ _ _ _ _ | exact Kd.Q_nil _ _ _ _ _ | exact Kd.S_nil _ _ _ _ _, by repeat (first | (with_reducible first | exact HB.out | apply Ad | apply Ab | apply Ac) | exact HB.out)⟩
       ·rw [if_neg c15] at H
        have a8 : decide ((rd af aa) < 0) = false := decide_eq_false c15; clear c15
        by_cases c16 : (rd af aa) > 16384
        ·rw [if_pos c16] at H
         have a9 : decide (16384 < (rd af aa)) = true := decide_eq_true c16; clear c16
         simp only [Option.some.injEq, Prod.mk.injEq] at H
         obtain ⟨rfl, rfl⟩ := H; have al : 0 ≤ (aa : Int) := of_decide_eq_true (by with_reducible assumption); have am : aa < (af.length : Int) := of_decide_eq_true (by with_reducible assumption); obtain ⟨aU, e267, aA⟩ := Kd.at_int (Kd.Ao ah.out).2.2 aa al am; cases e267; replace al := eq_true al; replace am := eq_true am
         go_wp2
         go_ret2
         exact ⟨_, by first | rfl | (simp [Au, At] <;> rfl) | (simp [*, Au, At] <;> rfl), by first | exact Kd.C2 _ _ _ _ _ | exact Kd.N_nil _ _ _ _ _ | exact Kd.V_nil _ _ _ _ _ | exact Kd.Q_nil _ _ _ _ _ | exact Kd.S_nil _ _ _ _ _, by repeat (first | (with_reducible first | exact HB.out | apply Ad | apply Ab | apply Ac) | exact HB.out)⟩
        ·rw [if_neg c16] at H
         have a9 : decide (16384 < (rd af aa)) = false := decide_eq_false c16; clear c16; have H' := Aa.mk H; clear H; have al : 0 ≤ (aa : Int) := of_decide_eq_true (by with_reducible assumption); have am : aa < (af.length : Int) := of_decide_eq_true (by with_reducible assumption); obtain ⟨aU, e267, aA⟩ := Kd.at_int (Kd.Ao ah.out).2.2 aa al am; cases e267; replace al := eq_true al; replace am := eq_true am
         go_wp2
         go_roundg k1
         case measure => have := HK1.out; omega
         case rel => exact ⟨(wrap64 (aa + 1)), (by first | rfl | (simp; done) | (simp [*]; done)), H', ⟨by have := HK1.out; omega⟩, ⟨by exact rU <| ah.out⟩, ⟨by repeat (first | (with_reducible first | exact HB.out | apply Ad | apply Ab | apply Ac) | exact HB.out)⟩⟩
      ·rw [if_neg c14] at H
       exact absurd H (by simp)
     ·rw [if_neg c13] at H
      exact absurd H (by simp)
    ·rw [if_neg c12] at H
     have a7 : decide (aa < (af.length : Int)) = false := decide_eq_false c12; clear c12; replace H := Option.bind_eq_some_iff.mp H; obtain ⟨aC, A170, H⟩ := H
     try dsimp only at H
     have A17 := Aa.mk A170; clear A170; replace H := Option.bind_eq_some_iff.mp H; obtain ⟨aG, A180, H⟩ := H
     try dsimp only at H
     have A18 := Aa.mk A180; clear A180; replace H := Option.bind_eq_some_iff.mp H; obtain ⟨⟨bn, bo⟩, A190, H⟩ := H
     try dsimp only at H
     have A19 := Aa.mk A190; clear A190
     simp only [Option.some.injEq, Prod.mk.injEq] at H
     obtain ⟨rfl, rfl⟩ := H
     go_wp2_with (first | ((with_reducible refine As (f := 48) rfl ?_); refine gL (some 42) Try.func48 #[.slice A0 l0.length c0, .int .i64 a1, .int .i64 a2, .int .i64 a3, .int .i64 a4] ?_; (with_reducible refine (Ck.calls k1 _ _ l0 a1 a2 a3 a4 aC _ ?side1 ?side2 A17.out).mono ?_); (case side1 => repeat (first | exact (Kd.Cv HR0.out HB.out) | (with_reducible refine Kd.Bp ?_ _) | (with_reducible refine Kd.Bo ?_ _) | (with_reducible refine Kd.Bu ?_))); (case side2 => exact HC0.out); rintro e w20 ⟨v269, rfl, ho0, hb⟩; refine ⟨_, rfl, ?_⟩; replace ah := Aa.mk (Kd.Bm (by exact rU <| ah.out) hb); have ak := Aa.mk (Kd.Cb ho0 (Ae (lU HB.out))); replace HB := Aa.mk (Ak (lU HB.out) hb); (try clear hb); (try clear hb2); (try clear hk); (try clear hi); (try clear ho0); obtain ⟨bc, be, br⟩ := Kd.Bg ak.out; subst br) | ((with_reducible refine As (f := 47) rfl ?_); refine gL (some 43) Try.func47 #[.slice bc aC.length be, .slice none 0 0, .func (.func (49 : Int).toNat) #[] #[]] ?_; (refine (Ar.calls k1 (fun k_ => some k_ = (.slice bc aC.length be : Value).ownBlock) _ _ aC (fun k_ => False) _ _ ([] : List (S58)) 49 aG _ ?side1 ?side2 A18.out).mono ?_); (case side1 => exact Kd.R_V (Kd.C3 rfl (Kd.Aw (ak.out) (Kd.Bb ah.out) (by decide)))); (case side2 => exact Kd.V_nil _ _ _ _ _); rintro e w22 ⟨v272, rfl, ho0, hb⟩; refine ⟨_, rfl, ?_⟩; have ax := Aa.mk (Kd.N_lower (Kd.N_mono (ok' := fun k_ => some k_ ≠ (.slice a5 af.length a6 : Value).ownBlock) ho0 (fun k_ hk_ => Or.elim hk_ (fun hs_ => Or.elim hs_ (fun hs_ => ((Kd.Aw (ak.out) (Kd.Bb ah.out) (by decide)).1 k_ hs_.symm).2) (fun hs_ => (hs_).elim)) (fun hn_ => (Kd.fresh' (Kd.Cc (by exact rU <| ah.out)) k_ hn_)))) (Ae (lU HB.out))); replace ah := Aa.mk (Kd.Bm (by exact rU <| ah.out) hb); replace ak := Aa.mk (Kd.Bm (by exact rU <| ak.out) hb); replace HB := Aa.mk (Ak (lU HB.out) hb); (try clear hb); (try clear hb2); (try clear hk); (try clear hi); (try clear ho0); obtain ⟨bs, bu, bv⟩ := Kd.N_slice ax.out; subst bv) | ((with_reducible refine As (f := 46) rfl ?_); refine gL (some 44) Try.func46 #[.slice bs aG.length bu] ?_; (with_reducible refine (Bs.calls k1 _ _ aG bn bo _ ?side1 ?side2 A19.out).mono ?_); (case side1 => repeat (first | exact (Kd.N_reads' ax.out).2.2 | (with_reducible refine Kd.Bp ?_ _) | (with_reducible refine Kd.Bo ?_ _) | (with_reducible refine Kd.Bu ?_))); (case side2 => exact (Kd.N_reads' ax.out).2.1); rintro e w24 ⟨v276, rfl, ho0, hb⟩; refine ⟨_, rfl, ?_⟩; replace ah := Aa.mk (Kd.Bm (by exact rU <| ah.out) hb); replace ax := Aa.mk (Kd.N_elder' (by (with_reducible repeat (first | apply Kd.N_alloc | apply Kd.N_drewN | apply Kd.N_drew)); exact ax.out) (Kd.Ay ho0) hb); have bf := Aa.mk (Kd.Cb (Kd.Bn ho0 (Kd.Cc (by exact rU <| ak.out))) (Ae (lU HB.out))); replace ak := Aa.mk (Kd.Az (by exact rU <| ak.out) (Kd.Ay ho0) hb); replace HB := Aa.mk (Ak (lU HB.out) hb); (try clear hb); (try clear hb2); (try clear hk); (try clear hi); (try clear ho0)))
     go_ret2
     exact ⟨_, by first | rfl | (simp [Au, At] <;> rfl) | (simp [*, Au, At] <;> rfl), by exact rU <| Kd.Bi bf.out (fun _ hk => trivial), by repeat (first | (with_reducible first | exact HB.out | apply Ad | apply Ab | apply Ac) | exact HB.out)⟩
 ·rw [if_neg c7] at H
  have aI : (aj == 0) = false := beq_eq_false_iff_ne.mpr c7; have aZ : (aj != 0) = true := bne_iff_ne.mpr c7
  simp only [Option.some.injEq, Prod.mk.injEq] at H
  obtain ⟨rfl, rfl⟩ := H; go_enter Try.func17, Try.ntmps17
  go_wp2_with (((with_reducible refine As (f := 42) rfl ?_); refine gL (some 16) Try.func42 #[.slice A0 l0.length c0] ?_; (with_reducible refine (Bw.calls k _ _ l0 aj _ ?side1 ?side2 A6.out).mono ?_); (case side1 => repeat (first | exact HR0.out | (with_reducible refine Kd.Bp ?_ _) | (with_reducible refine Kd.Bo ?_ _) | (with_reducible refine Kd.Bu ?_))); (case side2 => exact HC0.out); rintro e w25 ⟨rfl, hb⟩; refine ⟨_, rfl, ?_⟩; replace HB := Aa.mk (Ak (lU HB.out) hb); (try clear hb); (try clear hb2); (try clear hk); (try clear hi)))
  go_ret2
  exact ⟨_, by first | rfl | (simp [Au, At] <;> rfl) | (simp [*, Au, At] <;> rfl), by first | exact Kd.C2 _ _ _ _ _ | exact Kd.N_nil _ _ _ _ _ | exact Kd.V_nil _ _ _ _ _ | exact Kd.Q_nil _ _ _ _ _ | exact Kd.S_nil _ _ _ _ _, by repeat (first | (with_reducible first | exact HB.out | apply Ad | apply Ab | apply Ac) | exact HB.out)⟩



end Go.Proofs.Ytobdfiglgdbecaa.PGA

