import Derived.Test.YtobdfiglgdbecaaXPGAx0
import Derived.Test.YtobdfiglgdbecaaXPGAx2
import Derived.Test.YtobdfiglgdbecaaXPGAx5
namespace Go.Proofs.Ytobdfiglgdbecaa.PGA
open Go.Proofs.Ytobdfiglgdbecaa.PGB
open Go.RowKit Go.Proofs.YtobdfiglgdbecaaW.PrintWords Go.Proofs.YtobdfiglgdbecaaW.PrintLast Go.Proofs.YtobdfiglgdbecaaW.PrintMore
attribute [local go_sem] max2_int min2_int max_two min_two max_three min_three max_four min_four
set_option linter.unusedVariables false
set_option linter.unusedSimpArgs false

def B5.l0 : Nat → List (S58) → List (S58) → Int → List (List (S58)) → Int → Int → Option ((List (S58)) × Int)
 | 0, _, _, _, _, _, _ => none
 | k + 1, x0, x1, x2, x13, x14, x15 => if x15 < x14 then (if 0 ≤ x15 then (if x15 < (x13.length : Int) then ((Bq.f k (rd_L5 x13 x15)).bind fun ap => (if ap = 0 then (B5.l0 k x0 x1 x2 x13 x14 (wrap64 (x15 + 1))) else (some (([] : List (S58)), ap)))) else (none)) else (none)) else ((Am.f k x0 x1 x2).bind fun aD => ((Bm.f k aD).bind fun aJ => (some (aJ.1, aJ.2))))
def B5.f (k : Nat) (l0 : List (S58)) (l1 : List (S58)) (a2 : Int) : Option ((List (S58)) × Int) := (some (([l0, l1] : List (List (S58))) : List (List (S58)))).bind fun af => (B5.l0 k l0 l1 a2 af (af.length : Int) 0)
set_option maxHeartbeats 8000000 in
set_option maxRecDepth 100000 in
theorem B5.calls (k : Nat) (P0_ : Nat → Prop) (A0 : Option Addr) (c0 : Nat) (l0 : List (S58)) (P1_ : Nat → Prop) (A1 : Option Addr) (c1 : Nat) (l1 : List (S58)) (a2 : Int) (r1 : List (S58)) (r2 : Int) (w : World) (hs0 : Kd.V k58 58 w w.heap.size (fun k_ => P0_ k_) (.slice A0 l0.length c0) l0) (hs1 : Kd.V k58 58 w w.heap.size (fun k_ => P1_ k_) (.slice A1 l1.length c1) l1) (h : B5.f k l0 l1 a2 = some (r1, r2)) (hk_ : Aa (IsKeep a2) := by first | assumption | exact ⟨by decide⟩) :
  Calls Try.prog 55 #[.slice A0 l0.length c0, .slice A1 l1.length c1, .func (.func a2.toNat) #[] #[]] w fun e w' => ∃ v0_ : Value, e = .returned (.tuple #[v0_, .int .i64 r2]) ∧ Kd.R k58 58 w' w.heap.size (fun k_ => (w.heap.size ≤ k_)) v0_ r1 ∧ Below w.heap.size w w' := by
 have HO0 := Aa.mk (show Kd.V k58 58 w w.heap.size (fun k_ => ((P0_ k_ ∨ P1_ k_) ∨ w.heap.size ≤ k_)) (.slice A0 l0.length c0) l0 from Kd.V_mono hs0 (fun k_ hk => .inl (.inl hk)))
 have HO1 := Aa.mk (show Kd.V k58 58 w w.heap.size (fun k_ => ((P0_ k_ ∨ P1_ k_) ∨ w.heap.size ≤ k_)) (.slice A1 l1.length c1) l1 from Kd.V_mono hs1 (fun k_ hk => .inl (.inr hk)))
 have HB := Aa.mk (Below.refl w.heap.size w)
 have H : ((some (([l0, l1] : List (List (S58))) : List (List (S58)))).bind fun af => (B5.l0 k l0 l1 a2 af (af.length : Int) 0)) = some (r1, r2) := h
 clear h
 obtain ⟨af, aE⟩ : ∃ y_ : List (List (S58)), y_ = (([l0, l1] : List (List (S58)))) := ⟨_, rfl⟩
 (try rw [Option.bind_some] at H); try rw [← aE] at H
 have aK := Aa.mk aE
 clear aE
 have H' := Aa.mk H
 clear H
 go_enter Try.func55, Try.ntmps55
 go_wp2_with (first | ((with_reducible refine Bo (N := 13) rfl ?_); refine Kd.N_lit (Kd.slice 58 k58) _ 22 ?hg (N' := 13) ?hd (xs := ([l0, l1] : List (List (S58)))) (inner := [.slice A0 l0.length c0, .slice A1 l1.length c1]) (ok := (fun k_ => ((P0_ k_ ∨ P1_ k_) ∨ w.heap.size ≤ k_))) (okp := (fun k_ => ((P0_ k_ ∨ P1_ k_) ∨ w.heap.size ≤ k_))) ?hr ?hp (fun _ hk => hk) ((show ∀ k_, w.heap.size ≤ k_ → (fun k_ => ((P0_ k_ ∨ P1_ k_) ∨ w.heap.size ≤ k_)) k_ from fun k_ hk => (.inr (Nat.le_trans (Af (lU HB.out)) hk))) _ (Nat.le_refl _)) (Below.refl _ _) (Nat.le_refl _) (by simp) ?_; (case hd => rfl); (case hg => rfl); (case hr => first | (go_simp; done) | (go_simp; rfl)); (case hp => exact (Reps.one (show Kd.FK (Kd.slice 58 k58) _ _ l0 [.slice A0 l0.length c0] from (Kd.FK_slice_mk (Kd.V_reads' (Kd.V_mono (ok' := (fun k_ => ((P0_ k_ ∨ P1_ k_) ∨ w.heap.size ≤ k_))) (HO0.out) (fun k_ hk => hk))).2.1 (Kd.V_F (Kd.V_mono (ok' := (fun k_ => ((P0_ k_ ∨ P1_ k_) ∨ w.heap.size ≤ k_))) (HO0.out) (fun k_ hk => hk))))) (Reps.one (show Kd.FK (Kd.slice 58 k58) _ _ l1 [.slice A1 l1.length c1] from (Kd.FK_slice_mk (Kd.V_reads' (Kd.V_mono (ok' := (fun k_ => ((P0_ k_ ∨ P1_ k_) ∨ w.heap.size ≤ k_))) (HO1.out) (fun k_ hk => hk))).2.1 (Kd.V_F (Kd.V_mono (ok' := (fun k_ => ((P0_ k_ ∨ P1_ k_) ∨ w.heap.size ≤ k_))) (HO1.out) (fun k_ hk => hk))))) (Reps.none _ _)))); intro v230 w4 ho5 hb hg_ hnew_; clear hg_ hnew_; (first | rw [← aK.out] at ho5 | (simp only [Int.reduceToNat] at ho5; rw [← aK.out] at ho5)); have n0_ := Aa.mk (Kd.V_elder' (by (with_reducible repeat (first | apply Kd.V_alloc | apply Kd.V_drewN | apply Kd.V_drew)); exact HO0.out) (Kd.N_base ho5) hb); have n1_ := Aa.mk (Kd.V_elder' (by (with_reducible repeat (first | apply Kd.V_alloc | apply Kd.V_drewN | apply Kd.V_drew)); exact HO1.out) (Kd.N_base ho5) hb); have n2_ := Aa.mk (Kd.N_lower ho5 (Af (lU HB.out))); have n3_ := Aa.mk (Ai (lU HB.out) hb); clear HO0; clear HO1; clear HB; have HO0 := n0_; have HO1 := n1_; have aM := n2_; have HB := n3_; clear n0_ n1_ n2_ n3_; clear hb ho5; obtain ⟨Ao6, co6, eo6⟩ := Kd.N_slice aM.out; subst eo6))
 go_loopg [15] k (fun kq v15 w' => ∃ (ab : Int), v15 = .int .i64 ab ∧ Aa (B5.l0 kq l0 l1 a2 af (af.length : Int) ab = some (r1, r2)) ∧ Aa (kq ≤ k) ∧ Aa (Kd.V k58 58 w' w.heap.size (fun k_ => ((P0_ k_ ∨ P1_ k_) ∨ w.heap.size ≤ k_) ∧ some k_ ≠ ((.slice Ao6 af.length co6) : Value).ownBlock) (.slice A0 l0.length c0) l0) ∧ Aa (Kd.V k58 58 w' w.heap.size (fun k_ => ((P0_ k_ ∨ P1_ k_) ∨ w.heap.size ≤ k_) ∧ some k_ ≠ ((.slice Ao6 af.length co6) : Value).ownBlock) (.slice A1 l1.length c1) l1) ∧ Aa (Kd.N (Kd.slice 58 k58) 22 w' w.heap.size (fun k_ => ((P0_ k_ ∨ P1_ k_) ∨ w.heap.size ≤ k_)) (.slice Ao6 af.length co6) af) ∧ Aa (Below w.heap.size w w'))
 case atStart => exact ⟨(0), (by first | rfl | (simp; done) | (simp [*]; done)), H', ⟨Nat.le_refl _⟩, ⟨by (with_reducible repeat (first | apply Kd.V_alloc | apply Kd.V_drewN | apply Kd.V_drew)); exact HO0.out⟩, ⟨by (with_reducible repeat (first | apply Kd.V_alloc | apply Kd.V_drewN | apply Kd.V_drew)); exact HO1.out⟩, ⟨by (with_reducible repeat (first | apply Kd.N_alloc | apply Kd.N_drewN | apply Kd.N_drew)); exact aM.out⟩, ⟨by repeat (first | (with_reducible first | exact HB.out | apply Ae | apply Ac | apply Ad) | exact HB.out)⟩⟩
 case round =>
  clear H'
  try clear c1
  try clear p2
  try clear c5
  obtain ⟨ab, rfl, HA, HK1, aj, ak, ae, HB⟩ := hrel
  cases gk with
  | zero => exact absurd HA.out (by simp [B5.l0])
  | succ k1 =>
   have H := HA.out
   clear HA
   simp only [B5.l0] at H
   by_cases c7 : ab < (af.length : Int)
   ·rw [if_pos c7] at H
    have aI : decide (ab < (af.length : Int)) = true := decide_eq_true c7
    clear c7
    by_cases c8 : 0 ≤ ab
    ·rw [if_pos c8] at H
     have bs : decide (0 ≤ ab) = true := decide_eq_true c8
     clear c8
     by_cases c9 : ab < (af.length : Int)
     ·rw [if_pos c9] at H
      have bu : decide (ab < (af.length : Int)) = true := decide_eq_true c9
      clear c9
      replace H := Option.bind_eq_some_iff.mp H
      obtain ⟨ap, A100, H⟩ := H
      try dsimp only at H
      have A10 := Aa.mk A100
      clear A100
      by_cases c11 : ap = 0
      ·rw [if_pos c11] at H
       have aV : (ap == 0) = true := beq_iff_eq.mpr c11
       have aW : (ap != 0) = false := bne_eq_false_iff_eq.mpr c11
       clear c11
       have H' := Aa.mk H
       clear H
       have au : 0 ≤ (ab : Int) := of_decide_eq_true (by with_reducible assumption)
       have av : ab < (af.length : Int) := of_decide_eq_true (by with_reducible assumption)
       obtain ⟨aX, ay, az, e232, aw, al, hi232_0⟩ := at_L5 (Kd.N_reads' ae.out).2.2 ab au av
       cases e232
       obtain ⟨ce232, hce232, hMe232, hcc232⟩ := Kd.N_get ae.out [] ab au (by first | exact av | exact of_decide_eq_true (by with_reducible assumption) | (have e_ := (Kd.N_reads' ae.out).1; omega))
       obtain ⟨ua232_0, uc232_0, rfl, ul232_0, ge232_0⟩ := Kd.FK_slice_open hMe232
       have hv232_0 := hcc232 0 _ rfl
       rw [Nat.add_zero, show ((Kd.slice 58 k58)).sz = 1 from rfl, Nat.mul_one] at hv232_0
       replace hv232_0 := Option.some.inj (hv232_0.symm.trans aw)
       injection hv232_0 with hva_ hvn_ hvc_
       rw [hva_] at ge232_0
       rw [hvc_] at ul232_0
       have HL232_0 := Aa.mk (show Kd.V k58 58 _ w.heap.size _ _ (rd_L5 af ab) from Kd.V_mk ul232_0 ge232_0)
       clear hva_ hvn_ hvc_ ge232_0 ul232_0
       clear hcc232 hce232
       have ac := Aa.mk hi232_0
       have ax := Aa.mk al
       clear hi232_0 al
       replace au := eq_true au
       replace av := eq_true av
       go_wp2_with (first | ((with_reducible refine Ap (f := 42) rfl ?_); refine Br (some 20) rfl rfl Try.func42 (by kernel_rfl) rfl #[.slice ay (rd_L5 af ab).length az] rfl (by (try simp only [List.map_toArray, List.map_cons, List.map_nil]); first | done | rfl | (simp only [List.length_drop, List.length_take]; rfl)) ?_; (with_reducible refine (Bq.calls k1 _ _ (rd_L5 af ab) ap _ ?side1 ?side2 A10.out).mono ?_); (case side1 => repeat (first | exact (by repeat (first | (with_reducible exact ac.out) | (with_reducible refine Kd.Bh ?_ _) | (with_reducible refine Kd.Bg ?_ _) | (with_reducible refine Kd.Bp ?_) | exact ac.out)) | (with_reducible refine Kd.Bh ?_ _) | (with_reducible refine Kd.Bg ?_ _) | (with_reducible refine Kd.Bp ?_))); (case side2 => exact ax.out); rintro e w12 ⟨rfl, hb⟩; refine ⟨_, rfl, ?_⟩; have n0_ := Aa.mk (Kd.V_below (by (with_reducible repeat (first | apply Kd.V_alloc | apply Kd.V_drewN | apply Kd.V_drew)); exact aj.out) hb); have n1_ := Aa.mk (Kd.V_below (by (with_reducible repeat (first | apply Kd.V_alloc | apply Kd.V_drewN | apply Kd.V_drew)); exact ak.out) hb); have n2_ := Aa.mk (Kd.N_below (by (with_reducible repeat (first | apply Kd.N_alloc | apply Kd.N_drewN | apply Kd.N_drew)); exact ae.out) hb); have n3_ := Aa.mk (Kd.V_below (by (with_reducible repeat (first | apply Kd.V_alloc | apply Kd.V_drewN | apply Kd.V_drew)); exact HL232_0.out) hb); have n4_ := Aa.mk (Kd.C_below (by repeat (first | (with_reducible exact ac.out) | (with_reducible refine Kd.Bh ?_ _) | (with_reducible refine Kd.Bg ?_ _) | (with_reducible refine Kd.Bp ?_) | exact ac.out)) hb); have n5_ := Aa.mk (Ai (lU HB.out) hb); clear aj; clear ak; clear ae; clear HL232_0; clear ac; clear HB; have aj := n0_; have ak := n1_; have ae := n2_; have HL232_0 := n3_; have ac := n4_; have HB := n5_; clear n0_ n1_ n2_ n3_ n4_ n5_; (try clear hb); (try clear hb2); (try clear hk); (try clear hi)))
       go_roundg k1
       case measure => have := HK1.out; omega
       case rel => exact ⟨(wrap64 (ab + 1)), (by first | rfl | (simp; done) | (simp [*]; done)), H', ⟨by have := HK1.out; omega⟩, ⟨by (with_reducible repeat (first | apply Kd.V_alloc | apply Kd.V_drewN | apply Kd.V_drew)); exact aj.out⟩, ⟨by (with_reducible repeat (first | apply Kd.V_alloc | apply Kd.V_drewN | apply Kd.V_drew)); exact ak.out⟩, ⟨by (with_reducible repeat (first | apply Kd.N_alloc | apply Kd.N_drewN | apply Kd.N_drew)); exact ae.out⟩, ⟨by repeat (first | (with_reducible first | exact HB.out | apply Ae | apply Ac | apply Ad) | exact HB.out)⟩⟩
      ·rw [if_neg c11] at H
       have aV : (ap == 0) = false := beq_eq_false_iff_ne.mpr c11
       have aW : (ap != 0) = true := bne_iff_ne.mpr c11
       simp only [Option.some.injEq, Prod.mk.injEq] at H
       obtain ⟨rfl, rfl⟩ := H
       have au : 0 ≤ (ab : Int) := of_decide_eq_true (by with_reducible assumption)
       have av : ab < (af.length : Int) := of_decide_eq_true (by with_reducible assumption)
       obtain ⟨aX, ay, az, e232, aw, al, hi232_0⟩ := at_L5 (Kd.N_reads' ae.out).2.2 ab au av
       cases e232
       obtain ⟨ce232, hce232, hMe232, hcc232⟩ := Kd.N_get ae.out [] ab au (by first | exact av | exact of_decide_eq_true (by with_reducible assumption) | (have e_ := (Kd.N_reads' ae.out).1; omega))
       obtain ⟨ua232_0, uc232_0, rfl, ul232_0, ge232_0⟩ := Kd.FK_slice_open hMe232
       have hv232_0 := hcc232 0 _ rfl
       rw [Nat.add_zero, show ((Kd.slice 58 k58)).sz = 1 from rfl, Nat.mul_one] at hv232_0
       replace hv232_0 := Option.some.inj (hv232_0.symm.trans aw)
       injection hv232_0 with hva_ hvn_ hvc_
       rw [hva_] at ge232_0
       rw [hvc_] at ul232_0
       have HL232_0 := Aa.mk (show Kd.V k58 58 _ w.heap.size _ _ (rd_L5 af ab) from Kd.V_mk ul232_0 ge232_0)
       clear hva_ hvn_ hvc_ ge232_0 ul232_0
       clear hcc232 hce232
       have ac := Aa.mk hi232_0
       have ax := Aa.mk al
       clear hi232_0 al
       replace au := eq_true au
       replace av := eq_true av
       go_wp2_with (first | ((with_reducible refine Ap (f := 42) rfl ?_); refine Br (some 20) rfl rfl Try.func42 (by kernel_rfl) rfl #[.slice ay (rd_L5 af ab).length az] rfl (by (try simp only [List.map_toArray, List.map_cons, List.map_nil]); first | done | rfl | (simp only [List.length_drop, List.length_take]; rfl)) ?_; (with_reducible refine (Bq.calls k1 _ _ (rd_L5 af ab) ap _ ?side1 ?side2 A10.out).mono ?_); (case side1 => repeat (first | exact (by repeat (first | (with_reducible exact ac.out) | (with_reducible refine Kd.Bh ?_ _) | (with_reducible refine Kd.Bg ?_ _) | (with_reducible refine Kd.Bp ?_) | exact ac.out)) | (with_reducible refine Kd.Bh ?_ _) | (with_reducible refine Kd.Bg ?_ _) | (with_reducible refine Kd.Bp ?_))); (case side2 => exact ax.out); rintro e w13 ⟨rfl, hb⟩; refine ⟨_, rfl, ?_⟩; have n0_ := Aa.mk (Kd.V_below (by (with_reducible repeat (first | apply Kd.V_alloc | apply Kd.V_drewN | apply Kd.V_drew)); exact aj.out) hb); have n1_ := Aa.mk (Kd.V_below (by (with_reducible repeat (first | apply Kd.V_alloc | apply Kd.V_drewN | apply Kd.V_drew)); exact ak.out) hb); have n2_ := Aa.mk (Kd.N_below (by (with_reducible repeat (first | apply Kd.N_alloc | apply Kd.N_drewN | apply Kd.N_drew)); exact ae.out) hb); have n3_ := Aa.mk (Kd.V_below (by (with_reducible repeat (first | apply Kd.V_alloc | apply Kd.V_drewN | apply Kd.V_drew)); exact HL232_0.out) hb); have n4_ := Aa.mk (Kd.C_below (by repeat (first | (with_reducible exact ac.out) | (with_reducible refine Kd.Bh ?_ _) | (with_reducible refine Kd.Bg ?_ _) | (with_reducible refine Kd.Bp ?_) | exact ac.out)) hb); have n5_ := Aa.mk (Ai (lU HB.out) hb); clear aj; clear ak; clear ae; clear HL232_0; clear ac; clear HB; have aj := n0_; have ak := n1_; have ae := n2_; have HL232_0 := n3_; have ac := n4_; have HB := n5_; clear n0_ n1_ n2_ n3_ n4_ n5_; (try clear hb); (try clear hb2); (try clear hk); (try clear hi)))
       go_ret2
       exact ⟨_, by first | rfl | (simp [Av, Au] <;> rfl) | (simp [*, Av, Au] <;> rfl), by first | exact Kd.C0 _ _ _ _ _ | exact Kd.N_nil _ _ _ _ _ | exact Kd.V_nil _ _ _ _ _ | exact Kd.Q_nil _ _ _ _ _ | exact Kd.S_nil _ _ _ _ _, by repeat (first | (with_reducible first | exact HB.out | apply Ae | apply Ac | apply Ad) | exact HB.out)⟩
     ·rw [if_neg c9] at H
      exact absurd H (by simp)
    ·rw [if_neg c8] at H
     exact absurd H (by simp)
   ·rw [if_neg c7] at H
    have aI : decide (ab < (af.length : Int)) = false := decide_eq_false c7
    clear c7
    replace H := Option.bind_eq_some_iff.mp H
    obtain ⟨aD, A140, H⟩ := H
    try dsimp only at H
    have A14 := Aa.mk A140
    clear A140
    replace H := Option.bind_eq_some_iff.mp H
    obtain ⟨⟨be, bf⟩, A150, H⟩ := H
    try dsimp only at H
    have A15 := Aa.mk A150
    clear A150
    simp only [Option.some.injEq, Prod.mk.injEq] at H
    obtain ⟨rfl, rfl⟩ := H
    go_wp2_with (first | ((with_reducible refine Ap (f := 47) rfl ?_); refine Br (some 28) rfl rfl Try.func47 (by kernel_rfl) rfl #[.slice A0 l0.length c0, .slice A1 l1.length c1, .func (.func a2.toNat) #[] #[]] rfl (by (try simp only [List.map_toArray, List.map_cons, List.map_nil]); first | done | rfl | (simp only [List.length_drop, List.length_take]; rfl)) ?_; (with_reducible refine (Am.calls k1 (fun k_ => (((P0_ k_ ∨ P1_ k_) ∨ w.heap.size ≤ k_) ∧ some k_ ≠ (.slice Ao6 af.length co6 : Value).ownBlock)) _ _ l0 (fun k_ => (((P0_ k_ ∨ P1_ k_) ∨ w.heap.size ≤ k_) ∧ some k_ ≠ (.slice Ao6 af.length co6 : Value).ownBlock)) _ _ l1 a2 aD _ ?side1 ?side2 A14.out).mono ?_); (case side1 => exact aj.out); (case side2 => exact ak.out); rintro e w16 ⟨v235, rfl, ho0, hb⟩; refine ⟨_, rfl, ?_⟩; have n0_ := Aa.mk (Kd.V_elder' (by (with_reducible repeat (first | apply Kd.V_alloc | apply Kd.V_drewN | apply Kd.V_drew)); exact aj.out) (Kd.N_base ho0) hb); have n1_ := Aa.mk (Kd.V_elder' (by (with_reducible repeat (first | apply Kd.V_alloc | apply Kd.V_drewN | apply Kd.V_drew)); exact ak.out) (Kd.N_base ho0) hb); have n2_ := Aa.mk (Kd.N_elder' (by (with_reducible repeat (first | apply Kd.N_alloc | apply Kd.N_drewN | apply Kd.N_drew)); exact ae.out) (Kd.N_base ho0) hb); have n3_ := Aa.mk (Kd.N_lower (Kd.N_mono (ok' := fun k_ => ((P0_ k_ ∨ P1_ k_) ∨ w.heap.size ≤ k_) ∧ some k_ ≠ (.slice Ao6 af.length co6 : Value).ownBlock) ho0 (fun k_ hk_ => ⟨Or.elim hk_ (fun hs_ => Or.elim hs_ (fun hs_ => hs_.1) (fun hs_ => hs_.1)) (fun hn_ => (.inr (Nat.le_trans (Af (lU HB.out)) hn_))), Or.elim hk_ (fun hs_ => Or.elim hs_ (fun hs_ => hs_.2) (fun hs_ => hs_.2)) (fun hn_ => (Kd.fresh' (Kd.N_lt (by (with_reducible repeat (first | apply Kd.N_alloc | apply Kd.N_drewN | apply Kd.N_drew)); exact ae.out)) k_ hn_))⟩)) (Af (lU HB.out))); have n4_ := Aa.mk (Ai (lU HB.out) hb); clear aj; clear ak; clear ae; clear HB; have aj := n0_; have ak := n1_; have ae := n2_; have aq := n3_; have HB := n4_; clear n0_ n1_ n2_ n3_ n4_; (try clear hb); (try clear hb2); (try clear hk); (try clear hi); (try clear ho0); obtain ⟨bg, bh, bi⟩ := Kd.N_slice aq.out; subst bi) | ((with_reducible refine Ap (f := 46) rfl ?_); refine Br (some 29) rfl rfl Try.func46 (by kernel_rfl) rfl #[.slice bg aD.length bh] rfl (by (try simp only [List.map_toArray, List.map_cons, List.map_nil]); first | done | rfl | (simp only [List.length_drop, List.length_take]; rfl)) ?_; (with_reducible refine (Bm.calls k1 _ _ aD be bf _ ?side1 ?side2 A15.out).mono ?_); (case side1 => repeat (first | exact (Kd.N_reads' aq.out).2.2 | (with_reducible refine Kd.Bh ?_ _) | (with_reducible refine Kd.Bg ?_ _) | (with_reducible refine Kd.Bp ?_))); (case side2 => exact (Kd.N_reads' aq.out).2.1); rintro e w18 ⟨v239, rfl, ho0, hb⟩; refine ⟨_, rfl, ?_⟩; have n0_ := Aa.mk (Kd.V_elder' (by (with_reducible repeat (first | apply Kd.V_alloc | apply Kd.V_drewN | apply Kd.V_drew)); exact aj.out) (Kd.Ao ho0) hb); have n1_ := Aa.mk (Kd.V_elder' (by (with_reducible repeat (first | apply Kd.V_alloc | apply Kd.V_drewN | apply Kd.V_drew)); exact ak.out) (Kd.Ao ho0) hb); have n2_ := Aa.mk (Kd.N_elder' (by (with_reducible repeat (first | apply Kd.N_alloc | apply Kd.N_drewN | apply Kd.N_drew)); exact ae.out) (Kd.Ao ho0) hb); have n3_ := Aa.mk (Kd.N_elder' (by (with_reducible repeat (first | apply Kd.N_alloc | apply Kd.N_drewN | apply Kd.N_drew)); exact aq.out) (Kd.Ao ho0) hb); have n4_ := Aa.mk (Kd.Bv (Kd.Cm (M := fun k_ => (w.heap.size ≤ k_)) ho0 (Af (lU HB.out)) (fun k_ h_ => h_)) (Af (lU HB.out))); have n5_ := Aa.mk (Ai (lU HB.out) hb); clear aj; clear ak; clear ae; clear aq; clear HB; have aj := n0_; have ak := n1_; have ae := n2_; have aq := n3_; have aY := n4_; have HB := n5_; clear n0_ n1_ n2_ n3_ n4_ n5_; (try clear hb); (try clear hb2); (try clear hk); (try clear hi); (try clear ho0)))
    go_ret2
    exact ⟨_, by first | rfl | (simp [Av, Au] <;> rfl) | (simp [*, Av, Au] <;> rfl), by exact rU <| Kd.Bj aY.out (fun _ hk => hk.1), by repeat (first | (with_reducible first | exact HB.out | apply Ae | apply Ac | apply Ad) | exact HB.out)⟩


def Bz.l0 : Nat → List (S58) → Int → Int → Int → Int → List Int → Int → Int → Option ((List (S58)) × Int)
 | 0, _, _, _, _, _, _, _, _ => none
 | k + 1, x0, x1, x2, x3, x4, x24, x25, x26 => if x26 < x25 then (if 0 ≤ x26 then (if x26 < (x24.length : Int) then (if (rd x24 x26) < 0 then (some (([] : List (S58)), 61)) else (if (rd x24 x26) > 16384 then (some (([] : List (S58)), 61)) else (Bz.l0 k x0 x1 x2 x3 x4 x24 x25 (wrap64 (x26 + 1))))) else (none)) else (none)) else ((B4.f k x0 x1 x2 x3 x4).bind fun aC => ((Am.f k aC ([] : List (S58)) 49).bind fun aG => ((Bm.f k aG).bind fun aN => (some (aN.1, aN.2)))))
def Bz.f (k : Nat) (l0 : List (S58)) (a1 : Int) (a2 : Int) (a3 : Int) (a4 : Int) : Option ((List (S58)) × Int) := (Bq.f k l0).bind fun am => (if am = 0 then ((some (([a1, a2, a3, a4] : List Int) : List Int)).bind fun ag => (Bz.l0 k l0 a1 a2 a3 a4 ag (ag.length : Int) 0)) else (some (([] : List (S58)), am)))
set_option maxHeartbeats 8000000 in
set_option maxRecDepth 100000 in
theorem Bz.calls (k : Nat) (A0 : Option Addr) (c0 : Nat) (l0 : List (S58)) (a1 : Int) (a2 : Int) (a3 : Int) (a4 : Int) (r1 : List (S58)) (r2 : Int) (w : World) (hr0 : Kd.C k58 w A0 l0.length l0) (hc0 : l0.length ≤ c0) (h : Bz.f k l0 a1 a2 a3 a4 = some (r1, r2)) :
  Calls Try.prog 17 #[.slice A0 l0.length c0, .int .i64 a1, .int .i64 a2, .int .i64 a3, .int .i64 a4] w fun e w' => ∃ v0_ : Value, e = .returned (.tuple #[v0_, .int .i64 r2]) ∧ Kd.R k58 58 w' w.heap.size (fun _ => True) v0_ r1 ∧ Below w.heap.size w w' := by
 have HR0 := Aa.mk hr0
 have HC0 := Aa.mk hc0
 clear hr0 hc0
 have HB := Aa.mk (Below.refl w.heap.size w)
 have H : ((Bq.f k l0).bind fun am => (if am = 0 then ((some (([a1, a2, a3, a4] : List Int) : List Int)).bind fun ag => (Bz.l0 k l0 a1 a2 a3 a4 ag (ag.length : Int) 0)) else (some (([] : List (S58)), am)))) = some (r1, r2) := h
 clear h
 replace H := Option.bind_eq_some_iff.mp H
 obtain ⟨am, A60, H⟩ := H
 try dsimp only at H
 have A6 := Aa.mk A60
 clear A60
 by_cases c7 : am = 0
 ·rw [if_pos c7] at H
  have aI : (am == 0) = true := beq_iff_eq.mpr c7
  have aZ : (am != 0) = false := bne_eq_false_iff_eq.mpr c7
  clear c7
  obtain ⟨ag, aH⟩ : ∃ y_ : List Int, y_ = (([a1, a2, a3, a4] : List Int)) := ⟨_, rfl⟩
  (try rw [Option.bind_some] at H); try rw [← aH] at H
  have aQ := Aa.mk aH
  clear aH
  have H' := Aa.mk H
  clear H
  go_enter Try.func17, Try.ntmps17
  go_wp2_with (first | ((with_reducible refine Ap (f := 42) rfl ?_); refine Br (some 16) rfl rfl Try.func42 (by kernel_rfl) rfl #[.slice A0 l0.length c0] rfl (by (try simp only [List.map_toArray, List.map_cons, List.map_nil]); first | done | rfl | (simp only [List.length_drop, List.length_take]; rfl)) ?_; (with_reducible refine (Bq.calls k _ _ l0 am _ ?side1 ?side2 A6.out).mono ?_); (case side1 => repeat (first | exact HR0.out | (with_reducible refine Kd.Bh ?_ _) | (with_reducible refine Kd.Bg ?_ _) | (with_reducible refine Kd.Bp ?_))); (case side2 => exact HC0.out); rintro e w8 ⟨rfl, hb⟩; refine ⟨_, rfl, ?_⟩; have n0_ := Aa.mk (Ai (lU HB.out) hb); clear HB; have HB := n0_; clear n0_; (try clear hb); (try clear hb2); (try clear hk); (try clear hi)) | ((with_reducible refine Bo (N := 24) rfl ?_); refine Kd.C3 (Kd.int .i64) _ 3 ?hg (N := 24) ?hd (xs := ([a1, a2, a3, a4] : List Int)) (inner := [.int .i64 a1, .int .i64 a2, .int .i64 a3, .int .i64 a4]) (ok := fun _ => True) (okp := fun _ => True) ?hr ?hp (fun _ hk => hk) trivial (Below.refl _ _) (Nat.le_refl _) (by simp) ?_; (case hd => rfl); (case hg => rfl); (case hr => first | (go_simp; done) | (go_simp; rfl)); (case hp => exact (Reps.one (show Kd.M (Kd.int .i64) _ _ _ a1 [.int .i64 a1] from rfl) (Reps.one (show Kd.M (Kd.int .i64) _ _ _ a2 [.int .i64 a2] from rfl) (Reps.one (show Kd.M (Kd.int .i64) _ _ _ a3 [.int .i64 a3] from rfl) (Reps.one (show Kd.M (Kd.int .i64) _ _ _ a4 [.int .i64 a4] from rfl) (Reps.none _ _)))))); intro v265 w9 ho10 hb hg_ hnew_; clear hg_ hnew_; (first | rw [← aQ.out] at ho10 | (simp only [Int.reduceToNat] at ho10; rw [← aQ.out] at ho10)); have n0_ := Aa.mk (Kd.Bv ho10 (Af (lU HB.out))); have n1_ := Aa.mk (Ai (lU HB.out) hb); clear HB; have aT := n0_; have HB := n1_; clear n0_ n1_; clear hb ho10; obtain ⟨a5, a6, bj⟩ := Kd.Bi aT.out; subst bj))
  go_loopg [26] k (fun kq v26 w' => ∃ (aa : Int), v26 = .int .i64 aa ∧ Aa (Bz.l0 kq l0 a1 a2 a3 a4 ag (ag.length : Int) aa = some (r1, r2)) ∧ Aa (kq ≤ k) ∧ Aa (Kd.R (Kd.int .i64) 3 w' w.heap.size (fun _ => True) (.slice a5 ag.length a6) ag) ∧ Aa (Below w.heap.size w w'))
  case atStart => exact ⟨(0), (by first | rfl | (simp; done) | (simp [*]; done)), H', ⟨Nat.le_refl _⟩, ⟨by exact rU <| aT.out⟩, ⟨by repeat (first | (with_reducible first | exact HB.out | apply Ae | apply Ac | apply Ad) | exact HB.out)⟩⟩
  case round =>
   clear H'
   try clear c1
   try clear p2
   try clear c4
   try clear c7
   try clear aI
   try clear aZ
   obtain ⟨aa, rfl, HA, HK1, ah, HB⟩ := hrel
   cases gk with
   | zero => exact absurd HA.out (by simp [Bz.l0])
   | succ k1 =>
    have H := HA.out
    clear HA
    simp only [Bz.l0] at H
    by_cases c12 : aa < (ag.length : Int)
    ·rw [if_pos c12] at H
     have a7 : decide (aa < (ag.length : Int)) = true := decide_eq_true c12
     clear c12
     by_cases c13 : 0 ≤ aa
     ·rw [if_pos c13] at H
      have bq : decide (0 ≤ aa) = true := decide_eq_true c13
      clear c13
      by_cases c14 : aa < (ag.length : Int)
      ·rw [if_pos c14] at H
       have br : decide (aa < (ag.length : Int)) = true := decide_eq_true c14
       clear c14
       by_cases c15 : (rd ag aa) < 0
       ·rw [if_pos c15] at H
        have a8 : decide ((rd ag aa) < 0) = true := decide_eq_true c15
        clear c15
        simp only [Option.some.injEq, Prod.mk.injEq] at H
        obtain ⟨rfl, rfl⟩ := H
        have an : 0 ≤ (aa : Int) := of_decide_eq_true (by with_reducible assumption)
        have ao : aa < (ag.length : Int) := of_decide_eq_true (by with_reducible assumption)
        obtain ⟨aU, e267, aA⟩ := Kd.at_int (Kd.Aq ah.out).2.2 aa an ao
        cases e267
        replace an := eq_true an
        replace ao := eq_true ao
        go_wp2
        go_ret2
        exact ⟨_, by first | rfl | (simp [Av, Au] <;> rfl) | (simp [*, Av, Au] <;> rfl), by first | exact Kd.C0 _ _ _ _ _ | exact Kd.N_nil _ _ _ _ _ | exact Kd.V_nil _ _ _ _ _ | exact Kd.Q_nil _ _ _ _ _ | exact Kd.S_nil _ _ _ _ _, by repeat (first | (with_reducible first | exact HB.out | apply Ae | apply Ac | apply Ad) | exact HB.out)⟩
       ·rw [if_neg c15] at H
        have a8 : decide ((rd ag aa) < 0) = false := decide_eq_false c15
        clear c15
        by_cases c16 : (rd ag aa) > 16384
        ·rw [if_pos c16] at H
         have a9 : decide (16384 < (rd ag aa)) = true := decide_eq_true c16
         clear c16
         simp only [Option.some.injEq, Prod.mk.injEq] at H
         obtain ⟨rfl, rfl⟩ := H
         have an : 0 ≤ (aa : Int) := of_decide_eq_true (by with_reducible assumption)
         have ao : aa < (ag.length : Int) := of_decide_eq_true (by with_reducible assumption)
         obtain ⟨aU, e267, aA⟩ := Kd.at_int (Kd.Aq ah.out).2.2 aa an ao
         cases e267
         replace an := eq_true an
         replace ao := eq_true ao
         go_wp2
         go_ret2
         exact ⟨_, by first | rfl | (simp [Av, Au] <;> rfl) | (simp [*, Av, Au] <;> rfl), by first | exact Kd.C0 _ _ _ _ _ | exact Kd.N_nil _ _ _ _ _ | exact Kd.V_nil _ _ _ _ _ | exact Kd.Q_nil _ _ _ _ _ | exact Kd.S_nil _ _ _ _ _, by repeat (first | (with_reducible first | exact HB.out | apply Ae | apply Ac | apply Ad) | exact HB.out)⟩
        ·rw [if_neg c16] at H
         have a9 : decide (16384 < (rd ag aa)) = false := decide_eq_false c16
         clear c16
         have H' := Aa.mk H
         clear H
         have an : 0 ≤ (aa : Int) := of_decide_eq_true (by with_reducible assumption)
         have ao : aa < (ag.length : Int) := of_decide_eq_true (by with_reducible assumption)
         obtain ⟨aU, e267, aA⟩ := Kd.at_int (Kd.Aq ah.out).2.2 aa an ao
         cases e267
         replace an := eq_true an
         replace ao := eq_true ao
         go_wp2
         go_roundg k1
         case measure => have := HK1.out; omega
         case rel => exact ⟨(wrap64 (aa + 1)), (by first | rfl | (simp; done) | (simp [*]; done)), H', ⟨by have := HK1.out; omega⟩, ⟨by exact rU <| ah.out⟩, ⟨by repeat (first | (with_reducible first | exact HB.out | apply Ae | apply Ac | apply Ad) | exact HB.out)⟩⟩
      ·rw [if_neg c14] at H
       exact absurd H (by simp)
     ·rw [if_neg c13] at H
      exact absurd H (by simp)
    ·rw [if_neg c12] at H
     have a7 : decide (aa < (ag.length : Int)) = false := decide_eq_false c12
     clear c12
     replace H := Option.bind_eq_some_iff.mp H
     obtain ⟨aC, A170, H⟩ := H
     try dsimp only at H
     have A17 := Aa.mk A170
     clear A170
     replace H := Option.bind_eq_some_iff.mp H
     obtain ⟨aG, A180, H⟩ := H
     try dsimp only at H
     have A18 := Aa.mk A180
     clear A180
     replace H := Option.bind_eq_some_iff.mp H
     obtain ⟨⟨bk, bl⟩, A190, H⟩ := H
     try dsimp only at H
     have A19 := Aa.mk A190
     clear A190
     simp only [Option.some.injEq, Prod.mk.injEq] at H
     obtain ⟨rfl, rfl⟩ := H
     go_wp2_with (first | ((with_reducible refine Ap (f := 48) rfl ?_); refine Br (some 42) rfl rfl Try.func48 (by kernel_rfl) rfl #[.slice A0 l0.length c0, .int .i64 a1, .int .i64 a2, .int .i64 a3, .int .i64 a4] rfl (by (try simp only [List.map_toArray, List.map_cons, List.map_nil]); first | done | rfl | (simp only [List.length_drop, List.length_take]; rfl)) ?_; (with_reducible refine (B4.calls k1 _ _ l0 a1 a2 a3 a4 aC _ ?side1 ?side2 A17.out).mono ?_); (case side1 => repeat (first | exact (Kd.C_below HR0.out HB.out) | (with_reducible refine Kd.Bh ?_ _) | (with_reducible refine Kd.Bg ?_ _) | (with_reducible refine Kd.Bp ?_))); (case side2 => exact HC0.out); rintro e w20 ⟨v269, rfl, ho0, hb⟩; refine ⟨_, rfl, ?_⟩; have n0_ := Aa.mk (Kd.At (by exact rU <| ah.out) hb); have n1_ := Aa.mk (Kd.Bv ho0 (Af (lU HB.out))); have n2_ := Aa.mk (Ai (lU HB.out) hb); clear ah; clear HB; have ah := n0_; have ai := n1_; have HB := n2_; clear n0_ n1_ n2_; (try clear hb); (try clear hb2); (try clear hk); (try clear hi); (try clear ho0); obtain ⟨ba, bb, bm⟩ := Kd.Bi ai.out; subst bm) | ((with_reducible refine Ap (f := 47) rfl ?_); refine Br (some 43) rfl rfl Try.func47 (by kernel_rfl) rfl #[.slice ba aC.length bb, .slice none 0 0, .func (.func (49 : Int).toNat) #[] #[]] rfl (by (try simp only [List.map_toArray, List.map_cons, List.map_nil]); first | done | rfl | (simp only [List.length_drop, List.length_take]; rfl)) ?_; (refine (Am.calls k1 (fun k_ => some k_ = (.slice ba aC.length bb : Value).ownBlock) _ _ aC (fun k_ => False) _ _ ([] : List (S58)) 49 aG _ ?side1 ?side2 A18.out).mono ?_); (case side1 => exact Kd.R_V (Kd.Cv rfl (Kd.Ca (ai.out) (Kd.Ck ah.out) (by decide)))); (case side2 => exact Kd.V_nil _ _ _ _ _); rintro e w22 ⟨v272, rfl, ho0, hb⟩; refine ⟨_, rfl, ?_⟩; have n0_ := Aa.mk (Kd.At (by exact rU <| ah.out) hb); have n1_ := Aa.mk (Kd.At (by exact rU <| ai.out) hb); have n2_ := Aa.mk (Kd.N_lower (Kd.N_mono (ok' := fun k_ => some k_ ≠ (.slice a5 ag.length a6 : Value).ownBlock) ho0 (fun k_ hk_ => Or.elim hk_ (fun hs_ => Or.elim hs_ (fun hs_ => ((Kd.Ca (ai.out) (Kd.Ck ah.out) (by decide)).1 k_ hs_.symm).2) (fun hs_ => (hs_).elim)) (fun hn_ => (Kd.fresh' (Kd.Bw (by exact rU <| ah.out)) k_ hn_)))) (Af (lU HB.out))); have n3_ := Aa.mk (Ai (lU HB.out) hb); clear ah; clear ai; clear HB; have ah := n0_; have ai := n1_; have ar := n2_; have HB := n3_; clear n0_ n1_ n2_ n3_; (try clear hb); (try clear hb2); (try clear hk); (try clear hi); (try clear ho0); obtain ⟨bn, bo, bp⟩ := Kd.N_slice ar.out; subst bp) | ((with_reducible refine Ap (f := 46) rfl ?_); refine Br (some 44) rfl rfl Try.func46 (by kernel_rfl) rfl #[.slice bn aG.length bo] rfl (by (try simp only [List.map_toArray, List.map_cons, List.map_nil]); first | done | rfl | (simp only [List.length_drop, List.length_take]; rfl)) ?_; (with_reducible refine (Bm.calls k1 _ _ aG bk bl _ ?side1 ?side2 A19.out).mono ?_); (case side1 => repeat (first | exact (Kd.N_reads' ar.out).2.2 | (with_reducible refine Kd.Bh ?_ _) | (with_reducible refine Kd.Bg ?_ _) | (with_reducible refine Kd.Bp ?_))); (case side2 => exact (Kd.N_reads' ar.out).2.1); rintro e w24 ⟨v276, rfl, ho0, hb⟩; refine ⟨_, rfl, ?_⟩; have n0_ := Aa.mk (Kd.At (by exact rU <| ah.out) hb); have n1_ := Aa.mk (Kd.As (by exact rU <| ai.out) (Kd.Ao ho0) hb); have n2_ := Aa.mk (Kd.N_elder' (by (with_reducible repeat (first | apply Kd.N_alloc | apply Kd.N_drewN | apply Kd.N_drew)); exact ar.out) (Kd.Ao ho0) hb); have n3_ := Aa.mk (Kd.Bv (Kd.Bf ho0 (Kd.Bw (by exact rU <| ai.out))) (Af (lU HB.out))); have n4_ := Aa.mk (Ai (lU HB.out) hb); clear ah; clear ai; clear ar; clear HB; have ah := n0_; have ai := n1_; have ar := n2_; have bc := n3_; have HB := n4_; clear n0_ n1_ n2_ n3_ n4_; (try clear hb); (try clear hb2); (try clear hk); (try clear hi); (try clear ho0)))
     go_ret2
     exact ⟨_, by first | rfl | (simp [Av, Au] <;> rfl) | (simp [*, Av, Au] <;> rfl), by exact rU <| Kd.Bj bc.out (fun _ hk => trivial), by repeat (first | (with_reducible first | exact HB.out | apply Ae | apply Ac | apply Ad) | exact HB.out)⟩
 ·rw [if_neg c7] at H
  have aI : (am == 0) = false := beq_eq_false_iff_ne.mpr c7
  have aZ : (am != 0) = true := bne_iff_ne.mpr c7
  simp only [Option.some.injEq, Prod.mk.injEq] at H
  obtain ⟨rfl, rfl⟩ := H
  go_enter Try.func17, Try.ntmps17
  go_wp2_with (first | ((with_reducible refine Ap (f := 42) rfl ?_); refine Br (some 16) rfl rfl Try.func42 (by kernel_rfl) rfl #[.slice A0 l0.length c0] rfl (by (try simp only [List.map_toArray, List.map_cons, List.map_nil]); first | done | rfl | (simp only [List.length_drop, List.length_take]; rfl)) ?_; (with_reducible refine (Bq.calls k _ _ l0 am _ ?side1 ?side2 A6.out).mono ?_); (case side1 => repeat (first | exact HR0.out | (with_reducible refine Kd.Bh ?_ _) | (with_reducible refine Kd.Bg ?_ _) | (with_reducible refine Kd.Bp ?_))); (case side2 => exact HC0.out); rintro e w25 ⟨rfl, hb⟩; refine ⟨_, rfl, ?_⟩; have n0_ := Aa.mk (Ai (lU HB.out) hb); clear HB; have HB := n0_; clear n0_; (try clear hb); (try clear hb2); (try clear hk); (try clear hi)))
  go_ret2
  exact ⟨_, by first | rfl | (simp [Av, Au] <;> rfl) | (simp [*, Av, Au] <;> rfl), by first | exact Kd.C0 _ _ _ _ _ | exact Kd.N_nil _ _ _ _ _ | exact Kd.V_nil _ _ _ _ _ | exact Kd.Q_nil _ _ _ _ _ | exact Kd.S_nil _ _ _ _ _, by repeat (first | (with_reducible first | exact HB.out | apply Ae | apply Ac | apply Ad) | exact HB.out)⟩



end Go.Proofs.Ytobdfiglgdbecaa.PGA

