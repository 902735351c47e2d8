import Derived.Test.YtobdfiglgdbecaaYPGAx0
import Derived.Test.YtobdfiglgdbecaaYPGAx2
import Derived.Test.YtobdfiglgdbecaaYPGAx5
namespace Go.Proofs.Ytobdfiglgdbecaa.PGA
open Go.Proofs.Ytobdfiglgdbecaa.PGB
open Go.RowKit Go.Proofs.YtobdfiglgdbecaaW.PrintWords Go.Proofs.YtobdfiglgdbecaaW.PrintLast Go.Proofs.YtobdfiglgdbecaaW.PrintMore
attribute [local go_sem] max2_int min2_int max_two min_two max_three min_three max_four min_four
set_option linter.unusedVariables false
set_option linter.unusedSimpArgs false

def B7.l0 : Nat → List (S58) → List (S58) → Int → List (List (S58)) → Int → Int → Option ((List (S58)) × Int)
 | 0, _, _, _, _, _, _ => none
 | k + 1, x0, x1, x2, x13, x14, x15 => if x15 < x14 then (if 0 ≤ x15 then (if x15 < (x13.length : Int) then ((Bk.f k (rd_L5 x13 x15)).bind fun aZ => (if aZ = 0 then (B7.l0 k x0 x1 x2 x13 x14 (wrap64 (x15 + 1))) else (some (([] : List (S58)), aZ)))) else (none)) else (none)) else ((Aq.f k x0 x1 x2).bind fun bz => ((Bo.f k bz).bind fun bG => (some (bG.1, bG.2))))
def B7.f (k : Nat) (l0 : List (S58)) (l1 : List (S58)) (a2 : Int) : Option ((List (S58)) × Int) := (some (([l0, l1] : List (List (S58))) : List (List (S58)))).bind fun aC => (B7.l0 k l0 l1 a2 aC (aC.length : Int) 0)
set_option maxHeartbeats 8000000 in
set_option maxRecDepth 100000 in
theorem B7.calls (k : Nat) (P0_ : Nat → Prop) (A0 : Option Addr) (c0 : Nat) (l0 : List (S58)) (P1_ : Nat → Prop) (A1 : Option Addr) (c1 : Nat) (l1 : List (S58)) (a2 : Int) (r1 : List (S58)) (r2 : Int) (w : World) (hs0 : Kd.V k58 58 w w.heap.size (fun k_ => P0_ k_) (.slice A0 l0.length c0) l0) (hs1 : Kd.V k58 58 w w.heap.size (fun k_ => P1_ k_) (.slice A1 l1.length c1) l1) (h : B7.f k l0 l1 a2 = some (r1, r2)) (hk_ : Aa (IsKeep a2) := by first | assumption | exact ⟨by decide⟩) :
  Calls Try.prog 55 #[.slice A0 l0.length c0, .slice A1 l1.length c1, .func (.func a2.toNat) #[] #[]] w fun e w' => ∃ v0_ : Value, e = .returned (.tuple #[v0_, .int .i64 r2]) ∧ Kd.R k58 58 w' w.heap.size (fun k_ => (w.heap.size ≤ k_)) v0_ r1 ∧ Below w.heap.size w w' := by
 have HO0 := Aa.mk (show Kd.V k58 58 w w.heap.size (fun k_ => ((P0_ k_ ∨ P1_ k_) ∨ w.heap.size ≤ k_)) (.slice A0 l0.length c0) l0 from Kd.V_mono hs0 (fun k_ hk => .inl (.inl hk)))
 have HO1 := Aa.mk (show Kd.V k58 58 w w.heap.size (fun k_ => ((P0_ k_ ∨ P1_ k_) ∨ w.heap.size ≤ k_)) (.slice A1 l1.length c1) l1 from Kd.V_mono hs1 (fun k_ hk => .inl (.inr hk)))
 have HB := Aa.mk (Below.refl w.heap.size w)
 have H : ((some (([l0, l1] : List (List (S58))) : List (List (S58)))).bind fun aC => (B7.l0 k l0 l1 a2 aC (aC.length : Int) 0)) = some (r1, r2) := h
 clear h
 obtain ⟨aC, bB⟩ : ∃ y_ : List (List (S58)), y_ = (([l0, l1] : List (List (S58)))) := ⟨_, rfl⟩
 (try rw [Option.bind_some] at H); try rw [← bB] at H
 have bH := Aa.mk bB
 clear bB
 have H' := Aa.mk H
 clear H
 go_enter Try.func55, Try.ntmps55
 go_wp2_with (first | ((with_reducible refine Bj (N := 13) rfl ?_); refine Kd.N_lit (Kd.slice 58 k58) _ 22 ?hg (N' := 13) ?hd (xs := ([l0, l1] : List (List (S58)))) (inner := [.slice A0 l0.length c0, .slice A1 l1.length c1]) (ok := (fun k_ => ((P0_ k_ ∨ P1_ k_) ∨ w.heap.size ≤ k_))) (okp := (fun k_ => ((P0_ k_ ∨ P1_ k_) ∨ w.heap.size ≤ k_))) ?hr ?hp (fun _ hk => hk) ((show ∀ k_, w.heap.size ≤ k_ → (fun k_ => ((P0_ k_ ∨ P1_ k_) ∨ w.heap.size ≤ k_)) k_ from fun k_ hk => (.inr (Nat.le_trans (Ag (lU HB.out)) hk))) _ (Nat.le_refl _)) (Below.refl _ _) (Nat.le_refl _) (by simp) ?_; (case hd => rfl); (case hg => rfl); (case hr => first | (go_simp; done) | (go_simp; rfl)); (case hp => exact (Reps.one (show Kd.FK (Kd.slice 58 k58) _ _ l0 [.slice A0 l0.length c0] from (Kd.FK_slice_mk (Kd.V_reads' (Kd.V_mono (ok' := (fun k_ => ((P0_ k_ ∨ P1_ k_) ∨ w.heap.size ≤ k_))) (HO0.out) (fun k_ hk => hk))).2.1 (Kd.V_F (Kd.V_mono (ok' := (fun k_ => ((P0_ k_ ∨ P1_ k_) ∨ w.heap.size ≤ k_))) (HO0.out) (fun k_ hk => hk))))) (Reps.one (show Kd.FK (Kd.slice 58 k58) _ _ l1 [.slice A1 l1.length c1] from (Kd.FK_slice_mk (Kd.V_reads' (Kd.V_mono (ok' := (fun k_ => ((P0_ k_ ∨ P1_ k_) ∨ w.heap.size ≤ k_))) (HO1.out) (fun k_ hk => hk))).2.1 (Kd.V_F (Kd.V_mono (ok' := (fun k_ => ((P0_ k_ ∨ P1_ k_) ∨ w.heap.size ≤ k_))) (HO1.out) (fun k_ hk => hk))))) (Reps.none _ _)))); intro v230 w4 ho5 hb hg_ hnew_; clear hg_ hnew_; (first | rw [← bH.out] at ho5 | (simp only [Int.reduceToNat] at ho5; rw [← bH.out] at ho5)); have n0_ := Aa.mk (Kd.V_elder' (by (with_reducible repeat (first | apply Kd.V_alloc | apply Kd.V_drewN | apply Kd.V_drew)); exact HO0.out) (Kd.N_base ho5) hb); have n1_ := Aa.mk (Kd.V_elder' (by (with_reducible repeat (first | apply Kd.V_alloc | apply Kd.V_drewN | apply Kd.V_drew)); exact HO1.out) (Kd.N_base ho5) hb); have n2_ := Aa.mk (Kd.N_lower ho5 (Ag (lU HB.out))); have n3_ := Aa.mk (Ak (lU HB.out) hb); clear HO0; clear HO1; clear HB; have HO0 := n0_; have HO1 := n1_; have bI := n2_; have HB := n3_; clear n0_ n1_ n2_ n3_; clear hb ho5; obtain ⟨Ao6, co6, eo6⟩ := Kd.N_slice bI.out; subst eo6))
 go_loopg [15] k (fun kq v15 w' => ∃ (ar : Int), v15 = .int .i64 ar ∧ Aa (B7.l0 kq l0 l1 a2 aC (aC.length : Int) ar = some (r1, r2)) ∧ Aa (kq ≤ k) ∧ Aa (Kd.V k58 58 w' w.heap.size (fun k_ => ((P0_ k_ ∨ P1_ k_) ∨ w.heap.size ≤ k_) ∧ some k_ ≠ ((.slice Ao6 aC.length co6) : Value).ownBlock) (.slice A0 l0.length c0) l0) ∧ Aa (Kd.V k58 58 w' w.heap.size (fun k_ => ((P0_ k_ ∨ P1_ k_) ∨ w.heap.size ≤ k_) ∧ some k_ ≠ ((.slice Ao6 aC.length co6) : Value).ownBlock) (.slice A1 l1.length c1) l1) ∧ Aa (Kd.N (Kd.slice 58 k58) 22 w' w.heap.size (fun k_ => ((P0_ k_ ∨ P1_ k_) ∨ w.heap.size ≤ k_)) (.slice Ao6 aC.length co6) aC) ∧ Aa (Below w.heap.size w w'))
 case atStart => exact ⟨(0), (by first | rfl | (simp; done) | (simp [*]; done)), H', ⟨Nat.le_refl _⟩, ⟨by (with_reducible repeat (first | apply Kd.V_alloc | apply Kd.V_drewN | apply Kd.V_drew)); exact HO0.out⟩, ⟨by (with_reducible repeat (first | apply Kd.V_alloc | apply Kd.V_drewN | apply Kd.V_drew)); exact HO1.out⟩, ⟨by (with_reducible repeat (first | apply Kd.N_alloc | apply Kd.N_drewN | apply Kd.N_drew)); exact bI.out⟩, ⟨by repeat (first | (with_reducible first | exact HB.out | apply Ad | apply Ab | apply Ac) | exact HB.out)⟩⟩
 case round =>
  clear H'
  try clear c1
  try clear p2
  try clear c5
  obtain ⟨ar, rfl, HA, HK1, aK, aM, aw, HB⟩ := hrel
  cases gk with
  | zero => exact absurd HA.out (by simp [B7.l0])
  | succ k1 =>
   have H := HA.out
   clear HA
   simp only [B7.l0] at H
   by_cases c7 : ar < (aC.length : Int)
   ·rw [if_pos c7] at H
    have bw : decide (ar < (aC.length : Int)) = true := decide_eq_true c7
    clear c7
    by_cases c8 : 0 ≤ ar
    ·rw [if_pos c8] at H
     have d8 : decide (0 ≤ ar) = true := decide_eq_true c8
     clear c8
     by_cases c9 : ar < (aC.length : Int)
     ·rw [if_pos c9] at H
      have d9 : decide (ar < (aC.length : Int)) = true := decide_eq_true c9
      clear c9
      replace H := Option.bind_eq_some_iff.mp H
      obtain ⟨aZ, A100, H⟩ := H
      try dsimp only at H
      have A10 := Aa.mk A100
      clear A100
      by_cases c11 : aZ = 0
      ·rw [if_pos c11] at H
       have bR : (aZ == 0) = true := beq_iff_eq.mpr c11
       have bS : (aZ != 0) = false := bne_eq_false_iff_eq.mpr c11
       clear c11
       have H' := Aa.mk H
       clear H
       have bc : 0 ≤ (ar : Int) := of_decide_eq_true (by with_reducible assumption)
       have be : ar < (aC.length : Int) := of_decide_eq_true (by with_reducible assumption)
       obtain ⟨bT, bn, bo, e232, bf, aN, hi232_0⟩ := at_L5 (Kd.N_reads' aw.out).2.2 ar bc be
       cases e232
       obtain ⟨ce232, hce232, hMe232, hcc232⟩ := Kd.N_get aw.out [] ar bc (by first | exact be | exact of_decide_eq_true (by with_reducible assumption) | (have e_ := (Kd.N_reads' aw.out).1; omega))
       obtain ⟨ua232_0, uc232_0, rfl, ul232_0, ge232_0⟩ := Kd.FK_slice_open hMe232
       have hv232_0 := hcc232 0 _ rfl
       rw [Nat.add_zero, show ((Kd.slice 58 k58)).sz = 1 from rfl, Nat.mul_one] at hv232_0
       replace hv232_0 := Option.some.inj (hv232_0.symm.trans bf)
       injection hv232_0 with hva_ hvn_ hvc_
       rw [hva_] at ge232_0
       rw [hvc_] at ul232_0
       have HL232_0 := Aa.mk (show Kd.V k58 58 _ w.heap.size _ _ (rd_L5 aC ar) from Kd.V_mk ul232_0 ge232_0)
       clear hva_ hvn_ hvc_ ge232_0 ul232_0
       clear hcc232 hce232
       have au := Aa.mk hi232_0
       have bg := Aa.mk aN
       clear hi232_0 aN
       replace bc := eq_true bc
       replace be := eq_true be
       go_wp2_with (first | ((with_reducible refine As (f := 42) rfl ?_); refine Br (some 20) rfl rfl Try.func42 (by kernel_rfl) rfl #[.slice bn (rd_L5 aC ar).length bo] rfl (by (try simp only [List.map_toArray, List.map_cons, List.map_nil]); first | done | rfl | (simp only [List.length_drop, List.length_take]; rfl)) ?_; (with_reducible refine (Bk.calls k1 _ _ (rd_L5 aC ar) aZ _ ?side1 ?side2 A10.out).mono ?_); (case side1 => repeat (first | exact (by repeat (first | (with_reducible exact au.out) | (with_reducible refine Kd.Bi ?_ _) | (with_reducible refine Kd.Bh ?_ _) | (with_reducible refine Kd.Bm ?_) | exact au.out)) | (with_reducible refine Kd.Bi ?_ _) | (with_reducible refine Kd.Bh ?_ _) | (with_reducible refine Kd.Bm ?_))); (case side2 => exact bg.out); rintro e w12 ⟨rfl, hb⟩; refine ⟨_, rfl, ?_⟩; have n0_ := Aa.mk (Kd.V_below (by (with_reducible repeat (first | apply Kd.V_alloc | apply Kd.V_drewN | apply Kd.V_drew)); exact aK.out) hb); have n1_ := Aa.mk (Kd.V_below (by (with_reducible repeat (first | apply Kd.V_alloc | apply Kd.V_drewN | apply Kd.V_drew)); exact aM.out) hb); have n2_ := Aa.mk (Kd.N_below (by (with_reducible repeat (first | apply Kd.N_alloc | apply Kd.N_drewN | apply Kd.N_drew)); exact aw.out) hb); have n3_ := Aa.mk (Kd.V_below (by (with_reducible repeat (first | apply Kd.V_alloc | apply Kd.V_drewN | apply Kd.V_drew)); exact HL232_0.out) hb); have n4_ := Aa.mk (Kd.C3 (by repeat (first | (with_reducible exact au.out) | (with_reducible refine Kd.Bi ?_ _) | (with_reducible refine Kd.Bh ?_ _) | (with_reducible refine Kd.Bm ?_) | exact au.out)) hb); have n5_ := Aa.mk (Ak (lU HB.out) hb); clear aK; clear aM; clear aw; clear HL232_0; clear au; clear HB; have aK := n0_; have aM := n1_; have aw := n2_; have HL232_0 := n3_; have au := n4_; have HB := n5_; clear n0_ n1_ n2_ n3_ n4_ n5_; (try clear hb); (try clear hb2); (try clear hk); (try clear hi)))
       go_roundg k1
       case measure => have := HK1.out; omega
       case rel => exact ⟨(wrap64 (ar + 1)), (by first | rfl | (simp; done) | (simp [*]; done)), H', ⟨by have := HK1.out; omega⟩, ⟨by (with_reducible repeat (first | apply Kd.V_alloc | apply Kd.V_drewN | apply Kd.V_drew)); exact aK.out⟩, ⟨by (with_reducible repeat (first | apply Kd.V_alloc | apply Kd.V_drewN | apply Kd.V_drew)); exact aM.out⟩, ⟨by (with_reducible repeat (first | apply Kd.N_alloc | apply Kd.N_drewN | apply Kd.N_drew)); exact aw.out⟩, ⟨by repeat (first | (with_reducible first | exact HB.out | apply Ad | apply Ab | apply Ac) | exact HB.out)⟩⟩
      ·rw [if_neg c11] at H
       have bR : (aZ == 0) = false := beq_eq_false_iff_ne.mpr c11
       have bS : (aZ != 0) = true := bne_iff_ne.mpr c11
       simp only [Option.some.injEq, Prod.mk.injEq] at H
       obtain ⟨rfl, rfl⟩ := H
       have bc : 0 ≤ (ar : Int) := of_decide_eq_true (by with_reducible assumption)
       have be : ar < (aC.length : Int) := of_decide_eq_true (by with_reducible assumption)
       obtain ⟨bT, bn, bo, e232, bf, aN, hi232_0⟩ := at_L5 (Kd.N_reads' aw.out).2.2 ar bc be
       cases e232
       obtain ⟨ce232, hce232, hMe232, hcc232⟩ := Kd.N_get aw.out [] ar bc (by first | exact be | exact of_decide_eq_true (by with_reducible assumption) | (have e_ := (Kd.N_reads' aw.out).1; omega))
       obtain ⟨ua232_0, uc232_0, rfl, ul232_0, ge232_0⟩ := Kd.FK_slice_open hMe232
       have hv232_0 := hcc232 0 _ rfl
       rw [Nat.add_zero, show ((Kd.slice 58 k58)).sz = 1 from rfl, Nat.mul_one] at hv232_0
       replace hv232_0 := Option.some.inj (hv232_0.symm.trans bf)
       injection hv232_0 with hva_ hvn_ hvc_
       rw [hva_] at ge232_0
       rw [hvc_] at ul232_0
       have HL232_0 := Aa.mk (show Kd.V k58 58 _ w.heap.size _ _ (rd_L5 aC ar) from Kd.V_mk ul232_0 ge232_0)
       clear hva_ hvn_ hvc_ ge232_0 ul232_0
       clear hcc232 hce232
       have au := Aa.mk hi232_0
       have bg := Aa.mk aN
       clear hi232_0 aN
       replace bc := eq_true bc
       replace be := eq_true be
       go_wp2_with (first | ((with_reducible refine As (f := 42) rfl ?_); refine Br (some 20) rfl rfl Try.func42 (by kernel_rfl) rfl #[.slice bn (rd_L5 aC ar).length bo] rfl (by (try simp only [List.map_toArray, List.map_cons, List.map_nil]); first | done | rfl | (simp only [List.length_drop, List.length_take]; rfl)) ?_; (with_reducible refine (Bk.calls k1 _ _ (rd_L5 aC ar) aZ _ ?side1 ?side2 A10.out).mono ?_); (case side1 => repeat (first | exact (by repeat (first | (with_reducible exact au.out) | (with_reducible refine Kd.Bi ?_ _) | (with_reducible refine Kd.Bh ?_ _) | (with_reducible refine Kd.Bm ?_) | exact au.out)) | (with_reducible refine Kd.Bi ?_ _) | (with_reducible refine Kd.Bh ?_ _) | (with_reducible refine Kd.Bm ?_))); (case side2 => exact bg.out); rintro e w13 ⟨rfl, hb⟩; refine ⟨_, rfl, ?_⟩; have n0_ := Aa.mk (Kd.V_below (by (with_reducible repeat (first | apply Kd.V_alloc | apply Kd.V_drewN | apply Kd.V_drew)); exact aK.out) hb); have n1_ := Aa.mk (Kd.V_below (by (with_reducible repeat (first | apply Kd.V_alloc | apply Kd.V_drewN | apply Kd.V_drew)); exact aM.out) hb); have n2_ := Aa.mk (Kd.N_below (by (with_reducible repeat (first | apply Kd.N_alloc | apply Kd.N_drewN | apply Kd.N_drew)); exact aw.out) hb); have n3_ := Aa.mk (Kd.V_below (by (with_reducible repeat (first | apply Kd.V_alloc | apply Kd.V_drewN | apply Kd.V_drew)); exact HL232_0.out) hb); have n4_ := Aa.mk (Kd.C3 (by repeat (first | (with_reducible exact au.out) | (with_reducible refine Kd.Bi ?_ _) | (with_reducible refine Kd.Bh ?_ _) | (with_reducible refine Kd.Bm ?_) | exact au.out)) hb); have n5_ := Aa.mk (Ak (lU HB.out) hb); clear aK; clear aM; clear aw; clear HL232_0; clear au; clear HB; have aK := n0_; have aM := n1_; have aw := n2_; have HL232_0 := n3_; have au := n4_; have HB := n5_; clear n0_ n1_ n2_ n3_ n4_ n5_; (try clear hb); (try clear hb2); (try clear hk); (try clear hi)))
       go_ret2
       exact ⟨_, by first | rfl | (simp [Ax, Aw] <;> rfl) | (simp [*, Ax, Aw] <;> rfl), by first | exact Kd.Cy _ _ _ _ _ | exact Kd.N_nil _ _ _ _ _ | exact Kd.V_nil _ _ _ _ _ | exact Kd.Q_nil _ _ _ _ _ | exact Kd.S_nil _ _ _ _ _, by repeat (first | (with_reducible first | exact HB.out | apply Ad | apply Ab | apply Ac) | exact HB.out)⟩
     ·rw [if_neg c9] at H
      exact absurd H (by simp)
    ·rw [if_neg c8] at H
     exact absurd H (by simp)
   ·rw [if_neg c7] at H
    have bw : decide (ar < (aC.length : Int)) = false := decide_eq_false c7
    clear c7
    replace H := Option.bind_eq_some_iff.mp H
    obtain ⟨bz, A140, H⟩ := H
    try dsimp only at H
    have A14 := Aa.mk A140
    clear A140
    replace H := Option.bind_eq_some_iff.mp H
    obtain ⟨⟨ec, ed⟩, A150, H⟩ := H
    try dsimp only at H
    have A15 := Aa.mk A150
    clear A150
    simp only [Option.some.injEq, Prod.mk.injEq] at H
    obtain ⟨rfl, rfl⟩ := H
    go_wp2_with (first | ((with_reducible refine As (f := 47) rfl ?_); refine Br (some 28) rfl rfl Try.func47 (by kernel_rfl) rfl #[.slice A0 l0.length c0, .slice A1 l1.length c1, .func (.func a2.toNat) #[] #[]] rfl (by (try simp only [List.map_toArray, List.map_cons, List.map_nil]); first | done | rfl | (simp only [List.length_drop, List.length_take]; rfl)) ?_; (with_reducible refine (Aq.calls k1 (fun k_ => (((P0_ k_ ∨ P1_ k_) ∨ w.heap.size ≤ k_) ∧ some k_ ≠ (.slice Ao6 aC.length co6 : Value).ownBlock)) _ _ l0 (fun k_ => (((P0_ k_ ∨ P1_ k_) ∨ w.heap.size ≤ k_) ∧ some k_ ≠ (.slice Ao6 aC.length co6 : Value).ownBlock)) _ _ l1 a2 bz _ ?side1 ?side2 A14.out).mono ?_); (case side1 => exact aK.out); (case side2 => exact aM.out); rintro e w16 ⟨v235, rfl, ho0, hb⟩; refine ⟨_, rfl, ?_⟩; have n0_ := Aa.mk (Kd.V_elder' (by (with_reducible repeat (first | apply Kd.V_alloc | apply Kd.V_drewN | apply Kd.V_drew)); exact aK.out) (Kd.N_base ho0) hb); have n1_ := Aa.mk (Kd.V_elder' (by (with_reducible repeat (first | apply Kd.V_alloc | apply Kd.V_drewN | apply Kd.V_drew)); exact aM.out) (Kd.N_base ho0) hb); have n2_ := Aa.mk (Kd.N_elder' (by (with_reducible repeat (first | apply Kd.N_alloc | apply Kd.N_drewN | apply Kd.N_drew)); exact aw.out) (Kd.N_base ho0) hb); have n3_ := Aa.mk (Kd.N_lower (Kd.N_mono (ok' := fun k_ => ((P0_ k_ ∨ P1_ k_) ∨ w.heap.size ≤ k_) ∧ some k_ ≠ (.slice Ao6 aC.length co6 : Value).ownBlock) ho0 (fun k_ hk_ => ⟨Or.elim hk_ (fun hs_ => Or.elim hs_ (fun hs_ => hs_.1) (fun hs_ => hs_.1)) (fun hn_ => (.inr (Nat.le_trans (Ag (lU HB.out)) hn_))), Or.elim hk_ (fun hs_ => Or.elim hs_ (fun hs_ => hs_.2) (fun hs_ => hs_.2)) (fun hn_ => (Kd.fresh' (Kd.N_lt (by (with_reducible repeat (first | apply Kd.N_alloc | apply Kd.N_drewN | apply Kd.N_drew)); exact aw.out)) k_ hn_))⟩)) (Ag (lU HB.out))); have n4_ := Aa.mk (Ak (lU HB.out) hb); clear aK; clear aM; clear aw; clear HB; have aK := n0_; have aM := n1_; have aw := n2_; have a8 := n3_; have HB := n4_; clear n0_ n1_ n2_ n3_ n4_; (try clear hb); (try clear hb2); (try clear hk); (try clear hi); (try clear ho0); obtain ⟨ef, eh, ei⟩ := Kd.N_slice a8.out; subst ei) | ((with_reducible refine As (f := 46) rfl ?_); refine Br (some 29) rfl rfl Try.func46 (by kernel_rfl) rfl #[.slice ef bz.length eh] rfl (by (try simp only [List.map_toArray, List.map_cons, List.map_nil]); first | done | rfl | (simp only [List.length_drop, List.length_take]; rfl)) ?_; (with_reducible refine (Bo.calls k1 _ _ bz ec ed _ ?side1 ?side2 A15.out).mono ?_); (case side1 => repeat (first | exact (Kd.N_reads' a8.out).2.2 | (with_reducible refine Kd.Bi ?_ _) | (with_reducible refine Kd.Bh ?_ _) | (with_reducible refine Kd.Bm ?_))); (case side2 => exact (Kd.N_reads' a8.out).2.1); rintro e w18 ⟨v239, rfl, ho0, hb⟩; refine ⟨_, rfl, ?_⟩; have n0_ := Aa.mk (Kd.V_elder' (by (with_reducible repeat (first | apply Kd.V_alloc | apply Kd.V_drewN | apply Kd.V_drew)); exact aK.out) (Kd.Ao ho0) hb); have n1_ := Aa.mk (Kd.V_elder' (by (with_reducible repeat (first | apply Kd.V_alloc | apply Kd.V_drewN | apply Kd.V_drew)); exact aM.out) (Kd.Ao ho0) hb); have n2_ := Aa.mk (Kd.N_elder' (by (with_reducible repeat (first | apply Kd.N_alloc | apply Kd.N_drewN | apply Kd.N_drew)); exact aw.out) (Kd.Ao ho0) hb); have n3_ := Aa.mk (Kd.N_elder' (by (with_reducible repeat (first | apply Kd.N_alloc | apply Kd.N_drewN | apply Kd.N_drew)); exact a8.out) (Kd.Ao ho0) hb); have n4_ := Aa.mk (Kd.Bx (Kd.Cf (M := fun k_ => (w.heap.size ≤ k_)) ho0 (Ag (lU HB.out)) (fun k_ h_ => h_)) (Ag (lU HB.out))); have n5_ := Aa.mk (Ak (lU HB.out) hb); clear aK; clear aM; clear aw; clear a8; clear HB; have aK := n0_; have aM := n1_; have aw := n2_; have a8 := n3_; have bV := n4_; have HB := n5_; clear n0_ n1_ n2_ n3_ n4_ n5_; (try clear hb); (try clear hb2); (try clear hk); (try clear hi); (try clear ho0)))
    go_ret2
    exact ⟨_, by first | rfl | (simp [Ax, Aw] <;> rfl) | (simp [*, Ax, Aw] <;> rfl), by exact rU <| Kd.Bs bV.out (fun _ hk => hk.1), by repeat (first | (with_reducible first | exact HB.out | apply Ad | apply Ab | apply Ac) | exact HB.out)⟩

def Bu.l0 : Nat → Bool → List (S58) → Int → Int → Int → Int → Int → Int → Option (Int × Int × Int × Int × Bool)
 | 0, _, _, _, _, _, _, _, _ => none
 | k + 1, x5, x12, x13, x14, bh, bi, bj, bl => if x14 < x13 then (if 0 ≤ x14 then (if x14 < (x12.length : Int) then ((B4.f ((rd_T58 x12 x14).f0) ((rd_T58 x12 x14).f1) ((rd_T58 x12 x14).f2) ((rd_T58 x12 x14).f3)).bind fun bP => (if bP = true then (if x5 = true then (Bu.l0 k x5 x12 x13 (wrap64 (x14 + 1)) (mn bh ((rd_T58 x12 x14).f0)) (mn bi ((rd_T58 x12 x14).f1)) (mx bj ((rd_T58 x12 x14).f2)) (mx bl ((rd_T58 x12 x14).f3))) else (Bu.l0 k true x12 x13 (wrap64 (x14 + 1)) ((rd_T58 x12 x14).f0) ((rd_T58 x12 x14).f1) ((rd_T58 x12 x14).f2) ((rd_T58 x12 x14).f3))) else (Bu.l0 k x5 x12 x13 (wrap64 (x14 + 1)) bh bi bj bl))) else (none)) else (none)) else (some (bh, bi, bj, bl, x5))
def Bu.f (k : Nat) (l0 : List (S58)) : Option (Int × Int × Int × Int × Bool) := (Bk.f k l0).bind fun aU => (if aU = 0 then (Bu.l0 k false l0 (l0.length : Int) 0 0 0 0 0) else (some (0, 0, 0, 0, false)))
set_option maxHeartbeats 8000000 in
set_option maxRecDepth 100000 in
theorem Bu.calls (k : Nat) (A0 : Option Addr) (c0 : Nat) (l0 : List (S58)) (r1 : Int) (r2 : Int) (r3 : Int) (r4 : Int) (r5 : Bool) (w : World) (hr0 : Kd.C k58 w A0 l0.length l0) (hc0 : l0.length ≤ c0) (h : Bu.f k l0 = some (r1, r2, r3, r4, r5)) :
  Calls Try.prog 36 #[.slice A0 l0.length c0] w fun e w' => e = .returned (.tuple #[.agg #[.int .i64 r1, .int .i64 r2, .int .i64 r3, .int .i64 r4], .bool r5]) ∧ Below w.heap.size w w' := by
 have hu58 := Try.underlying58
 have HR0 := Aa.mk hr0
 have HC0 := Aa.mk hc0
 clear hr0 hc0
 have HB := Aa.mk (Below.refl w.heap.size w)
 have H : ((Bk.f k l0).bind fun aU => (if aU = 0 then (Bu.l0 k false l0 (l0.length : Int) 0 0 0 0 0) else (some (0, 0, 0, 0, false)))) = some (r1, r2, r3, r4, r5) := h
 clear h
 replace H := Option.bind_eq_some_iff.mp H
 obtain ⟨aU, A20, H⟩ := H
 try dsimp only at H
 have A2 := Aa.mk A20
 clear A20
 by_cases c3 : aU = 0
 ·rw [if_pos c3] at H
  have bW : (aU == 0) = true := beq_iff_eq.mpr c3
  have bX : (aU != 0) = false := bne_eq_false_iff_eq.mpr c3
  clear c3
  have H' := Aa.mk H
  clear H
  go_enter Try.func36, Try.ntmps36
  go_wp2_with (first | ((with_reducible refine Bj (N := 2) rfl ?_); refine B0 ?hg (N := 2) ?hd (cs := #[.int .i64 0, .int .i64 0, .int .i64 0, .int .i64 0]) (t := 58) ?hr ?_; (case hd => rfl); (case hg => rfl); (case hr => first | (go_simp; done) | (go_simp; rfl)); intro aj hg w4 hbox hb; have n0_ := Aa.mk (Ak (lU HB.out) hb); have n1_ := Aa.mk (hbox); have n2_ := Aa.mk ((by rw [hg]; exact (Ag (lU HB.out)) : w.heap.size ≤ aj)); have n3_ := Aa.mk ((by rw [hg]; exact (Ag (lU HB.out)) : w.heap.size ≤ aj)); clear HB; have HB := n0_; have ah := n1_; have bY := n2_; have ap := n3_; clear n0_ n1_ n2_ n3_; clear hb hbox hg) | ((with_reducible refine Bj (N := 4) rfl ?_); refine B0 ?hg (N := 4) ?hd (cs := #[.int .i64 0, .int .i64 0, .int .i64 0, .int .i64 0]) (t := 58) ?hr ?_; (case hd => rfl); (case hg => rfl); (case hr => first | (go_simp; done) | (go_simp; rfl)); intro ak hg w5 hbox hb; have n0_ := Aa.mk (Bc (g := aj) (o := .cells #[.int .i64 0, .int .i64 0, .int .i64 0, .int .i64 0] 58 (0, 0)) (by exact bU <| ah.out) hb); have n1_ := Aa.mk (Ak (by repeat (first | (with_reducible first | exact HB.out | apply Ad | apply Ab | apply Ac | refine Ai ?_ ap.out) | exact HB.out)) hb); have n2_ := Aa.mk (hbox); have n3_ := Aa.mk ((by rw [hg]; exact (Ag (by repeat (first | (with_reducible first | exact HB.out | apply Ad | apply Ab | apply Ac | refine Ai ?_ ap.out) | exact HB.out))) : w.heap.size ≤ ak)); have n4_ := Aa.mk ((by rw [hg]; exact (Ag (by repeat (first | (with_reducible first | exact HB.out | apply Ad | apply Ab | apply Ac | refine Ai ?_ ap.out) | exact HB.out))) : w.heap.size ≤ ak)); have n5_ := Aa.mk ((by rw [hg]; exact Nat.ne_of_lt (Cj (g := aj) (o := .cells #[.int .i64 0, .int .i64 0, .int .i64 0, .int .i64 0] 58 (0, 0)) (by exact bU <| ah.out)) : aj ≠ ak)); have n6_ := Aa.mk ((by rw [hg]; exact Nat.ne_of_gt (Cj (g := aj) (o := .cells #[.int .i64 0, .int .i64 0, .int .i64 0, .int .i64 0] 58 (0, 0)) (by exact bU <| ah.out)) : ak ≠ aj)); clear ah; clear HB; have ah := n0_; have HB := n1_; have af := n2_; have bZ := n3_; have av := n4_; have ao := n5_; have aG := n6_; clear n0_ n1_ n2_ n3_ n4_ n5_ n6_; clear hb hbox hg) | ((with_reducible refine As (f := 42) rfl ?_); refine Br (some 9) rfl rfl Try.func42 (by kernel_rfl) rfl #[.slice A0 l0.length c0] rfl (by (try simp only [List.map_toArray, List.map_cons, List.map_nil]); first | done | rfl | (simp only [List.length_drop, List.length_take]; rfl)) ?_; (with_reducible refine (Bk.calls k _ _ l0 aU _ ?side1 ?side2 A2.out).mono ?_); (case side1 => repeat (first | exact (Kd.C3 HR0.out HB.out) | (with_reducible refine Kd.Bi ?_ _) | (with_reducible refine Kd.Bh ?_ _) | (with_reducible refine Kd.Bm ?_))); (case side2 => exact HC0.out); rintro e w6 ⟨rfl, hb⟩; refine ⟨_, rfl, ?_⟩; have n0_ := Aa.mk (Bc (g := aj) (o := .cells #[.int .i64 0, .int .i64 0, .int .i64 0, .int .i64 0] 58 (0, 0)) (by exact bU <| ah.out) hb); have n1_ := Aa.mk (Bc (g := ak) (o := .cells #[.int .i64 0, .int .i64 0, .int .i64 0, .int .i64 0] 58 (0, 0)) (by exact bU <| af.out) hb); have n2_ := Aa.mk (Ak (by repeat (first | (with_reducible first | exact HB.out | apply Ad | apply Ab | apply Ac | refine Ai ?_ ap.out | refine Ai ?_ av.out) | exact HB.out)) hb); clear ah; clear af; clear HB; have ah := n0_; have af := n1_; have HB := n2_; clear n0_ n1_ n2_; (try clear hb); (try clear hb2); (try clear hk); (try clear hi)))
  go_loopg [5, 14] k (fun kq v5 v14 w' => ∃ (bC : Bool) (aa : Int) (ag : Int) (ae : Int) (ac : Int) (ab : Int), v5 = .bool bC ∧ v14 = .int .i64 aa ∧ Aa (Bu.l0 kq bC l0 (l0.length : Int) aa ag ae ac ab = some (r1, r2, r3, r4, r5)) ∧ Aa (kq ≤ k) ∧ Aa (w'.heap[aj]? = some (.cells #[.int .i64 0, .int .i64 0, .int .i64 0, .int .i64 0] 58 (0, 0))) ∧ Aa (w'.heap[ak]? = some (.cells #[.int .i64 ag, .int .i64 ae, .int .i64 ac, .int .i64 ab] 58 (0, 0))) ∧ Aa (Below w.heap.size w w'))
  case atStart => exact ⟨(false), (0), (0), (0), (0), (0), (by first | rfl | (simp; done) | (simp [*]; done)), (by first | rfl | (simp; done) | (simp [*]; done)), H', ⟨Nat.le_refl _⟩, ⟨by exact bU <| ah.out⟩, ⟨by exact bU <| af.out⟩, ⟨by repeat (first | (with_reducible first | exact HB.out | apply Ad | apply Ab | apply Ac | refine Ai ?_ ap.out | refine Ai ?_ av.out) | exact HB.out)⟩⟩
  case round =>
   clear H'
   try clear p2
   try clear c3
   try clear bW
   try clear bX
   try clear c4
   obtain ⟨bC, aa, ag, ae, ac, ab, rfl, rfl, HA, HK1, ah, af, HB⟩ := hrel
   cases gk with
   | zero => exact absurd HA.out (by simp [Bu.l0])
   | succ k1 =>
    have H := HA.out
    clear HA
    simp only [Bu.l0] at H
    by_cases c7 : aa < (l0.length : Int)
    ·rw [if_pos c7] at H
     have bw : decide (aa < (l0.length : Int)) = true := decide_eq_true c7
     clear c7
     by_cases c8 : 0 ≤ aa
     ·rw [if_pos c8] at H
      have d8 : decide (0 ≤ aa) = true := decide_eq_true c8
      clear c8
      by_cases c9 : aa < (l0.length : Int)
      ·rw [if_pos c9] at H
       have d9 : decide (aa < (l0.length : Int)) = true := decide_eq_true c9
       clear c9
       replace H := Option.bind_eq_some_iff.mp H
       obtain ⟨bP, A100, H⟩ := H
       try dsimp only at H
       have A10 := Aa.mk A100
       clear A100
       by_cases c11 : bP = true
       ·subst c11
        have H1 := H
        rw [if_pos rfl] at H1
        clear H
        have H := H1
        clear H1
        by_cases c12 : bC = true
        ·subst c12
         have H1 := H
         rw [if_pos rfl] at H1
         clear H
         have H := H1
         clear H1
         obtain ⟨bm, bq⟩ : ∃ j_ : Int, (mn ag ((rd_T58 l0 aa).f0)) = j_ := ⟨_, rfl⟩
         replace H : (Bu.l0 k1 true l0 (l0.length : Int) (wrap64 (aa + 1)) bm (mn ae ((rd_T58 l0 aa).f1)) (mx ac ((rd_T58 l0 aa).f2)) (mx ab ((rd_T58 l0 aa).f3))) = some (r1, r2, r3, r4, r5) := by first | (rw [bq] at H; exact H) | (simp only [bq] at H ⊢; exact H)
         (try rw [bq] at A10)
         have hji13_ : (if ((rd_T58 l0 aa).f0) < ag then ((rd_T58 l0 aa).f0) else ag) = bm := bq
         obtain ⟨bp, br⟩ : ∃ j_ : Int, (mn ae ((rd_T58 l0 aa).f1)) = j_ := ⟨_, rfl⟩
         replace H : (Bu.l0 k1 true l0 (l0.length : Int) (wrap64 (aa + 1)) bm bp (mx ac ((rd_T58 l0 aa).f2)) (mx ab ((rd_T58 l0 aa).f3))) = some (r1, r2, r3, r4, r5) := by first | (rw [br] at H; exact H) | (simp only [br] at H ⊢; exact H)
         (try rw [br] at A10)
         have hji14_ : (if ((rd_T58 l0 aa).f1) < ae then ((rd_T58 l0 aa).f1) else ae) = bp := br
         obtain ⟨bD, bs⟩ : ∃ j_ : Int, (mx ac ((rd_T58 l0 aa).f2)) = j_ := ⟨_, rfl⟩
         replace H : (Bu.l0 k1 true l0 (l0.length : Int) (wrap64 (aa + 1)) bm bp bD (mx ab ((rd_T58 l0 aa).f3))) = some (r1, r2, r3, r4, r5) := by first | (rw [bs] at H; exact H) | (simp only [bs] at H ⊢; exact H)
         (try rw [bs] at A10)
         have hji15_ : (if ac < ((rd_T58 l0 aa).f2) then ((rd_T58 l0 aa).f2) else ac) = bD := bs
         obtain ⟨bQ, bu⟩ : ∃ j_ : Int, (mx ab ((rd_T58 l0 aa).f3)) = j_ := ⟨_, rfl⟩
         replace H : (Bu.l0 k1 true l0 (l0.length : Int) (wrap64 (aa + 1)) bm bp bD bQ) = some (r1, r2, r3, r4, r5) := by first | (rw [bu] at H; exact H) | (simp only [bu] at H ⊢; exact H)
         (try rw [bu] at A10)
         have hji16_ : (if ab < ((rd_T58 l0 aa).f3) then ((rd_T58 l0 aa).f3) else ab) = bQ := bu
         have H' := Aa.mk H
         clear H
         have aV : 0 ≤ (aa : Int) := of_decide_eq_true (by with_reducible assumption)
         have aW : aa < (l0.length : Int) := of_decide_eq_true (by with_reducible assumption)
         obtain ⟨bJ, e252, ax, ay, az, aA⟩ := at_T58 HR0.out aa aV aW
         cases e252
         replace ax := (HB.out.cell (World.block_lt_of_cell? w _ ax)).trans ax
         replace ay := (HB.out.cell (World.block_lt_of_cell? w _ ay)).trans ay
         replace az := (HB.out.cell (World.block_lt_of_cell? w _ az)).trans az
         replace aA := (HB.out.cell (World.block_lt_of_cell? w _ aA)).trans aA
         replace aV := eq_true aV
         replace aW := eq_true aW
         go_wp2_with (first | ((with_reducible refine Bj (N := 7) rfl ?_); refine B0 ?hg (N := 7) ?hd (cs := #[.int .i64 0, .int .i64 0, .int .i64 0, .int .i64 0]) (t := 58) ?hr ?_; (case hd => rfl); (case hg => rfl); (case hr => first | (go_simp; done) | (go_simp; rfl)); intro al hg w17 hbox hb; have n0_ := Aa.mk (Bc (g := aj) (o := .cells #[.int .i64 0, .int .i64 0, .int .i64 0, .int .i64 0] 58 (0, 0)) (by exact bU <| ah.out) hb); have n1_ := Aa.mk (Bc (g := ak) (o := .cells #[.int .i64 ag, .int .i64 ae, .int .i64 ac, .int .i64 ab] 58 (0, 0)) (by exact bU <| af.out) hb); have n2_ := Aa.mk (Ak (by repeat (first | (with_reducible first | exact HB.out | apply Ad | apply Ab | apply Ac | refine Ai ?_ ap.out | refine Ai ?_ av.out) | exact HB.out)) hb); have n3_ := Aa.mk (hbox); have n4_ := Aa.mk ((by rw [hg]; exact (Ag (by repeat (first | (with_reducible first | exact HB.out | apply Ad | apply Ab | apply Ac | refine Ai ?_ ap.out | refine Ai ?_ av.out) | exact HB.out))) : w.heap.size ≤ al)); have n5_ := Aa.mk ((by rw [hg]; exact (Ag (by repeat (first | (with_reducible first | exact HB.out | apply Ad | apply Ab | apply Ac | refine Ai ?_ ap.out | refine Ai ?_ av.out) | exact HB.out))) : w.heap.size ≤ al)); have n6_ := Aa.mk ((by rw [hg]; exact Nat.ne_of_lt (Cj (g := aj) (o := .cells #[.int .i64 0, .int .i64 0, .int .i64 0, .int .i64 0] 58 (0, 0)) (by exact bU <| ah.out)) : aj ≠ al)); have n7_ := Aa.mk ((by rw [hg]; exact Nat.ne_of_gt (Cj (g := aj) (o := .cells #[.int .i64 0, .int .i64 0, .int .i64 0, .int .i64 0] 58 (0, 0)) (by exact bU <| ah.out)) : al ≠ aj)); have n8_ := Aa.mk ((by rw [hg]; exact Nat.ne_of_lt (Cj (g := ak) (o := .cells #[.int .i64 ag, .int .i64 ae, .int .i64 ac, .int .i64 ab] 58 (0, 0)) (by exact bU <| af.out)) : ak ≠ al)); have n9_ := Aa.mk ((by rw [hg]; exact Nat.ne_of_gt (Cj (g := ak) (o := .cells #[.int .i64 ag, .int .i64 ae, .int .i64 ac, .int .i64 ab] 58 (0, 0)) (by exact bU <| af.out)) : al ≠ ak)); clear ah; clear af; clear HB; have ah := n0_; have af := n1_; have HB := n2_; have ai := n3_; have bK := n4_; have aT := n5_; have am := n6_; have aH := n7_; have an := n8_; have aI := n9_; clear n0_ n1_ n2_ n3_ n4_ n5_ n6_ n7_ n8_ n9_; clear hb hbox hg; have eq := aH.out; have er := am.out; have es := aI.out; have et := an.out; have ch : w17.cell? ⟨al, 0, none⟩ = some (.int .i64 0) := (Aj ai.out 0).trans rfl; have ci : w17.cell? ⟨al, 1, none⟩ = some (.int .i64 0) := (Aj ai.out 1).trans rfl; have cj : w17.cell? ⟨al, 2, none⟩ = some (.int .i64 0) := (Aj ai.out 2).trans rfl; have cl : w17.cell? ⟨al, 3, none⟩ = some (.int .i64 0) := (Aj ai.out 3).trans rfl; have cn := Af ai.out 0; have co := Af ai.out 1; have cp := Af ai.out 2; have cq := Af ai.out 3) | ((with_reducible refine As (f := 62) rfl ?_); refine Br (some 41) rfl rfl Try.func62 (by kernel_rfl) rfl #[.agg #[.int .i64 ((rd_T58 l0 aa).f0), .int .i64 ((rd_T58 l0 aa).f1), .int .i64 ((rd_T58 l0 aa).f2), .int .i64 ((rd_T58 l0 aa).f3)]] rfl (by (try simp only [List.map_toArray, List.map_cons, List.map_nil]); first | done | rfl | (simp only [List.length_drop, List.length_take]; rfl)) ?_; (with_reducible refine (B4.calls ((rd_T58 l0 aa).f0) ((rd_T58 l0 aa).f1) ((rd_T58 l0 aa).f2) ((rd_T58 l0 aa).f3) true _ A10.out).mono ?_); rintro e w21 ⟨rfl, hb⟩; refine ⟨_, rfl, ?_⟩; have n0_ := Aa.mk (Bc (g := aj) (o := .cells #[.int .i64 0, .int .i64 0, .int .i64 0, .int .i64 0] 58 (0, 0)) (by (with_reducible repeat (first | refine Am ?_ _ | refine Ar ?_ | refine An ?_ _)); refine Ca ?_ am.out _; (with_reducible repeat (first | refine Am ?_ _ | refine Ar ?_ | refine An ?_ _)); refine Ca ?_ am.out _; (with_reducible repeat (first | refine Am ?_ _ | refine Ar ?_ | refine An ?_ _)); refine Ca ?_ am.out _; (with_reducible repeat (first | refine Am ?_ _ | refine Ar ?_ | refine An ?_ _)); refine Ca ?_ am.out _; exact bU <| ah.out) hb); have n1_ := Aa.mk (Bc (g := ak) (o := .cells #[.int .i64 ag, .int .i64 ae, .int .i64 ac, .int .i64 ab] 58 (0, 0)) (by (with_reducible repeat (first | refine Am ?_ _ | refine Ar ?_ | refine An ?_ _)); refine Ca ?_ an.out _; (with_reducible repeat (first | refine Am ?_ _ | refine Ar ?_ | refine An ?_ _)); refine Ca ?_ an.out _; (with_reducible repeat (first | refine Am ?_ _ | refine Ar ?_ | refine An ?_ _)); refine Ca ?_ an.out _; (with_reducible repeat (first | refine Am ?_ _ | refine Ar ?_ | refine An ?_ _)); refine Ca ?_ an.out _; exact bU <| af.out) hb); have n2_ := Aa.mk (Bc (g := al) (o := .cells #[.int .i64 ((rd_T58 l0 aa).f0), .int .i64 ((rd_T58 l0 aa).f1), .int .i64 ((rd_T58 l0 aa).f2), .int .i64 ((rd_T58 l0 aa).f3)] 58 (0, 0)) (by (with_reducible repeat (first | refine Am ?_ _ | refine Ar ?_ | refine An ?_ _)); refine Bb (cs := #[.int .i64 ((rd_T58 l0 aa).f0), .int .i64 ((rd_T58 l0 aa).f1), .int .i64 ((rd_T58 l0 aa).f2), .int .i64 0]) ?_ 3 _ rfl; (with_reducible repeat (first | refine Am ?_ _ | refine Ar ?_ | refine An ?_ _)); refine Bb (cs := #[.int .i64 ((rd_T58 l0 aa).f0), .int .i64 ((rd_T58 l0 aa).f1), .int .i64 0, .int .i64 0]) ?_ 2 _ rfl; (with_reducible repeat (first | refine Am ?_ _ | refine Ar ?_ | refine An ?_ _)); refine Bb (cs := #[.int .i64 ((rd_T58 l0 aa).f0), .int .i64 0, .int .i64 0, .int .i64 0]) ?_ 1 _ rfl; (with_reducible repeat (first | refine Am ?_ _ | refine Ar ?_ | refine An ?_ _)); refine Bb (cs := #[.int .i64 0, .int .i64 0, .int .i64 0, .int .i64 0]) ?_ 0 _ rfl; exact bU <| ai.out) hb); have n3_ := Aa.mk (Ak (by repeat (first | (with_reducible first | exact HB.out | apply Ad | apply Ab | apply Ac | refine Ai ?_ ap.out | refine Ai ?_ av.out | refine Ai ?_ aT.out) | exact HB.out)) hb); clear ah; clear af; clear ai; clear HB; have ah := n0_; have af := n1_; have ai := n2_; have HB := n3_; clear n0_ n1_ n2_ n3_; (try clear hb); (try clear hb2); (try clear hk); (try clear hi); have eu := aG.out; have ew := ao.out; have ct : w21.cell? ⟨ak, 0, none⟩ = some (.int .i64 ag) := (Aj af.out 0).trans rfl; have cu : w21.cell? ⟨ak, 1, none⟩ = some (.int .i64 ae) := (Aj af.out 1).trans rfl; have cv : w21.cell? ⟨ak, 2, none⟩ = some (.int .i64 ac) := (Aj af.out 2).trans rfl; have cw : w21.cell? ⟨ak, 3, none⟩ = some (.int .i64 ab) := (Aj af.out 3).trans rfl; have cx := Af af.out 0; have cy := Af af.out 1; have cz := Af af.out 2; have cA := Af af.out 3; have cB : w21.cell? ⟨al, 0, none⟩ = some (.int .i64 ((rd_T58 l0 aa).f0)) := (Aj ai.out 0).trans rfl; have cC : w21.cell? ⟨al, 1, none⟩ = some (.int .i64 ((rd_T58 l0 aa).f1)) := (Aj ai.out 1).trans rfl; have cD : w21.cell? ⟨al, 2, none⟩ = some (.int .i64 ((rd_T58 l0 aa).f2)) := (Aj ai.out 2).trans rfl; have cE : w21.cell? ⟨al, 3, none⟩ = some (.int .i64 ((rd_T58 l0 aa).f3)) := (Aj ai.out 3).trans rfl; have cF := Af ai.out 0; have cG := Af ai.out 1; have cH := Af ai.out 2; have cI := Af ai.out 3))
         go_roundg k1
         case measure => have := HK1.out; omega
         case rel => exact ⟨(true), (wrap64 (aa + 1)), (bm), (bp), (bD), (bQ), (by first | rfl | (simp; done) | (simp [*]; done)), (by first | rfl | (simp; done) | (simp [*]; done)), H', ⟨by have := HK1.out; omega⟩, ⟨by (with_reducible repeat (first | refine Am ?_ _ | refine Ar ?_ | refine An ?_ _)); refine Ca ?_ ao.out _; (with_reducible repeat (first | refine Am ?_ _ | refine Ar ?_ | refine An ?_ _)); refine Ca ?_ ao.out _; (with_reducible repeat (first | refine Am ?_ _ | refine Ar ?_ | refine An ?_ _)); refine Ca ?_ ao.out _; (with_reducible repeat (first | refine Am ?_ _ | refine Ar ?_ | refine An ?_ _)); refine Ca ?_ ao.out _; exact bU <| ah.out⟩, ⟨by (with_reducible repeat (first | refine Am ?_ _ | refine Ar ?_ | refine An ?_ _)); refine Bb (cs := #[.int .i64 bm, .int .i64 bp, .int .i64 bD, .int .i64 ab]) ?_ 3 _ rfl; (with_reducible repeat (first | refine Am ?_ _ | refine Ar ?_ | refine An ?_ _)); refine Bb (cs := #[.int .i64 bm, .int .i64 bp, .int .i64 ac, .int .i64 ab]) ?_ 2 _ rfl; (with_reducible repeat (first | refine Am ?_ _ | refine Ar ?_ | refine An ?_ _)); refine Bb (cs := #[.int .i64 bm, .int .i64 ae, .int .i64 ac, .int .i64 ab]) ?_ 1 _ rfl; (with_reducible repeat (first | refine Am ?_ _ | refine Ar ?_ | refine An ?_ _)); refine Bb (cs := #[.int .i64 ag, .int .i64 ae, .int .i64 ac, .int .i64 ab]) ?_ 0 _ rfl; exact bU <| af.out⟩, ⟨by repeat (first | (with_reducible first | exact HB.out | apply Ad | apply Ab | apply Ac | refine Ai ?_ ap.out | refine Ai ?_ av.out | refine Ai ?_ aT.out) | exact HB.out)⟩⟩
        ·replace c12 := Bool.eq_false_iff.mpr c12
         subst c12
         have H1 := H
         rw [if_neg (show ¬ (false = true) by decide)] at H1
         clear H
         have H := H1
         clear H1
         have H' := Aa.mk H
         clear H
         have aV : 0 ≤ (aa : Int) := of_decide_eq_true (by with_reducible assumption)
         have aW : aa < (l0.length : Int) := of_decide_eq_true (by with_reducible assumption)
         obtain ⟨bJ, e252, ax, ay, az, aA⟩ := at_T58 HR0.out aa aV aW
         cases e252
         replace ax := (HB.out.cell (World.block_lt_of_cell? w _ ax)).trans ax
         replace ay := (HB.out.cell (World.block_lt_of_cell? w _ ay)).trans ay
         replace az := (HB.out.cell (World.block_lt_of_cell? w _ az)).trans az
         replace aA := (HB.out.cell (World.block_lt_of_cell? w _ aA)).trans aA
         replace aV := eq_true aV
         replace aW := eq_true aW
         go_wp2_with (first | ((with_reducible refine Bj (N := 7) rfl ?_); refine B0 ?hg (N := 7) ?hd (cs := #[.int .i64 0, .int .i64 0, .int .i64 0, .int .i64 0]) (t := 58) ?hr ?_; (case hd => rfl); (case hg => rfl); (case hr => first | (go_simp; done) | (go_simp; rfl)); intro al hg w25 hbox hb; have n0_ := Aa.mk (Bc (g := aj) (o := .cells #[.int .i64 0, .int .i64 0, .int .i64 0, .int .i64 0] 58 (0, 0)) (by exact bU <| ah.out) hb); have n1_ := Aa.mk (Bc (g := ak) (o := .cells #[.int .i64 ag, .int .i64 ae, .int .i64 ac, .int .i64 ab] 58 (0, 0)) (by exact bU <| af.out) hb); have n2_ := Aa.mk (Ak (by repeat (first | (with_reducible first | exact HB.out | apply Ad | apply Ab | apply Ac | refine Ai ?_ ap.out | refine Ai ?_ av.out) | exact HB.out)) hb); have n3_ := Aa.mk (hbox); have n4_ := Aa.mk ((by rw [hg]; exact (Ag (by repeat (first | (with_reducible first | exact HB.out | apply Ad | apply Ab | apply Ac | refine Ai ?_ ap.out | refine Ai ?_ av.out) | exact HB.out))) : w.heap.size ≤ al)); have n5_ := Aa.mk ((by rw [hg]; exact (Ag (by repeat (first | (with_reducible first | exact HB.out | apply Ad | apply Ab | apply Ac | refine Ai ?_ ap.out | refine Ai ?_ av.out) | exact HB.out))) : w.heap.size ≤ al)); have n6_ := Aa.mk ((by rw [hg]; exact Nat.ne_of_lt (Cj (g := aj) (o := .cells #[.int .i64 0, .int .i64 0, .int .i64 0, .int .i64 0] 58 (0, 0)) (by exact bU <| ah.out)) : aj ≠ al)); have n7_ := Aa.mk ((by rw [hg]; exact Nat.ne_of_gt (Cj (g := aj) (o := .cells #[.int .i64 0, .int .i64 0, .int .i64 0, .int .i64 0] 58 (0, 0)) (by exact bU <| ah.out)) : al ≠ aj)); have n8_ := Aa.mk ((by rw [hg]; exact Nat.ne_of_lt (Cj (g := ak) (o := .cells #[.int .i64 ag, .int .i64 ae, .int .i64 ac, .int .i64 ab] 58 (0, 0)) (by exact bU <| af.out)) : ak ≠ al)); have n9_ := Aa.mk ((by rw [hg]; exact Nat.ne_of_gt (Cj (g := ak) (o := .cells #[.int .i64 ag, .int .i64 ae, .int .i64 ac, .int .i64 ab] 58 (0, 0)) (by exact bU <| af.out)) : al ≠ ak)); clear ah; clear af; clear HB; have ah := n0_; have af := n1_; have HB := n2_; have ai := n3_; have bK := n4_; have aT := n5_; have am := n6_; have aH := n7_; have an := n8_; have aI := n9_; clear n0_ n1_ n2_ n3_ n4_ n5_ n6_ n7_ n8_ n9_; clear hb hbox hg; have ex := aH.out; have ey := am.out; have ez := aI.out; have eA := an.out; have cJ : w25.cell? ⟨al, 0, none⟩ = some (.int .i64 0) := (Aj ai.out 0).trans rfl; have cK : w25.cell? ⟨al, 1, none⟩ = some (.int .i64 0) := (Aj ai.out 1).trans rfl; have cL : w25.cell? ⟨al, 2, none⟩ = some (.int .i64 0) := (Aj ai.out 2).trans rfl; have cM : w25.cell? ⟨al, 3, none⟩ = some (.int .i64 0) := (Aj ai.out 3).trans rfl; have cN := Af ai.out 0; have cO := Af ai.out 1; have cP := Af ai.out 2; have cQ := Af ai.out 3) | ((with_reducible refine As (f := 62) rfl ?_); refine Br (some 41) rfl rfl Try.func62 (by kernel_rfl) rfl #[.agg #[.int .i64 ((rd_T58 l0 aa).f0), .int .i64 ((rd_T58 l0 aa).f1), .int .i64 ((rd_T58 l0 aa).f2), .int .i64 ((rd_T58 l0 aa).f3)]] rfl (by (try simp only [List.map_toArray, List.map_cons, List.map_nil]); first | done | rfl | (simp only [List.length_drop, List.length_take]; rfl)) ?_; (with_reducible refine (B4.calls ((rd_T58 l0 aa).f0) ((rd_T58 l0 aa).f1) ((rd_T58 l0 aa).f2) ((rd_T58 l0 aa).f3) true _ A10.out).mono ?_); rintro e w29 ⟨rfl, hb⟩; refine ⟨_, rfl, ?_⟩; have n0_ := Aa.mk (Bc (g := aj) (o := .cells #[.int .i64 0, .int .i64 0, .int .i64 0, .int .i64 0] 58 (0, 0)) (by (with_reducible repeat (first | refine Am ?_ _ | refine Ar ?_ | refine An ?_ _)); refine Ca ?_ am.out _; (with_reducible repeat (first | refine Am ?_ _ | refine Ar ?_ | refine An ?_ _)); refine Ca ?_ am.out _; (with_reducible repeat (first | refine Am ?_ _ | refine Ar ?_ | refine An ?_ _)); refine Ca ?_ am.out _; (with_reducible repeat (first | refine Am ?_ _ | refine Ar ?_ | refine An ?_ _)); refine Ca ?_ am.out _; exact bU <| ah.out) hb); have n1_ := Aa.mk (Bc (g := ak) (o := .cells #[.int .i64 ag, .int .i64 ae, .int .i64 ac, .int .i64 ab] 58 (0, 0)) (by (with_reducible repeat (first | refine Am ?_ _ | refine Ar ?_ | refine An ?_ _)); refine Ca ?_ an.out _; (with_reducible repeat (first | refine Am ?_ _ | refine Ar ?_ | refine An ?_ _)); refine Ca ?_ an.out _; (with_reducible repeat (first | refine Am ?_ _ | refine Ar ?_ | refine An ?_ _)); refine Ca ?_ an.out _; (with_reducible repeat (first | refine Am ?_ _ | refine Ar ?_ | refine An ?_ _)); refine Ca ?_ an.out _; exact bU <| af.out) hb); have n2_ := Aa.mk (Bc (g := al) (o := .cells #[.int .i64 ((rd_T58 l0 aa).f0), .int .i64 ((rd_T58 l0 aa).f1), .int .i64 ((rd_T58 l0 aa).f2), .int .i64 ((rd_T58 l0 aa).f3)] 58 (0, 0)) (by (with_reducible repeat (first | refine Am ?_ _ | refine Ar ?_ | refine An ?_ _)); refine Bb (cs := #[.int .i64 ((rd_T58 l0 aa).f0), .int .i64 ((rd_T58 l0 aa).f1), .int .i64 ((rd_T58 l0 aa).f2), .int .i64 0]) ?_ 3 _ rfl; (with_reducible repeat (first | refine Am ?_ _ | refine Ar ?_ | refine An ?_ _)); refine Bb (cs := #[.int .i64 ((rd_T58 l0 aa).f0), .int .i64 ((rd_T58 l0 aa).f1), .int .i64 0, .int .i64 0]) ?_ 2 _ rfl; (with_reducible repeat (first | refine Am ?_ _ | refine Ar ?_ | refine An ?_ _)); refine Bb (cs := #[.int .i64 ((rd_T58 l0 aa).f0), .int .i64 0, .int .i64 0, .int .i64 0]) ?_ 1 _ rfl; (with_reducible repeat (first | refine Am ?_ _ | refine Ar ?_ | refine An ?_ _)); refine Bb (cs := #[.int .i64 0, .int .i64 0, .int .i64 0, .int .i64 0]) ?_ 0 _ rfl; exact bU <| ai.out) hb); have n3_ := Aa.mk (Ak (by repeat (first | (with_reducible first | exact HB.out | apply Ad | apply Ab | apply Ac | refine Ai ?_ ap.out | refine Ai ?_ av.out | refine Ai ?_ aT.out) | exact HB.out)) hb); clear ah; clear af; clear ai; clear HB; have ah := n0_; have af := n1_; have ai := n2_; have HB := n3_; clear n0_ n1_ n2_ n3_; (try clear hb); (try clear hb2); (try clear hk); (try clear hi); have cR : w29.cell? ⟨al, 0, none⟩ = some (.int .i64 ((rd_T58 l0 aa).f0)) := (Aj ai.out 0).trans rfl; have cS : w29.cell? ⟨al, 1, none⟩ = some (.int .i64 ((rd_T58 l0 aa).f1)) := (Aj ai.out 1).trans rfl; have cT : w29.cell? ⟨al, 2, none⟩ = some (.int .i64 ((rd_T58 l0 aa).f2)) := (Aj ai.out 2).trans rfl; have cU : w29.cell? ⟨al, 3, none⟩ = some (.int .i64 ((rd_T58 l0 aa).f3)) := (Aj ai.out 3).trans rfl; have cV := Af ai.out 0; have cW := Af ai.out 1; have cX := Af ai.out 2; have cY := Af ai.out 3; have eB := aG.out; have eC := ao.out; have cZ : w29.cell? ⟨ak, 0, none⟩ = some (.int .i64 ag) := (Aj af.out 0).trans rfl; have da : w29.cell? ⟨ak, 1, none⟩ = some (.int .i64 ae) := (Aj af.out 1).trans rfl; have dc : w29.cell? ⟨ak, 2, none⟩ = some (.int .i64 ac) := (Aj af.out 2).trans rfl; have dd : w29.cell? ⟨ak, 3, none⟩ = some (.int .i64 ab) := (Aj af.out 3).trans rfl; have de := Af af.out 0; have df := Af af.out 1; have dg := Af af.out 2; have dh := Af af.out 3))
         go_roundg k1
         case measure => have := HK1.out; omega
         case rel => exact ⟨(true), (wrap64 (aa + 1)), ((rd_T58 l0 aa).f0), ((rd_T58 l0 aa).f1), ((rd_T58 l0 aa).f2), ((rd_T58 l0 aa).f3), (by first | rfl | (simp; done) | (simp [*]; done)), (by first | rfl | (simp; done) | (simp [*]; done)), H', ⟨by have := HK1.out; omega⟩, ⟨by (with_reducible repeat (first | refine Am ?_ _ | refine Ar ?_ | refine An ?_ _)); refine Ca ?_ ao.out _; (with_reducible repeat (first | refine Am ?_ _ | refine Ar ?_ | refine An ?_ _)); refine Ca ?_ ao.out _; (with_reducible repeat (first | refine Am ?_ _ | refine Ar ?_ | refine An ?_ _)); refine Ca ?_ ao.out _; (with_reducible repeat (first | refine Am ?_ _ | refine Ar ?_ | refine An ?_ _)); refine Ca ?_ ao.out _; exact bU <| ah.out⟩, ⟨by (with_reducible repeat (first | refine Am ?_ _ | refine Ar ?_ | refine An ?_ _)); refine Bb (cs := #[.int .i64 ((rd_T58 l0 aa).f0), .int .i64 ((rd_T58 l0 aa).f1), .int .i64 ((rd_T58 l0 aa).f2), .int .i64 ab]) ?_ 3 _ rfl; (with_reducible repeat (first | refine Am ?_ _ | refine Ar ?_ | refine An ?_ _)); refine Bb (cs := #[.int .i64 ((rd_T58 l0 aa).f0), .int .i64 ((rd_T58 l0 aa).f1), .int .i64 ac, .int .i64 ab]) ?_ 2 _ rfl; (with_reducible repeat (first | refine Am ?_ _ | refine Ar ?_ | refine An ?_ _)); refine Bb (cs := #[.int .i64 ((rd_T58 l0 aa).f0), .int .i64 ae, .int .i64 ac, .int .i64 ab]) ?_ 1 _ rfl; (with_reducible repeat (first | refine Am ?_ _ | refine Ar ?_ | refine An ?_ _)); refine Bb (cs := #[.int .i64 ag, .int .i64 ae, .int .i64 ac, .int .i64 ab]) ?_ 0 _ rfl; exact bU <| af.out⟩, ⟨by repeat (first | (with_reducible first | exact HB.out | apply Ad | apply Ab | apply Ac | refine Ai ?_ ap.out | refine Ai ?_ av.out | refine Ai ?_ aT.out) | exact HB.out)⟩⟩
       ·replace c11 := Bool.eq_false_iff.mpr c11
        subst c11
        have H1 := H
        rw [if_neg (show ¬ (false = true) by decide)] at H1
        clear H
        have H := H1
        clear H1
        have H' := Aa.mk H
        clear H
        have aV : 0 ≤ (aa : Int) := of_decide_eq_true (by with_reducible assumption)
        have aW : aa < (l0.length : Int) := of_decide_eq_true (by with_reducible assumption)
        obtain ⟨bJ, e252, ax, ay, az, aA⟩ := at_T58 HR0.out aa aV aW
        cases e252
        replace ax := (HB.out.cell (World.block_lt_of_cell? w _ ax)).trans ax
        replace ay := (HB.out.cell (World.block_lt_of_cell? w _ ay)).trans ay
        replace az := (HB.out.cell (World.block_lt_of_cell? w _ az)).trans az
        replace aA := (HB.out.cell (World.block_lt_of_cell? w _ aA)).trans aA
        replace aV := eq_true aV
        replace aW := eq_true aW
        go_wp2_with (first | ((with_reducible refine Bj (N := 7) rfl ?_); refine B0 ?hg (N := 7) ?hd (cs := #[.int .i64 0, .int .i64 0, .int .i64 0, .int .i64 0]) (t := 58) ?hr ?_; (case hd => rfl); (case hg => rfl); (case hr => first | (go_simp; done) | (go_simp; rfl)); intro al hg w33 hbox hb; have n0_ := Aa.mk (Bc (g := aj) (o := .cells #[.int .i64 0, .int .i64 0, .int .i64 0, .int .i64 0] 58 (0, 0)) (by exact bU <| ah.out) hb); have n1_ := Aa.mk (Bc (g := ak) (o := .cells #[.int .i64 ag, .int .i64 ae, .int .i64 ac, .int .i64 ab] 58 (0, 0)) (by exact bU <| af.out) hb); have n2_ := Aa.mk (Ak (by repeat (first | (with_reducible first | exact HB.out | apply Ad | apply Ab | apply Ac | refine Ai ?_ ap.out | refine Ai ?_ av.out) | exact HB.out)) hb); have n3_ := Aa.mk (hbox); have n4_ := Aa.mk ((by rw [hg]; exact (Ag (by repeat (first | (with_reducible first | exact HB.out | apply Ad | apply Ab | apply Ac | refine Ai ?_ ap.out | refine Ai ?_ av.out) | exact HB.out))) : w.heap.size ≤ al)); have n5_ := Aa.mk ((by rw [hg]; exact (Ag (by repeat (first | (with_reducible first | exact HB.out | apply Ad | apply Ab | apply Ac | refine Ai ?_ ap.out | refine Ai ?_ av.out) | exact HB.out))) : w.heap.size ≤ al)); have n6_ := Aa.mk ((by rw [hg]; exact Nat.ne_of_lt (Cj (g := aj) (o := .cells #[.int .i64 0, .int .i64 0, .int .i64 0, .int .i64 0] 58 (0, 0)) (by exact bU <| ah.out)) : aj ≠ al)); have n7_ := Aa.mk ((by rw [hg]; exact Nat.ne_of_gt (Cj (g := aj) (o := .cells #[.int .i64 0, .int .i64 0, .int .i64 0, .int .i64 0] 58 (0, 0)) (by exact bU <| ah.out)) : al ≠ aj)); have n8_ := Aa.mk ((by rw [hg]; exact Nat.ne_of_lt (Cj (g := ak) (o := .cells #[.int .i64 ag, .int .i64 ae, .int .i64 ac, .int .i64 ab] 58 (0, 0)) (by exact bU <| af.out)) : ak ≠ al)); have n9_ := Aa.mk ((by rw [hg]; exact Nat.ne_of_gt (Cj (g := ak) (o := .cells #[.int .i64 ag, .int .i64 ae, .int .i64 ac, .int .i64 ab] 58 (0, 0)) (by exact bU <| af.out)) : al ≠ ak)); clear ah; clear af; clear HB; have ah := n0_; have af := n1_; have HB := n2_; have ai := n3_; have bK := n4_; have aT := n5_; have am := n6_; have aH := n7_; have an := n8_; have aI := n9_; clear n0_ n1_ n2_ n3_ n4_ n5_ n6_ n7_ n8_ n9_; clear hb hbox hg; have eD := aH.out; have eE := am.out; have eF := aI.out; have eG := an.out; have di : w33.cell? ⟨al, 0, none⟩ = some (.int .i64 0) := (Aj ai.out 0).trans rfl; have dj : w33.cell? ⟨al, 1, none⟩ = some (.int .i64 0) := (Aj ai.out 1).trans rfl; have dk : w33.cell? ⟨al, 2, none⟩ = some (.int .i64 0) := (Aj ai.out 2).trans rfl; have dl : w33.cell? ⟨al, 3, none⟩ = some (.int .i64 0) := (Aj ai.out 3).trans rfl; have dm := Af ai.out 0; have dn := Af ai.out 1; have dp := Af ai.out 2; have dq := Af ai.out 3) | ((with_reducible refine As (f := 62) rfl ?_); refine Br (some 41) rfl rfl Try.func62 (by kernel_rfl) rfl #[.agg #[.int .i64 ((rd_T58 l0 aa).f0), .int .i64 ((rd_T58 l0 aa).f1), .int .i64 ((rd_T58 l0 aa).f2), .int .i64 ((rd_T58 l0 aa).f3)]] rfl (by (try simp only [List.map_toArray, List.map_cons, List.map_nil]); first | done | rfl | (simp only [List.length_drop, List.length_take]; rfl)) ?_; (with_reducible refine (B4.calls ((rd_T58 l0 aa).f0) ((rd_T58 l0 aa).f1) ((rd_T58 l0 aa).f2) ((rd_T58 l0 aa).f3) false _ A10.out).mono ?_); rintro e w37 ⟨rfl, hb⟩; refine ⟨_, rfl, ?_⟩; have n0_ := Aa.mk (Bc (g := aj) (o := .cells #[.int .i64 0, .int .i64 0, .int .i64 0, .int .i64 0] 58 (0, 0)) (by (with_reducible repeat (first | refine Am ?_ _ | refine Ar ?_ | refine An ?_ _)); refine Ca ?_ am.out _; (with_reducible repeat (first | refine Am ?_ _ | refine Ar ?_ | refine An ?_ _)); refine Ca ?_ am.out _; (with_reducible repeat (first | refine Am ?_ _ | refine Ar ?_ | refine An ?_ _)); refine Ca ?_ am.out _; (with_reducible repeat (first | refine Am ?_ _ | refine Ar ?_ | refine An ?_ _)); refine Ca ?_ am.out _; exact bU <| ah.out) hb); have n1_ := Aa.mk (Bc (g := ak) (o := .cells #[.int .i64 ag, .int .i64 ae, .int .i64 ac, .int .i64 ab] 58 (0, 0)) (by (with_reducible repeat (first | refine Am ?_ _ | refine Ar ?_ | refine An ?_ _)); refine Ca ?_ an.out _; (with_reducible repeat (first | refine Am ?_ _ | refine Ar ?_ | refine An ?_ _)); refine Ca ?_ an.out _; (with_reducible repeat (first | refine Am ?_ _ | refine Ar ?_ | refine An ?_ _)); refine Ca ?_ an.out _; (with_reducible repeat (first | refine Am ?_ _ | refine Ar ?_ | refine An ?_ _)); refine Ca ?_ an.out _; exact bU <| af.out) hb); have n2_ := Aa.mk (Bc (g := al) (o := .cells #[.int .i64 ((rd_T58 l0 aa).f0), .int .i64 ((rd_T58 l0 aa).f1), .int .i64 ((rd_T58 l0 aa).f2), .int .i64 ((rd_T58 l0 aa).f3)] 58 (0, 0)) (by (with_reducible repeat (first | refine Am ?_ _ | refine Ar ?_ | refine An ?_ _)); refine Bb (cs := #[.int .i64 ((rd_T58 l0 aa).f0), .int .i64 ((rd_T58 l0 aa).f1), .int .i64 ((rd_T58 l0 aa).f2), .int .i64 0]) ?_ 3 _ rfl; (with_reducible repeat (first | refine Am ?_ _ | refine Ar ?_ | refine An ?_ _)); refine Bb (cs := #[.int .i64 ((rd_T58 l0 aa).f0), .int .i64 ((rd_T58 l0 aa).f1), .int .i64 0, .int .i64 0]) ?_ 2 _ rfl; (with_reducible repeat (first | refine Am ?_ _ | refine Ar ?_ | refine An ?_ _)); refine Bb (cs := #[.int .i64 ((rd_T58 l0 aa).f0), .int .i64 0, .int .i64 0, .int .i64 0]) ?_ 1 _ rfl; (with_reducible repeat (first | refine Am ?_ _ | refine Ar ?_ | refine An ?_ _)); refine Bb (cs := #[.int .i64 0, .int .i64 0, .int .i64 0, .int .i64 0]) ?_ 0 _ rfl; exact bU <| ai.out) hb); have n3_ := Aa.mk (Ak (by repeat (first | (with_reducible first | exact HB.out | apply Ad | apply Ab | apply Ac | refine Ai ?_ ap.out | refine Ai ?_ av.out | refine Ai ?_ aT.out) | exact HB.out)) hb); clear ah; clear af; clear ai; clear HB; have ah := n0_; have af := n1_; have ai := n2_; have HB := n3_; clear n0_ n1_ n2_ n3_; (try clear hb); (try clear hb2); (try clear hk); (try clear hi)))
        go_roundg k1
        case measure => have := HK1.out; omega
        case rel => exact ⟨(bC), (wrap64 (aa + 1)), (ag), (ae), (ac), (ab), (by first | rfl | (simp; done) | (simp [*]; done)), (by first | rfl | (simp; done) | (simp [*]; done)), H', ⟨by have := HK1.out; omega⟩, ⟨by exact bU <| ah.out⟩, ⟨by exact bU <| af.out⟩, ⟨by repeat (first | (with_reducible first | exact HB.out | apply Ad | apply Ab | apply Ac | refine Ai ?_ ap.out | refine Ai ?_ av.out | refine Ai ?_ aT.out) | exact HB.out)⟩⟩
      ·rw [if_neg c9] at H
       exact absurd H (by simp)
     ·rw [if_neg c8] at H
      exact absurd H (by simp)
    ·rw [if_neg c7] at H
     have bw : decide (aa < (l0.length : Int)) = false := decide_eq_false c7
     clear c7
     simp only [Option.some.injEq, Prod.mk.injEq] at H
     obtain ⟨rfl, rfl, rfl, rfl, rfl⟩ := H
     have eH := aG.out
     have eI := ao.out
     have dr : wr.cell? ⟨ak, 0, none⟩ = some (.int .i64 ag) := (Aj af.out 0).trans rfl
     have dt : wr.cell? ⟨ak, 1, none⟩ = some (.int .i64 ae) := (Aj af.out 1).trans rfl
     have du : wr.cell? ⟨ak, 2, none⟩ = some (.int .i64 ac) := (Aj af.out 2).trans rfl
     have dv : wr.cell? ⟨ak, 3, none⟩ = some (.int .i64 ab) := (Aj af.out 3).trans rfl
     have dw := Af af.out 0
     have dz := Af af.out 1
     have dA := Af af.out 2
     have dB := Af af.out 3
     have dC : wr.cell? ⟨aj, 0, none⟩ = some (.int .i64 0) := (Aj ah.out 0).trans rfl
     have dD : wr.cell? ⟨aj, 1, none⟩ = some (.int .i64 0) := (Aj ah.out 1).trans rfl
     have dE : wr.cell? ⟨aj, 2, none⟩ = some (.int .i64 0) := (Aj ah.out 2).trans rfl
     have dF : wr.cell? ⟨aj, 3, none⟩ = some (.int .i64 0) := (Aj ah.out 3).trans rfl
     have dG := Af ah.out 0
     have dH := Af ah.out 1
     have dI := Af ah.out 2
     have dJ := Af ah.out 3
     go_wp2
     refine bodyPost_ret (results_ct rfl _ _ aj 58 #[.int .i64 ag, .int .i64 ae, .int .i64 ac, .int .i64 ab] (0, 0) _ rfl (by (with_reducible repeat (first | refine Am ?_ _ | refine Ar ?_ | refine An ?_ _)); refine Bb (cs := #[.int .i64 ag, .int .i64 ae, .int .i64 ac, .int .i64 0]) ?_ 3 _ rfl; (with_reducible repeat (first | refine Am ?_ _ | refine Ar ?_ | refine An ?_ _)); refine Bb (cs := #[.int .i64 ag, .int .i64 ae, .int .i64 0, .int .i64 0]) ?_ 2 _ rfl; (with_reducible repeat (first | refine Am ?_ _ | refine Ar ?_ | refine An ?_ _)); refine Bb (cs := #[.int .i64 ag, .int .i64 0, .int .i64 0, .int .i64 0]) ?_ 1 _ rfl; (with_reducible repeat (first | refine Am ?_ _ | refine Ar ?_ | refine An ?_ _)); refine Bb (cs := #[.int .i64 0, .int .i64 0, .int .i64 0, .int .i64 0]) ?_ 0 _ rfl; exact bU <| ah.out) Try.underlying58 rfl (by kernel_rfl)) rfl ?_
     exact ⟨by first | rfl | (simp [Ax, Aw] <;> rfl) | (simp [*, Ax, Aw] <;> rfl), by repeat (first | (with_reducible first | exact HB.out | apply Ad | apply Ab | apply Ac | refine Ai ?_ ap.out | refine Ai ?_ av.out) | exact HB.out)⟩
 ·rw [if_neg c3] at H
  have bW : (aU == 0) = false := beq_eq_false_iff_ne.mpr c3
  have bX : (aU != 0) = true := bne_iff_ne.mpr c3
  simp only [Option.some.injEq, Prod.mk.injEq] at H
  obtain ⟨rfl, rfl, rfl, rfl, rfl⟩ := H
  go_enter Try.func36, Try.ntmps36
  go_wp2_with (first | ((with_reducible refine Bj (N := 2) rfl ?_); refine B0 ?hg (N := 2) ?hd (cs := #[.int .i64 0, .int .i64 0, .int .i64 0, .int .i64 0]) (t := 58) ?hr ?_; (case hd => rfl); (case hg => rfl); (case hr => first | (go_simp; done) | (go_simp; rfl)); intro aj hg w41 hbox hb; have n0_ := Aa.mk (Ak (lU HB.out) hb); have n1_ := Aa.mk (hbox); have n2_ := Aa.mk ((by rw [hg]; exact (Ag (lU HB.out)) : w.heap.size ≤ aj)); have n3_ := Aa.mk ((by rw [hg]; exact (Ag (lU HB.out)) : w.heap.size ≤ aj)); clear HB; have HB := n0_; have ah := n1_; have bY := n2_; have ap := n3_; clear n0_ n1_ n2_ n3_; clear hb hbox hg) | ((with_reducible refine Bj (N := 4) rfl ?_); refine B0 ?hg (N := 4) ?hd (cs := #[.int .i64 0, .int .i64 0, .int .i64 0, .int .i64 0]) (t := 58) ?hr ?_; (case hd => rfl); (case hg => rfl); (case hr => first | (go_simp; done) | (go_simp; rfl)); intro ak hg w42 hbox hb; have n0_ := Aa.mk (Bc (g := aj) (o := .cells #[.int .i64 0, .int .i64 0, .int .i64 0, .int .i64 0] 58 (0, 0)) (by exact bU <| ah.out) hb); have n1_ := Aa.mk (Ak (by repeat (first | (with_reducible first | exact HB.out | apply Ad | apply Ab | apply Ac | refine Ai ?_ ap.out) | exact HB.out)) hb); have n2_ := Aa.mk (hbox); have n3_ := Aa.mk ((by rw [hg]; exact (Ag (by repeat (first | (with_reducible first | exact HB.out | apply Ad | apply Ab | apply Ac | refine Ai ?_ ap.out) | exact HB.out))) : w.heap.size ≤ ak)); have n4_ := Aa.mk ((by rw [hg]; exact (Ag (by repeat (first | (with_reducible first | exact HB.out | apply Ad | apply Ab | apply Ac | refine Ai ?_ ap.out) | exact HB.out))) : w.heap.size ≤ ak)); have n5_ := Aa.mk ((by rw [hg]; exact Nat.ne_of_lt (Cj (g := aj) (o := .cells #[.int .i64 0, .int .i64 0, .int .i64 0, .int .i64 0] 58 (0, 0)) (by exact bU <| ah.out)) : aj ≠ ak)); have n6_ := Aa.mk ((by rw [hg]; exact Nat.ne_of_gt (Cj (g := aj) (o := .cells #[.int .i64 0, .int .i64 0, .int .i64 0, .int .i64 0] 58 (0, 0)) (by exact bU <| ah.out)) : ak ≠ aj)); clear ah; clear HB; have ah := n0_; have HB := n1_; have af := n2_; have bZ := n3_; have av := n4_; have ao := n5_; have aG := n6_; clear n0_ n1_ n2_ n3_ n4_ n5_ n6_; clear hb hbox hg) | ((with_reducible refine As (f := 42) rfl ?_); refine Br (some 9) rfl rfl Try.func42 (by kernel_rfl) rfl #[.slice A0 l0.length c0] rfl (by (try simp only [List.map_toArray, List.map_cons, List.map_nil]); first | done | rfl | (simp only [List.length_drop, List.length_take]; rfl)) ?_; (with_reducible refine (Bk.calls k _ _ l0 aU _ ?side1 ?side2 A2.out).mono ?_); (case side1 => repeat (first | exact (Kd.C3 HR0.out HB.out) | (with_reducible refine Kd.Bi ?_ _) | (with_reducible refine Kd.Bh ?_ _) | (with_reducible refine Kd.Bm ?_))); (case side2 => exact HC0.out); rintro e w43 ⟨rfl, hb⟩; refine ⟨_, rfl, ?_⟩; have n0_ := Aa.mk (Bc (g := aj) (o := .cells #[.int .i64 0, .int .i64 0, .int .i64 0, .int .i64 0] 58 (0, 0)) (by exact bU <| ah.out) hb); have n1_ := Aa.mk (Bc (g := ak) (o := .cells #[.int .i64 0, .int .i64 0, .int .i64 0, .int .i64 0] 58 (0, 0)) (by exact bU <| af.out) hb); have n2_ := Aa.mk (Ak (by repeat (first | (with_reducible first | exact HB.out | apply Ad | apply Ab | apply Ac | refine Ai ?_ ap.out | refine Ai ?_ av.out) | exact HB.out)) hb); clear ah; clear af; clear HB; have ah := n0_; have af := n1_; have HB := n2_; clear n0_ n1_ n2_; (try clear hb); (try clear hb2); (try clear hk); (try clear hi); have eJ := aG.out; have eK := ao.out; have dK : w43.cell? ⟨ak, 0, none⟩ = some (.int .i64 0) := (Aj af.out 0).trans rfl; have dL : w43.cell? ⟨ak, 1, none⟩ = some (.int .i64 0) := (Aj af.out 1).trans rfl; have dM : w43.cell? ⟨ak, 2, none⟩ = some (.int .i64 0) := (Aj af.out 2).trans rfl; have dN : w43.cell? ⟨ak, 3, none⟩ = some (.int .i64 0) := (Aj af.out 3).trans rfl; have dO := Af af.out 0; have dP := Af af.out 1; have dQ := Af af.out 2; have dR := Af af.out 3; have dS : w43.cell? ⟨aj, 0, none⟩ = some (.int .i64 0) := (Aj ah.out 0).trans rfl; have dT : w43.cell? ⟨aj, 1, none⟩ = some (.int .i64 0) := (Aj ah.out 1).trans rfl; have dU : w43.cell? ⟨aj, 2, none⟩ = some (.int .i64 0) := (Aj ah.out 2).trans rfl; have dV : w43.cell? ⟨aj, 3, none⟩ = some (.int .i64 0) := (Aj ah.out 3).trans rfl; have dW := Af ah.out 0; have dX := Af ah.out 1; have dY := Af ah.out 2; have dZ := Af ah.out 3))
  refine bodyPost_ret (results_ct rfl _ _ aj 58 #[.int .i64 0, .int .i64 0, .int .i64 0, .int .i64 0] (0, 0) _ rfl (by (with_reducible repeat (first | refine Am ?_ _ | refine Ar ?_ | refine An ?_ _)); refine Bb (cs := #[.int .i64 0, .int .i64 0, .int .i64 0, .int .i64 0]) ?_ 3 _ rfl; (with_reducible repeat (first | refine Am ?_ _ | refine Ar ?_ | refine An ?_ _)); refine Bb (cs := #[.int .i64 0, .int .i64 0, .int .i64 0, .int .i64 0]) ?_ 2 _ rfl; (with_reducible repeat (first | refine Am ?_ _ | refine Ar ?_ | refine An ?_ _)); refine Bb (cs := #[.int .i64 0, .int .i64 0, .int .i64 0, .int .i64 0]) ?_ 1 _ rfl; (with_reducible repeat (first | refine Am ?_ _ | refine Ar ?_ | refine An ?_ _)); refine Bb (cs := #[.int .i64 0, .int .i64 0, .int .i64 0, .int .i64 0]) ?_ 0 _ rfl; exact bU <| ah.out) Try.underlying58 rfl (by kernel_rfl)) rfl ?_
  exact ⟨by first | rfl | (simp [Ax, Aw] <;> rfl) | (simp [*, Ax, Aw] <;> rfl), by repeat (first | (with_reducible first | exact HB.out | apply Ad | apply Ab | apply Ac | refine Ai ?_ ap.out | refine Ai ?_ av.out) | exact HB.out)⟩


def Av.l0 : Nat → List (S58) → Int → Int → Int → Int → List Int → Int → Int → Option ((List (S58)) × Int)
 | 0, _, _, _, _, _, _, _, _ => none
 | k + 1, x0, x1, x2, x3, x4, x24, x25, x26 => if x26 < x25 then (if 0 ≤ x26 then (if x26 < (x24.length : Int) then (if (rd x24 x26) < 0 then (some (([] : List (S58)), 61)) else (if (rd x24 x26) > 16384 then (some (([] : List (S58)), 61)) else (Av.l0 k x0 x1 x2 x3 x4 x24 x25 (wrap64 (x26 + 1))))) else (none)) else (none)) else ((B3.f k x0 x1 x2 x3 x4).bind fun bx => ((Aq.f k bx ([] : List (S58)) 49).bind fun bE => ((Bo.f k bE).bind fun bL => (some (bL.1, bL.2)))))
def Av.f (k : Nat) (l0 : List (S58)) (a1 : Int) (a2 : Int) (a3 : Int) (a4 : Int) : Option ((List (S58)) × Int) := (Bk.f k l0).bind fun aQ => (if aQ = 0 then ((some (([a1, a2, a3, a4] : List Int) : List Int)).bind fun aD => (Av.l0 k l0 a1 a2 a3 a4 aD (aD.length : Int) 0)) else (some (([] : List (S58)), aQ)))
set_option maxHeartbeats 8000000 in
set_option maxRecDepth 100000 in
theorem Av.calls (k : Nat) (A0 : Option Addr) (c0 : Nat) (l0 : List (S58)) (a1 : Int) (a2 : Int) (a3 : Int) (a4 : Int) (r1 : List (S58)) (r2 : Int) (w : World) (hr0 : Kd.C k58 w A0 l0.length l0) (hc0 : l0.length ≤ c0) (h : Av.f k l0 a1 a2 a3 a4 = some (r1, r2)) :
  Calls Try.prog 17 #[.slice A0 l0.length c0, .int .i64 a1, .int .i64 a2, .int .i64 a3, .int .i64 a4] w fun e w' => ∃ v0_ : Value, e = .returned (.tuple #[v0_, .int .i64 r2]) ∧ Kd.R k58 58 w' w.heap.size (fun _ => True) v0_ r1 ∧ Below w.heap.size w w' := by
 have HR0 := Aa.mk hr0
 have HC0 := Aa.mk hc0
 clear hr0 hc0
 have HB := Aa.mk (Below.refl w.heap.size w)
 have H : ((Bk.f k l0).bind fun aQ => (if aQ = 0 then ((some (([a1, a2, a3, a4] : List Int) : List Int)).bind fun aD => (Av.l0 k l0 a1 a2 a3 a4 aD (aD.length : Int) 0)) else (some (([] : List (S58)), aQ)))) = some (r1, r2) := h
 clear h
 replace H := Option.bind_eq_some_iff.mp H
 obtain ⟨aQ, A60, H⟩ := H
 try dsimp only at H
 have A6 := Aa.mk A60
 clear A60
 by_cases c7 : aQ = 0
 ·rw [if_pos c7] at H
  have bw : (aQ == 0) = true := beq_iff_eq.mpr c7
  have b3 : (aQ != 0) = false := bne_eq_false_iff_eq.mpr c7
  clear c7
  obtain ⟨aD, bF⟩ : ∃ y_ : List Int, y_ = (([a1, a2, a3, a4] : List Int)) := ⟨_, rfl⟩
  (try rw [Option.bind_some] at H); try rw [← bF] at H
  have bM := Aa.mk bF
  clear bF
  have H' := Aa.mk H
  clear H
  go_enter Try.func17, Try.ntmps17
  go_wp2_with (first | ((with_reducible refine As (f := 42) rfl ?_); refine Br (some 16) rfl rfl Try.func42 (by kernel_rfl) rfl #[.slice A0 l0.length c0] rfl (by (try simp only [List.map_toArray, List.map_cons, List.map_nil]); first | done | rfl | (simp only [List.length_drop, List.length_take]; rfl)) ?_; (with_reducible refine (Bk.calls k _ _ l0 aQ _ ?side1 ?side2 A6.out).mono ?_); (case side1 => repeat (first | exact HR0.out | (with_reducible refine Kd.Bi ?_ _) | (with_reducible refine Kd.Bh ?_ _) | (with_reducible refine Kd.Bm ?_))); (case side2 => exact HC0.out); rintro e w8 ⟨rfl, hb⟩; refine ⟨_, rfl, ?_⟩; have n0_ := Aa.mk (Ak (lU HB.out) hb); clear HB; have HB := n0_; clear n0_; (try clear hb); (try clear hb2); (try clear hk); (try clear hi)) | ((with_reducible refine Bj (N := 24) rfl ?_); refine Kd.Cz (Kd.int .i64) _ 3 ?hg (N := 24) ?hd (xs := ([a1, a2, a3, a4] : List Int)) (inner := [.int .i64 a1, .int .i64 a2, .int .i64 a3, .int .i64 a4]) (ok := fun _ => True) (okp := fun _ => True) ?hr ?hp (fun _ hk => hk) trivial (Below.refl _ _) (Nat.le_refl _) (by simp) ?_; (case hd => rfl); (case hg => rfl); (case hr => first | (go_simp; done) | (go_simp; rfl)); (case hp => exact (Reps.one (show Kd.M (Kd.int .i64) _ _ _ a1 [.int .i64 a1] from rfl) (Reps.one (show Kd.M (Kd.int .i64) _ _ _ a2 [.int .i64 a2] from rfl) (Reps.one (show Kd.M (Kd.int .i64) _ _ _ a3 [.int .i64 a3] from rfl) (Reps.one (show Kd.M (Kd.int .i64) _ _ _ a4 [.int .i64 a4] from rfl) (Reps.none _ _)))))); intro v265 w9 ho10 hb hg_ hnew_; clear hg_ hnew_; (first | rw [← bM.out] at ho10 | (simp only [Int.reduceToNat] at ho10; rw [← bM.out] at ho10)); have n0_ := Aa.mk (Kd.Bx ho10 (Ag (lU HB.out))); have n1_ := Aa.mk (Ak (lU HB.out) hb); clear HB; have bN := n0_; have HB := n1_; clear n0_ n1_; clear hb ho10; obtain ⟨b4, b5, ej⟩ := Kd.Bn bN.out; subst ej))
  go_loopg [26] k (fun kq v26 w' => ∃ (aq : Int), v26 = .int .i64 aq ∧ Aa (Av.l0 kq l0 a1 a2 a3 a4 aD (aD.length : Int) aq = some (r1, r2)) ∧ Aa (kq ≤ k) ∧ Aa (Kd.R (Kd.int .i64) 3 w' w.heap.size (fun _ => True) (.slice b4 aD.length b5) aD) ∧ Aa (Below w.heap.size w w'))
  case atStart => exact ⟨(0), (by first | rfl | (simp; done) | (simp [*]; done)), H', ⟨Nat.le_refl _⟩, ⟨by exact rU <| bN.out⟩, ⟨by repeat (first | (with_reducible first | exact HB.out | apply Ad | apply Ab | apply Ac) | exact HB.out)⟩⟩
  case round =>
   clear H'
   try clear c1
   try clear p2
   try clear c4
   try clear c7
   try clear bw
   try clear b3
   obtain ⟨aq, rfl, HA, HK1, aE, HB⟩ := hrel
   cases gk with
   | zero => exact absurd HA.out (by simp [Av.l0])
   | succ k1 =>
    have H := HA.out
    clear HA
    simp only [Av.l0] at H
    by_cases c12 : aq < (aD.length : Int)
    ·rw [if_pos c12] at H
     have b6 : decide (aq < (aD.length : Int)) = true := decide_eq_true c12
     clear c12
     by_cases c13 : 0 ≤ aq
     ·rw [if_pos c13] at H
      have eL : decide (0 ≤ aq) = true := decide_eq_true c13
      clear c13
      by_cases c14 : aq < (aD.length : Int)
      ·rw [if_pos c14] at H
       have eM : decide (aq < (aD.length : Int)) = true := decide_eq_true c14
       clear c14
       by_cases c15 : (rd aD aq) < 0
       ·rw [if_pos c15] at H
        have b7 : decide ((rd aD aq) < 0) = true := decide_eq_true c15
        clear c15
        simp only [Option.some.injEq, Prod.mk.injEq] at H
        obtain ⟨rfl, rfl⟩ := H
        have aX : 0 ≤ (aq : Int) := of_decide_eq_true (by with_reducible assumption)
        have aY : aq < (aD.length : Int) := of_decide_eq_true (by with_reducible assumption)
        obtain ⟨bO, e267, bv⟩ := Kd.at_int (Kd.At aE.out).2.2 aq aX aY
        cases e267
        replace aX := eq_true aX
        replace aY := eq_true aY
        go_wp2
        go_ret2
        exact ⟨_, by first | rfl | (simp [Ax, Aw] <;> rfl) | (simp [*, Ax, Aw] <;> rfl), by first | exact Kd.Cy _ _ _ _ _ | exact Kd.N_nil _ _ _ _ _ | exact Kd.V_nil _ _ _ _ _ | exact Kd.Q_nil _ _ _ _ _ | exact Kd.S_nil _ _ _ _ _, by repeat (first | (with_reducible first | exact HB.out | apply Ad | apply Ab | apply Ac) | exact HB.out)⟩
       ·rw [if_neg c15] at H
        have b7 : decide ((rd aD aq) < 0) = false := decide_eq_false c15
        clear c15
        by_cases c16 : (rd aD aq) > 16384
        ·rw [if_pos c16] at H
         have b8 : decide (16384 < (rd aD aq)) = true := decide_eq_true c16
         clear c16
         simp only [Option.some.injEq, Prod.mk.injEq] at H
         obtain ⟨rfl, rfl⟩ := H
         have aX : 0 ≤ (aq : Int) := of_decide_eq_true (by with_reducible assumption)
         have aY : aq < (aD.length : Int) := of_decide_eq_true (by with_reducible assumption)
         obtain ⟨bO, e267, bv⟩ := Kd.at_int (Kd.At aE.out).2.2 aq aX aY
         cases e267
         replace aX := eq_true aX
         replace aY := eq_true aY
         go_wp2
         go_ret2
         exact ⟨_, by first | rfl | (simp [Ax, Aw] <;> rfl) | (simp [*, Ax, Aw] <;> rfl), by first | exact Kd.Cy _ _ _ _ _ | exact Kd.N_nil _ _ _ _ _ | exact Kd.V_nil _ _ _ _ _ | exact Kd.Q_nil _ _ _ _ _ | exact Kd.S_nil _ _ _ _ _, by repeat (first | (with_reducible first | exact HB.out | apply Ad | apply Ab | apply Ac) | exact HB.out)⟩
        ·rw [if_neg c16] at H
         have b8 : decide (16384 < (rd aD aq)) = false := decide_eq_false c16
         clear c16
         have H' := Aa.mk H
         clear H
         have aX : 0 ≤ (aq : Int) := of_decide_eq_true (by with_reducible assumption)
         have aY : aq < (aD.length : Int) := of_decide_eq_true (by with_reducible assumption)
         obtain ⟨bO, e267, bv⟩ := Kd.at_int (Kd.At aE.out).2.2 aq aX aY
         cases e267
         replace aX := eq_true aX
         replace aY := eq_true aY
         go_wp2
         go_roundg k1
         case measure => have := HK1.out; omega
         case rel => exact ⟨(wrap64 (aq + 1)), (by first | rfl | (simp; done) | (simp [*]; done)), H', ⟨by have := HK1.out; omega⟩, ⟨by exact rU <| aE.out⟩, ⟨by repeat (first | (with_reducible first | exact HB.out | apply Ad | apply Ab | apply Ac) | exact HB.out)⟩⟩
      ·rw [if_neg c14] at H
       exact absurd H (by simp)
     ·rw [if_neg c13] at H
      exact absurd H (by simp)
    ·rw [if_neg c12] at H
     have b6 : decide (aq < (aD.length : Int)) = false := decide_eq_false c12
     clear c12
     replace H := Option.bind_eq_some_iff.mp H
     obtain ⟨bx, A170, H⟩ := H
     try dsimp only at H
     have A17 := Aa.mk A170
     clear A170
     replace H := Option.bind_eq_some_iff.mp H
     obtain ⟨bE, A180, H⟩ := H
     try dsimp only at H
     have A18 := Aa.mk A180
     clear A180
     replace H := Option.bind_eq_some_iff.mp H
     obtain ⟨⟨ek, el⟩, A190, H⟩ := H
     try dsimp only at H
     have A19 := Aa.mk A190
     clear A190
     simp only [Option.some.injEq, Prod.mk.injEq] at H
     obtain ⟨rfl, rfl⟩ := H
     go_wp2_with (first | ((with_reducible refine As (f := 48) rfl ?_); refine Br (some 42) rfl rfl Try.func48 (by kernel_rfl) rfl #[.slice A0 l0.length c0, .int .i64 a1, .int .i64 a2, .int .i64 a3, .int .i64 a4] rfl (by (try simp only [List.map_toArray, List.map_cons, List.map_nil]); first | done | rfl | (simp only [List.length_drop, List.length_take]; rfl)) ?_; (with_reducible refine (B3.calls k1 _ _ l0 a1 a2 a3 a4 bx _ ?side1 ?side2 A17.out).mono ?_); (case side1 => repeat (first | exact (Kd.C3 HR0.out HB.out) | (with_reducible refine Kd.Bi ?_ _) | (with_reducible refine Kd.Bh ?_ _) | (with_reducible refine Kd.Bm ?_))); (case side2 => exact HC0.out); rintro e w20 ⟨v269, rfl, ho0, hb⟩; refine ⟨_, rfl, ?_⟩; have n0_ := Aa.mk (Kd.Be (by exact rU <| aE.out) hb); have n1_ := Aa.mk (Kd.Bx ho0 (Ag (lU HB.out))); have n2_ := Aa.mk (Ak (lU HB.out) hb); clear aE; clear HB; have aE := n0_; have aJ := n1_; have HB := n2_; clear n0_ n1_ n2_; (try clear hb); (try clear hb2); (try clear hk); (try clear hi); (try clear ho0); obtain ⟨b9, cd, em⟩ := Kd.Bn aJ.out; subst em) | ((with_reducible refine As (f := 47) rfl ?_); refine Br (some 43) rfl rfl Try.func47 (by kernel_rfl) rfl #[.slice b9 bx.length cd, .slice none 0 0, .func (.func (49 : Int).toNat) #[] #[]] rfl (by (try simp only [List.map_toArray, List.map_cons, List.map_nil]); first | done | rfl | (simp only [List.length_drop, List.length_take]; rfl)) ?_; (refine (Aq.calls k1 (fun k_ => some k_ = (.slice b9 bx.length cd : Value).ownBlock) _ _ bx (fun k_ => False) _ _ ([] : List (S58)) 49 bE _ ?side1 ?side2 A18.out).mono ?_); (case side1 => exact Kd.R_V (Kd.Cs rfl (Kd.B5 (aJ.out) (Kd.Ck aE.out) (by decide)))); (case side2 => exact Kd.V_nil _ _ _ _ _); rintro e w22 ⟨v272, rfl, ho0, hb⟩; refine ⟨_, rfl, ?_⟩; have n0_ := Aa.mk (Kd.Be (by exact rU <| aE.out) hb); have n1_ := Aa.mk (Kd.Be (by exact rU <| aJ.out) hb); have n2_ := Aa.mk (Kd.N_lower (Kd.N_mono (ok' := fun k_ => some k_ ≠ (.slice b4 aD.length b5 : Value).ownBlock) ho0 (fun k_ hk_ => Or.elim hk_ (fun hs_ => Or.elim hs_ (fun hs_ => ((Kd.B5 (aJ.out) (Kd.Ck aE.out) (by decide)).1 k_ hs_.symm).2) (fun hs_ => (hs_).elim)) (fun hn_ => (Kd.fresh' (Kd.Bq (by exact rU <| aE.out)) k_ hn_)))) (Ag (lU HB.out))); have n3_ := Aa.mk (Ak (lU HB.out) hb); clear aE; clear aJ; clear HB; have aE := n0_; have aJ := n1_; have a9 := n2_; have HB := n3_; clear n0_ n1_ n2_ n3_; (try clear hb); (try clear hb2); (try clear hk); (try clear hi); (try clear ho0); obtain ⟨en, eo, ep⟩ := Kd.N_slice a9.out; subst ep) | ((with_reducible refine As (f := 46) rfl ?_); refine Br (some 44) rfl rfl Try.func46 (by kernel_rfl) rfl #[.slice en bE.length eo] rfl (by (try simp only [List.map_toArray, List.map_cons, List.map_nil]); first | done | rfl | (simp only [List.length_drop, List.length_take]; rfl)) ?_; (with_reducible refine (Bo.calls k1 _ _ bE ek el _ ?side1 ?side2 A19.out).mono ?_); (case side1 => repeat (first | exact (Kd.N_reads' a9.out).2.2 | (with_reducible refine Kd.Bi ?_ _) | (with_reducible refine Kd.Bh ?_ _) | (with_reducible refine Kd.Bm ?_))); (case side2 => exact (Kd.N_reads' a9.out).2.1); rintro e w24 ⟨v276, rfl, ho0, hb⟩; refine ⟨_, rfl, ?_⟩; have n0_ := Aa.mk (Kd.Be (by exact rU <| aE.out) hb); have n1_ := Aa.mk (Kd.Ap (by exact rU <| aJ.out) (Kd.Ao ho0) hb); have n2_ := Aa.mk (Kd.N_elder' (by (with_reducible repeat (first | apply Kd.N_alloc | apply Kd.N_drewN | apply Kd.N_drew)); exact a9.out) (Kd.Ao ho0) hb); have n3_ := Aa.mk (Kd.Bx (Kd.Au ho0 (Kd.Bq (by exact rU <| aJ.out))) (Ag (lU HB.out))); have n4_ := Aa.mk (Ak (lU HB.out) hb); clear aE; clear aJ; clear a9; clear HB; have aE := n0_; have aJ := n1_; have a9 := n2_; have cg := n3_; have HB := n4_; clear n0_ n1_ n2_ n3_ n4_; (try clear hb); (try clear hb2); (try clear hk); (try clear hi); (try clear ho0)))
     go_ret2
     exact ⟨_, by first | rfl | (simp [Ax, Aw] <;> rfl) | (simp [*, Ax, Aw] <;> rfl), by exact rU <| Kd.Bs cg.out (fun _ hk => trivial), by repeat (first | (with_reducible first | exact HB.out | apply Ad | apply Ab | apply Ac) | exact HB.out)⟩
 ·rw [if_neg c7] at H
  have bw : (aQ == 0) = false := beq_eq_false_iff_ne.mpr c7
  have b3 : (aQ != 0) = true := bne_iff_ne.mpr c7
  simp only [Option.some.injEq, Prod.mk.injEq] at H
  obtain ⟨rfl, rfl⟩ := H
  go_enter Try.func17, Try.ntmps17
  go_wp2_with (first | ((with_reducible refine As (f := 42) rfl ?_); refine Br (some 16) rfl rfl Try.func42 (by kernel_rfl) rfl #[.slice A0 l0.length c0] rfl (by (try simp only [List.map_toArray, List.map_cons, List.map_nil]); first | done | rfl | (simp only [List.length_drop, List.length_take]; rfl)) ?_; (with_reducible refine (Bk.calls k _ _ l0 aQ _ ?side1 ?side2 A6.out).mono ?_); (case side1 => repeat (first | exact HR0.out | (with_reducible refine Kd.Bi ?_ _) | (with_reducible refine Kd.Bh ?_ _) | (with_reducible refine Kd.Bm ?_))); (case side2 => exact HC0.out); rintro e w25 ⟨rfl, hb⟩; refine ⟨_, rfl, ?_⟩; have n0_ := Aa.mk (Ak (lU HB.out) hb); clear HB; have HB := n0_; clear n0_; (try clear hb); (try clear hb2); (try clear hk); (try clear hi)))
  go_ret2
  exact ⟨_, by first | rfl | (simp [Ax, Aw] <;> rfl) | (simp [*, Ax, Aw] <;> rfl), by first | exact Kd.Cy _ _ _ _ _ | exact Kd.N_nil _ _ _ _ _ | exact Kd.V_nil _ _ _ _ _ | exact Kd.Q_nil _ _ _ _ _ | exact Kd.S_nil _ _ _ _ _, by repeat (first | (with_reducible first | exact HB.out | apply Ad | apply Ab | apply Ac) | exact HB.out)⟩



end Go.Proofs.Ytobdfiglgdbecaa.PGA

