import Derived.Test.YtobdfiglgdbecaaYPGAx0
import Derived.Test.YtobdfiglgdbecaaYPGAx2
import Derived.Test.YtobdfiglgdbecaaYPGAx5
namespace Go.Proofs.Ytobdfiglgdbecaa.PGA
open Go.Proofs.Ytobdfiglgdbecaa.PGB
open Go.RowKit Go.Proofs.YtobdfiglgdbecaaW.PrintWords Go.Proofs.YtobdfiglgdbecaaW.PrintLast Go.Proofs.YtobdfiglgdbecaaW.PrintMore
attribute [local go_sem] max2_int min2_int max_two min_two max_three min_three max_four min_four
set_option linter.unusedVariables false
set_option linter.unusedSimpArgs false

def B8.l0 : Nat → List (S58) → List (S58) → Int → List (List (S58)) → Int → Int → Option ((List (S58)) × Int)
 | 0, _, _, _, _, _, _ => none
 | k + 1, x0, x1, x2, x13, x14, x15 => if x15 < x14 then (if 0 ≤ x15 then (if x15 < (x13.length : Int) then ((Bg.f k (rd_L5 x13 x15)).bind fun au => (if au = 0 then (B8.l0 k x0 x1 x2 x13 x14 (wrap64 (x15 + 1))) else (some (([] : List (S58)), au)))) else (none)) else (none)) else ((Am.f k x0 x1 x2).bind fun aU => ((Bh.f k aU).bind fun a6 => (some (a6.1, a6.2))))
def B8.f (k : Nat) (l0 : List (S58)) (l1 : List (S58)) (a2 : Int) : Option ((List (S58)) × Int) := (some (([l0, l1] : List (List (S58))) : List (List (S58)))).bind fun ag => (B8.l0 k l0 l1 a2 ag (ag.length : Int) 0)
set_option maxHeartbeats 8000000 in
set_option maxRecDepth 100000 in
theorem B8.calls (k : Nat) (P0_ : Nat → Prop) (A0 : Option Addr) (c0 : Nat) (l0 : List (S58)) (P1_ : Nat → Prop) (A1 : Option Addr) (c1 : Nat) (l1 : List (S58)) (a2 : Int) (r1 : List (S58)) (r2 : Int) (w : World) (hs0 : Kd.V k58 58 w w.heap.size (fun k_ => P0_ k_) (.slice A0 l0.length c0) l0) (hs1 : Kd.V k58 58 w w.heap.size (fun k_ => P1_ k_) (.slice A1 l1.length c1) l1) (h : B8.f k l0 l1 a2 = some (r1, r2)) (hk_ : Aa (IsKeep a2) := by first | assumption | exact ⟨by decide⟩) :
  Calls Try.prog 55 #[.slice A0 l0.length c0, .slice A1 l1.length c1, .func (.func a2.toNat) #[] #[]] w fun e w' => ∃ v0_ : Value, e = .returned (.tuple #[v0_, .int .i64 r2]) ∧ Kd.R k58 58 w' w.heap.size (fun k_ => (w.heap.size ≤ k_)) v0_ r1 ∧ Below w.heap.size w w' := by
 have HO0 := Aa.mk (show Kd.V k58 58 w w.heap.size (fun k_ => ((P0_ k_ ∨ P1_ k_) ∨ w.heap.size ≤ k_)) (.slice A0 l0.length c0) l0 from Kd.V_mono hs0 (fun k_ hk => .inl (.inl hk)))
 have HO1 := Aa.mk (show Kd.V k58 58 w w.heap.size (fun k_ => ((P0_ k_ ∨ P1_ k_) ∨ w.heap.size ≤ k_)) (.slice A1 l1.length c1) l1 from Kd.V_mono hs1 (fun k_ hk => .inl (.inr hk)))
 have HB := Aa.mk (Below.refl w.heap.size w)
 have H : ((some (([l0, l1] : List (List (S58))) : List (List (S58)))).bind fun ag => (B8.l0 k l0 l1 a2 ag (ag.length : Int) 0)) = some (r1, r2) := h
 clear h
 obtain ⟨ag, aV⟩ : ∃ y_ : List (List (S58)), y_ = (([l0, l1] : List (List (S58)))) := ⟨_, rfl⟩
 (try rw [Option.bind_some] at H); try rw [← aV] at H
 have a7 := Aa.mk aV
 clear aV
 have H' := Aa.mk H
 clear H
 go_enter Try.func55, Try.ntmps55
 go_wp2_with (first | ((with_reducible refine Bj (N := 13) rfl ?_); refine Kd.N_lit (Kd.slice 58 k58) _ 22 ?hg (N' := 13) ?hd (xs := ([l0, l1] : List (List (S58)))) (inner := [.slice A0 l0.length c0, .slice A1 l1.length c1]) (ok := (fun k_ => ((P0_ k_ ∨ P1_ k_) ∨ w.heap.size ≤ k_))) (okp := (fun k_ => ((P0_ k_ ∨ P1_ k_) ∨ w.heap.size ≤ k_))) ?hr ?hp (fun _ hk => hk) ((show ∀ k_, w.heap.size ≤ k_ → (fun k_ => ((P0_ k_ ∨ P1_ k_) ∨ w.heap.size ≤ k_)) k_ from fun k_ hk => (.inr (Nat.le_trans (Ae (lU HB.out)) hk))) _ (Nat.le_refl _)) (Below.refl _ _) (Nat.le_refl _) (by simp) ?_; (case hd => rfl); (case hg => rfl); (case hr => first | (go_simp; done) | (go_simp; rfl)); (case hp => exact (Reps.one (show Kd.FK (Kd.slice 58 k58) _ _ l0 [.slice A0 l0.length c0] from (Kd.FK_slice_mk (Kd.V_reads' (Kd.V_mono (ok' := (fun k_ => ((P0_ k_ ∨ P1_ k_) ∨ w.heap.size ≤ k_))) (HO0.out) (fun k_ hk => hk))).2.1 (Kd.V_F (Kd.V_mono (ok' := (fun k_ => ((P0_ k_ ∨ P1_ k_) ∨ w.heap.size ≤ k_))) (HO0.out) (fun k_ hk => hk))))) (Reps.one (show Kd.FK (Kd.slice 58 k58) _ _ l1 [.slice A1 l1.length c1] from (Kd.FK_slice_mk (Kd.V_reads' (Kd.V_mono (ok' := (fun k_ => ((P0_ k_ ∨ P1_ k_) ∨ w.heap.size ≤ k_))) (HO1.out) (fun k_ hk => hk))).2.1 (Kd.V_F (Kd.V_mono (ok' := (fun k_ => ((P0_ k_ ∨ P1_ k_) ∨ w.heap.size ≤ k_))) (HO1.out) (fun k_ hk => hk))))) (Reps.none _ _)))); intro v230 w4 ho5 hb hg_ hnew_; clear hg_ hnew_; (first | rw [← a7.out] at ho5 | (simp only [Int.reduceToNat] at ho5; rw [← a7.out] at ho5)); have n0_ := Aa.mk (Kd.V_elder' (by (with_reducible repeat (first | apply Kd.V_alloc | apply Kd.V_drewN | apply Kd.V_drew)); exact HO0.out) (Kd.N_base ho5) hb); have n1_ := Aa.mk (Kd.V_elder' (by (with_reducible repeat (first | apply Kd.V_alloc | apply Kd.V_drewN | apply Kd.V_drew)); exact HO1.out) (Kd.N_base ho5) hb); have n2_ := Aa.mk (Kd.N_lower ho5 (Ae (lU HB.out))); have n3_ := Aa.mk (Aj (lU HB.out) hb); clear HO0; clear HO1; clear HB; have HO0 := n0_; have HO1 := n1_; have a8 := n2_; have HB := n3_; clear n0_ n1_ n2_ n3_; clear hb ho5; obtain ⟨Ao6, co6, eo6⟩ := Kd.N_slice a8.out; subst eo6))
 go_loopg [15] k (fun kq v15 w' => ∃ (aa : Int), v15 = .int .i64 aa ∧ Aa (B8.l0 kq l0 l1 a2 ag (ag.length : Int) aa = some (r1, r2)) ∧ Aa (kq ≤ k) ∧ Aa (Kd.V k58 58 w' w.heap.size (fun k_ => ((P0_ k_ ∨ P1_ k_) ∨ w.heap.size ≤ k_) ∧ some k_ ≠ ((.slice Ao6 ag.length co6) : Value).ownBlock) (.slice A0 l0.length c0) l0) ∧ Aa (Kd.V k58 58 w' w.heap.size (fun k_ => ((P0_ k_ ∨ P1_ k_) ∨ w.heap.size ≤ k_) ∧ some k_ ≠ ((.slice Ao6 ag.length co6) : Value).ownBlock) (.slice A1 l1.length c1) l1) ∧ Aa (Kd.N (Kd.slice 58 k58) 22 w' w.heap.size (fun k_ => ((P0_ k_ ∨ P1_ k_) ∨ w.heap.size ≤ k_)) (.slice Ao6 ag.length co6) ag) ∧ Aa (Below w.heap.size w w'))
 case atStart => exact ⟨(0), (by first | rfl | (simp; done) | (simp [*]; done)), H', ⟨Nat.le_refl _⟩, ⟨by (with_reducible repeat (first | apply Kd.V_alloc | apply Kd.V_drewN | apply Kd.V_drew)); exact HO0.out⟩, ⟨by (with_reducible repeat (first | apply Kd.V_alloc | apply Kd.V_drewN | apply Kd.V_drew)); exact HO1.out⟩, ⟨by (with_reducible repeat (first | apply Kd.N_alloc | apply Kd.N_drewN | apply Kd.N_drew)); exact a8.out⟩, ⟨by repeat (first | (with_reducible first | exact HB.out | apply Ad | apply Ab | apply Ac) | exact HB.out)⟩⟩
 case round =>
  clear H'
  try clear c1
  try clear p2
  try clear c5
  obtain ⟨aa, rfl, HA, HK1, ai, aj, ab, HB⟩ := hrel
  cases gk with
  | zero => exact absurd HA.out (by simp [B8.l0])
  | succ k1 =>
   have H := HA.out
   clear HA
   simp only [B8.l0] at H
   by_cases c7 : aa < (ag.length : Int)
   ·rw [if_pos c7] at H
    have aQ : decide (aa < (ag.length : Int)) = true := decide_eq_true c7
    clear c7
    by_cases c8 : 0 ≤ aa
    ·rw [if_pos c8] at H
     have bv : decide (0 ≤ aa) = true := decide_eq_true c8
     clear c8
     by_cases c9 : aa < (ag.length : Int)
     ·rw [if_pos c9] at H
      have bw : decide (aa < (ag.length : Int)) = true := decide_eq_true c9
      clear c9
      replace H := Option.bind_eq_some_iff.mp H
      obtain ⟨au, A100, H⟩ := H
      try dsimp only at H
      have A10 := Aa.mk A100
      clear A100
      by_cases c11 : au = 0
      ·rw [if_pos c11] at H
       have aW : (au == 0) = true := beq_iff_eq.mpr c11
       have aX : (au != 0) = false := bne_eq_false_iff_eq.mpr c11
       clear c11
       have H' := Aa.mk H
       clear H
       have ay : 0 ≤ (aa : Int) := of_decide_eq_true (by with_reducible assumption)
       have az : aa < (ag.length : Int) := of_decide_eq_true (by with_reducible assumption)
       obtain ⟨bh, aI, aJ, e232, aA, an, hi232_0⟩ := at_L5 (Kd.N_reads' ab.out).2.2 aa ay az
       cases e232
       obtain ⟨ce232, hce232, hMe232, hcc232⟩ := Kd.N_get ab.out [] aa ay (by first | exact az | exact of_decide_eq_true (by with_reducible assumption) | (have e_ := (Kd.N_reads' ab.out).1; omega))
       obtain ⟨ua232_0, uc232_0, rfl, ul232_0, ge232_0⟩ := Kd.FK_slice_open hMe232
       have hv232_0 := hcc232 0 _ rfl
       rw [Nat.add_zero, show ((Kd.slice 58 k58)).sz = 1 from rfl, Nat.mul_one] at hv232_0
       replace hv232_0 := Option.some.inj (hv232_0.symm.trans aA)
       injection hv232_0 with hva_ hvn_ hvc_
       rw [hva_] at ge232_0
       rw [hvc_] at ul232_0
       have HL232_0 := Aa.mk (show Kd.V k58 58 _ w.heap.size _ _ (rd_L5 ag aa) from Kd.V_mk ul232_0 ge232_0)
       clear hva_ hvn_ hvc_ ge232_0 ul232_0
       clear hcc232 hce232
       have ae := Aa.mk hi232_0
       have aC := Aa.mk an
       clear hi232_0 an
       replace ay := eq_true ay
       replace az := eq_true az
       go_wp2_with (first | ((with_reducible refine Ap (f := 42) rfl ?_); refine Br (some 20) rfl rfl Try.func42 (by kernel_rfl) rfl #[.slice aI (rd_L5 ag aa).length aJ] rfl (by (try simp only [List.map_toArray, List.map_cons, List.map_nil]); first | done | rfl | (simp only [List.length_drop, List.length_take]; rfl)) ?_; (with_reducible refine (Bg.calls k1 _ _ (rd_L5 ag aa) au _ ?side1 ?side2 A10.out).mono ?_); (case side1 => repeat (first | exact (by repeat (first | (with_reducible exact ae.out) | (with_reducible refine Kd.Bf ?_ _) | (with_reducible refine Kd.Be ?_ _) | (with_reducible refine Kd.Bn ?_) | exact ae.out)) | (with_reducible refine Kd.Bf ?_ _) | (with_reducible refine Kd.Be ?_ _) | (with_reducible refine Kd.Bn ?_))); (case side2 => exact aC.out); rintro e w12 ⟨rfl, hb⟩; refine ⟨_, rfl, ?_⟩; have n0_ := Aa.mk (Kd.V_below (by (with_reducible repeat (first | apply Kd.V_alloc | apply Kd.V_drewN | apply Kd.V_drew)); exact ai.out) hb); have n1_ := Aa.mk (Kd.V_below (by (with_reducible repeat (first | apply Kd.V_alloc | apply Kd.V_drewN | apply Kd.V_drew)); exact aj.out) hb); have n2_ := Aa.mk (Kd.N_below (by (with_reducible repeat (first | apply Kd.N_alloc | apply Kd.N_drewN | apply Kd.N_drew)); exact ab.out) hb); have n3_ := Aa.mk (Kd.V_below (by (with_reducible repeat (first | apply Kd.V_alloc | apply Kd.V_drewN | apply Kd.V_drew)); exact HL232_0.out) hb); have n4_ := Aa.mk (Kd.C5 (by repeat (first | (with_reducible exact ae.out) | (with_reducible refine Kd.Bf ?_ _) | (with_reducible refine Kd.Be ?_ _) | (with_reducible refine Kd.Bn ?_) | exact ae.out)) hb); have n5_ := Aa.mk (Aj (lU HB.out) hb); clear ai; clear aj; clear ab; clear HL232_0; clear ae; clear HB; have ai := n0_; have aj := n1_; have ab := n2_; have HL232_0 := n3_; have ae := n4_; have HB := n5_; clear n0_ n1_ n2_ n3_ n4_ n5_; (try clear hb); (try clear hb2); (try clear hk); (try clear hi)))
       go_roundg k1
       case measure => have := HK1.out; omega
       case rel => exact ⟨(wrap64 (aa + 1)), (by first | rfl | (simp; done) | (simp [*]; done)), H', ⟨by have := HK1.out; omega⟩, ⟨by (with_reducible repeat (first | apply Kd.V_alloc | apply Kd.V_drewN | apply Kd.V_drew)); exact ai.out⟩, ⟨by (with_reducible repeat (first | apply Kd.V_alloc | apply Kd.V_drewN | apply Kd.V_drew)); exact aj.out⟩, ⟨by (with_reducible repeat (first | apply Kd.N_alloc | apply Kd.N_drewN | apply Kd.N_drew)); exact ab.out⟩, ⟨by repeat (first | (with_reducible first | exact HB.out | apply Ad | apply Ab | apply Ac) | exact HB.out)⟩⟩
      ·rw [if_neg c11] at H
       have aW : (au == 0) = false := beq_eq_false_iff_ne.mpr c11
       have aX : (au != 0) = true := bne_iff_ne.mpr c11
       simp only [Option.some.injEq, Prod.mk.injEq] at H
       obtain ⟨rfl, rfl⟩ := H
       have ay : 0 ≤ (aa : Int) := of_decide_eq_true (by with_reducible assumption)
       have az : aa < (ag.length : Int) := of_decide_eq_true (by with_reducible assumption)
       obtain ⟨bh, aI, aJ, e232, aA, an, hi232_0⟩ := at_L5 (Kd.N_reads' ab.out).2.2 aa ay az
       cases e232
       obtain ⟨ce232, hce232, hMe232, hcc232⟩ := Kd.N_get ab.out [] aa ay (by first | exact az | exact of_decide_eq_true (by with_reducible assumption) | (have e_ := (Kd.N_reads' ab.out).1; omega))
       obtain ⟨ua232_0, uc232_0, rfl, ul232_0, ge232_0⟩ := Kd.FK_slice_open hMe232
       have hv232_0 := hcc232 0 _ rfl
       rw [Nat.add_zero, show ((Kd.slice 58 k58)).sz = 1 from rfl, Nat.mul_one] at hv232_0
       replace hv232_0 := Option.some.inj (hv232_0.symm.trans aA)
       injection hv232_0 with hva_ hvn_ hvc_
       rw [hva_] at ge232_0
       rw [hvc_] at ul232_0
       have HL232_0 := Aa.mk (show Kd.V k58 58 _ w.heap.size _ _ (rd_L5 ag aa) from Kd.V_mk ul232_0 ge232_0)
       clear hva_ hvn_ hvc_ ge232_0 ul232_0
       clear hcc232 hce232
       have ae := Aa.mk hi232_0
       have aC := Aa.mk an
       clear hi232_0 an
       replace ay := eq_true ay
       replace az := eq_true az
       go_wp2_with (first | ((with_reducible refine Ap (f := 42) rfl ?_); refine Br (some 20) rfl rfl Try.func42 (by kernel_rfl) rfl #[.slice aI (rd_L5 ag aa).length aJ] rfl (by (try simp only [List.map_toArray, List.map_cons, List.map_nil]); first | done | rfl | (simp only [List.length_drop, List.length_take]; rfl)) ?_; (with_reducible refine (Bg.calls k1 _ _ (rd_L5 ag aa) au _ ?side1 ?side2 A10.out).mono ?_); (case side1 => repeat (first | exact (by repeat (first | (with_reducible exact ae.out) | (with_reducible refine Kd.Bf ?_ _) | (with_reducible refine Kd.Be ?_ _) | (with_reducible refine Kd.Bn ?_) | exact ae.out)) | (with_reducible refine Kd.Bf ?_ _) | (with_reducible refine Kd.Be ?_ _) | (with_reducible refine Kd.Bn ?_))); (case side2 => exact aC.out); rintro e w13 ⟨rfl, hb⟩; refine ⟨_, rfl, ?_⟩; have n0_ := Aa.mk (Kd.V_below (by (with_reducible repeat (first | apply Kd.V_alloc | apply Kd.V_drewN | apply Kd.V_drew)); exact ai.out) hb); have n1_ := Aa.mk (Kd.V_below (by (with_reducible repeat (first | apply Kd.V_alloc | apply Kd.V_drewN | apply Kd.V_drew)); exact aj.out) hb); have n2_ := Aa.mk (Kd.N_below (by (with_reducible repeat (first | apply Kd.N_alloc | apply Kd.N_drewN | apply Kd.N_drew)); exact ab.out) hb); have n3_ := Aa.mk (Kd.V_below (by (with_reducible repeat (first | apply Kd.V_alloc | apply Kd.V_drewN | apply Kd.V_drew)); exact HL232_0.out) hb); have n4_ := Aa.mk (Kd.C5 (by repeat (first | (with_reducible exact ae.out) | (with_reducible refine Kd.Bf ?_ _) | (with_reducible refine Kd.Be ?_ _) | (with_reducible refine Kd.Bn ?_) | exact ae.out)) hb); have n5_ := Aa.mk (Aj (lU HB.out) hb); clear ai; clear aj; clear ab; clear HL232_0; clear ae; clear HB; have ai := n0_; have aj := n1_; have ab := n2_; have HL232_0 := n3_; have ae := n4_; have HB := n5_; clear n0_ n1_ n2_ n3_ n4_ n5_; (try clear hb); (try clear hb2); (try clear hk); (try clear hi)))
       go_ret2
       exact ⟨_, by first | rfl | (simp [Aw, Av] <;> rfl) | (simp [*, Aw, Av] <;> rfl), by first | exact Kd.C2 _ _ _ _ _ | exact Kd.N_nil _ _ _ _ _ | exact Kd.V_nil _ _ _ _ _ | exact Kd.Q_nil _ _ _ _ _ | exact Kd.S_nil _ _ _ _ _, by repeat (first | (with_reducible first | exact HB.out | apply Ad | apply Ab | apply Ac) | exact HB.out)⟩
     ·rw [if_neg c9] at H
      exact absurd H (by simp)
    ·rw [if_neg c8] at H
     exact absurd H (by simp)
   ·rw [if_neg c7] at H
    have aQ : decide (aa < (ag.length : Int)) = false := decide_eq_false c7
    clear c7
    replace H := Option.bind_eq_some_iff.mp H
    obtain ⟨aU, A140, H⟩ := H
    try dsimp only at H
    have A14 := Aa.mk A140
    clear A140
    replace H := Option.bind_eq_some_iff.mp H
    obtain ⟨⟨bx, bz⟩, A150, H⟩ := H
    try dsimp only at H
    have A15 := Aa.mk A150
    clear A150
    simp only [Option.some.injEq, Prod.mk.injEq] at H
    obtain ⟨rfl, rfl⟩ := H
    go_wp2_with (first | ((with_reducible refine Ap (f := 47) rfl ?_); refine Br (some 28) rfl rfl Try.func47 (by kernel_rfl) rfl #[.slice A0 l0.length c0, .slice A1 l1.length c1, .func (.func a2.toNat) #[] #[]] rfl (by (try simp only [List.map_toArray, List.map_cons, List.map_nil]); first | done | rfl | (simp only [List.length_drop, List.length_take]; rfl)) ?_; (with_reducible refine (Am.calls k1 (fun k_ => (((P0_ k_ ∨ P1_ k_) ∨ w.heap.size ≤ k_) ∧ some k_ ≠ (.slice Ao6 ag.length co6 : Value).ownBlock)) _ _ l0 (fun k_ => (((P0_ k_ ∨ P1_ k_) ∨ w.heap.size ≤ k_) ∧ some k_ ≠ (.slice Ao6 ag.length co6 : Value).ownBlock)) _ _ l1 a2 aU _ ?side1 ?side2 A14.out).mono ?_); (case side1 => exact ai.out); (case side2 => exact aj.out); rintro e w16 ⟨v235, rfl, ho0, hb⟩; refine ⟨_, rfl, ?_⟩; have n0_ := Aa.mk (Kd.V_elder' (by (with_reducible repeat (first | apply Kd.V_alloc | apply Kd.V_drewN | apply Kd.V_drew)); exact ai.out) (Kd.N_base ho0) hb); have n1_ := Aa.mk (Kd.V_elder' (by (with_reducible repeat (first | apply Kd.V_alloc | apply Kd.V_drewN | apply Kd.V_drew)); exact aj.out) (Kd.N_base ho0) hb); have n2_ := Aa.mk (Kd.N_elder' (by (with_reducible repeat (first | apply Kd.N_alloc | apply Kd.N_drewN | apply Kd.N_drew)); exact ab.out) (Kd.N_base ho0) hb); have n3_ := Aa.mk (Kd.N_lower (Kd.N_mono (ok' := fun k_ => ((P0_ k_ ∨ P1_ k_) ∨ w.heap.size ≤ k_) ∧ some k_ ≠ (.slice Ao6 ag.length co6 : Value).ownBlock) ho0 (fun k_ hk_ => ⟨Or.elim hk_ (fun hs_ => Or.elim hs_ (fun hs_ => hs_.1) (fun hs_ => hs_.1)) (fun hn_ => (.inr (Nat.le_trans (Ae (lU HB.out)) hn_))), Or.elim hk_ (fun hs_ => Or.elim hs_ (fun hs_ => hs_.2) (fun hs_ => hs_.2)) (fun hn_ => (Kd.fresh' (Kd.N_lt (by (with_reducible repeat (first | apply Kd.N_alloc | apply Kd.N_drewN | apply Kd.N_drew)); exact ab.out)) k_ hn_))⟩)) (Ae (lU HB.out))); have n4_ := Aa.mk (Aj (lU HB.out) hb); clear ai; clear aj; clear ab; clear HB; have ai := n0_; have aj := n1_; have ab := n2_; have aw := n3_; have HB := n4_; clear n0_ n1_ n2_ n3_ n4_; (try clear hb); (try clear hb2); (try clear hk); (try clear hi); (try clear ho0); obtain ⟨bB, bC, bD⟩ := Kd.N_slice aw.out; subst bD) | ((with_reducible refine Ap (f := 46) rfl ?_); refine Br (some 29) rfl rfl Try.func46 (by kernel_rfl) rfl #[.slice bB aU.length bC] rfl (by (try simp only [List.map_toArray, List.map_cons, List.map_nil]); first | done | rfl | (simp only [List.length_drop, List.length_take]; rfl)) ?_; (with_reducible refine (Bh.calls k1 _ _ aU bx bz _ ?side1 ?side2 A15.out).mono ?_); (case side1 => repeat (first | exact (Kd.N_reads' aw.out).2.2 | (with_reducible refine Kd.Bf ?_ _) | (with_reducible refine Kd.Be ?_ _) | (with_reducible refine Kd.Bn ?_))); (case side2 => exact (Kd.N_reads' aw.out).2.1); rintro e w18 ⟨v239, rfl, ho0, hb⟩; refine ⟨_, rfl, ?_⟩; have n0_ := Aa.mk (Kd.V_elder' (by (with_reducible repeat (first | apply Kd.V_alloc | apply Kd.V_drewN | apply Kd.V_drew)); exact ai.out) (Kd.An ho0) hb); have n1_ := Aa.mk (Kd.V_elder' (by (with_reducible repeat (first | apply Kd.V_alloc | apply Kd.V_drewN | apply Kd.V_drew)); exact aj.out) (Kd.An ho0) hb); have n2_ := Aa.mk (Kd.N_elder' (by (with_reducible repeat (first | apply Kd.N_alloc | apply Kd.N_drewN | apply Kd.N_drew)); exact ab.out) (Kd.An ho0) hb); have n3_ := Aa.mk (Kd.N_elder' (by (with_reducible repeat (first | apply Kd.N_alloc | apply Kd.N_drewN | apply Kd.N_drew)); exact aw.out) (Kd.An ho0) hb); have n4_ := Aa.mk (Kd.Bt (Kd.Cg (M := fun k_ => (w.heap.size ≤ k_)) ho0 (Ae (lU HB.out)) (fun k_ h_ => h_)) (Ae (lU HB.out))); have n5_ := Aa.mk (Aj (lU HB.out) hb); clear ai; clear aj; clear ab; clear aw; clear HB; have ai := n0_; have aj := n1_; have ab := n2_; have aw := n3_; have bi := n4_; have HB := n5_; clear n0_ n1_ n2_ n3_ n4_ n5_; (try clear hb); (try clear hb2); (try clear hk); (try clear hi); (try clear ho0)))
    go_ret2
    exact ⟨_, by first | rfl | (simp [Aw, Av] <;> rfl) | (simp [*, Aw, Av] <;> rfl), by exact rU <| Kd.Bb bi.out (fun _ hk => hk.1), by repeat (first | (with_reducible first | exact HB.out | apply Ad | apply Ab | apply Ac) | exact HB.out)⟩

def Ca.l0 : Nat → List (S58) → List (S58) → Int → List (List (S58)) → Int → Int → Option (Bool × Int)
 | 0, _, _, _, _, _, _ => none
 | k + 1, x0, x1, x2, x13, x14, x15 => if x15 < x14 then (if 0 ≤ x15 then (if x15 < (x13.length : Int) then ((Bg.f k (rd_L5 x13 x15)).bind fun av => (if av = 0 then (Ca.l0 k x0 x1 x2 x13 x14 (wrap64 (x15 + 1))) else (some (false, av)))) else (none)) else (none)) else ((Am.f k x0 x1 x2).bind fun bg => (some (((bg.length : Int) == 0), 0)))
def Ca.f (k : Nat) (l0 : List (S58)) (l1 : List (S58)) (a2 : Int) : Option (Bool × Int) := (some (([l0, l1] : List (List (S58))) : List (List (S58)))).bind fun ah => (Ca.l0 k l0 l1 a2 ah (ah.length : Int) 0)
set_option maxHeartbeats 8000000 in
set_option maxRecDepth 100000 in
theorem Ca.calls (k : Nat) (P0_ : Nat → Prop) (A0 : Option Addr) (c0 : Nat) (l0 : List (S58)) (P1_ : Nat → Prop) (A1 : Option Addr) (c1 : Nat) (l1 : List (S58)) (a2 : Int) (r1 : Bool) (r2 : Int) (w : World) (hs0 : Kd.V k58 58 w w.heap.size (fun k_ => P0_ k_) (.slice A0 l0.length c0) l0) (hs1 : Kd.V k58 58 w w.heap.size (fun k_ => P1_ k_) (.slice A1 l1.length c1) l1) (h : Ca.f k l0 l1 a2 = some (r1, r2)) (hk_ : Aa (IsKeep a2) := by first | assumption | exact ⟨by decide⟩) :
  Calls Try.prog 60 #[.slice A0 l0.length c0, .slice A1 l1.length c1, .func (.func a2.toNat) #[] #[]] w fun e w' => e = .returned (.tuple #[.bool r1, .int .i64 r2]) ∧ Below w.heap.size w w' := by
 have HO0 := Aa.mk (show Kd.V k58 58 w w.heap.size (fun k_ => ((P0_ k_ ∨ P1_ k_) ∨ w.heap.size ≤ k_)) (.slice A0 l0.length c0) l0 from Kd.V_mono hs0 (fun k_ hk => .inl (.inl hk)))
 have HO1 := Aa.mk (show Kd.V k58 58 w w.heap.size (fun k_ => ((P0_ k_ ∨ P1_ k_) ∨ w.heap.size ≤ k_)) (.slice A1 l1.length c1) l1 from Kd.V_mono hs1 (fun k_ hk => .inl (.inr hk)))
 have HB := Aa.mk (Below.refl w.heap.size w)
 have H : ((some (([l0, l1] : List (List (S58))) : List (List (S58)))).bind fun ah => (Ca.l0 k l0 l1 a2 ah (ah.length : Int) 0)) = some (r1, r2) := h
 clear h
 obtain ⟨ah, aY⟩ : ∃ y_ : List (List (S58)), y_ = (([l0, l1] : List (List (S58)))) := ⟨_, rfl⟩
 (try rw [Option.bind_some] at H); try rw [← aY] at H
 have a9 := Aa.mk aY
 clear aY
 have H' := Aa.mk H
 clear H
 go_enter Try.func60, Try.ntmps60
 go_wp2_with (first | ((with_reducible refine Bj (N := 13) rfl ?_); refine Kd.N_lit (Kd.slice 58 k58) _ 22 ?hg (N' := 13) ?hd (xs := ([l0, l1] : List (List (S58)))) (inner := [.slice A0 l0.length c0, .slice A1 l1.length c1]) (ok := (fun k_ => ((P0_ k_ ∨ P1_ k_) ∨ w.heap.size ≤ k_))) (okp := (fun k_ => ((P0_ k_ ∨ P1_ k_) ∨ w.heap.size ≤ k_))) ?hr ?hp (fun _ hk => hk) ((show ∀ k_, w.heap.size ≤ k_ → (fun k_ => ((P0_ k_ ∨ P1_ k_) ∨ w.heap.size ≤ k_)) k_ from fun k_ hk => (.inr (Nat.le_trans (Ae (lU HB.out)) hk))) _ (Nat.le_refl _)) (Below.refl _ _) (Nat.le_refl _) (by simp) ?_; (case hd => rfl); (case hg => rfl); (case hr => first | (go_simp; done) | (go_simp; rfl)); (case hp => exact (Reps.one (show Kd.FK (Kd.slice 58 k58) _ _ l0 [.slice A0 l0.length c0] from (Kd.FK_slice_mk (Kd.V_reads' (Kd.V_mono (ok' := (fun k_ => ((P0_ k_ ∨ P1_ k_) ∨ w.heap.size ≤ k_))) (HO0.out) (fun k_ hk => hk))).2.1 (Kd.V_F (Kd.V_mono (ok' := (fun k_ => ((P0_ k_ ∨ P1_ k_) ∨ w.heap.size ≤ k_))) (HO0.out) (fun k_ hk => hk))))) (Reps.one (show Kd.FK (Kd.slice 58 k58) _ _ l1 [.slice A1 l1.length c1] from (Kd.FK_slice_mk (Kd.V_reads' (Kd.V_mono (ok' := (fun k_ => ((P0_ k_ ∨ P1_ k_) ∨ w.heap.size ≤ k_))) (HO1.out) (fun k_ hk => hk))).2.1 (Kd.V_F (Kd.V_mono (ok' := (fun k_ => ((P0_ k_ ∨ P1_ k_) ∨ w.heap.size ≤ k_))) (HO1.out) (fun k_ hk => hk))))) (Reps.none _ _)))); intro v242 w4 ho5 hb hg_ hnew_; clear hg_ hnew_; (first | rw [← a9.out] at ho5 | (simp only [Int.reduceToNat] at ho5; rw [← a9.out] at ho5)); have n0_ := Aa.mk (Kd.V_elder' (by (with_reducible repeat (first | apply Kd.V_alloc | apply Kd.V_drewN | apply Kd.V_drew)); exact HO0.out) (Kd.N_base ho5) hb); have n1_ := Aa.mk (Kd.V_elder' (by (with_reducible repeat (first | apply Kd.V_alloc | apply Kd.V_drewN | apply Kd.V_drew)); exact HO1.out) (Kd.N_base ho5) hb); have n2_ := Aa.mk (Kd.N_lower ho5 (Ae (lU HB.out))); have n3_ := Aa.mk (Aj (lU HB.out) hb); clear HO0; clear HO1; clear HB; have HO0 := n0_; have HO1 := n1_; have ba := n2_; have HB := n3_; clear n0_ n1_ n2_ n3_; clear hb ho5; obtain ⟨Ao6, co6, eo6⟩ := Kd.N_slice ba.out; subst eo6))
 go_loopg [15] k (fun kq v15 w' => ∃ (aa : Int), v15 = .int .i64 aa ∧ Aa (Ca.l0 kq l0 l1 a2 ah (ah.length : Int) aa = some (r1, r2)) ∧ Aa (kq ≤ k) ∧ Aa (Kd.V k58 58 w' w.heap.size (fun k_ => ((P0_ k_ ∨ P1_ k_) ∨ w.heap.size ≤ k_) ∧ some k_ ≠ ((.slice Ao6 ah.length co6) : Value).ownBlock) (.slice A0 l0.length c0) l0) ∧ Aa (Kd.V k58 58 w' w.heap.size (fun k_ => ((P0_ k_ ∨ P1_ k_) ∨ w.heap.size ≤ k_) ∧ some k_ ≠ ((.slice Ao6 ah.length co6) : Value).ownBlock) (.slice A1 l1.length c1) l1) ∧ Aa (Kd.N (Kd.slice 58 k58) 22 w' w.heap.size (fun k_ => ((P0_ k_ ∨ P1_ k_) ∨ w.heap.size ≤ k_)) (.slice Ao6 ah.length co6) ah) ∧ Aa (Below w.heap.size w w'))
 case atStart => exact ⟨(0), (by first | rfl | (simp; done) | (simp [*]; done)), H', ⟨Nat.le_refl _⟩, ⟨by (with_reducible repeat (first | apply Kd.V_alloc | apply Kd.V_drewN | apply Kd.V_drew)); exact HO0.out⟩, ⟨by (with_reducible repeat (first | apply Kd.V_alloc | apply Kd.V_drewN | apply Kd.V_drew)); exact HO1.out⟩, ⟨by (with_reducible repeat (first | apply Kd.N_alloc | apply Kd.N_drewN | apply Kd.N_drew)); exact ba.out⟩, ⟨by repeat (first | (with_reducible first | exact HB.out | apply Ad | apply Ab | apply Ac) | exact HB.out)⟩⟩
 case round =>
  clear H'
  try clear c1
  try clear p2
  try clear c6
  obtain ⟨aa, rfl, HA, HK1, ai, aj, ab, HB⟩ := hrel
  cases gk with
  | zero => exact absurd HA.out (by simp [Ca.l0])
  | succ k1 =>
   have H := HA.out
   clear HA
   simp only [Ca.l0] at H
   by_cases c7 : aa < (ah.length : Int)
   ·rw [if_pos c7] at H
    have aQ : decide (aa < (ah.length : Int)) = true := decide_eq_true c7
    clear c7
    by_cases c8 : 0 ≤ aa
    ·rw [if_pos c8] at H
     have bv : decide (0 ≤ aa) = true := decide_eq_true c8
     clear c8
     by_cases c9 : aa < (ah.length : Int)
     ·rw [if_pos c9] at H
      have bw : decide (aa < (ah.length : Int)) = true := decide_eq_true c9
      clear c9
      replace H := Option.bind_eq_some_iff.mp H
      obtain ⟨av, A100, H⟩ := H
      try dsimp only at H
      have A10 := Aa.mk A100
      clear A100
      by_cases c11 : av = 0
      ·rw [if_pos c11] at H
       have aW : (av == 0) = true := beq_iff_eq.mpr c11
       have aX : (av != 0) = false := bne_eq_false_iff_eq.mpr c11
       clear c11
       have H' := Aa.mk H
       clear H
       have aD : 0 ≤ (aa : Int) := of_decide_eq_true (by with_reducible assumption)
       have aE : aa < (ah.length : Int) := of_decide_eq_true (by with_reducible assumption)
       obtain ⟨bj, aK, aM, e244, aG, ao, hi244_0⟩ := at_L5 (Kd.N_reads' ab.out).2.2 aa aD aE
       cases e244
       obtain ⟨ce244, hce244, hMe244, hcc244⟩ := Kd.N_get ab.out [] aa aD (by first | exact aE | exact of_decide_eq_true (by with_reducible assumption) | (have e_ := (Kd.N_reads' ab.out).1; omega))
       obtain ⟨ua244_0, uc244_0, rfl, ul244_0, ge244_0⟩ := Kd.FK_slice_open hMe244
       have hv244_0 := hcc244 0 _ rfl
       rw [Nat.add_zero, show ((Kd.slice 58 k58)).sz = 1 from rfl, Nat.mul_one] at hv244_0
       replace hv244_0 := Option.some.inj (hv244_0.symm.trans aG)
       injection hv244_0 with hva_ hvn_ hvc_
       rw [hva_] at ge244_0
       rw [hvc_] at ul244_0
       have HL244_0 := Aa.mk (show Kd.V k58 58 _ w.heap.size _ _ (rd_L5 ah aa) from Kd.V_mk ul244_0 ge244_0)
       clear hva_ hvn_ hvc_ ge244_0 ul244_0
       clear hcc244 hce244
       have af := Aa.mk hi244_0
       have aH := Aa.mk ao
       clear hi244_0 ao
       replace aD := eq_true aD
       replace aE := eq_true aE
       go_wp2_with (first | ((with_reducible refine Ap (f := 42) rfl ?_); refine Br (some 20) rfl rfl Try.func42 (by kernel_rfl) rfl #[.slice aK (rd_L5 ah aa).length aM] rfl (by (try simp only [List.map_toArray, List.map_cons, List.map_nil]); first | done | rfl | (simp only [List.length_drop, List.length_take]; rfl)) ?_; (with_reducible refine (Bg.calls k1 _ _ (rd_L5 ah aa) av _ ?side1 ?side2 A10.out).mono ?_); (case side1 => repeat (first | exact (by repeat (first | (with_reducible exact af.out) | (with_reducible refine Kd.Bf ?_ _) | (with_reducible refine Kd.Be ?_ _) | (with_reducible refine Kd.Bn ?_) | exact af.out)) | (with_reducible refine Kd.Bf ?_ _) | (with_reducible refine Kd.Be ?_ _) | (with_reducible refine Kd.Bn ?_))); (case side2 => exact aH.out); rintro e w12 ⟨rfl, hb⟩; refine ⟨_, rfl, ?_⟩; have n0_ := Aa.mk (Kd.V_below (by (with_reducible repeat (first | apply Kd.V_alloc | apply Kd.V_drewN | apply Kd.V_drew)); exact ai.out) hb); have n1_ := Aa.mk (Kd.V_below (by (with_reducible repeat (first | apply Kd.V_alloc | apply Kd.V_drewN | apply Kd.V_drew)); exact aj.out) hb); have n2_ := Aa.mk (Kd.N_below (by (with_reducible repeat (first | apply Kd.N_alloc | apply Kd.N_drewN | apply Kd.N_drew)); exact ab.out) hb); have n3_ := Aa.mk (Kd.V_below (by (with_reducible repeat (first | apply Kd.V_alloc | apply Kd.V_drewN | apply Kd.V_drew)); exact HL244_0.out) hb); have n4_ := Aa.mk (Kd.C5 (by repeat (first | (with_reducible exact af.out) | (with_reducible refine Kd.Bf ?_ _) | (with_reducible refine Kd.Be ?_ _) | (with_reducible refine Kd.Bn ?_) | exact af.out)) hb); have n5_ := Aa.mk (Aj (lU HB.out) hb); clear ai; clear aj; clear ab; clear HL244_0; clear af; clear HB; have ai := n0_; have aj := n1_; have ab := n2_; have HL244_0 := n3_; have af := n4_; have HB := n5_; clear n0_ n1_ n2_ n3_ n4_ n5_; (try clear hb); (try clear hb2); (try clear hk); (try clear hi)))
       go_roundg k1
       case measure => have := HK1.out; omega
       case rel => exact ⟨(wrap64 (aa + 1)), (by first | rfl | (simp; done) | (simp [*]; done)), H', ⟨by have := HK1.out; omega⟩, ⟨by (with_reducible repeat (first | apply Kd.V_alloc | apply Kd.V_drewN | apply Kd.V_drew)); exact ai.out⟩, ⟨by (with_reducible repeat (first | apply Kd.V_alloc | apply Kd.V_drewN | apply Kd.V_drew)); exact aj.out⟩, ⟨by (with_reducible repeat (first | apply Kd.N_alloc | apply Kd.N_drewN | apply Kd.N_drew)); exact ab.out⟩, ⟨by repeat (first | (with_reducible first | exact HB.out | apply Ad | apply Ab | apply Ac) | exact HB.out)⟩⟩
      ·rw [if_neg c11] at H
       have aW : (av == 0) = false := beq_eq_false_iff_ne.mpr c11
       have aX : (av != 0) = true := bne_iff_ne.mpr c11
       simp only [Option.some.injEq, Prod.mk.injEq] at H
       obtain ⟨rfl, rfl⟩ := H
       have aD : 0 ≤ (aa : Int) := of_decide_eq_true (by with_reducible assumption)
       have aE : aa < (ah.length : Int) := of_decide_eq_true (by with_reducible assumption)
       obtain ⟨bj, aK, aM, e244, aG, ao, hi244_0⟩ := at_L5 (Kd.N_reads' ab.out).2.2 aa aD aE
       cases e244
       obtain ⟨ce244, hce244, hMe244, hcc244⟩ := Kd.N_get ab.out [] aa aD (by first | exact aE | exact of_decide_eq_true (by with_reducible assumption) | (have e_ := (Kd.N_reads' ab.out).1; omega))
       obtain ⟨ua244_0, uc244_0, rfl, ul244_0, ge244_0⟩ := Kd.FK_slice_open hMe244
       have hv244_0 := hcc244 0 _ rfl
       rw [Nat.add_zero, show ((Kd.slice 58 k58)).sz = 1 from rfl, Nat.mul_one] at hv244_0
       replace hv244_0 := Option.some.inj (hv244_0.symm.trans aG)
       injection hv244_0 with hva_ hvn_ hvc_
       rw [hva_] at ge244_0
       rw [hvc_] at ul244_0
       have HL244_0 := Aa.mk (show Kd.V k58 58 _ w.heap.size _ _ (rd_L5 ah aa) from Kd.V_mk ul244_0 ge244_0)
       clear hva_ hvn_ hvc_ ge244_0 ul244_0
       clear hcc244 hce244
       have af := Aa.mk hi244_0
       have aH := Aa.mk ao
       clear hi244_0 ao
       replace aD := eq_true aD
       replace aE := eq_true aE
       go_wp2_with (first | ((with_reducible refine Ap (f := 42) rfl ?_); refine Br (some 20) rfl rfl Try.func42 (by kernel_rfl) rfl #[.slice aK (rd_L5 ah aa).length aM] rfl (by (try simp only [List.map_toArray, List.map_cons, List.map_nil]); first | done | rfl | (simp only [List.length_drop, List.length_take]; rfl)) ?_; (with_reducible refine (Bg.calls k1 _ _ (rd_L5 ah aa) av _ ?side1 ?side2 A10.out).mono ?_); (case side1 => repeat (first | exact (by repeat (first | (with_reducible exact af.out) | (with_reducible refine Kd.Bf ?_ _) | (with_reducible refine Kd.Be ?_ _) | (with_reducible refine Kd.Bn ?_) | exact af.out)) | (with_reducible refine Kd.Bf ?_ _) | (with_reducible refine Kd.Be ?_ _) | (with_reducible refine Kd.Bn ?_))); (case side2 => exact aH.out); rintro e w13 ⟨rfl, hb⟩; refine ⟨_, rfl, ?_⟩; have n0_ := Aa.mk (Kd.V_below (by (with_reducible repeat (first | apply Kd.V_alloc | apply Kd.V_drewN | apply Kd.V_drew)); exact ai.out) hb); have n1_ := Aa.mk (Kd.V_below (by (with_reducible repeat (first | apply Kd.V_alloc | apply Kd.V_drewN | apply Kd.V_drew)); exact aj.out) hb); have n2_ := Aa.mk (Kd.N_below (by (with_reducible repeat (first | apply Kd.N_alloc | apply Kd.N_drewN | apply Kd.N_drew)); exact ab.out) hb); have n3_ := Aa.mk (Kd.V_below (by (with_reducible repeat (first | apply Kd.V_alloc | apply Kd.V_drewN | apply Kd.V_drew)); exact HL244_0.out) hb); have n4_ := Aa.mk (Kd.C5 (by repeat (first | (with_reducible exact af.out) | (with_reducible refine Kd.Bf ?_ _) | (with_reducible refine Kd.Be ?_ _) | (with_reducible refine Kd.Bn ?_) | exact af.out)) hb); have n5_ := Aa.mk (Aj (lU HB.out) hb); clear ai; clear aj; clear ab; clear HL244_0; clear af; clear HB; have ai := n0_; have aj := n1_; have ab := n2_; have HL244_0 := n3_; have af := n4_; have HB := n5_; clear n0_ n1_ n2_ n3_ n4_ n5_; (try clear hb); (try clear hb2); (try clear hk); (try clear hi)))
       go_ret2
       exact ⟨by first | rfl | (simp [Aw, Av] <;> rfl) | (simp [*, Aw, Av] <;> rfl), by repeat (first | (with_reducible first | exact HB.out | apply Ad | apply Ab | apply Ac) | exact HB.out)⟩
     ·rw [if_neg c9] at H
      exact absurd H (by simp)
    ·rw [if_neg c8] at H
     exact absurd H (by simp)
   ·rw [if_neg c7] at H
    have aQ : decide (aa < (ah.length : Int)) = false := decide_eq_false c7
    clear c7
    replace H := Option.bind_eq_some_iff.mp H
    obtain ⟨bg, A140, H⟩ := H
    try dsimp only at H
    have A14 := Aa.mk A140
    clear A140
    simp only [Option.some.injEq, Prod.mk.injEq] at H
    obtain ⟨rfl, rfl⟩ := H
    go_wp2_with (first | ((with_reducible refine Ap (f := 47) rfl ?_); refine Br (some 28) rfl rfl Try.func47 (by kernel_rfl) rfl #[.slice A0 l0.length c0, .slice A1 l1.length c1, .func (.func a2.toNat) #[] #[]] rfl (by (try simp only [List.map_toArray, List.map_cons, List.map_nil]); first | done | rfl | (simp only [List.length_drop, List.length_take]; rfl)) ?_; (with_reducible refine (Am.calls k1 (fun k_ => (((P0_ k_ ∨ P1_ k_) ∨ w.heap.size ≤ k_) ∧ some k_ ≠ (.slice Ao6 ah.length co6 : Value).ownBlock)) _ _ l0 (fun k_ => (((P0_ k_ ∨ P1_ k_) ∨ w.heap.size ≤ k_) ∧ some k_ ≠ (.slice Ao6 ah.length co6 : Value).ownBlock)) _ _ l1 a2 bg _ ?side1 ?side2 A14.out).mono ?_); (case side1 => exact ai.out); (case side2 => exact aj.out); rintro e w15 ⟨v247, rfl, ho0, hb⟩; refine ⟨_, rfl, ?_⟩; have n0_ := Aa.mk (Kd.V_elder' (by (with_reducible repeat (first | apply Kd.V_alloc | apply Kd.V_drewN | apply Kd.V_drew)); exact ai.out) (Kd.N_base ho0) hb); have n1_ := Aa.mk (Kd.V_elder' (by (with_reducible repeat (first | apply Kd.V_alloc | apply Kd.V_drewN | apply Kd.V_drew)); exact aj.out) (Kd.N_base ho0) hb); have n2_ := Aa.mk (Kd.N_elder' (by (with_reducible repeat (first | apply Kd.N_alloc | apply Kd.N_drewN | apply Kd.N_drew)); exact ab.out) (Kd.N_base ho0) hb); have n3_ := Aa.mk (Kd.N_lower (Kd.N_mono (ok' := fun k_ => ((P0_ k_ ∨ P1_ k_) ∨ w.heap.size ≤ k_) ∧ some k_ ≠ (.slice Ao6 ah.length co6 : Value).ownBlock) ho0 (fun k_ hk_ => ⟨Or.elim hk_ (fun hs_ => Or.elim hs_ (fun hs_ => hs_.1) (fun hs_ => hs_.1)) (fun hn_ => (.inr (Nat.le_trans (Ae (lU HB.out)) hn_))), Or.elim hk_ (fun hs_ => Or.elim hs_ (fun hs_ => hs_.2) (fun hs_ => hs_.2)) (fun hn_ => (Kd.fresh' (Kd.N_lt (by (with_reducible repeat (first | apply Kd.N_alloc | apply Kd.N_drewN | apply Kd.N_drew)); exact ab.out)) k_ hn_))⟩)) (Ae (lU HB.out))); have n4_ := Aa.mk (Aj (lU HB.out) hb); clear ai; clear aj; clear ab; clear HB; have ai := n0_; have aj := n1_; have ab := n2_; have bk := n3_; have HB := n4_; clear n0_ n1_ n2_ n3_ n4_; (try clear hb); (try clear hb2); (try clear hk); (try clear hi); (try clear ho0); obtain ⟨bO, bP, bE⟩ := Kd.N_slice bk.out; subst bE))
    go_ret2
    exact ⟨by first | rfl | (simp [Aw, Av] <;> rfl) | (simp [*, Aw, Av] <;> rfl), by repeat (first | (with_reducible first | exact HB.out | apply Ad | apply Ab | apply Ac) | exact HB.out)⟩


def Bw.l0 : Nat → List (S58) → Int → Int → Int → Int → List Int → Int → Int → Option ((List (S58)) × Int)
 | 0, _, _, _, _, _, _, _, _ => none
 | k + 1, x0, x1, x2, x3, x4, x24, x25, x26 => if x26 < x25 then (if 0 ≤ x26 then (if x26 < (x24.length : Int) then (if (rd x24 x26) < 0 then (some (([] : List (S58)), 61)) else (if (rd x24 x26) > 16384 then (some (([] : List (S58)), 61)) else (Bw.l0 k x0 x1 x2 x3 x4 x24 x25 (wrap64 (x26 + 1))))) else (none)) else (none)) else ((B1.f k x0 x1 x2 x3 x4).bind fun aT => ((Am.f k aT ([] : List (S58)) 49).bind fun aZ => ((Bh.f k aZ).bind fun bb => (some (bb.1, bb.2)))))
def Bw.f (k : Nat) (l0 : List (S58)) (a1 : Int) (a2 : Int) (a3 : Int) (a4 : Int) : Option ((List (S58)) × Int) := (Bg.f k l0).bind fun ap => (if ap = 0 then ((some (([a1, a2, a3, a4] : List Int) : List Int)).bind fun ak => (Bw.l0 k l0 a1 a2 a3 a4 ak (ak.length : Int) 0)) else (some (([] : List (S58)), ap)))
set_option maxHeartbeats 8000000 in
set_option maxRecDepth 100000 in
theorem Bw.calls (k : Nat) (A0 : Option Addr) (c0 : Nat) (l0 : List (S58)) (a1 : Int) (a2 : Int) (a3 : Int) (a4 : Int) (r1 : List (S58)) (r2 : Int) (w : World) (hr0 : Kd.C k58 w A0 l0.length l0) (hc0 : l0.length ≤ c0) (h : Bw.f k l0 a1 a2 a3 a4 = some (r1, r2)) :
  Calls Try.prog 17 #[.slice A0 l0.length c0, .int .i64 a1, .int .i64 a2, .int .i64 a3, .int .i64 a4] w fun e w' => ∃ v0_ : Value, e = .returned (.tuple #[v0_, .int .i64 r2]) ∧ Kd.R k58 58 w' w.heap.size (fun _ => True) v0_ r1 ∧ Below w.heap.size w w' := by
 have HR0 := Aa.mk hr0
 have HC0 := Aa.mk hc0
 clear hr0 hc0
 have HB := Aa.mk (Below.refl w.heap.size w)
 have H : ((Bg.f k l0).bind fun ap => (if ap = 0 then ((some (([a1, a2, a3, a4] : List Int) : List Int)).bind fun ak => (Bw.l0 k l0 a1 a2 a3 a4 ak (ak.length : Int) 0)) else (some (([] : List (S58)), ap)))) = some (r1, r2) := h
 clear h
 replace H := Option.bind_eq_some_iff.mp H
 obtain ⟨ap, A60, H⟩ := H
 try dsimp only at H
 have A6 := Aa.mk A60
 clear A60
 by_cases c7 : ap = 0
 ·rw [if_pos c7] at H
  have aQ : (ap == 0) = true := beq_iff_eq.mpr c7
  have bl : (ap != 0) = false := bne_eq_false_iff_eq.mpr c7
  clear c7
  obtain ⟨ak, a5⟩ : ∃ y_ : List Int, y_ = (([a1, a2, a3, a4] : List Int)) := ⟨_, rfl⟩
  (try rw [Option.bind_some] at H); try rw [← a5] at H
  have bc := Aa.mk a5
  clear a5
  have H' := Aa.mk H
  clear H
  go_enter Try.func17, Try.ntmps17
  go_wp2_with (first | ((with_reducible refine Ap (f := 42) rfl ?_); refine Br (some 16) rfl rfl Try.func42 (by kernel_rfl) rfl #[.slice A0 l0.length c0] rfl (by (try simp only [List.map_toArray, List.map_cons, List.map_nil]); first | done | rfl | (simp only [List.length_drop, List.length_take]; rfl)) ?_; (with_reducible refine (Bg.calls k _ _ l0 ap _ ?side1 ?side2 A6.out).mono ?_); (case side1 => repeat (first | exact HR0.out | (with_reducible refine Kd.Bf ?_ _) | (with_reducible refine Kd.Be ?_ _) | (with_reducible refine Kd.Bn ?_))); (case side2 => exact HC0.out); rintro e w8 ⟨rfl, hb⟩; refine ⟨_, rfl, ?_⟩; have n0_ := Aa.mk (Aj (lU HB.out) hb); clear HB; have HB := n0_; clear n0_; (try clear hb); (try clear hb2); (try clear hk); (try clear hi)) | ((with_reducible refine Bj (N := 24) rfl ?_); refine Kd.Cx (Kd.int .i64) _ 3 ?hg (N := 24) ?hd (xs := ([a1, a2, a3, a4] : List Int)) (inner := [.int .i64 a1, .int .i64 a2, .int .i64 a3, .int .i64 a4]) (ok := fun _ => True) (okp := fun _ => True) ?hr ?hp (fun _ hk => hk) trivial (Below.refl _ _) (Nat.le_refl _) (by simp) ?_; (case hd => rfl); (case hg => rfl); (case hr => first | (go_simp; done) | (go_simp; rfl)); (case hp => exact (Reps.one (show Kd.M (Kd.int .i64) _ _ _ a1 [.int .i64 a1] from rfl) (Reps.one (show Kd.M (Kd.int .i64) _ _ _ a2 [.int .i64 a2] from rfl) (Reps.one (show Kd.M (Kd.int .i64) _ _ _ a3 [.int .i64 a3] from rfl) (Reps.one (show Kd.M (Kd.int .i64) _ _ _ a4 [.int .i64 a4] from rfl) (Reps.none _ _)))))); intro v265 w9 ho10 hb hg_ hnew_; clear hg_ hnew_; (first | rw [← bc.out] at ho10 | (simp only [Int.reduceToNat] at ho10; rw [← bc.out] at ho10)); have n0_ := Aa.mk (Kd.Bt ho10 (Ae (lU HB.out))); have n1_ := Aa.mk (Aj (lU HB.out) hb); clear HB; have be := n0_; have HB := n1_; clear n0_ n1_; clear hb ho10; obtain ⟨bm, bn, bF⟩ := Kd.Bk be.out; subst bF))
  go_loopg [26] k (fun kq v26 w' => ∃ (ac : Int), v26 = .int .i64 ac ∧ Aa (Bw.l0 kq l0 a1 a2 a3 a4 ak (ak.length : Int) ac = some (r1, r2)) ∧ Aa (kq ≤ k) ∧ Aa (Kd.R (Kd.int .i64) 3 w' w.heap.size (fun _ => True) (.slice bm ak.length bn) ak) ∧ Aa (Below w.heap.size w w'))
  case atStart => exact ⟨(0), (by first | rfl | (simp; done) | (simp [*]; done)), H', ⟨Nat.le_refl _⟩, ⟨by exact rU <| be.out⟩, ⟨by repeat (first | (with_reducible first | exact HB.out | apply Ad | apply Ab | apply Ac) | exact HB.out)⟩⟩
  case round =>
   clear H'
   try clear c1
   try clear p2
   try clear c4
   try clear c7
   try clear aQ
   try clear bl
   obtain ⟨ac, rfl, HA, HK1, al, HB⟩ := hrel
   cases gk with
   | zero => exact absurd HA.out (by simp [Bw.l0])
   | succ k1 =>
    have H := HA.out
    clear HA
    simp only [Bw.l0] at H
    by_cases c12 : ac < (ak.length : Int)
    ·rw [if_pos c12] at H
     have bo : decide (ac < (ak.length : Int)) = true := decide_eq_true c12
     clear c12
     by_cases c13 : 0 ≤ ac
     ·rw [if_pos c13] at H
      have bM : decide (0 ≤ ac) = true := decide_eq_true c13
      clear c13
      by_cases c14 : ac < (ak.length : Int)
      ·rw [if_pos c14] at H
       have bN : decide (ac < (ak.length : Int)) = true := decide_eq_true c14
       clear c14
       by_cases c15 : (rd ak ac) < 0
       ·rw [if_pos c15] at H
        have bp : decide ((rd ak ac) < 0) = true := decide_eq_true c15
        clear c15
        simp only [Option.some.injEq, Prod.mk.injEq] at H
        obtain ⟨rfl, rfl⟩ := H
        have aq : 0 ≤ (ac : Int) := of_decide_eq_true (by with_reducible assumption)
        have ar : ac < (ak.length : Int) := of_decide_eq_true (by with_reducible assumption)
        obtain ⟨bf, e267, aN⟩ := Kd.at_int (Kd.As al.out).2.2 ac aq ar
        cases e267
        replace aq := eq_true aq
        replace ar := eq_true ar
        go_wp2
        go_ret2
        exact ⟨_, by first | rfl | (simp [Aw, Av] <;> rfl) | (simp [*, Aw, Av] <;> rfl), by first | exact Kd.C2 _ _ _ _ _ | exact Kd.N_nil _ _ _ _ _ | exact Kd.V_nil _ _ _ _ _ | exact Kd.Q_nil _ _ _ _ _ | exact Kd.S_nil _ _ _ _ _, by repeat (first | (with_reducible first | exact HB.out | apply Ad | apply Ab | apply Ac) | exact HB.out)⟩
       ·rw [if_neg c15] at H
        have bp : decide ((rd ak ac) < 0) = false := decide_eq_false c15
        clear c15
        by_cases c16 : (rd ak ac) > 16384
        ·rw [if_pos c16] at H
         have bq : decide (16384 < (rd ak ac)) = true := decide_eq_true c16
         clear c16
         simp only [Option.some.injEq, Prod.mk.injEq] at H
         obtain ⟨rfl, rfl⟩ := H
         have aq : 0 ≤ (ac : Int) := of_decide_eq_true (by with_reducible assumption)
         have ar : ac < (ak.length : Int) := of_decide_eq_true (by with_reducible assumption)
         obtain ⟨bf, e267, aN⟩ := Kd.at_int (Kd.As al.out).2.2 ac aq ar
         cases e267
         replace aq := eq_true aq
         replace ar := eq_true ar
         go_wp2
         go_ret2
         exact ⟨_, by first | rfl | (simp [Aw, Av] <;> rfl) | (simp [*, Aw, Av] <;> rfl), by first | exact Kd.C2 _ _ _ _ _ | exact Kd.N_nil _ _ _ _ _ | exact Kd.V_nil _ _ _ _ _ | exact Kd.Q_nil _ _ _ _ _ | exact Kd.S_nil _ _ _ _ _, by repeat (first | (with_reducible first | exact HB.out | apply Ad | apply Ab | apply Ac) | exact HB.out)⟩
        ·rw [if_neg c16] at H
         have bq : decide (16384 < (rd ak ac)) = false := decide_eq_false c16
         clear c16
         have H' := Aa.mk H
         clear H
         have aq : 0 ≤ (ac : Int) := of_decide_eq_true (by with_reducible assumption)
         have ar : ac < (ak.length : Int) := of_decide_eq_true (by with_reducible assumption)
         obtain ⟨bf, e267, aN⟩ := Kd.at_int (Kd.As al.out).2.2 ac aq ar
         cases e267
         replace aq := eq_true aq
         replace ar := eq_true ar
         go_wp2
         go_roundg k1
         case measure => have := HK1.out; omega
         case rel => exact ⟨(wrap64 (ac + 1)), (by first | rfl | (simp; done) | (simp [*]; done)), H', ⟨by have := HK1.out; omega⟩, ⟨by exact rU <| al.out⟩, ⟨by repeat (first | (with_reducible first | exact HB.out | apply Ad | apply Ab | apply Ac) | exact HB.out)⟩⟩
      ·rw [if_neg c14] at H
       exact absurd H (by simp)
     ·rw [if_neg c13] at H
      exact absurd H (by simp)
    ·rw [if_neg c12] at H
     have bo : decide (ac < (ak.length : Int)) = false := decide_eq_false c12
     clear c12
     replace H := Option.bind_eq_some_iff.mp H
     obtain ⟨aT, A170, H⟩ := H
     try dsimp only at H
     have A17 := Aa.mk A170
     clear A170
     replace H := Option.bind_eq_some_iff.mp H
     obtain ⟨aZ, A180, H⟩ := H
     try dsimp only at H
     have A18 := Aa.mk A180
     clear A180
     replace H := Option.bind_eq_some_iff.mp H
     obtain ⟨⟨bG, bH⟩, A190, H⟩ := H
     try dsimp only at H
     have A19 := Aa.mk A190
     clear A190
     simp only [Option.some.injEq, Prod.mk.injEq] at H
     obtain ⟨rfl, rfl⟩ := H
     go_wp2_with (first | ((with_reducible refine Ap (f := 48) rfl ?_); refine Br (some 42) rfl rfl Try.func48 (by kernel_rfl) rfl #[.slice A0 l0.length c0, .int .i64 a1, .int .i64 a2, .int .i64 a3, .int .i64 a4] rfl (by (try simp only [List.map_toArray, List.map_cons, List.map_nil]); first | done | rfl | (simp only [List.length_drop, List.length_take]; rfl)) ?_; (with_reducible refine (B1.calls k1 _ _ l0 a1 a2 a3 a4 aT _ ?side1 ?side2 A17.out).mono ?_); (case side1 => repeat (first | exact (Kd.C5 HR0.out HB.out) | (with_reducible refine Kd.Bf ?_ _) | (with_reducible refine Kd.Be ?_ _) | (with_reducible refine Kd.Bn ?_))); (case side2 => exact HC0.out); rintro e w20 ⟨v269, rfl, ho0, hb⟩; refine ⟨_, rfl, ?_⟩; have n0_ := Aa.mk (Kd.Bm (by exact rU <| al.out) hb); have n1_ := Aa.mk (Kd.Bt ho0 (Ae (lU HB.out))); have n2_ := Aa.mk (Aj (lU HB.out) hb); clear al; clear HB; have al := n0_; have am := n1_; have HB := n2_; clear n0_ n1_ n2_; (try clear hb); (try clear hb2); (try clear hk); (try clear hi); (try clear ho0); obtain ⟨br, bs, bI⟩ := Kd.Bk am.out; subst bI) | ((with_reducible refine Ap (f := 47) rfl ?_); refine Br (some 43) rfl rfl Try.func47 (by kernel_rfl) rfl #[.slice br aT.length bs, .slice none 0 0, .func (.func (49 : Int).toNat) #[] #[]] rfl (by (try simp only [List.map_toArray, List.map_cons, List.map_nil]); first | done | rfl | (simp only [List.length_drop, List.length_take]; rfl)) ?_; (refine (Am.calls k1 (fun k_ => some k_ = (.slice br aT.length bs : Value).ownBlock) _ _ aT (fun k_ => False) _ _ ([] : List (S58)) 49 aZ _ ?side1 ?side2 A18.out).mono ?_); (case side1 => exact Kd.R_V (Kd.Ct rfl (Kd.B4 (am.out) (Kd.Cj al.out) (by decide)))); (case side2 => exact Kd.V_nil _ _ _ _ _); rintro e w22 ⟨v272, rfl, ho0, hb⟩; refine ⟨_, rfl, ?_⟩; have n0_ := Aa.mk (Kd.Bm (by exact rU <| al.out) hb); have n1_ := Aa.mk (Kd.Bm (by exact rU <| am.out) hb); have n2_ := Aa.mk (Kd.N_lower (Kd.N_mono (ok' := fun k_ => some k_ ≠ (.slice bm ak.length bn : Value).ownBlock) ho0 (fun k_ hk_ => Or.elim hk_ (fun hs_ => Or.elim hs_ (fun hs_ => ((Kd.B4 (am.out) (Kd.Cj al.out) (by decide)).1 k_ hs_.symm).2) (fun hs_ => (hs_).elim)) (fun hn_ => (Kd.fresh' (Kd.Bs (by exact rU <| al.out)) k_ hn_)))) (Ae (lU HB.out))); have n3_ := Aa.mk (Aj (lU HB.out) hb); clear al; clear am; clear HB; have al := n0_; have am := n1_; have ax := n2_; have HB := n3_; clear n0_ n1_ n2_ n3_; (try clear hb); (try clear hb2); (try clear hk); (try clear hi); (try clear ho0); obtain ⟨bJ, bK, bL⟩ := Kd.N_slice ax.out; subst bL) | ((with_reducible refine Ap (f := 46) rfl ?_); refine Br (some 44) rfl rfl Try.func46 (by kernel_rfl) rfl #[.slice bJ aZ.length bK] rfl (by (try simp only [List.map_toArray, List.map_cons, List.map_nil]); first | done | rfl | (simp only [List.length_drop, List.length_take]; rfl)) ?_; (with_reducible refine (Bh.calls k1 _ _ aZ bG bH _ ?side1 ?side2 A19.out).mono ?_); (case side1 => repeat (first | exact (Kd.N_reads' ax.out).2.2 | (with_reducible refine Kd.Bf ?_ _) | (with_reducible refine Kd.Be ?_ _) | (with_reducible refine Kd.Bn ?_))); (case side2 => exact (Kd.N_reads' ax.out).2.1); rintro e w24 ⟨v276, rfl, ho0, hb⟩; refine ⟨_, rfl, ?_⟩; have n0_ := Aa.mk (Kd.Bm (by exact rU <| al.out) hb); have n1_ := Aa.mk (Kd.Ao (by exact rU <| am.out) (Kd.An ho0) hb); have n2_ := Aa.mk (Kd.N_elder' (by (with_reducible repeat (first | apply Kd.N_alloc | apply Kd.N_drewN | apply Kd.N_drew)); exact ax.out) (Kd.An ho0) hb); have n3_ := Aa.mk (Kd.Bt (Kd.Az ho0 (Kd.Bs (by exact rU <| am.out))) (Ae (lU HB.out))); have n4_ := Aa.mk (Aj (lU HB.out) hb); clear al; clear am; clear ax; clear HB; have al := n0_; have am := n1_; have ax := n2_; have bu := n3_; have HB := n4_; clear n0_ n1_ n2_ n3_ n4_; (try clear hb); (try clear hb2); (try clear hk); (try clear hi); (try clear ho0)))
     go_ret2
     exact ⟨_, by first | rfl | (simp [Aw, Av] <;> rfl) | (simp [*, Aw, Av] <;> rfl), by exact rU <| Kd.Bb bu.out (fun _ hk => trivial), by repeat (first | (with_reducible first | exact HB.out | apply Ad | apply Ab | apply Ac) | exact HB.out)⟩
 ·rw [if_neg c7] at H
  have aQ : (ap == 0) = false := beq_eq_false_iff_ne.mpr c7
  have bl : (ap != 0) = true := bne_iff_ne.mpr c7
  simp only [Option.some.injEq, Prod.mk.injEq] at H
  obtain ⟨rfl, rfl⟩ := H
  go_enter Try.func17, Try.ntmps17
  go_wp2_with (first | ((with_reducible refine Ap (f := 42) rfl ?_); refine Br (some 16) rfl rfl Try.func42 (by kernel_rfl) rfl #[.slice A0 l0.length c0] rfl (by (try simp only [List.map_toArray, List.map_cons, List.map_nil]); first | done | rfl | (simp only [List.length_drop, List.length_take]; rfl)) ?_; (with_reducible refine (Bg.calls k _ _ l0 ap _ ?side1 ?side2 A6.out).mono ?_); (case side1 => repeat (first | exact HR0.out | (with_reducible refine Kd.Bf ?_ _) | (with_reducible refine Kd.Be ?_ _) | (with_reducible refine Kd.Bn ?_))); (case side2 => exact HC0.out); rintro e w25 ⟨rfl, hb⟩; refine ⟨_, rfl, ?_⟩; have n0_ := Aa.mk (Aj (lU HB.out) hb); clear HB; have HB := n0_; clear n0_; (try clear hb); (try clear hb2); (try clear hk); (try clear hi)))
  go_ret2
  exact ⟨_, by first | rfl | (simp [Aw, Av] <;> rfl) | (simp [*, Aw, Av] <;> rfl), by first | exact Kd.C2 _ _ _ _ _ | exact Kd.N_nil _ _ _ _ _ | exact Kd.V_nil _ _ _ _ _ | exact Kd.Q_nil _ _ _ _ _ | exact Kd.S_nil _ _ _ _ _, by repeat (first | (with_reducible first | exact HB.out | apply Ad | apply Ab | apply Ac) | exact HB.out)⟩



end Go.Proofs.Ytobdfiglgdbecaa.PGA

