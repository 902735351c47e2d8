import Derived.Test.YtobdfiglgdbecaaYPGAx0
import Derived.Test.YtobdfiglgdbecaaYPGAx1
import Derived.Test.YtobdfiglgdbecaaYDI
import Derived.Test.YtobdfiglgdbecaaYIN
import Derived.Test.YtobdfiglgdbecaaYKP
import Derived.Test.YtobdfiglgdbecaaYPGBx1
namespace Go.Proofs.Ytobdfiglgdbecaa.PGA
open Go.Proofs.Ytobdfiglgdbecaa.PGB
open Go.RowKit Go.Proofs.YtobdfiglgdbecaaW.PrintWords Go.Proofs.YtobdfiglgdbecaaW.PrintLast Go.Proofs.YtobdfiglgdbecaaW.PrintMore
attribute [local go_sem] max2_int min2_int max_two min_two max_three min_three max_four min_four
set_option linter.unusedVariables false
set_option linter.unusedSimpArgs false

attribute [local go_sem high] eqA93
mutual
def Ay.l0 : Nat → List (S93) → List (S93) → Int → List Int → List (S93) → Int → Int → Option ((List (S93)))
 | 0, _, _, _, _, _, _, _ => none
 | k + 1, x0, x1, x2, x7, x17, x18, x19 => if x19 < x18 then (if 0 ≤ x19 then (if x19 < (x17.length : Int) then ((some (([(rd_T93 x17 x19).f0, (rd_T93 x17 x19).f1] : List Int) : List Int)).bind fun aQ => (if x7.length + aQ.length < 17592186044416 then (Ay.l0 k x0 x1 x2 (x7 ++ aQ) x17 x18 (wrap64 (x19 + 1))) else (none))) else (none)) else (none)) else ((Cb.f x7).bind fun ac => (Ay.l1 k x0 x1 x2 ac ([] : List (S93)) 0))
def Ay.l1 : Nat → List (S93) → List (S93) → Int → List Int → List (S93) → Int → Option ((List (S93)))
 | 0, _, _, _, _, _, _ => none
 | k + 1, x0, x1, x2, x7, x10, x11 => if (wrap64 (x11 + 1)) < (x7.length : Int) then (if 0 ≤ x11 then (if x11 < (x7.length : Int) then ((Cp.f x0 (rd x7 x11)).bind fun az => ((Cp.f x1 (rd x7 x11)).bind fun aA => ((Cm.f x2 az aA).bind fun bI => (if bI = true then (if (x10.length : Int) > 0 then (if 0 ≤ (wrap64 ((x10.length : Int) - 1)) then (if (wrap64 ((x10.length : Int) - 1)) < (x10.length : Int) then (if ((rd_T93 x10 (wrap64 ((x10.length : Int) - 1))).f1) = (rd x7 x11) then (if 0 ≤ (wrap64 (x11 + 1)) then (Ay.l1 k x0 x1 x2 x7 (x10.set ((wrap64 ((x10.length : Int) - 1)) : Int).toNat (⟨(rd_T93 x10 (wrap64 ((x10.length : Int) - 1))).f0, rd x7 (wrap64 (x11 + 1))⟩ : S93)) (wrap64 (x11 + 1))) else (none)) else (if 0 ≤ (wrap64 (x11 + 1)) then (if x10.length < 8796093022208 then (Ay.l1 k x0 x1 x2 x7 (x10 ++ [(⟨rd x7 x11, rd x7 (wrap64 (x11 + 1))⟩ : S93)]) (wrap64 (x11 + 1))) else (none)) else (none))) else (none)) else (none)) else (if 0 ≤ (wrap64 (x11 + 1)) then (if x10.length < 8796093022208 then (Ay.l1 k x0 x1 x2 x7 (x10 ++ [(⟨rd x7 x11, rd x7 (wrap64 (x11 + 1))⟩ : S93)]) (wrap64 (x11 + 1))) else (none)) else (none))) else (Ay.l1 k x0 x1 x2 x7 x10 (wrap64 (x11 + 1))))))) else (none)) else (none)) else (some x10)
end
def Ay.f (k : Nat) (l0 : List (S93)) (l1 : List (S93)) (a2 : Int) : Option ((List (S93))) := (Bt.f k (([l0, l1] : List (List (S93))))).bind fun ak => (Ay.l0 k l0 l1 a2 ([] : List Int) ak (ak.length : Int) 0)
set_option maxHeartbeats 8000000 in
set_option maxRecDepth 100000 in
theorem Ay.calls (k : Nat) (P0_ : Nat → Prop) (A0 : Option Addr) (c0 : Nat) (l0 : List (S93)) (P1_ : Nat → Prop) (A1 : Option Addr) (c1 : Nat) (l1 : List (S93)) (a2 : Int) (r : List (S93)) (w : World) (hs0 : Kd.V k93 93 w w.heap.size (fun k_ => P0_ k_) (.slice A0 l0.length c0) l0) (hs1 : Kd.V k93 93 w w.heap.size (fun k_ => P1_ k_) (.slice A1 l1.length c1) l1) (h : Ay.f k l0 l1 a2 = some r) (hk_ : Aa (IsKeep a2) := by first | assumption | exact ⟨by decide⟩) :
  Calls Try.prog 73 #[.slice A0 l0.length c0, .slice A1 l1.length c1, .func (.func a2.toNat) #[] #[]] w fun e w' => ∃ v0_ : Value, e = .returned (v0_) ∧ Kd.R k93 93 w' w.heap.size (fun k_ => (w.heap.size ≤ k_)) v0_ r ∧ Below w.heap.size w w' := by
 have hu93 := Try.underlying93
 have HO0 := Aa.mk (show Kd.V k93 93 w w.heap.size (fun k_ => ((P0_ k_ ∨ P1_ k_) ∨ w.heap.size ≤ k_)) (.slice A0 l0.length c0) l0 from Kd.V_mono hs0 (fun k_ hk => .inl (.inl hk)))
 have HO1 := Aa.mk (show Kd.V k93 93 w w.heap.size (fun k_ => ((P0_ k_ ∨ P1_ k_) ∨ w.heap.size ≤ k_)) (.slice A1 l1.length c1) l1 from Kd.V_mono hs1 (fun k_ hk => .inl (.inr hk)))
 have HB := Aa.mk (Below.refl w.heap.size w)
 have H : ((Bt.f k (([l0, l1] : List (List (S93))))).bind fun ak => (Ay.l0 k l0 l1 a2 ([] : List Int) ak (ak.length : Int) 0)) = some r := h
 clear h
 obtain ⟨bX, bf⟩ : ∃ y_ : List (List (S93)), y_ = (([l0, l1] : List (List (S93)))) := ⟨_, rfl⟩
 (try rw [Option.bind_some] at H); try rw [← bf] at H
 have bC := Aa.mk bf
 clear bf
 replace H := Option.bind_eq_some_iff.mp H
 obtain ⟨ak, A40, H⟩ := H
 try dsimp only at H
 have A4 := Aa.mk A40
 clear A40
 have H' := Aa.mk H
 clear H
 go_enter Try.func73, Try.ntmps73
 go_wp2_with (first | ((with_reducible refine Bj (N := 16) rfl ?_); refine Kd.N_lit (Kd.slice 93 k93) _ 89 ?hg (N' := 16) ?hd (xs := ([l0, l1] : List (List (S93)))) (inner := [.slice A0 l0.length c0, .slice A1 l1.length c1]) (ok := (fun k_ => ((P0_ k_ ∨ P1_ k_) ∨ w.heap.size ≤ k_))) (okp := (fun k_ => ((P0_ k_ ∨ P1_ k_) ∨ w.heap.size ≤ k_))) ?hr ?hp (fun _ hk => hk) ((show ∀ k_, w.heap.size ≤ k_ → (fun k_ => ((P0_ k_ ∨ P1_ k_) ∨ w.heap.size ≤ k_)) k_ from fun k_ hk => (.inr (Nat.le_trans (Ag (lU HB.out)) hk))) _ (Nat.le_refl _)) (Below.refl _ _) (Nat.le_refl _) (by simp) ?_; (case hd => rfl); (case hg => rfl); (case hr => first | (go_simp; done) | (go_simp; rfl)); (case hp => exact (Reps.one (show Kd.FK (Kd.slice 93 k93) _ _ l0 [.slice A0 l0.length c0] from (Kd.FK_slice_mk (Kd.V_reads' (Kd.V_mono (ok' := (fun k_ => ((P0_ k_ ∨ P1_ k_) ∨ w.heap.size ≤ k_))) (HO0.out) (fun k_ hk => hk))).2.1 (Kd.V_F (Kd.V_mono (ok' := (fun k_ => ((P0_ k_ ∨ P1_ k_) ∨ w.heap.size ≤ k_))) (HO0.out) (fun k_ hk => hk))))) (Reps.one (show Kd.FK (Kd.slice 93 k93) _ _ l1 [.slice A1 l1.length c1] from (Kd.FK_slice_mk (Kd.V_reads' (Kd.V_mono (ok' := (fun k_ => ((P0_ k_ ∨ P1_ k_) ∨ w.heap.size ≤ k_))) (HO1.out) (fun k_ hk => hk))).2.1 (Kd.V_F (Kd.V_mono (ok' := (fun k_ => ((P0_ k_ ∨ P1_ k_) ∨ w.heap.size ≤ k_))) (HO1.out) (fun k_ hk => hk))))) (Reps.none _ _)))); intro v158 w5 ho6 hb hg_ hnew_; clear hg_ hnew_; (first | rw [← bC.out] at ho6 | (simp only [Int.reduceToNat] at ho6; rw [← bC.out] at ho6)); have n0_ := Aa.mk (Kd.V_elder' (by (with_reducible repeat (first | apply Kd.V_alloc | apply Kd.V_drewN | apply Kd.V_drew)); exact HO0.out) (Kd.N_base ho6) hb); have n1_ := Aa.mk (Kd.V_elder' (by (with_reducible repeat (first | apply Kd.V_alloc | apply Kd.V_drewN | apply Kd.V_drew)); exact HO1.out) (Kd.N_base ho6) hb); have n2_ := Aa.mk (Kd.N_lower ho6 (Ag (lU HB.out))); have n3_ := Aa.mk (Ak (lU HB.out) hb); clear HO0; clear HO1; clear HB; have HO0 := n0_; have HO1 := n1_; have aK := n2_; have HB := n3_; clear n0_ n1_ n2_ n3_; clear hb ho6; obtain ⟨Ao7, co7, eo7⟩ := Kd.N_slice aK.out; subst eo7) | ((with_reducible refine As (f := 85) rfl ?_); refine Br (some 17) rfl rfl Try.func85 (by kernel_rfl) rfl #[.slice Ao7 bX.length co7] rfl (by (try simp only [List.map_toArray, List.map_cons, List.map_nil]); first | done | rfl | (simp only [List.length_drop, List.length_take]; rfl)) ?_; (with_reducible refine (Bt.calls k _ _ bX ak _ ?side1 ?side2 A4.out).mono ?_); (case side1 => repeat (first | exact (Kd.N_reads' aK.out).2.2 | (with_reducible refine Kd.Bi ?_ _) | (with_reducible refine Kd.Bh ?_ _) | (with_reducible refine Kd.Bm ?_))); (case side2 => exact (Kd.N_reads' aK.out).2.1); rintro e w8 ⟨v161, rfl, ho0, hb⟩; refine ⟨_, rfl, ?_⟩; have n0_ := Aa.mk (Kd.V_elder' (by (with_reducible repeat (first | apply Kd.V_alloc | apply Kd.V_drewN | apply Kd.V_drew)); exact HO0.out) (Kd.Ao ho0) hb); have n1_ := Aa.mk (Kd.V_elder' (by (with_reducible repeat (first | apply Kd.V_alloc | apply Kd.V_drewN | apply Kd.V_drew)); exact HO1.out) (Kd.Ao ho0) hb); have n2_ := Aa.mk (Kd.N_elder' (by (with_reducible repeat (first | apply Kd.N_alloc | apply Kd.N_drewN | apply Kd.N_drew)); exact aK.out) (Kd.Ao ho0) hb); have n3_ := Aa.mk (Kd.Bx (Kd.Cf (M := fun k_ => (w.heap.size ≤ k_)) ho0 (Ag (lU HB.out)) (fun k_ h_ => h_)) (Ag (lU HB.out))); have n4_ := Aa.mk (Ak (lU HB.out) hb); clear HO0; clear HO1; clear aK; clear HB; have HO0 := n0_; have HO1 := n1_; have aK := n2_; have bD := n3_; have HB := n4_; clear n0_ n1_ n2_ n3_ n4_; (try clear hb); (try clear hb2); (try clear hk); (try clear hi); (try clear ho0); obtain ⟨Ao9, co9, eo9⟩ := Kd.Bn bD.out; subst eo9))
 go_loopg [7, 19] k (fun kq v7 v19 w' => ∃ (aJ : List Int) (ai : Int), v19 = .int .i64 ai ∧ Aa (Ay.l0 kq l0 l1 a2 aJ ak (ak.length : Int) ai = some r) ∧ Aa (kq ≤ k) ∧ Aa (Kd.V k93 93 w' w.heap.size (fun k_ => ((P0_ k_ ∨ P1_ k_) ∨ w.heap.size ≤ k_) ∧ some k_ ≠ (v7 : Value).ownBlock ∧ some k_ ≠ ((.slice Ao9 ak.length co9) : Value).ownBlock) (.slice A0 l0.length c0) l0) ∧ Aa (Kd.V k93 93 w' w.heap.size (fun k_ => ((P0_ k_ ∨ P1_ k_) ∨ w.heap.size ≤ k_) ∧ some k_ ≠ (v7 : Value).ownBlock ∧ some k_ ≠ ((.slice Ao9 ak.length co9) : Value).ownBlock) (.slice A1 l1.length c1) l1) ∧ Aa (Kd.R (Kd.int .i64) 3 w' w.heap.size (fun k_ => (w.heap.size ≤ k_)) v7 aJ) ∧ Aa (Kd.R k93 93 w' w.heap.size (fun k_ => (w.heap.size ≤ k_)) (.slice Ao9 ak.length co9) ak) ∧ Aa (Below w.heap.size w w'))
 case atStart => exact ⟨(([] : List Int)), (0), (by first | rfl | (simp; done) | (simp [*]; done)), H', ⟨Nat.le_refl _⟩, ⟨by (with_reducible repeat (first | apply Kd.V_alloc | apply Kd.V_drewN | apply Kd.V_drew)); exact Kd.V_mono HO0.out (fun _ hk => ⟨hk.1.1, ⟨(by simp [Value.ownBlock]), hk.2⟩⟩)⟩, ⟨by (with_reducible repeat (first | apply Kd.V_alloc | apply Kd.V_drewN | apply Kd.V_drew)); exact Kd.V_mono HO1.out (fun _ hk => ⟨hk.1.1, ⟨(by simp [Value.ownBlock]), hk.2⟩⟩)⟩, ⟨by first | exact Kd.Cy _ _ _ _ _ | exact Kd.N_nil _ _ _ _ _ | exact Kd.V_nil _ _ _ _ _ | exact Kd.Q_nil _ _ _ _ _ | exact Kd.S_nil _ _ _ _ _⟩, ⟨by exact rU <| Kd.Bs bD.out (fun _ hk => hk.1)⟩, ⟨by repeat (first | (with_reducible first | exact HB.out | apply Ad | apply Ab | apply Ac) | exact HB.out)⟩⟩
 case round =>
  clear H'
  try clear c1
  try clear p2
  try clear c7
  try clear c8
  obtain ⟨aJ, ai, rfl, HA, HK1, ag, ah, af, au, HB⟩ := hrel
  cases gk with
  | zero => exact absurd HA.out (by simp [Ay.l0])
  | succ k1 =>
   have H := HA.out
   clear HA
   simp only [Ay.l0] at H
   by_cases c10 : ai < (ak.length : Int)
   ·rw [if_pos c10] at H
    have bE : decide (ai < (ak.length : Int)) = true := decide_eq_true c10
    clear c10
    by_cases c11 : 0 ≤ ai
    ·rw [if_pos c11] at H
     have bY : decide (0 ≤ ai) = true := decide_eq_true c11
     clear c11
     by_cases c12 : ai < (ak.length : Int)
     ·rw [if_pos c12] at H
      have bZ : decide (ai < (ak.length : Int)) = true := decide_eq_true c12
      clear c12
      obtain ⟨aQ, bg⟩ : ∃ y_ : List Int, y_ = (([(rd_T93 ak ai).f0, (rd_T93 ak ai).f1] : List Int)) := ⟨_, rfl⟩
      (try rw [Option.bind_some] at H); try rw [← bg] at H
      have bF := Aa.mk bg
      clear bg
      by_cases c13 : aJ.length + aQ.length < 17592186044416
      ·rw [if_pos c13] at H
       have LMc13 := Aa.mk c13
       clear c13
       obtain ⟨cE, bh⟩ : ∃ y_ : List Int, y_ = (aJ ++ aQ) := ⟨_, rfl⟩
       (try rw [Option.bind_some] at H); try rw [← bh] at H
       have b3 := Aa.mk bh
       clear bh
       have H' := Aa.mk H
       clear H
       have bn : 0 ≤ (ai : Int) := of_decide_eq_true (by with_reducible assumption)
       have bo : ai < (ak.length : Int) := of_decide_eq_true (by with_reducible assumption)
       obtain ⟨bG, e163, bp, bq⟩ := at_T93 (Kd.At au.out).2.2 ai bn bo
       cases e163
       replace bn := eq_true bn
       replace bo := eq_true bo
       go_wp2_with (first | ((with_reducible refine Bj (N := 9) rfl ?_); refine B0 ?hg (N := 9) ?hd (cs := #[.int .i64 0, .int .i64 0]) (t := 93) ?hr ?_; (case hd => rfl); (case hg => rfl); (case hr => first | (go_simp; done) | (go_simp; rfl)); intro ao hg w14 hbox hb; have n0_ := Aa.mk (Kd.V_below (Kd.V_elderB (by (with_reducible repeat (first | apply Kd.V_alloc | apply Kd.V_drewN | apply Kd.V_drew)); exact ag.out) ao (Nat.le_of_eq hg.symm)) hb); have n1_ := Aa.mk (Kd.V_below (Kd.V_elderB (by (with_reducible repeat (first | apply Kd.V_alloc | apply Kd.V_drewN | apply Kd.V_drew)); exact ah.out) ao (Nat.le_of_eq hg.symm)) hb); have n2_ := Aa.mk (Kd.Be (by exact rU <| af.out) hb); have n3_ := Aa.mk (Kd.Be (Kd.C0 (by exact rU <| au.out) ao (Nat.le_of_eq hg.symm)) hb); have n4_ := Aa.mk (Ak (lU HB.out) hb); have n5_ := Aa.mk (hbox); have n6_ := Aa.mk ((by rw [hg]; exact (Ag (lU HB.out)) : w.heap.size ≤ ao)); have n7_ := Aa.mk ((by rw [hg]; exact (Ag (lU HB.out)) : w.heap.size ≤ ao)); clear ag; clear ah; clear af; clear au; clear HB; have ag := n0_; have ah := n1_; have af := n2_; have au := n3_; have HB := n4_; have av := n5_; have da := n6_; have aI := n7_; clear n0_ n1_ n2_ n3_ n4_ n5_ n6_ n7_; clear hb hbox hg; have br : w14.cell? ⟨ao, 0, none⟩ = some (.int .i64 0) := (Aj av.out 0).trans rfl; have bs : w14.cell? ⟨ao, 1, none⟩ = some (.int .i64 0) := (Aj av.out 1).trans rfl; have bu := Af av.out 0; have bv := Af av.out 1) | ((with_reducible refine Bj (N := 28) rfl ?_); refine Kd.Cz (Kd.int .i64) _ 3 ?hg (N := 28) ?hd (xs := ([(rd_T93 ak ai).f0, (rd_T93 ak ai).f1] : List Int)) (inner := [.int .i64 ((rd_T93 ak ai).f0), .int .i64 ((rd_T93 ak ai).f1)]) (ok := fun _ => True) (okp := fun _ => True) ?hr ?hp (fun _ hk => hk) trivial (Below.refl _ _) (Nat.le_refl _) (by simp) ?_; (case hd => rfl); (case hg => rfl); (case hr => first | (go_simp; done) | (go_simp; rfl)); (case hp => exact (Reps.one (show Kd.M (Kd.int .i64) _ _ _ ((rd_T93 ak ai).f0) [.int .i64 ((rd_T93 ak ai).f0)] from rfl) (Reps.one (show Kd.M (Kd.int .i64) _ _ _ ((rd_T93 ak ai).f1) [.int .i64 ((rd_T93 ak ai).f1)] from rfl) (Reps.none _ _)))); intro v166 w16 ho17 hb hg_ hnew_; clear hg_ hnew_; (first | rw [← bF.out] at ho17 | (simp only [Int.reduceToNat] at ho17; rw [← bF.out] at ho17)); have n0_ := Aa.mk (Kd.V_elder' (by (with_reducible repeat (first | apply Kd.V_alloc | apply Kd.V_drewN | apply Kd.V_drew)); exact (Kd.V_mono (Kd.V_far (p := ⟨ao, 1, none⟩) (Kd.V_far (p := ⟨ao, 0, none⟩) (Kd.V_mono ag.out (fun k_ hk => (⟨hk, hk.2⟩ : _ ∧ k_ ≠ ao))) (fun _ hk => hk.2) (.int .i64 ((rd_T93 ak ai).f0))) (fun _ hk => hk.2) (.int .i64 ((rd_T93 ak ai).f1))) (fun _ h_ => h_.1))) (Kd.Ao ho17) hb); have n1_ := Aa.mk (Kd.V_elder' (by (with_reducible repeat (first | apply Kd.V_alloc | apply Kd.V_drewN | apply Kd.V_drew)); exact (Kd.V_mono (Kd.V_far (p := ⟨ao, 1, none⟩) (Kd.V_far (p := ⟨ao, 0, none⟩) (Kd.V_mono ah.out (fun k_ hk => (⟨hk, hk.2⟩ : _ ∧ k_ ≠ ao))) (fun _ hk => hk.2) (.int .i64 ((rd_T93 ak ai).f0))) (fun _ hk => hk.2) (.int .i64 ((rd_T93 ak ai).f1))) (fun _ h_ => h_.1))) (Kd.Ao ho17) hb); have n2_ := Aa.mk (Kd.Ap (by exact rU <| (Kd.Bs (Kd.B8 (p := ⟨ao, 1, none⟩) (Kd.B8 (p := ⟨ao, 0, none⟩) (Kd.Cx af.out av.out (by decide)) (fun _ hk => hk.2) (.int .i64 ((rd_T93 ak ai).f0))) (fun _ hk => hk.2) (.int .i64 ((rd_T93 ak ai).f1))) (fun _ h_ => h_.1))) (Kd.Ao ho17) hb); have n3_ := Aa.mk (Kd.Be (by exact rU <| (Kd.Bs (Kd.B8 (p := ⟨ao, 1, none⟩) (Kd.B8 (p := ⟨ao, 0, none⟩) (Kd.Bs au.out (fun k_ hk => (⟨hk, hk.2⟩ : _ ∧ k_ ≠ ao))) (fun _ hk => hk.2) (.int .i64 ((rd_T93 ak ai).f0))) (fun _ hk => hk.2) (.int .i64 ((rd_T93 ak ai).f1))) (fun _ h_ => h_.1))) hb); have n4_ := Aa.mk (Kd.Bx (Kd.Au (Kd.Cf (M := fun k_ => (w.heap.size ≤ k_)) ho17 (Ag (by repeat (first | (with_reducible first | exact HB.out | apply Ad | apply Ab | apply Ac | refine Ai ?_ aI.out) | exact HB.out))) (fun k_ h_ => h_)) (Kd.Bq (by exact rU <| (Kd.Bs (Kd.B8 (p := ⟨ao, 1, none⟩) (Kd.B8 (p := ⟨ao, 0, none⟩) (Kd.Cx af.out av.out (by decide)) (fun _ hk => hk.2) (.int .i64 ((rd_T93 ak ai).f0))) (fun _ hk => hk.2) (.int .i64 ((rd_T93 ak ai).f1))) (fun _ h_ => h_.1))))) (Ag (by repeat (first | (with_reducible first | exact HB.out | apply Ad | apply Ab | apply Ac | refine Ai ?_ aI.out) | exact HB.out)))); have n5_ := Aa.mk (Bc (g := ao) (o := .cells #[.int .i64 ((rd_T93 ak ai).f0), .int .i64 ((rd_T93 ak ai).f1)] 93 (0, 0)) (by (with_reducible repeat (first | refine Am ?_ _ | refine Ar ?_ | refine An ?_ _)); refine Bb (cs := #[.int .i64 ((rd_T93 ak ai).f0), .int .i64 0]) ?_ 1 _ rfl; (with_reducible repeat (first | refine Am ?_ _ | refine Ar ?_ | refine An ?_ _)); refine Bb (cs := #[.int .i64 0, .int .i64 0]) ?_ 0 _ rfl; exact bU <| av.out) hb); have n6_ := Aa.mk (Ak (by repeat (first | (with_reducible first | exact HB.out | apply Ad | apply Ab | apply Ac | refine Ai ?_ aI.out) | exact HB.out)) hb); clear ag; clear ah; clear af; clear au; clear av; clear HB; have ag := n0_; have ah := n1_; have af := n2_; have au := n3_; have aM := n4_; have av := n5_; have HB := n6_; clear n0_ n1_ n2_ n3_ n4_ n5_ n6_; clear hb ho17; obtain ⟨bJ, bK, cF⟩ := Kd.Bn aM.out; subst cF) | ((with_reducible refine Cn (b := .append) (xs := #[.tmp 23, .tmp 28]) rfl ?_); at_builtin; refine Kd.C1 (Kd.int .i64) (w0 := w) w.heap.size rfl (.tmp 23) (.tmp 28) 29 3 (.int .i64 0) 8 rfl Try.underlying29 info3 rfl (by decide) (by omega) u7 aJ aQ _ _ _ (fun k_ => (w.heap.size ≤ k_) ∧ some k_ ≠ (.slice bJ aQ.length bK : Value).ownBlock) (fun _ => False) rfl rfl ?aO ?aR (fun _ _ h => h) (fun _ h => h.elim) ?aF ?aB ?aS ?aL ?_; (case aR => repeat (first | exact (Kd.At aM.out).2.2 | (with_reducible refine Kd.Bi ?_ _) | (with_reducible refine Kd.Bh ?_ _) | (with_reducible refine Kd.Bm ?_))); (case aB => exact (by repeat (first | (with_reducible first | exact HB.out | apply Ad | apply Ab | apply Ac | refine Ai ?_ aI.out) | exact HB.out))); (case aF => exact (fun k_ hk => ⟨(Nat.le_trans (Ag (by repeat (first | (with_reducible first | exact HB.out | apply Ad | apply Ab | apply Ac | refine Ai ?_ aI.out) | exact HB.out))) hk), Kd.fresh' (Kd.Bq (by exact rU <| aM.out)) k_ hk⟩)); (case aO => exact (by exact rU <| af.out)); (case aS => exact (Ag (by repeat (first | (with_reducible first | exact HB.out | apply Ad | apply Ab | apply Ac | refine Ai ?_ aI.out) | exact HB.out)))); (case aL => have := LMc13.out; omega); intro v169 w18 ho hb hg hat; rw [← b3.out] at ho; have n0_ := Aa.mk (Kd.V_afterv (ok := (fun k_ => ((P0_ k_ ∨ P1_ k_) ∨ w.heap.size ≤ k_) ∧ some k_ ≠ (.slice (some bG) ak.length co9 : Value).ownBlock ∧ some k_ ≠ (.slice bJ aQ.length bK : Value).ownBlock ∧ k_ ≠ ao)) (by (with_reducible repeat (first | apply Kd.V_alloc | apply Kd.V_drewN | apply Kd.V_drew)); exact Kd.V_mono ag.out (fun _ hk => ⟨⟨hk.1.1.1, ⟨hk.1.1.2.2, ⟨hk.2, hk.1.2⟩⟩⟩, hk.1.1.2.1⟩)) hg hat); have n1_ := Aa.mk (Kd.V_afterv (ok := (fun k_ => ((P0_ k_ ∨ P1_ k_) ∨ w.heap.size ≤ k_) ∧ some k_ ≠ (.slice (some bG) ak.length co9 : Value).ownBlock ∧ some k_ ≠ (.slice bJ aQ.length bK : Value).ownBlock ∧ k_ ≠ ao)) (by (with_reducible repeat (first | apply Kd.V_alloc | apply Kd.V_drewN | apply Kd.V_drew)); exact Kd.V_mono ah.out (fun _ hk => ⟨⟨hk.1.1.1, ⟨hk.1.1.2.2, ⟨hk.2, hk.1.2⟩⟩⟩, hk.1.1.2.1⟩)) hg hat); have n2_ := Aa.mk (Kd.Ct (by exact rU <| au.out) (Kd.Ck (by exact rU <| af.out)) (by decide) hg); have n3_ := Aa.mk (C4 (g := ao) (o := .cells #[.int .i64 ((rd_T93 ak ai).f0), .int .i64 ((rd_T93 ak ai).f1)] 93 (0, 0)) (by exact bU <| av.out) hg (Kd.R_ne af.out av.out (by decide))); have n4_ := Aa.mk (Kd.R_after (ok := (fun k_ => (w.heap.size ≤ k_))) (by exact rU <| Kd.Bs aM.out (fun _ hk => ⟨hk.1.1, hk.2⟩)) hg hat); have n5_ := Aa.mk (hb); have n6_ := Aa.mk (ho); clear ag; clear ah; clear au; clear av; clear aM; clear HB; clear af; have ag := n0_; have ah := n1_; have au := n2_; have av := n3_; have aM := n4_; have HB := n5_; have b4 := n6_; clear n0_ n1_ n2_ n3_ n4_ n5_ n6_; clear ho hb hg hat))
       go_roundg k1
       case measure => have := HK1.out; omega
       case rel => exact ⟨(cE), (wrap64 (ai + 1)), (by first | rfl | (simp; done) | (simp [*]; done)), H', ⟨by have := HK1.out; omega⟩, ⟨by (with_reducible repeat (first | apply Kd.V_alloc | apply Kd.V_drewN | apply Kd.V_drew)); exact Kd.V_mono ag.out (fun _ hk => ⟨hk.1.1, ⟨hk.2, hk.1.2.1⟩⟩)⟩, ⟨by (with_reducible repeat (first | apply Kd.V_alloc | apply Kd.V_drewN | apply Kd.V_drew)); exact Kd.V_mono ah.out (fun _ hk => ⟨hk.1.1, ⟨hk.2, hk.1.2.1⟩⟩)⟩, ⟨by exact rU <| Kd.Bs b4.out (fun _ hk => hk.1)⟩, ⟨by exact rU <| Kd.Bs au.out (fun _ hk => hk.1)⟩, ⟨by repeat (first | (with_reducible first | exact HB.out | apply Ad | apply Ab | apply Ac | refine Ai ?_ aI.out) | exact HB.out)⟩⟩
      ·rw [if_neg c13] at H
       exact absurd H (by simp)
     ·rw [if_neg c12] at H
      exact absurd H (by simp)
    ·rw [if_neg c11] at H
     exact absurd H (by simp)
   ·rw [if_neg c10] at H
    have bE : decide (ai < (ak.length : Int)) = false := decide_eq_false c10
    clear c10
    replace H := Option.bind_eq_some_iff.mp H
    obtain ⟨ac, A200, H⟩ := H
    try dsimp only at H
    have A20 := Aa.mk A200
    clear A200
    have H' := Aa.mk H
    clear H
    obtain ⟨bL, bM, cG⟩ := Kd.Bn af.out
    subst cG
    go_wp2_with (first | ((with_reducible refine As (f := 71) rfl ?_); refine Br (some 32) rfl rfl Try.func71 (by kernel_rfl) rfl #[.slice bL aJ.length bM] rfl (by (try simp only [List.map_toArray, List.map_cons, List.map_nil]); first | done | rfl | (simp only [List.length_drop, List.length_take]; rfl)) ?_; (with_reducible refine (Cb.calls (fun k_ => some k_ = (.slice bL aJ.length bM : Value).ownBlock) (.slice bL aJ.length bM) aJ ac w _ ?side1 ?side2 A20.out).mono ?_); (case side1 => repeat (first | (with_reducible first | exact HB.out | apply Ad | apply Ab | apply Ac) | exact HB.out)); (case side2 => exact Kd.Cs rfl af.out); rintro e w22 ⟨v172, rfl, ho0, hb, hkp⟩; refine ⟨_, rfl, ?_⟩; have n0_ := Aa.mk (Kd.V_mono (ok' := fun k_ => ((P0_ k_ ∨ P1_ k_) ∨ w.heap.size ≤ k_) ∧ some k_ ≠ (.slice Ao9 ak.length co9 : Value).ownBlock ∧ some k_ ≠ (v172 : Value).ownBlock) (Kd.V_keptB (ag.out) hkp (fun k_ hk_ hs_ => (hk_.2.1) hs_)) (fun k_ hk_ => ⟨hk_.1.1, hk_.1.2.2, fun e_ => Or.elim (ho0.1 k_ e_.symm) (fun hs_ => hk_.2.1 hs_) (fun hn_ => Nat.not_le.2 hk_.2.2 hn_)⟩)); have n1_ := Aa.mk (Kd.V_mono (ok' := fun k_ => ((P0_ k_ ∨ P1_ k_) ∨ w.heap.size ≤ k_) ∧ some k_ ≠ (.slice Ao9 ak.length co9 : Value).ownBlock ∧ some k_ ≠ (v172 : Value).ownBlock) (Kd.V_keptB (ah.out) hkp (fun k_ hk_ hs_ => (hk_.2.1) hs_)) (fun k_ hk_ => ⟨hk_.1.1, hk_.1.2.2, fun e_ => Or.elim (ho0.1 k_ e_.symm) (fun hs_ => hk_.2.1 hs_) (fun hn_ => Nat.not_le.2 hk_.2.2 hn_)⟩)); have n2_ := Aa.mk (Kd.Bs (ok' := fun k_ => (w.heap.size ≤ k_)) (Kd.R_keptB ((Kd.B5 au.out (Kd.Ck af.out) (by decide))) hkp (fun k_ hk_ hs_ => (hk_.2) hs_)) (fun k_ hk_ => hk_.1.1)); have n3_ := Aa.mk (Kd.Bs (ok' := fun k_ => (w.heap.size ≤ k_)) ho0 (fun k_ hk_ => Or.elim hk_ (fun hs_ => (af.out.1 k_ (hs_).symm)) (fun hn_ => (Nat.le_trans (Ag (lU HB.out)) hn_)))); have n4_ := Aa.mk (hb); clear ag; clear ah; clear au; clear HB; clear af; have ag := n0_; have ah := n1_; have au := n2_; have b5 := n3_; have HB := n4_; clear n0_ n1_ n2_ n3_ n4_; (try clear hb); (try clear hkp); (try clear ho0)))
    go_loopg [10, 11] k1 (fun kq v10 v11 w' => ∃ (aq : List (S93)) (ar : List (S93)) (ab : List (S93)) (aa : Int), v11 = .int .i64 aa ∧ Aa (Ay.l1 kq aq ar a2 ac ab aa = some r) ∧ Aa (kq ≤ k1) ∧ Aa (Kd.V k93 93 w' w.heap.size (fun k_ => ((P0_ k_ ∨ P1_ k_) ∨ w.heap.size ≤ k_) ∧ some k_ ≠ (v172 : Value).ownBlock ∧ some k_ ≠ (v10 : Value).ownBlock) (.slice A0 l0.length c0) aq) ∧ Aa (Kd.V k93 93 w' w.heap.size (fun k_ => ((P0_ k_ ∨ P1_ k_) ∨ w.heap.size ≤ k_) ∧ some k_ ≠ (v172 : Value).ownBlock ∧ some k_ ≠ (v10 : Value).ownBlock) (.slice A1 l1.length c1) ar) ∧ Aa (Kd.R (Kd.int .i64) 3 w' w.heap.size (fun k_ => (w.heap.size ≤ k_)) v172 ac) ∧ Aa (Kd.R k93 93 w' w.heap.size (fun k_ => (w.heap.size ≤ k_)) v10 ab) ∧ Aa (Below w.heap.size w w'))
    case atStart => exact ⟨(l0), (l1), (([] : List (S93))), (0), (by first | rfl | (simp; done) | (simp [*]; done)), H', ⟨Nat.le_refl _⟩, ⟨by (with_reducible repeat (first | apply Kd.V_alloc | apply Kd.V_drewN | apply Kd.V_drew)); exact Kd.V_mono ag.out (fun _ hk => ⟨hk.1, ⟨hk.2.2, (by simp [Value.ownBlock])⟩⟩)⟩, ⟨by (with_reducible repeat (first | apply Kd.V_alloc | apply Kd.V_drewN | apply Kd.V_drew)); exact Kd.V_mono ah.out (fun _ hk => ⟨hk.1, ⟨hk.2.2, (by simp [Value.ownBlock])⟩⟩)⟩, ⟨by exact rU <| b5.out⟩, ⟨by first | exact Kd.Cy _ _ _ _ _ | exact Kd.N_nil _ _ _ _ _ | exact Kd.V_nil _ _ _ _ _ | exact Kd.Q_nil _ _ _ _ _ | exact Kd.S_nil _ _ _ _ _⟩, ⟨by repeat (first | (with_reducible first | exact HB.out | apply Ad | apply Ab | apply Ac) | exact HB.out)⟩⟩
    case round =>
     clear H'
     try clear c1
     try clear p1
     try clear q1
     try clear hx1
     try clear p2
     try clear p6
     try clear c7
     try clear c8
     try clear c10
     try clear bE
     try clear c11
     try clear bY
     try clear c12
     try clear bZ
     try clear c13
     try clear p16
     try clear q16
     try clear hx16
     try clear br
     try clear bs
     try clear bu
     try clear bv
     try clear bp
     try clear bq
     try clear bn
     try clear p2
     try clear bo
     obtain ⟨aq, ar, ab, aa, rfl, HA, HK2, ag, ah, af, ae, HB⟩ := hrel
     have am := (Kd.V_reads' ag.out).1
     rw [am] at ag
     (try simp only [am])
     (try simp only [am] at ah)
     (try simp only [am] at af)
     (try simp only [am] at ae)
     have an := (Kd.V_reads' ah.out).1
     rw [an] at ah
     (try simp only [an])
     (try simp only [an] at ag)
     (try simp only [an] at af)
     (try simp only [an] at ae)
     cases gk with
     | zero => exact absurd HA.out (by simp [Ay.l1])
     | succ k2 =>
      have H := HA.out
      clear HA
      simp only [Ay.l1] at H
      by_cases c23 : (wrap64 (aa + 1)) < (ac.length : Int)
      ·rw [if_pos c23] at H
       have a9 : decide ((wrap64 (aa + 1)) < (ac.length : Int)) = true := decide_eq_true c23
       clear c23
       by_cases c24 : 0 ≤ aa
       ·rw [if_pos c24] at H
        have dc : decide (0 ≤ aa) = true := decide_eq_true c24
        clear c24
        by_cases c25 : aa < (ac.length : Int)
        ·rw [if_pos c25] at H
         have dd : decide (aa < (ac.length : Int)) = true := decide_eq_true c25
         clear c25
         replace H := Option.bind_eq_some_iff.mp H
         obtain ⟨az, A260, H⟩ := H
         try dsimp only at H
         have A26 := Aa.mk A260
         clear A260
         replace H := Option.bind_eq_some_iff.mp H
         obtain ⟨aA, A270, H⟩ := H
         try dsimp only at H
         have A27 := Aa.mk A270
         clear A270
         replace H := Option.bind_eq_some_iff.mp H
         obtain ⟨bI, A280, H⟩ := H
         try dsimp only at H
         have A28 := Aa.mk A280
         clear A280
         by_cases c29 : bI = true
         ·subst c29
          have H1 := H
          rw [if_pos rfl] at H1
          clear H
          have H := H1
          clear H1
          by_cases c30 : (ab.length : Int) > 0
          ·rw [if_pos c30] at H
           have b6 : decide (0 < (ab.length : Int)) = true := decide_eq_true c30
           have b7 : decide (0 < ab.length) = true := decide_eq_true (by omega)
           clear c30
           obtain ⟨al, aN⟩ : ∃ j_ : Int, (wrap64 ((ab.length : Int) - 1)) = j_ := ⟨_, rfl⟩
           replace H : (if 0 ≤ (al) then (if (al) < (ab.length : Int) then (if ((rd_T93 ab (al)).f1) = (rd ac aa) then (if 0 ≤ (wrap64 (aa + 1)) then (Ay.l1 k2 aq ar a2 ac (ab.set ((al) : Int).toNat (⟨(rd_T93 ab (al)).f0, rd ac (wrap64 (aa + 1))⟩ : S93)) (wrap64 (aa + 1))) else (none)) else (if 0 ≤ (wrap64 (aa + 1)) then (if ab.length < 8796093022208 then (Ay.l1 k2 aq ar a2 ac (ab ++ [(⟨rd ac aa, rd ac (wrap64 (aa + 1))⟩ : S93)]) (wrap64 (aa + 1))) else (none)) else (none))) else (none)) else (none)) = some r := by first | (rw [aN] at H; exact H) | (simp only [aN] at H ⊢; exact H)
           (try rw [aN] at A26)
           (try rw [aN] at A27)
           (try rw [aN] at A28)
           have hji31w : (IntKind.i64.wrap ((ab.length : Int) - 1)) = al := (i64_w _).trans aN
           by_cases c32 : 0 ≤ (al)
           ·rw [if_pos c32] at H
            have de : decide (0 ≤ (al)) = true := decide_eq_true c32
            clear c32
            by_cases c33 : (al) < (ab.length : Int)
            ·rw [if_pos c33] at H
             have df : decide ((al) < (ab.length : Int)) = true := decide_eq_true c33
             clear c33
             by_cases c34 : ((rd_T93 ab (al)).f1) = (rd ac aa)
             ·rw [if_pos c34] at H
              have b8 : (((rd_T93 ab (al)).f1) == (rd ac aa)) = true := beq_iff_eq.mpr c34
              have b9 : (((rd_T93 ab (al)).f1) != (rd ac aa)) = false := bne_eq_false_iff_eq.mpr c34
              clear c34
              obtain ⟨aw, aE⟩ : ∃ j_ : Int, (wrap64 (aa + 1)) = j_ := ⟨_, rfl⟩
              replace H : (if 0 ≤ (aw) then (Ay.l1 k2 aq ar a2 ac (ab.set ((al) : Int).toNat (⟨(rd_T93 ab (al)).f0, rd ac (aw)⟩ : S93)) aw) else (none)) = some r := by first | (rw [aE] at H; exact H) | (simp only [aE] at H ⊢; exact H)
              (try rw [aE] at a9)
              (try rw [aE] at A26)
              (try rw [aE] at A27)
              (try rw [aE] at A28)
              have hji35w : (IntKind.i64.wrap (aa + 1)) = aw := (i64_w _).trans aE
              by_cases c36 : 0 ≤ (aw)
              ·rw [if_pos c36] at H
               have dg : decide (0 ≤ (aw)) = true := decide_eq_true c36
               clear c36
               obtain ⟨cd, bi⟩ : ∃ y_ : List (S93), y_ = (ab.set ((al) : Int).toNat (⟨(rd_T93 ab (al)).f0, rd ac (aw)⟩ : S93)) := ⟨_, rfl⟩
               (try rw [Option.bind_some] at H); try rw [← bi] at H
               have cg := Aa.mk bi
               clear bi
               have H' := Aa.mk H
               clear H
               obtain ⟨dj, bj, cH⟩ := Kd.Bn af.out
               subst cH
               have ax : 0 ≤ (aa : Int) := of_decide_eq_true (by with_reducible assumption)
               have ay : aa < (ac.length : Int) := of_decide_eq_true (by with_reducible assumption)
               obtain ⟨ap, e174, aT⟩ := Kd.at_int (Kd.At af.out).2.2 aa ax ay
               cases e174
               replace ax := eq_true ax
               replace ay := eq_true ay
               go_wp2_with (first | ((with_reducible refine As (f := 86) rfl ?_); refine Br (some 47) rfl rfl Try.func86 (by kernel_rfl) rfl #[.slice A0 aq.length c0, .int .i64 (rd ac aa)] rfl (by (try simp only [List.map_toArray, List.map_cons, List.map_nil]); first | done | rfl | (simp only [List.length_drop, List.length_take]; rfl)) ?_; (with_reducible refine (Cp.calls _ _ aq (rd ac aa) az _ ?side1 ?side2 A26.out).mono ?_); (case side1 => repeat (first | exact (Kd.V_reads' ag.out).2.2 | (with_reducible refine Kd.Bi ?_ _) | (with_reducible refine Kd.Bh ?_ _) | (with_reducible refine Kd.Bm ?_))); (case side2 => exact (Kd.V_reads' ag.out).2.1); rintro e w39 ⟨rfl, hb⟩; refine ⟨_, rfl, ?_⟩; have n0_ := Aa.mk (Kd.V_below (by (with_reducible repeat (first | apply Kd.V_alloc | apply Kd.V_drewN | apply Kd.V_drew)); exact ag.out) hb); have n1_ := Aa.mk (Kd.V_below (by (with_reducible repeat (first | apply Kd.V_alloc | apply Kd.V_drewN | apply Kd.V_drew)); exact ah.out) hb); have n2_ := Aa.mk (Kd.Be (by exact rU <| af.out) hb); have n3_ := Aa.mk (Kd.Be (by exact rU <| ae.out) hb); have n4_ := Aa.mk (Ak (lU HB.out) hb); clear ag; clear ah; clear af; clear ae; clear HB; have ag := n0_; have ah := n1_; have af := n2_; have ae := n3_; have HB := n4_; clear n0_ n1_ n2_ n3_ n4_; (try clear hb); (try clear hb2); (try clear hk); (try clear hi)) | ((with_reducible refine As (f := 86) rfl ?_); refine Br (some 50) rfl rfl Try.func86 (by kernel_rfl) rfl #[.slice A1 ar.length c1, .int .i64 (rd ac aa)] rfl (by (try simp only [List.map_toArray, List.map_cons, List.map_nil]); first | done | rfl | (simp only [List.length_drop, List.length_take]; rfl)) ?_; (with_reducible refine (Cp.calls _ _ ar (rd ac aa) aA _ ?side1 ?side2 A27.out).mono ?_); (case side1 => repeat (first | exact (Kd.V_reads' ah.out).2.2 | (with_reducible refine Kd.Bi ?_ _) | (with_reducible refine Kd.Bh ?_ _) | (with_reducible refine Kd.Bm ?_))); (case side2 => exact (Kd.V_reads' ah.out).2.1); rintro e w40 ⟨rfl, hb⟩; refine ⟨_, rfl, ?_⟩; have n0_ := Aa.mk (Kd.V_below (by (with_reducible repeat (first | apply Kd.V_alloc | apply Kd.V_drewN | apply Kd.V_drew)); exact ag.out) hb); have n1_ := Aa.mk (Kd.V_below (by (with_reducible repeat (first | apply Kd.V_alloc | apply Kd.V_drewN | apply Kd.V_drew)); exact ah.out) hb); have n2_ := Aa.mk (Kd.Be (by exact rU <| af.out) hb); have n3_ := Aa.mk (Kd.Be (by exact rU <| ae.out) hb); have n4_ := Aa.mk (Ak (lU HB.out) hb); clear ag; clear ah; clear af; clear ae; clear HB; have ag := n0_; have ah := n1_; have af := n2_; have ae := n3_; have HB := n4_; clear n0_ n1_ n2_ n3_ n4_; (try clear hb); (try clear hb2); (try clear hk); (try clear hi)) | ((with_reducible refine Bj (N := 51) rfl ?_); refine goesF_ (some 51) rfl rfl a2.toNat (.tmp 44) (eg_ hk_) #[.bool az, .bool aA] rfl ?hv_ (by (try simp only [List.map_toArray, List.map_cons, List.map_nil]); first | done | rfl | (simp only [List.length_drop, List.length_take]; rfl)) ?_; (case hv_ => first | rfl | (go_simp; done) | (go_simp; rfl)); (with_reducible refine (Cm.calls a2 az aA true _ A28.out).mono ?_); rintro e w' ⟨rfl, ⟨nd, rfl⟩⟩; refine ⟨_, rfl, ?_⟩; (try (rw [drewN_self w40]; generalize hq_ : World.drewN w40 _ = w40; have n0_ : Aa (Kd.V k93 93 w40 w.heap.size (fun k_ => ((P0_ k_ ∨ P1_ k_) ∨ w.heap.size ≤ k_) ∧ some k_ ≠ (u10 : Value).ownBlock ∧ some k_ ≠ (.slice (some ap) ac.length bj : Value).ownBlock) (.slice A0 aq.length c0) aq) := ⟨by rw [← hq_]; exact (by (with_reducible repeat (first | apply Kd.V_alloc | apply Kd.V_drewN | apply Kd.V_drew)); exact Kd.V_mono ag.out (fun _ hk => ⟨hk.1, ⟨hk.2.2, hk.2.1⟩⟩))⟩; have n1_ : Aa (Kd.V k93 93 w40 w.heap.size (fun k_ => ((P0_ k_ ∨ P1_ k_) ∨ w.heap.size ≤ k_) ∧ some k_ ≠ (u10 : Value).ownBlock ∧ some k_ ≠ (.slice (some ap) ac.length bj : Value).ownBlock) (.slice A1 ar.length c1) ar) := ⟨by rw [← hq_]; exact (by (with_reducible repeat (first | apply Kd.V_alloc | apply Kd.V_drewN | apply Kd.V_drew)); exact Kd.V_mono ah.out (fun _ hk => ⟨hk.1, ⟨hk.2.2, hk.2.1⟩⟩))⟩; have n2_ : Aa (Kd.R k93 93 w40 w.heap.size (fun k_ => (w.heap.size ≤ k_)) u10 ab) := ⟨by rw [← hq_]; exact (by exact rU <| ae.out)⟩; have n3_ : Aa (Kd.R (Kd.int .i64) 3 w40 w.heap.size (fun k_ => (w.heap.size ≤ k_)) (.slice (some ap) ac.length bj) ac) := ⟨by rw [← hq_]; exact (by exact rU <| af.out)⟩; have n4_ : Aa (Below w.heap.size w w40) := ⟨by rw [← hq_]; exact (lU HB.out)⟩; clear ag ah ae af HB hq_; have ag := n0_; have ah := n1_; have ae := n2_; have af := n3_; have HB := n4_; clear n0_ n1_ n2_ n3_ n4_)); obtain ⟨dk, aU, cI⟩ := Kd.Bn ae.out; subst cI; have aV : 0 ≤ ((al) : Int) := of_decide_eq_true (by with_reducible assumption); have aW : (al) < (ab.length : Int) := of_decide_eq_true (by with_reducible assumption); obtain ⟨bH, e178, bc, be⟩ := at_T93 (Kd.At ae.out).2.2 (al) aV aW; cases e178; replace aV := eq_true aV; replace aW := eq_true aW; have bN : 0 ≤ ((aw) : Int) := of_decide_eq_true (by with_reducible assumption); have bO : (aw) < (ac.length : Int) := of_decide_eq_true (by with_reducible assumption); obtain ⟨ch, e179, cB⟩ := Kd.at_int (Kd.At af.out).2.2 (aw) bN bO; obtain rfl : ap = ch := (by injection e179); replace bN := eq_true bN; replace bO := eq_true bO; have p37 : 0 ≤ ((al) : Int) := of_decide_eq_true (by with_reducible assumption); have q37 : ((al) : Int) < ((ab.length : Int) : Int) := of_decide_eq_true (by with_reducible assumption); obtain ⟨go37, dl, ci, cj, gl37, cl37, HG37⟩ := Kd.R_form ae.out (by omega); (first | cases ci | (injection ci with ea_ en_ ec_; (first | subst ea_ | (injection ea_ with ea_; subst ea_)); subst ec_; clear en_)); have GB37 := Aa.mk cj; have GG37 := Aa.mk HG37; clear cj gl37 HG37; (first | simp only [add_plain] at bc | skip); (first | simp only [add_plain] at be | skip); obtain ⟨ce37, hcl37, hM37, hcc37, hfr37⟩ := Kd.R_elem ae.out z93 ((al) : Int) p37 q37; obtain rfl := k93_openM hM37; have cJ : w40.cell? ⟨go37, ((al) : Int).toNat * 2, none⟩ = some (.int .i64 ((rd_T93 ab (al)).f0)) := hcc37 0 _ rfl; have cK : w40.cell? ⟨go37, ((al) : Int).toNat * 2 + 1, none⟩ = some (.int .i64 ((rd_T93 ab (al)).f1)) := hcc37 1 _ rfl; have cL : w40.frozen? ⟨go37, ((al) : Int).toNat * 2, none⟩ = false := hfr37 0; have cM : w40.frozen? ⟨go37, ((al) : Int).toNat * 2 + 1, none⟩ = false := hfr37 1; clear hcl37 hcc37 hfr37 hM37; replace p37 := eq_true p37; replace q37 := eq_true q37; have HX42 := Aa.mk (show Kd.R k93 93 w40 w.heap.size (fun k_ => (w.heap.size ≤ k_)) (.slice (some ⟨go37, 0, none⟩) ab.length aU) ab from (by exact rU <| ae.out)); obtain ⟨ce42, hcl42, hM42, hcc42, hfr42⟩ := Kd.R_elem HX42.out z93 ((al) : Int) (of_decide_eq_true (by with_reducible assumption)) (by have h_ : ((al) : Int) < ((ab.length : Int) : Int) := of_decide_eq_true (by with_reducible assumption); first | exact h_ | (have e_ := (Kd.At ae.out).1; omega) | simpa using h_); obtain rfl := k93_openM hM42; have bP := Kd.R_seg HX42.out ((al) : Int) (of_decide_eq_true (by with_reducible assumption)) (by have h_ : ((al) : Int) < ((ab.length : Int) : Int) := of_decide_eq_true (by with_reducible assumption); first | exact h_ | (have e_ := (Kd.At ae.out).1; omega) | simpa using h_) (seg := [.int .i64 (rd ac (aw))]) (j := 1) hcl42 hcc42 (show 2 ≤ 2 from by decide) (x' := (⟨(rd_T93 ab (al)).f0, rd ac (aw)⟩ : S93)) (k93_mkM _ _ _ (⟨(rd_T93 ab (al)).f0, rd ac (aw)⟩ : S93) ) (fun _ hk => hk); have bQ := hcc42 1 _ rfl; (try simp only [show (k93).sz = 2 from rfl, Nat.mul_one, Nat.add_zero] at bQ); have bR := hfr42 1; (try simp only [show (k93).sz = 2 from rfl, Nat.mul_one, Nat.add_zero] at bR); clear hcl42 hcc42 hfr42 hM42) | ((with_reducible refine gate_store (t := 3) (p := 76) rfl ?_); refine store_event (t := 3) (p := 76) (v := ?vo_w43) (w1 := (w40.setCell ⟨go37, ((al) : Int).toNat * 2 + 1, none⟩ (.int .i64 (rd ac (aw))))) ?hg ?ho ?hn ?hr ?_; (case ho => rfl); (case hg => rfl); (case hn => rfl); (case hr => first | (go_simp; done) | (go_simp; rfl)); intro w43 hw; have hg : w40.grownBy w43 (some go37) := (by rw [hw]; exact bP.2); have hp_ : Kd.R k93 93 w43 w.heap.size (fun k_ => (w.heap.size ≤ k_)) (.slice (some ⟨go37, 0, none⟩) ab.length aU) cd := (by rw [hw, cg.out]; exact bP.1); clear bP; have n0_ := Aa.mk (Kd.V_afterv (v := (.slice (some ⟨go37, 0, none⟩) ab.length aU)) (v1 := (.slice (some ⟨go37, 0, none⟩) ab.length aU)) (ok := (fun k_ => ((P0_ k_ ∨ P1_ k_) ∨ w.heap.size ≤ k_) ∧ some k_ ≠ (.slice (some ap) ac.length bj : Value).ownBlock)) (by (with_reducible repeat (first | apply Kd.V_alloc | apply Kd.V_drewN | apply Kd.V_drew)); exact Kd.V_mono ag.out (fun _ hk => ⟨⟨hk.1, by first | exact hk.2.1 | exact hk.2.2⟩, by first | exact hk.2.2 | exact hk.2.1⟩)) hg (.inl rfl)); have n1_ := Aa.mk (Kd.V_afterv (v := (.slice (some ⟨go37, 0, none⟩) ab.length aU)) (v1 := (.slice (some ⟨go37, 0, none⟩) ab.length aU)) (ok := (fun k_ => ((P0_ k_ ∨ P1_ k_) ∨ w.heap.size ≤ k_) ∧ some k_ ≠ (.slice (some ap) ac.length bj : Value).ownBlock)) (by (with_reducible repeat (first | apply Kd.V_alloc | apply Kd.V_drewN | apply Kd.V_drew)); exact Kd.V_mono ah.out (fun _ hk => ⟨⟨hk.1, by first | exact hk.2.1 | exact hk.2.2⟩, by first | exact hk.2.2 | exact hk.2.1⟩)) hg (.inl rfl)); have n2_ := Aa.mk (Kd.Ct (v := (.slice (some ⟨go37, 0, none⟩) ab.length aU)) (by exact rU <| af.out) (Kd.Ck ae.out) (by decide) hg); have n3_ := Aa.mk (hp_); have n4_ := Aa.mk ((by rw [hw]; exact Ai (HB.out) GB37.out : Below w.heap.size w w43)); clear ag; clear ah; clear af; clear ae; clear HB; have ag := n0_; have ah := n1_; have af := n2_; have ae := n3_; have HB := n4_; clear n0_ n1_ n2_ n3_ n4_; clear hg hw hp_))
               (try simp only [← am, ← an])
               go_roundg k2
               case measure => have := HK1.out; have := HK2.out; omega
               case rel => exact ⟨(aq), (ar), (cd), (aw), (by first | rfl | (simp; done) | (simp only [← aE] <;> (first | rfl | simp)) | (simp [*]; done)), H', ⟨by have := HK1.out; have := HK2.out; omega⟩, ⟨by (try simp only [am]); (try simp only [an]); (with_reducible repeat (first | apply Kd.V_alloc | apply Kd.V_drewN | apply Kd.V_drew)); exact Kd.V_mono ag.out (fun _ hk => ⟨hk.1.1, ⟨hk.1.2, hk.2⟩⟩)⟩, ⟨by (try simp only [am]); (try simp only [an]); (with_reducible repeat (first | apply Kd.V_alloc | apply Kd.V_drewN | apply Kd.V_drew)); exact Kd.V_mono ah.out (fun _ hk => ⟨hk.1.1, ⟨hk.1.2, hk.2⟩⟩)⟩, ⟨by (try simp only [am]); (try simp only [an]); exact rU <| af.out⟩, ⟨by (try simp only [am]); (try simp only [an]); exact rU <| ae.out⟩, ⟨by repeat (first | (with_reducible first | exact HB.out | apply Ad | apply Ab | apply Ac) | exact HB.out)⟩⟩
              ·rw [if_neg c36] at H
               exact absurd H (by simp)
             ·rw [if_neg c34] at H
              have b8 : (((rd_T93 ab (al)).f1) == (rd ac aa)) = false := beq_eq_false_iff_ne.mpr c34
              have b9 : (((rd_T93 ab (al)).f1) != (rd ac aa)) = true := bne_iff_ne.mpr c34
              obtain ⟨aC, aG⟩ : ∃ j_ : Int, (wrap64 (aa + 1)) = j_ := ⟨_, rfl⟩
              replace H : (if 0 ≤ (aC) then (if ab.length < 8796093022208 then (Ay.l1 k2 aq ar a2 ac (ab ++ [(⟨rd ac aa, rd ac (aC)⟩ : S93)]) aC) else (none)) else (none)) = some r := by first | (rw [aG] at H; exact H) | (simp only [aG] at H ⊢; exact H)
              (try rw [aG] at a9)
              (try rw [aG] at A26)
              (try rw [aG] at A27)
              (try rw [aG] at A28)
              have hji44w : (IntKind.i64.wrap (aa + 1)) = aC := (i64_w _).trans aG
              by_cases c45 : 0 ≤ (aC)
              ·rw [if_pos c45] at H
               have dh : decide (0 ≤ (aC)) = true := decide_eq_true c45
               clear c45
               by_cases c46 : ab.length < 8796093022208
               ·rw [if_pos c46] at H
                have LMc46 := Aa.mk c46
                clear c46
                obtain ⟨cN, bl⟩ : ∃ y_ : List (S93), y_ = (ab ++ [(⟨rd ac aa, rd ac (aC)⟩ : S93)]) := ⟨_, rfl⟩
                (try rw [Option.bind_some] at H); try rw [← bl] at H
                have cl := Aa.mk bl
                clear bl
                have H' := Aa.mk H
                clear H
                obtain ⟨dm, cn, cO⟩ := Kd.Bn af.out
                subst cO
                have ax : 0 ≤ (aa : Int) := of_decide_eq_true (by with_reducible assumption)
                have ay : aa < (ac.length : Int) := of_decide_eq_true (by with_reducible assumption)
                obtain ⟨ap, e174, aT⟩ := Kd.at_int (Kd.At af.out).2.2 aa ax ay
                cases e174
                replace ax := eq_true ax
                replace ay := eq_true ay
                go_wp2_with (first | ((with_reducible refine As (f := 86) rfl ?_); refine Br (some 47) rfl rfl Try.func86 (by kernel_rfl) rfl #[.slice A0 aq.length c0, .int .i64 (rd ac aa)] rfl (by (try simp only [List.map_toArray, List.map_cons, List.map_nil]); first | done | rfl | (simp only [List.length_drop, List.length_take]; rfl)) ?_; (with_reducible refine (Cp.calls _ _ aq (rd ac aa) az _ ?side1 ?side2 A26.out).mono ?_); (case side1 => repeat (first | exact (Kd.V_reads' ag.out).2.2 | (with_reducible refine Kd.Bi ?_ _) | (with_reducible refine Kd.Bh ?_ _) | (with_reducible refine Kd.Bm ?_))); (case side2 => exact (Kd.V_reads' ag.out).2.1); rintro e w48 ⟨rfl, hb⟩; refine ⟨_, rfl, ?_⟩; have n0_ := Aa.mk (Kd.V_below (by (with_reducible repeat (first | apply Kd.V_alloc | apply Kd.V_drewN | apply Kd.V_drew)); exact ag.out) hb); have n1_ := Aa.mk (Kd.V_below (by (with_reducible repeat (first | apply Kd.V_alloc | apply Kd.V_drewN | apply Kd.V_drew)); exact ah.out) hb); have n2_ := Aa.mk (Kd.Be (by exact rU <| af.out) hb); have n3_ := Aa.mk (Kd.Be (by exact rU <| ae.out) hb); have n4_ := Aa.mk (Ak (lU HB.out) hb); clear ag; clear ah; clear af; clear ae; clear HB; have ag := n0_; have ah := n1_; have af := n2_; have ae := n3_; have HB := n4_; clear n0_ n1_ n2_ n3_ n4_; (try clear hb); (try clear hb2); (try clear hk); (try clear hi)) | ((with_reducible refine As (f := 86) rfl ?_); refine Br (some 50) rfl rfl Try.func86 (by kernel_rfl) rfl #[.slice A1 ar.length c1, .int .i64 (rd ac aa)] rfl (by (try simp only [List.map_toArray, List.map_cons, List.map_nil]); first | done | rfl | (simp only [List.length_drop, List.length_take]; rfl)) ?_; (with_reducible refine (Cp.calls _ _ ar (rd ac aa) aA _ ?side1 ?side2 A27.out).mono ?_); (case side1 => repeat (first | exact (Kd.V_reads' ah.out).2.2 | (with_reducible refine Kd.Bi ?_ _) | (with_reducible refine Kd.Bh ?_ _) | (with_reducible refine Kd.Bm ?_))); (case side2 => exact (Kd.V_reads' ah.out).2.1); rintro e w49 ⟨rfl, hb⟩; refine ⟨_, rfl, ?_⟩; have n0_ := Aa.mk (Kd.V_below (by (with_reducible repeat (first | apply Kd.V_alloc | apply Kd.V_drewN | apply Kd.V_drew)); exact ag.out) hb); have n1_ := Aa.mk (Kd.V_below (by (with_reducible repeat (first | apply Kd.V_alloc | apply Kd.V_drewN | apply Kd.V_drew)); exact ah.out) hb); have n2_ := Aa.mk (Kd.Be (by exact rU <| af.out) hb); have n3_ := Aa.mk (Kd.Be (by exact rU <| ae.out) hb); have n4_ := Aa.mk (Ak (lU HB.out) hb); clear ag; clear ah; clear af; clear ae; clear HB; have ag := n0_; have ah := n1_; have af := n2_; have ae := n3_; have HB := n4_; clear n0_ n1_ n2_ n3_ n4_; (try clear hb); (try clear hb2); (try clear hk); (try clear hi)) | ((with_reducible refine Bj (N := 51) rfl ?_); refine goesF_ (some 51) rfl rfl a2.toNat (.tmp 44) (eg_ hk_) #[.bool az, .bool aA] rfl ?hv_ (by (try simp only [List.map_toArray, List.map_cons, List.map_nil]); first | done | rfl | (simp only [List.length_drop, List.length_take]; rfl)) ?_; (case hv_ => first | rfl | (go_simp; done) | (go_simp; rfl)); (with_reducible refine (Cm.calls a2 az aA true _ A28.out).mono ?_); rintro e w' ⟨rfl, ⟨nd, rfl⟩⟩; refine ⟨_, rfl, ?_⟩; obtain ⟨dn, cP, cQ⟩ := Kd.Bn ae.out; subst cQ; have aV : 0 ≤ ((al) : Int) := of_decide_eq_true (by with_reducible assumption); have aW : (al) < (ab.length : Int) := of_decide_eq_true (by with_reducible assumption); obtain ⟨bH, e178, bc, be⟩ := at_T93 (Kd.At ae.out).2.2 (al) aV aW; cases e178; replace aV := eq_true aV; replace aW := eq_true aW; have bS : 0 ≤ ((aC) : Int) := of_decide_eq_true (by with_reducible assumption); have bT : (aC) < (ac.length : Int) := of_decide_eq_true (by with_reducible assumption); obtain ⟨co, e181, cC⟩ := Kd.at_int (Kd.At af.out).2.2 (aC) bS bT; obtain rfl : ap = co := (by injection e181); replace bS := eq_true bS; replace bT := eq_true bT) | ((with_reducible refine Cn (b := .append) (xs := #[.tmp 77, .tmp 85]) rfl ?_); at_builtin; refine Kd.R_append k93 (w0 := w) w.heap.size rfl (.tmp 77) (.tmp 85) 89 93 (.agg #[(.int .i64 0), (.int .i64 0)]) 16 rfl Try.underlying89 info93 rfl (by decide) (by omega) (.slice (some bH) ab.length cP) ab (⟨rd ac aa, rd ac (aC)⟩ : S93) [.int .i64 (rd ac aa), .int .i64 (rd ac (aC))] (fun k_ => (w.heap.size ≤ k_)) (fun _ => False) rfl rfl ?aP (fun _ hk => hk.elim) ?aF ?aO ?aB ?aS ?aL ?_; (case aP => exact k93_mkM _ _ _ (⟨rd ac aa, rd ac (aC)⟩ : S93)); (case aB => exact (lU HB.out)); (case aF => exact (fun k_ hk => (Nat.le_trans (Ag (lU HB.out)) hk))); (case aO => exact (by exact rU <| ae.out)); (case aS => exact (Ag (lU HB.out))); (case aL => have := LMc46.out; omega); intro v183 w51 ho hb hg hat; rw [← cl.out] at ho; have n0_ := Aa.mk (Kd.V_afterv (ok := (fun k_ => ((P0_ k_ ∨ P1_ k_) ∨ w.heap.size ≤ k_) ∧ some k_ ≠ (.slice (some ap) ac.length cn : Value).ownBlock)) (by (with_reducible repeat (first | apply Kd.V_alloc | apply Kd.V_drewN | apply Kd.V_drew)); exact Kd.V_mono ag.out (fun _ hk => ⟨⟨hk.1, by first | exact hk.2.1 | exact hk.2.2⟩, by first | exact hk.2.2 | exact hk.2.1⟩)) hg hat); have n1_ := Aa.mk (Kd.V_afterv (ok := (fun k_ => ((P0_ k_ ∨ P1_ k_) ∨ w.heap.size ≤ k_) ∧ some k_ ≠ (.slice (some ap) ac.length cn : Value).ownBlock)) (by (with_reducible repeat (first | apply Kd.V_alloc | apply Kd.V_drewN | apply Kd.V_drew)); exact Kd.V_mono ah.out (fun _ hk => ⟨⟨hk.1, by first | exact hk.2.1 | exact hk.2.2⟩, by first | exact hk.2.2 | exact hk.2.1⟩)) hg hat); have n2_ := Aa.mk (Kd.Ct (by exact rU <| af.out) (Kd.Ck (by exact rU <| ae.out)) (by decide) hg); have n3_ := Aa.mk (hb); have n4_ := Aa.mk (ho); clear ag; clear ah; clear af; clear HB; clear ae; have ag := n0_; have ah := n1_; have af := n2_; have HB := n3_; have cp := n4_; clear n0_ n1_ n2_ n3_ n4_; clear ho hb hg hat))
                (try simp only [← am, ← an])
                go_roundg k2
                case measure => have := HK1.out; have := HK2.out; omega
                case rel => exact ⟨(aq), (ar), (cN), (aC), (by first | rfl | (simp; done) | (simp only [← aG] <;> (first | rfl | simp)) | (simp [*]; done)), H', ⟨by have := HK1.out; have := HK2.out; omega⟩, ⟨by (try simp only [am]); (try simp only [an]); (with_reducible repeat (first | apply Kd.V_alloc | apply Kd.V_drewN | apply Kd.V_drew)); exact Kd.V_mono ag.out (fun _ hk => ⟨hk.1.1, ⟨hk.1.2, hk.2⟩⟩)⟩, ⟨by (try simp only [am]); (try simp only [an]); (with_reducible repeat (first | apply Kd.V_alloc | apply Kd.V_drewN | apply Kd.V_drew)); exact Kd.V_mono ah.out (fun _ hk => ⟨hk.1.1, ⟨hk.1.2, hk.2⟩⟩)⟩, ⟨by (try simp only [am]); (try simp only [an]); exact rU <| af.out⟩, ⟨by (try simp only [am]); (try simp only [an]); exact rU <| cp.out⟩, ⟨by repeat (first | (with_reducible first | exact HB.out | apply Ad | apply Ab | apply Ac) | exact HB.out)⟩⟩
               ·rw [if_neg c46] at H
                exact absurd H (by simp)
              ·rw [if_neg c45] at H
               exact absurd H (by simp)
            ·rw [if_neg c33] at H
             exact absurd H (by simp)
           ·rw [if_neg c32] at H
            exact absurd H (by simp)
          ·rw [if_neg c30] at H
           have b6 : decide (0 < (ab.length : Int)) = false := decide_eq_false c30
           have b7 : decide (0 < ab.length) = false := decide_eq_false (by omega)
           clear c30
           obtain ⟨aD, aH⟩ : ∃ j_ : Int, (wrap64 (aa + 1)) = j_ := ⟨_, rfl⟩
           replace H : (if 0 ≤ (aD) then (if ab.length < 8796093022208 then (Ay.l1 k2 aq ar a2 ac (ab ++ [(⟨rd ac aa, rd ac (aD)⟩ : S93)]) aD) else (none)) else (none)) = some r := by first | (rw [aH] at H; exact H) | (simp only [aH] at H ⊢; exact H)
           (try rw [aH] at a9)
           (try rw [aH] at A26)
           (try rw [aH] at A27)
           (try rw [aH] at A28)
           have hji52w : (IntKind.i64.wrap (aa + 1)) = aD := (i64_w _).trans aH
           by_cases c53 : 0 ≤ (aD)
           ·rw [if_pos c53] at H
            have di : decide (0 ≤ (aD)) = true := decide_eq_true c53
            clear c53
            by_cases c54 : ab.length < 8796093022208
            ·rw [if_pos c54] at H
             have LMc54 := Aa.mk c54
             clear c54
             obtain ⟨cR, bm⟩ : ∃ y_ : List (S93), y_ = (ab ++ [(⟨rd ac aa, rd ac (aD)⟩ : S93)]) := ⟨_, rfl⟩
             (try rw [Option.bind_some] at H); try rw [← bm] at H
             have cq := Aa.mk bm
             clear bm
             have H' := Aa.mk H
             clear H
             obtain ⟨dp, ct, cS⟩ := Kd.Bn af.out
             subst cS
             have ax : 0 ≤ (aa : Int) := of_decide_eq_true (by with_reducible assumption)
             have ay : aa < (ac.length : Int) := of_decide_eq_true (by with_reducible assumption)
             obtain ⟨ap, e174, aT⟩ := Kd.at_int (Kd.At af.out).2.2 aa ax ay
             cases e174
             replace ax := eq_true ax
             replace ay := eq_true ay
             go_wp2_with (first | ((with_reducible refine As (f := 86) rfl ?_); refine Br (some 47) rfl rfl Try.func86 (by kernel_rfl) rfl #[.slice A0 aq.length c0, .int .i64 (rd ac aa)] rfl (by (try simp only [List.map_toArray, List.map_cons, List.map_nil]); first | done | rfl | (simp only [List.length_drop, List.length_take]; rfl)) ?_; (with_reducible refine (Cp.calls _ _ aq (rd ac aa) az _ ?side1 ?side2 A26.out).mono ?_); (case side1 => repeat (first | exact (Kd.V_reads' ag.out).2.2 | (with_reducible refine Kd.Bi ?_ _) | (with_reducible refine Kd.Bh ?_ _) | (with_reducible refine Kd.Bm ?_))); (case side2 => exact (Kd.V_reads' ag.out).2.1); rintro e w56 ⟨rfl, hb⟩; refine ⟨_, rfl, ?_⟩; have n0_ := Aa.mk (Kd.V_below (by (with_reducible repeat (first | apply Kd.V_alloc | apply Kd.V_drewN | apply Kd.V_drew)); exact ag.out) hb); have n1_ := Aa.mk (Kd.V_below (by (with_reducible repeat (first | apply Kd.V_alloc | apply Kd.V_drewN | apply Kd.V_drew)); exact ah.out) hb); have n2_ := Aa.mk (Kd.Be (by exact rU <| af.out) hb); have n3_ := Aa.mk (Kd.Be (by exact rU <| ae.out) hb); have n4_ := Aa.mk (Ak (lU HB.out) hb); clear ag; clear ah; clear af; clear ae; clear HB; have ag := n0_; have ah := n1_; have af := n2_; have ae := n3_; have HB := n4_; clear n0_ n1_ n2_ n3_ n4_; (try clear hb); (try clear hb2); (try clear hk); (try clear hi)) | ((with_reducible refine As (f := 86) rfl ?_); refine Br (some 50) rfl rfl Try.func86 (by kernel_rfl) rfl #[.slice A1 ar.length c1, .int .i64 (rd ac aa)] rfl (by (try simp only [List.map_toArray, List.map_cons, List.map_nil]); first | done | rfl | (simp only [List.length_drop, List.length_take]; rfl)) ?_; (with_reducible refine (Cp.calls _ _ ar (rd ac aa) aA _ ?side1 ?side2 A27.out).mono ?_); (case side1 => repeat (first | exact (Kd.V_reads' ah.out).2.2 | (with_reducible refine Kd.Bi ?_ _) | (with_reducible refine Kd.Bh ?_ _) | (with_reducible refine Kd.Bm ?_))); (case side2 => exact (Kd.V_reads' ah.out).2.1); rintro e w57 ⟨rfl, hb⟩; refine ⟨_, rfl, ?_⟩; have n0_ := Aa.mk (Kd.V_below (by (with_reducible repeat (first | apply Kd.V_alloc | apply Kd.V_drewN | apply Kd.V_drew)); exact ag.out) hb); have n1_ := Aa.mk (Kd.V_below (by (with_reducible repeat (first | apply Kd.V_alloc | apply Kd.V_drewN | apply Kd.V_drew)); exact ah.out) hb); have n2_ := Aa.mk (Kd.Be (by exact rU <| af.out) hb); have n3_ := Aa.mk (Kd.Be (by exact rU <| ae.out) hb); have n4_ := Aa.mk (Ak (lU HB.out) hb); clear ag; clear ah; clear af; clear ae; clear HB; have ag := n0_; have ah := n1_; have af := n2_; have ae := n3_; have HB := n4_; clear n0_ n1_ n2_ n3_ n4_; (try clear hb); (try clear hb2); (try clear hk); (try clear hi)) | ((with_reducible refine Bj (N := 51) rfl ?_); refine goesF_ (some 51) rfl rfl a2.toNat (.tmp 44) (eg_ hk_) #[.bool az, .bool aA] rfl ?hv_ (by (try simp only [List.map_toArray, List.map_cons, List.map_nil]); first | done | rfl | (simp only [List.length_drop, List.length_take]; rfl)) ?_; (case hv_ => first | rfl | (go_simp; done) | (go_simp; rfl)); (with_reducible refine (Cm.calls a2 az aA true _ A28.out).mono ?_); rintro e w' ⟨rfl, ⟨nd, rfl⟩⟩; refine ⟨_, rfl, ?_⟩; obtain ⟨cT, cU, cV⟩ := Kd.Bn ae.out; subst cV; have bV : 0 ≤ ((aD) : Int) := of_decide_eq_true (by with_reducible assumption); have bW : (aD) < (ac.length : Int) := of_decide_eq_true (by with_reducible assumption); obtain ⟨cu, e185, cD⟩ := Kd.at_int (Kd.At af.out).2.2 (aD) bV bW; obtain rfl : ap = cu := (by injection e185); replace bV := eq_true bV; replace bW := eq_true bW) | ((with_reducible refine Cn (b := .append) (xs := #[.tmp 77, .tmp 85]) rfl ?_); at_builtin; refine Kd.R_append k93 (w0 := w) w.heap.size rfl (.tmp 77) (.tmp 85) 89 93 (.agg #[(.int .i64 0), (.int .i64 0)]) 16 rfl Try.underlying89 info93 rfl (by decide) (by omega) (.slice cT ab.length cU) ab (⟨rd ac aa, rd ac (aD)⟩ : S93) [.int .i64 (rd ac aa), .int .i64 (rd ac (aD))] (fun k_ => (w.heap.size ≤ k_)) (fun _ => False) rfl rfl ?aP (fun _ hk => hk.elim) ?aF ?aO ?aB ?aS ?aL ?_; (case aP => exact k93_mkM _ _ _ (⟨rd ac aa, rd ac (aD)⟩ : S93)); (case aB => exact (lU HB.out)); (case aF => exact (fun k_ hk => (Nat.le_trans (Ag (lU HB.out)) hk))); (case aO => exact (by exact rU <| ae.out)); (case aS => exact (Ag (lU HB.out))); (case aL => have := LMc54.out; omega); intro v187 w59 ho hb hg hat; rw [← cq.out] at ho; have n0_ := Aa.mk (Kd.V_afterv (ok := (fun k_ => ((P0_ k_ ∨ P1_ k_) ∨ w.heap.size ≤ k_) ∧ some k_ ≠ (.slice (some ap) ac.length ct : Value).ownBlock)) (by (with_reducible repeat (first | apply Kd.V_alloc | apply Kd.V_drewN | apply Kd.V_drew)); exact Kd.V_mono ag.out (fun _ hk => ⟨⟨hk.1, by first | exact hk.2.1 | exact hk.2.2⟩, by first | exact hk.2.2 | exact hk.2.1⟩)) hg hat); have n1_ := Aa.mk (Kd.V_afterv (ok := (fun k_ => ((P0_ k_ ∨ P1_ k_) ∨ w.heap.size ≤ k_) ∧ some k_ ≠ (.slice (some ap) ac.length ct : Value).ownBlock)) (by (with_reducible repeat (first | apply Kd.V_alloc | apply Kd.V_drewN | apply Kd.V_drew)); exact Kd.V_mono ah.out (fun _ hk => ⟨⟨hk.1, by first | exact hk.2.1 | exact hk.2.2⟩, by first | exact hk.2.2 | exact hk.2.1⟩)) hg hat); have n2_ := Aa.mk (Kd.Ct (by exact rU <| af.out) (Kd.Ck (by exact rU <| ae.out)) (by decide) hg); have n3_ := Aa.mk (hb); have n4_ := Aa.mk (ho); clear ag; clear ah; clear af; clear HB; clear ae; have ag := n0_; have ah := n1_; have af := n2_; have HB := n3_; have cv := n4_; clear n0_ n1_ n2_ n3_ n4_; clear ho hb hg hat))
             (try simp only [← am, ← an])
             go_roundg k2
             case measure => have := HK1.out; have := HK2.out; omega
             case rel => exact ⟨(aq), (ar), (cR), (aD), (by first | rfl | (simp; done) | (simp only [← aH] <;> (first | rfl | simp)) | (simp [*]; done)), H', ⟨by have := HK1.out; have := HK2.out; omega⟩, ⟨by (try simp only [am]); (try simp only [an]); (with_reducible repeat (first | apply Kd.V_alloc | apply Kd.V_drewN | apply Kd.V_drew)); exact Kd.V_mono ag.out (fun _ hk => ⟨hk.1.1, ⟨hk.1.2, hk.2⟩⟩)⟩, ⟨by (try simp only [am]); (try simp only [an]); (with_reducible repeat (first | apply Kd.V_alloc | apply Kd.V_drewN | apply Kd.V_drew)); exact Kd.V_mono ah.out (fun _ hk => ⟨hk.1.1, ⟨hk.1.2, hk.2⟩⟩)⟩, ⟨by (try simp only [am]); (try simp only [an]); exact rU <| af.out⟩, ⟨by (try simp only [am]); (try simp only [an]); exact rU <| cv.out⟩, ⟨by repeat (first | (with_reducible first | exact HB.out | apply Ad | apply Ab | apply Ac) | exact HB.out)⟩⟩
            ·rw [if_neg c54] at H
             exact absurd H (by simp)
           ·rw [if_neg c53] at H
            exact absurd H (by simp)
         ·replace c29 := Bool.eq_false_iff.mpr c29
          subst c29
          have H1 := H
          rw [if_neg (show ¬ (false = true) by decide)] at H1
          clear H
          have H := H1
          clear H1
          have H' := Aa.mk H
          clear H
          obtain ⟨dq, dr, cW⟩ := Kd.Bn af.out
          subst cW
          have ax : 0 ≤ (aa : Int) := of_decide_eq_true (by with_reducible assumption)
          have ay : aa < (ac.length : Int) := of_decide_eq_true (by with_reducible assumption)
          obtain ⟨ap, e174, aT⟩ := Kd.at_int (Kd.At af.out).2.2 aa ax ay
          cases e174
          replace ax := eq_true ax
          replace ay := eq_true ay
          go_wp2_with (first | ((with_reducible refine As (f := 86) rfl ?_); refine Br (some 47) rfl rfl Try.func86 (by kernel_rfl) rfl #[.slice A0 aq.length c0, .int .i64 (rd ac aa)] rfl (by (try simp only [List.map_toArray, List.map_cons, List.map_nil]); first | done | rfl | (simp only [List.length_drop, List.length_take]; rfl)) ?_; (with_reducible refine (Cp.calls _ _ aq (rd ac aa) az _ ?side1 ?side2 A26.out).mono ?_); (case side1 => repeat (first | exact (Kd.V_reads' ag.out).2.2 | (with_reducible refine Kd.Bi ?_ _) | (with_reducible refine Kd.Bh ?_ _) | (with_reducible refine Kd.Bm ?_))); (case side2 => exact (Kd.V_reads' ag.out).2.1); rintro e w61 ⟨rfl, hb⟩; refine ⟨_, rfl, ?_⟩; have n0_ := Aa.mk (Kd.V_below (by (with_reducible repeat (first | apply Kd.V_alloc | apply Kd.V_drewN | apply Kd.V_drew)); exact ag.out) hb); have n1_ := Aa.mk (Kd.V_below (by (with_reducible repeat (first | apply Kd.V_alloc | apply Kd.V_drewN | apply Kd.V_drew)); exact ah.out) hb); have n2_ := Aa.mk (Kd.Be (by exact rU <| af.out) hb); have n3_ := Aa.mk (Kd.Be (by exact rU <| ae.out) hb); have n4_ := Aa.mk (Ak (lU HB.out) hb); clear ag; clear ah; clear af; clear ae; clear HB; have ag := n0_; have ah := n1_; have af := n2_; have ae := n3_; have HB := n4_; clear n0_ n1_ n2_ n3_ n4_; (try clear hb); (try clear hb2); (try clear hk); (try clear hi)) | ((with_reducible refine As (f := 86) rfl ?_); refine Br (some 50) rfl rfl Try.func86 (by kernel_rfl) rfl #[.slice A1 ar.length c1, .int .i64 (rd ac aa)] rfl (by (try simp only [List.map_toArray, List.map_cons, List.map_nil]); first | done | rfl | (simp only [List.length_drop, List.length_take]; rfl)) ?_; (with_reducible refine (Cp.calls _ _ ar (rd ac aa) aA _ ?side1 ?side2 A27.out).mono ?_); (case side1 => repeat (first | exact (Kd.V_reads' ah.out).2.2 | (with_reducible refine Kd.Bi ?_ _) | (with_reducible refine Kd.Bh ?_ _) | (with_reducible refine Kd.Bm ?_))); (case side2 => exact (Kd.V_reads' ah.out).2.1); rintro e w62 ⟨rfl, hb⟩; refine ⟨_, rfl, ?_⟩; have n0_ := Aa.mk (Kd.V_below (by (with_reducible repeat (first | apply Kd.V_alloc | apply Kd.V_drewN | apply Kd.V_drew)); exact ag.out) hb); have n1_ := Aa.mk (Kd.V_below (by (with_reducible repeat (first | apply Kd.V_alloc | apply Kd.V_drewN | apply Kd.V_drew)); exact ah.out) hb); have n2_ := Aa.mk (Kd.Be (by exact rU <| af.out) hb); have n3_ := Aa.mk (Kd.Be (by exact rU <| ae.out) hb); have n4_ := Aa.mk (Ak (lU HB.out) hb); clear ag; clear ah; clear af; clear ae; clear HB; have ag := n0_; have ah := n1_; have af := n2_; have ae := n3_; have HB := n4_; clear n0_ n1_ n2_ n3_ n4_; (try clear hb); (try clear hb2); (try clear hk); (try clear hi)) | ((with_reducible refine Bj (N := 51) rfl ?_); refine goesF_ (some 51) rfl rfl a2.toNat (.tmp 44) (eg_ hk_) #[.bool az, .bool aA] rfl ?hv_ (by (try simp only [List.map_toArray, List.map_cons, List.map_nil]); first | done | rfl | (simp only [List.length_drop, List.length_take]; rfl)) ?_; (case hv_ => first | rfl | (go_simp; done) | (go_simp; rfl)); (with_reducible refine (Cm.calls a2 az aA false _ A28.out).mono ?_); rintro e w' ⟨rfl, ⟨nd, rfl⟩⟩; refine ⟨_, rfl, ?_⟩))
          (try simp only [← am, ← an])
          go_roundg k2
          case measure => have := HK1.out; have := HK2.out; omega
          case rel => exact ⟨(aq), (ar), (ab), (wrap64 (aa + 1)), (by first | rfl | (simp; done) | (simp [*]; done)), H', ⟨by have := HK1.out; have := HK2.out; omega⟩, ⟨by (try simp only [am]); (try simp only [an]); (with_reducible repeat (first | apply Kd.V_alloc | apply Kd.V_drewN | apply Kd.V_drew)); exact ag.out⟩, ⟨by (try simp only [am]); (try simp only [an]); (with_reducible repeat (first | apply Kd.V_alloc | apply Kd.V_drewN | apply Kd.V_drew)); exact ah.out⟩, ⟨by (try simp only [am]); (try simp only [an]); exact rU <| af.out⟩, ⟨by (try simp only [am]); (try simp only [an]); exact rU <| ae.out⟩, ⟨by repeat (first | (with_reducible first | exact HB.out | apply Ad | apply Ab | apply Ac) | exact HB.out)⟩⟩
        ·rw [if_neg c25] at H
         exact absurd H (by simp)
       ·rw [if_neg c24] at H
        exact absurd H (by simp)
      ·rw [if_neg c23] at H
       have a9 : decide ((wrap64 (aa + 1)) < (ac.length : Int)) = false := decide_eq_false c23
       clear c23
       obtain rfl := Option.some.inj H
       obtain ⟨dt, du, cX⟩ := Kd.Bn af.out
       subst cX
       go_wp2
       go_ret
       exact ⟨_, by first | rfl | (simp [Ax, Aw] <;> rfl) | (simp [*, Ax, Aw] <;> rfl), by exact rU <| ae.out, by repeat (first | (with_reducible first | exact HB.out | apply Ad | apply Ab | apply Ac) | exact HB.out)⟩

def Bz.l0 : Nat → List (S93) → List (S93) → Int → Int → Option (Bool)
 | 0, _, _, _, _ => none
 | k + 1, x0, x1, x12, x13 => if x13 < x12 then (if 0 ≤ x13 then (if x13 < (x0.length : Int) then (if x13 < (x1.length : Int) then (if (!(((rd_T93 x0 x13).f0) == ((rd_T93 x1 x13).f0)) || (!(((rd_T93 x0 x13).f1) == ((rd_T93 x1 x13).f1)))) = true then (some false) else (Bz.l0 k x0 x1 x12 (wrap64 (x13 + 1)))) else (none)) else (none)) else (none)) else (some true)
def Bz.f (k : Nat) (l0 : List (S93)) (l1 : List (S93)) : Option (Bool) := if (l0.length : Int) = (l1.length : Int) then (Bz.l0 k l0 l1 (l0.length : Int) 0) else (some false)
set_option maxHeartbeats 8000000 in
set_option maxRecDepth 100000 in
theorem Bz.calls (k : Nat) (A0 : Option Addr) (c0 : Nat) (l0 : List (S93)) (A1 : Option Addr) (c1 : Nat) (l1 : List (S93)) (r : Bool) (w : World) (hr0 : Kd.C k93 w A0 l0.length l0) (hc0 : l0.length ≤ c0) (hr1 : Kd.C k93 w A1 l1.length l1) (hc1 : l1.length ≤ c1) (h : Bz.f k l0 l1 = some r) :
  Calls Try.prog 75 #[.slice A0 l0.length c0, .slice A1 l1.length c1] w fun e w' => e = .returned (.bool r) ∧ Drawn0 w w' := by
 have hu93 := Try.underlying93
 have HR0 := Aa.mk hr0
 have HC0 := Aa.mk hc0
 clear hr0 hc0
 have HR1 := Aa.mk hr1
 have HC1 := Aa.mk hc1
 clear hr1 hc1
 have H : (if (l0.length : Int) = (l1.length : Int) then (Bz.l0 k l0 l1 (l0.length : Int) 0) else (some false)) = some r := h
 clear h
 by_cases c3 : (l0.length : Int) = (l1.length : Int)
 ·rw [if_pos c3] at H
  have cw : ((l0.length : Int) == (l1.length : Int)) = true := beq_iff_eq.mpr c3
  have cx : ((l0.length : Int) != (l1.length : Int)) = false := bne_eq_false_iff_eq.mpr c3
  have cy : (l0.length == l1.length) = true := by first | simpa using c3 | (simp at c3 ⊢; omega)
  clear c3
  have H' := Aa.mk H
  clear H
  go_enter Try.func75, Try.ntmps75
  go_wp2
  repeat (go_quiet (fail); try go_wp2)
  go_loopg [13] k (fun kq v13 w' => ∃ (aj : Int), v13 = .int .i64 aj ∧ Aa (Bz.l0 kq l0 l1 (l0.length : Int) aj = some r) ∧ Aa (kq ≤ k) ∧ Drawn0 w w')
  case atStart => exact ⟨(0), (by first | rfl | (simp; done) | (simp [*]; done)), H', ⟨Nat.le_refl _⟩, by repeat (first | exact Drawn0.refl _ | apply Drawn0.step)⟩
  case round =>
   clear H'
   try clear c1
   try clear p2
   try clear c3
   try clear cw
   try clear cx
   try clear cy
   obtain ⟨aj, rfl, HA, HK1, ⟨m1, rfl⟩⟩ := hrel
   cases gk with
   | zero => exact absurd HA.out (by simp [Bz.l0])
   | succ k1 =>
    have H := HA.out
    clear HA
    simp only [Bz.l0] at H
    by_cases c4 : aj < (l0.length : Int)
    ·rw [if_pos c4] at H
     have cY : decide (aj < (l0.length : Int)) = true := decide_eq_true c4
     clear c4
     by_cases c5 : 0 ≤ aj
     ·rw [if_pos c5] at H
      have dv : decide (0 ≤ aj) = true := decide_eq_true c5
      clear c5
      by_cases c6 : aj < (l0.length : Int)
      ·rw [if_pos c6] at H
       have dw : decide (aj < (l0.length : Int)) = true := decide_eq_true c6
       clear c6
       by_cases c7 : aj < (l1.length : Int)
       ·rw [if_pos c7] at H
        have dz : decide (aj < (l1.length : Int)) = true := decide_eq_true c7
        clear c7
        by_cases c8 : (!(((rd_T93 l0 aj).f0) == ((rd_T93 l1 aj).f0)) || (!(((rd_T93 l0 aj).f1) == ((rd_T93 l1 aj).f1)))) = true
        ·rw [if_pos c8] at H
         have cZ : (!(((rd_T93 l0 aj).f0) == ((rd_T93 l1 aj).f0)) || (!(((rd_T93 l0 aj).f1) == ((rd_T93 l1 aj).f1)))) = true := c8
         clear c8
         obtain rfl := Option.some.inj H
         have aX : 0 ≤ (aj : Int) := of_decide_eq_true (by with_reducible assumption)
         have aY : aj < (l0.length : Int) := of_decide_eq_true (by with_reducible assumption)
         obtain ⟨cz, e189, bw, bx⟩ := at_T93 HR0.out aj aX aY
         cases e189
         replace aX := eq_true aX
         replace aY := eq_true aY
         have aZ : 0 ≤ (aj : Int) := of_decide_eq_true (by with_reducible assumption)
         have a8 : aj < (l1.length : Int) := of_decide_eq_true (by with_reducible assumption)
         obtain ⟨cA, e190, bz, bB⟩ := at_T93 HR1.out aj aZ a8
         cases e190
         replace aZ := eq_true aZ
         replace a8 := eq_true a8
         go_wp2
         repeat (go_quiet (fail); try go_wp2)
         go_ret
         exact ⟨by first | rfl | (simp; done) | (simp [*]; done), by repeat (first | exact Drawn0.refl _ | apply Drawn0.step)⟩
        ·rw [if_neg c8] at H
         have cZ : (!(((rd_T93 l0 aj).f0) == ((rd_T93 l1 aj).f0)) || (!(((rd_T93 l0 aj).f1) == ((rd_T93 l1 aj).f1)))) = false := by simpa using c8
         clear c8
         have H' := Aa.mk H
         clear H
         have aX : 0 ≤ (aj : Int) := of_decide_eq_true (by with_reducible assumption)
         have aY : aj < (l0.length : Int) := of_decide_eq_true (by with_reducible assumption)
         obtain ⟨cz, e189, bw, bx⟩ := at_T93 HR0.out aj aX aY
         cases e189
         replace aX := eq_true aX
         replace aY := eq_true aY
         have aZ : 0 ≤ (aj : Int) := of_decide_eq_true (by with_reducible assumption)
         have a8 : aj < (l1.length : Int) := of_decide_eq_true (by with_reducible assumption)
         obtain ⟨cA, e190, bz, bB⟩ := at_T93 HR1.out aj aZ a8
         cases e190
         replace aZ := eq_true aZ
         replace a8 := eq_true a8
         go_wp2
         repeat (go_quiet (fail); try go_wp2)
         go_roundg k1
         case measure => have := HK1.out; omega
         case rel => exact ⟨(wrap64 (aj + 1)), (by first | rfl | (simp; done) | (simp [*]; done)), H', ⟨by have := HK1.out; omega⟩, by repeat (first | exact Drawn0.refl _ | apply Drawn0.step)⟩
       ·rw [if_neg c7] at H
        exact absurd H (by simp)
      ·rw [if_neg c6] at H
       exact absurd H (by simp)
     ·rw [if_neg c5] at H
      exact absurd H (by simp)
    ·rw [if_neg c4] at H
     have cY : decide (aj < (l0.length : Int)) = false := decide_eq_false c4
     clear c4
     obtain rfl := Option.some.inj H
     go_wp2
     repeat (go_quiet (fail); try go_wp2)
     go_ret
     exact ⟨by first | rfl | (simp; done) | (simp [*]; done), by repeat (first | exact Drawn0.refl _ | apply Drawn0.step)⟩
 ·rw [if_neg c3] at H
  have cw : ((l0.length : Int) == (l1.length : Int)) = false := beq_eq_false_iff_ne.mpr c3
  have cx : ((l0.length : Int) != (l1.length : Int)) = true := bne_iff_ne.mpr c3
  have cy : (l0.length == l1.length) = false := by first | simpa using c3 | (simp at c3 ⊢; omega)
  obtain rfl := Option.some.inj H
  go_enter Try.func75, Try.ntmps75
  go_wp2
  repeat (go_quiet (fail); try go_wp2)
  go_ret
  exact ⟨by first | rfl | (simp; done) | (simp [*]; done), by repeat (first | exact Drawn0.refl _ | apply Drawn0.step)⟩

end Go.Proofs.Ytobdfiglgdbecaa.PGA

