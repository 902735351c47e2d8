import Derived.Test.YtobdfiglgdbecaaXPGAx0
import Derived.Test.YtobdfiglgdbecaaXPGAx2
import Derived.Test.YtobdfiglgdbecaaXPGAx5
import Derived.Test.YtobdfiglgdbecaaXPGAx6
import Derived.Test.YtobdfiglgdbecaaXNS
namespace Go.Proofs.Ytobdfiglgdbecaa.PGA
open Go.Proofs.Ytobdfiglgdbecaa.PGB
open Go.RowKit Go.Proofs.YtobdfiglgdbecaaW.PrintWords Go.Proofs.YtobdfiglgdbecaaW.PrintLast Go.Proofs.YtobdfiglgdbecaaW.PrintMore
attribute [local go_sem] max2_int min2_int max_two min_two max_three min_three max_four min_four
set_option linter.unusedVariables false
set_option linter.unusedSimpArgs false

def Bt.j0 : Nat → List (S58) → Int → Int → Bool → Option ((List (S58)) × Int)
 | 0, _, _, _, _ => none
 | k + 1, x0, x1, x2, x25 => if x25 = true then ((B4.f k x0 (wrap64 (-x1)) (wrap64 (-x2)) x1 x2).bind fun ar => ((Am.f k ar ([] : List (S58)) 49).bind fun aw => ((Bm.f k aw).bind fun aG => (some (aG.1, aG.2))))) else ((Bn.f k (([x0] : List (List (S58))))).bind fun aj => (if (aj.length : Int) > 0 then (some (([] : List (S58)), 61)) else (some (([] : List (S58)), 0))))
def Bt.f (k : Nat) (l0 : List (S58)) (a1 : Int) (a2 : Int) : Option ((List (S58)) × Int) := (Bq.f k l0).bind fun af => (if af = 0 then ((Bn.f k (([l0] : List (List (S58))))).bind fun ag => (if (ag.length : Int) > 0 then ((Ct.f (([a1, a2] : List Int))).bind fun au => (Bt.j0 k l0 a1 a2 (!au))) else (Bt.j0 k l0 a1 a2 false))) else (some (([] : List (S58)), af)))
set_option maxHeartbeats 8000000 in
set_option maxRecDepth 100000 in
theorem Bt.calls (k : Nat) (P0_ : Nat → Prop) (A0 : Option Addr) (c0 : Nat) (l0 : List (S58)) (a1 : Int) (a2 : Int) (r1 : List (S58)) (r2 : Int) (w : World) (hs0 : Kd.V k58 58 w w.heap.size (fun k_ => P0_ k_) (.slice A0 l0.length c0) l0) (h : Bt.f k l0 a1 a2 = some (r1, r2)) :
  Calls Try.prog 12 #[.slice A0 l0.length c0, .int .i64 a1, .int .i64 a2] w fun e w' => ∃ v0_ : Value, e = .returned (.tuple #[v0_, .int .i64 r2]) ∧ Kd.R k58 58 w' w.heap.size (fun k_ => (w.heap.size ≤ k_)) v0_ r1 ∧ Below w.heap.size w w' := by
 have HO0 := Aa.mk (show Kd.V k58 58 w w.heap.size (fun k_ => (P0_ k_ ∨ w.heap.size ≤ k_)) (.slice A0 l0.length c0) l0 from Kd.V_mono hs0 (fun k_ hk => .inl hk))
 have HB := Aa.mk (Below.refl w.heap.size w)
 have H : ((Bq.f k l0).bind fun af => (if af = 0 then ((Bn.f k (([l0] : List (List (S58))))).bind fun ag => (if (ag.length : Int) > 0 then ((Ct.f (([a1, a2] : List Int))).bind fun au => (Bt.j0 k l0 a1 a2 (!au))) else (Bt.j0 k l0 a1 a2 false))) else (some (([] : List (S58)), af)))) = some (r1, r2) := h
 clear h
 replace H := Option.bind_eq_some_iff.mp H
 obtain ⟨af, A40, H⟩ := H
 try dsimp only at H
 have A4 := Aa.mk A40
 clear A40
 by_cases c5 : af = 0
 ·rw [if_pos c5] at H
  have aI : (af == 0) = true := beq_iff_eq.mpr c5
  have aJ : (af != 0) = false := bne_eq_false_iff_eq.mpr c5
  clear c5
  have HC6 := Aa.mk H
  clear H
  go_enter Try.func12, Try.ntmps12
  go_upto_region 4 with (first | ((with_reducible refine Ap (f := 42) rfl ?_); refine Br (some 10) rfl rfl Try.func42 (by kernel_rfl) rfl #[.slice A0 l0.length c0] rfl (by (try simp only [List.map_toArray, List.map_cons, List.map_nil]); first | done | rfl | (simp only [List.length_drop, List.length_take]; rfl)) ?_; (with_reducible refine (Bq.calls k _ _ l0 af _ ?side1 ?side2 A4.out).mono ?_); (case side1 => repeat (first | exact (Kd.V_reads' HO0.out).2.2 | (with_reducible refine Kd.Bh ?_ _) | (with_reducible refine Kd.Bg ?_ _) | (with_reducible refine Kd.Bp ?_))); (case side2 => exact (Kd.V_reads' HO0.out).2.1); rintro e w7 ⟨rfl, hb⟩; refine ⟨_, rfl, ?_⟩; have n0_ := Aa.mk (Kd.V_below (by (with_reducible repeat (first | apply Kd.V_alloc | apply Kd.V_drewN | apply Kd.V_drew)); exact HO0.out) hb); have n1_ := Aa.mk (Ai (lU HB.out) hb); clear HO0; clear HB; have HO0 := n0_; have HB := n1_; clear n0_ n1_; (try clear hb); (try clear hb2); (try clear hk); (try clear hi)))
  (try simp only [Act.put, sA, sB, sC])
  go_cut [25] (fun v25 wc => ∃ (kq : Nat) (ao : Bool), v25 = .bool ao ∧ Aa (Bt.j0 kq l0 a1 a2 ao = some (r1, r2)) ∧ Aa (kq ≤ k) ∧ Aa (Kd.V k58 58 wc w.heap.size (fun k_ => (P0_ k_ ∨ w.heap.size ≤ k_)) (.slice A0 l0.length c0) l0) ∧ Aa (Below w.heap.size w wc))
  case first =>
   have H := HC6.out
   clear HC6
   obtain ⟨aD, ax⟩ : ∃ y_ : List (List (S58)), y_ = (([l0] : List (List (S58)))) := ⟨_, rfl⟩
   (try rw [Option.bind_some] at H); try rw [← ax] at H
   have ap := Aa.mk ax
   clear ax
   replace H := Option.bind_eq_some_iff.mp H
   obtain ⟨ag, A80, H⟩ := H
   try dsimp only at H
   have A8 := Aa.mk A80
   clear A80
   by_cases c9 : (ag.length : Int) > 0
   ·rw [if_pos c9] at H
    have av : decide (0 < (ag.length : Int)) = true := decide_eq_true c9
    have aK : decide (0 < ag.length) = true := decide_eq_true (by omega)
    clear c9
    (first | rw [av] | (simp only [i64_w, i32_w]; rw [av]) | skip)
    obtain ⟨aZ, ay⟩ : ∃ y_ : List Int, y_ = (([a1, a2] : List Int)) := ⟨_, rfl⟩
    (try rw [Option.bind_some] at H); try rw [← ay] at H
    have aH := Aa.mk ay
    clear ay
    replace H := Option.bind_eq_some_iff.mp H
    obtain ⟨au, A100, H⟩ := H
    try dsimp only at H
    have A10 := Aa.mk A100
    clear A100
    have H' := Aa.mk H
    clear H
    go_wp2_with (first | ((with_reducible refine Bo (N := 15) rfl ?_); (try (refine Cf (by rfl) ?_; dsimp only)); refine Kd.N_lit (Kd.slice 58 k58) _ 22 ?hg (N' := 15) ?hd (xs := ([l0] : List (List (S58)))) (inner := [.slice A0 l0.length c0]) (ok := (fun k_ => (P0_ k_ ∨ w.heap.size ≤ k_))) (okp := (fun k_ => (P0_ k_ ∨ w.heap.size ≤ k_))) ?hr ?hp (fun _ hk => hk) ((show ∀ k_, w7.heap.size ≤ k_ → (fun k_ => (P0_ k_ ∨ w.heap.size ≤ k_)) k_ from fun k_ hk => (.inr (Nat.le_trans (Af (lU HB.out)) hk))) _ (Nat.le_refl _)) (Below.refl _ _) (Nat.le_refl _) (by simp) ?_; (case hd => rfl); (case hg => rfl); (case hr => first | (go_simp; done) | (go_simp; rfl)); (case hp => exact (Reps.one (show Kd.FK (Kd.slice 58 k58) _ _ l0 [.slice A0 l0.length c0] from (Kd.FK_slice_mk (Kd.V_reads' (Kd.V_mono (ok' := (fun k_ => (P0_ k_ ∨ w.heap.size ≤ k_))) (HO0.out) (fun k_ hk => hk))).2.1 (Kd.V_F (Kd.V_mono (ok' := (fun k_ => (P0_ k_ ∨ w.heap.size ≤ k_))) (HO0.out) (fun k_ hk => hk))))) (Reps.none _ _))); intro v280 w11 ho12 hb hg_ hnew_; clear hg_ hnew_; (first | rw [← ap.out] at ho12 | (simp only [Int.reduceToNat] at ho12; rw [← ap.out] at ho12)); have n0_ := Aa.mk (Kd.V_elder' (by (with_reducible repeat (first | apply Kd.V_alloc | apply Kd.V_drewN | apply Kd.V_drew)); exact HO0.out) (Kd.N_base ho12) hb); have n1_ := Aa.mk (Kd.N_lower ho12 (Af (lU HB.out))); have n2_ := Aa.mk (Ai (lU HB.out) hb); clear HO0; clear HB; have HO0 := n0_; have ab := n1_; have HB := n2_; clear n0_ n1_ n2_; clear hb ho12; obtain ⟨a5, a6, a7⟩ := Kd.N_slice ab.out; subst a7) | ((with_reducible refine Ap (f := 43) rfl ?_); refine Br (some 16) rfl rfl Try.func43 (by kernel_rfl) rfl #[.slice a5 aD.length a6] rfl (by (try simp only [List.map_toArray, List.map_cons, List.map_nil]); first | done | rfl | (simp only [List.length_drop, List.length_take]; rfl)) ?_; (with_reducible refine (Bn.calls k _ _ aD ag _ ?side1 ?side2 A8.out).mono ?_); (case side1 => repeat (first | exact (Kd.N_reads' ab.out).2.2 | (with_reducible refine Kd.Bh ?_ _) | (with_reducible refine Kd.Bg ?_ _) | (with_reducible refine Kd.Bp ?_))); (case side2 => exact (Kd.N_reads' ab.out).2.1); rintro e w14 ⟨v283, rfl, ho0, hb⟩; refine ⟨_, rfl, ?_⟩; have n0_ := Aa.mk (Kd.V_elder' (by (with_reducible repeat (first | apply Kd.V_alloc | apply Kd.V_drewN | apply Kd.V_drew)); exact HO0.out) (Kd.Ao ho0) hb); have n1_ := Aa.mk (Kd.N_elder' (by (with_reducible repeat (first | apply Kd.N_alloc | apply Kd.N_drewN | apply Kd.N_drew)); exact ab.out) (Kd.Ao ho0) hb); have n2_ := Aa.mk (Kd.Bv (Kd.Cm (M := fun k_ => (w.heap.size ≤ k_)) ho0 (Af (lU HB.out)) (fun k_ h_ => h_)) (Af (lU HB.out))); have n3_ := Aa.mk (Ai (lU HB.out) hb); clear HO0; clear ab; clear HB; have HO0 := n0_; have ab := n1_; have ah := n2_; have HB := n3_; clear n0_ n1_ n2_ n3_; (try clear hb); (try clear hb2); (try clear hk); (try clear hi); (try clear ho0); obtain ⟨bE, bF, a8⟩ := Kd.Bi ah.out; subst a8) | ((with_reducible refine Bo (N := 22) rfl ?_); (try (refine Cf (by rfl) ?_; dsimp only)); refine Kd.C3 (Kd.int .i64) _ 3 ?hg (N := 22) ?hd (xs := ([a1, a2] : List Int)) (inner := [.int .i64 a1, .int .i64 a2]) (ok := fun _ => True) (okp := fun _ => True) ?hr ?hp (fun _ hk => hk) trivial (Below.refl _ _) (Nat.le_refl _) (by simp) ?_; (case hd => rfl); (case hg => rfl); (case hr => first | (go_simp; done) | (go_simp; rfl)); (case hp => exact (Reps.one (show Kd.M (Kd.int .i64) _ _ _ a1 [.int .i64 a1] from rfl) (Reps.one (show Kd.M (Kd.int .i64) _ _ _ a2 [.int .i64 a2] from rfl) (Reps.none _ _)))); intro v286 w16 ho17 hb hg_ hnew_; clear hg_ hnew_; (first | rw [← aH.out] at ho17 | (simp only [Int.reduceToNat] at ho17; rw [← aH.out] at ho17)); have n0_ := Aa.mk (Kd.V_elder' (by (with_reducible repeat (first | apply Kd.V_alloc | apply Kd.V_drewN | apply Kd.V_drew)); exact HO0.out) (Kd.Ao ho17) hb); have n1_ := Aa.mk (Kd.N_elder' (by (with_reducible repeat (first | apply Kd.N_alloc | apply Kd.N_drewN | apply Kd.N_drew)); exact ab.out) (Kd.Ao ho17) hb); have n2_ := Aa.mk (Kd.As (by exact rU <| ah.out) (Kd.Ao ho17) hb); have n3_ := Aa.mk (Kd.Bv (Kd.Bf (Kd.Cm (M := fun k_ => (w.heap.size ≤ k_)) ho17 (Af (lU HB.out)) (fun k_ h_ => h_)) (Kd.Bw (by exact rU <| ah.out))) (Af (lU HB.out))); have n4_ := Aa.mk (Ai (lU HB.out) hb); clear HO0; clear ab; clear ah; clear HB; have HO0 := n0_; have ab := n1_; have ah := n2_; have az := n3_; have HB := n4_; clear n0_ n1_ n2_ n3_ n4_; clear hb ho17; obtain ⟨bG, bH, a9⟩ := Kd.Bi az.out; subst a9) | (go_at_call 44; (with_reducible refine (Ct.calls _ _ aZ au _ ?side1 ?side2 A10.out).mono ?_); (case side1 => repeat (first | exact (Kd.Aq az.out).2.2 | (with_reducible refine Kd.Bh ?_ _) | (with_reducible refine Kd.Bg ?_ _) | (with_reducible refine Kd.Bp ?_))); (case side2 => exact (Kd.Aq az.out).2.1); rintro e w' ⟨rfl, ⟨nd, rfl⟩⟩))
    go_meet
    case rel => exact ⟨_, (!au), (by first | rfl | (simp; done) | (simp [*]; done)), H', ⟨by first | omega | exact Nat.le_refl _⟩, ⟨by (with_reducible repeat (first | apply Kd.V_alloc | apply Kd.V_drewN | apply Kd.V_drew)); exact Kd.V_mono HO0.out (fun _ hk => hk.1.1.1)⟩, ⟨by repeat (first | (with_reducible first | exact HB.out | apply Ae | apply Ac | apply Ad) | exact HB.out)⟩⟩
   ·rw [if_neg c9] at H
    have av : decide (0 < (ag.length : Int)) = false := decide_eq_false c9
    have aK : decide (0 < ag.length) = false := decide_eq_false (by omega)
    clear c9
    (first | rw [av] | (simp only [i64_w, i32_w]; rw [av]) | skip)
    have H' := Aa.mk H
    clear H
    go_wp2_with (first | ((with_reducible refine Bo (N := 15) rfl ?_); (try (refine Cf (by rfl) ?_; dsimp only)); refine Kd.N_lit (Kd.slice 58 k58) _ 22 ?hg (N' := 15) ?hd (xs := ([l0] : List (List (S58)))) (inner := [.slice A0 l0.length c0]) (ok := (fun k_ => (P0_ k_ ∨ w.heap.size ≤ k_))) (okp := (fun k_ => (P0_ k_ ∨ w.heap.size ≤ k_))) ?hr ?hp (fun _ hk => hk) ((show ∀ k_, w7.heap.size ≤ k_ → (fun k_ => (P0_ k_ ∨ w.heap.size ≤ k_)) k_ from fun k_ hk => (.inr (Nat.le_trans (Af (lU HB.out)) hk))) _ (Nat.le_refl _)) (Below.refl _ _) (Nat.le_refl _) (by simp) ?_; (case hd => rfl); (case hg => rfl); (case hr => first | (go_simp; done) | (go_simp; rfl)); (case hp => exact (Reps.one (show Kd.FK (Kd.slice 58 k58) _ _ l0 [.slice A0 l0.length c0] from (Kd.FK_slice_mk (Kd.V_reads' (Kd.V_mono (ok' := (fun k_ => (P0_ k_ ∨ w.heap.size ≤ k_))) (HO0.out) (fun k_ hk => hk))).2.1 (Kd.V_F (Kd.V_mono (ok' := (fun k_ => (P0_ k_ ∨ w.heap.size ≤ k_))) (HO0.out) (fun k_ hk => hk))))) (Reps.none _ _))); intro v280 w19 ho20 hb hg_ hnew_; clear hg_ hnew_; (first | rw [← ap.out] at ho20 | (simp only [Int.reduceToNat] at ho20; rw [← ap.out] at ho20)); have n0_ := Aa.mk (Kd.V_elder' (by (with_reducible repeat (first | apply Kd.V_alloc | apply Kd.V_drewN | apply Kd.V_drew)); exact HO0.out) (Kd.N_base ho20) hb); have n1_ := Aa.mk (Kd.N_lower ho20 (Af (lU HB.out))); have n2_ := Aa.mk (Ai (lU HB.out) hb); clear HO0; clear HB; have HO0 := n0_; have ab := n1_; have HB := n2_; clear n0_ n1_ n2_; clear hb ho20; obtain ⟨ba, bb, bc⟩ := Kd.N_slice ab.out; subst bc) | ((with_reducible refine Ap (f := 43) rfl ?_); refine Br (some 16) rfl rfl Try.func43 (by kernel_rfl) rfl #[.slice ba aD.length bb] rfl (by (try simp only [List.map_toArray, List.map_cons, List.map_nil]); first | done | rfl | (simp only [List.length_drop, List.length_take]; rfl)) ?_; (with_reducible refine (Bn.calls k _ _ aD ag _ ?side1 ?side2 A8.out).mono ?_); (case side1 => repeat (first | exact (Kd.N_reads' ab.out).2.2 | (with_reducible refine Kd.Bh ?_ _) | (with_reducible refine Kd.Bg ?_ _) | (with_reducible refine Kd.Bp ?_))); (case side2 => exact (Kd.N_reads' ab.out).2.1); rintro e w22 ⟨v283, rfl, ho0, hb⟩; refine ⟨_, rfl, ?_⟩; have n0_ := Aa.mk (Kd.V_elder' (by (with_reducible repeat (first | apply Kd.V_alloc | apply Kd.V_drewN | apply Kd.V_drew)); exact HO0.out) (Kd.Ao ho0) hb); have n1_ := Aa.mk (Kd.N_elder' (by (with_reducible repeat (first | apply Kd.N_alloc | apply Kd.N_drewN | apply Kd.N_drew)); exact ab.out) (Kd.Ao ho0) hb); have n2_ := Aa.mk (Kd.Bv (Kd.Cm (M := fun k_ => (w.heap.size ≤ k_)) ho0 (Af (lU HB.out)) (fun k_ h_ => h_)) (Af (lU HB.out))); have n3_ := Aa.mk (Ai (lU HB.out) hb); clear HO0; clear ab; clear HB; have HO0 := n0_; have ab := n1_; have ah := n2_; have HB := n3_; clear n0_ n1_ n2_ n3_; (try clear hb); (try clear hb2); (try clear hk); (try clear hi); (try clear ho0); obtain ⟨bI, bJ, be⟩ := Kd.Bi ah.out; subst be))
    go_meet
    case rel => exact ⟨_, (false), (by first | rfl | (simp; done) | (simp [*]; done)), H', ⟨by first | omega | exact Nat.le_refl _⟩, ⟨by (with_reducible repeat (first | apply Kd.V_alloc | apply Kd.V_drewN | apply Kd.V_drew)); exact Kd.V_mono HO0.out (fun _ hk => hk.1.1)⟩, ⟨by repeat (first | (with_reducible first | exact HB.out | apply Ae | apply Ac | apply Ad) | exact HB.out)⟩⟩
  case rest =>
   clear HC6
   try clear c1
   try clear p2
   try clear c4
   try clear c5
   try clear aI
   try clear aJ
   try clear c9
   try clear av
   try clear aK
   try clear c12
   obtain ⟨kq, ao, rfl, HA, HJ5, aa, HB⟩ := hcut
   cases kq with
   | zero => exact absurd HA.out (by simp [Bt.j0])
   | succ kj5 =>
    have H := HA.out
    clear HA
    simp only [Bt.j0] at H
    by_cases c24 : ao = true
    ·subst c24
     have H1 := H
     rw [if_pos rfl] at H1
     clear H
     have H := H1
     clear H1
     replace H := Option.bind_eq_some_iff.mp H
     obtain ⟨ar, A250, H⟩ := H
     try dsimp only at H
     have A25 := Aa.mk A250
     clear A250
     replace H := Option.bind_eq_some_iff.mp H
     obtain ⟨aw, A260, H⟩ := H
     try dsimp only at H
     have A26 := Aa.mk A260
     clear A260
     replace H := Option.bind_eq_some_iff.mp H
     obtain ⟨⟨bf, bg⟩, A270, H⟩ := H
     try dsimp only at H
     have A27 := Aa.mk A270
     clear A270
     simp only [Option.some.injEq, Prod.mk.injEq] at H
     obtain ⟨rfl, rfl⟩ := H
     go_wp2_with (first | ((with_reducible refine Ap (f := 48) rfl ?_); refine Br (some 33) rfl rfl Try.func48 (by kernel_rfl) rfl #[.slice A0 l0.length c0, .int .i64 (wrap64 (-a1)), .int .i64 (wrap64 (-a2)), .int .i64 a1, .int .i64 a2] rfl (by (try simp only [List.map_toArray, List.map_cons, List.map_nil]); first | done | rfl | (simp only [List.length_drop, List.length_take]; rfl)) ?_; (with_reducible refine (B4.calls kj5 _ _ l0 (wrap64 (-a1)) (wrap64 (-a2)) a1 a2 ar _ ?side1 ?side2 A25.out).mono ?_); (case side1 => repeat (first | exact (Kd.V_reads' aa.out).2.2 | (with_reducible refine Kd.Bh ?_ _) | (with_reducible refine Kd.Bg ?_ _) | (with_reducible refine Kd.Bp ?_))); (case side2 => exact (Kd.V_reads' aa.out).2.1); rintro e w28 ⟨v290, rfl, ho0, hb⟩; refine ⟨_, rfl, ?_⟩; have n0_ := Aa.mk (Kd.V_elder' (by (with_reducible repeat (first | apply Kd.V_alloc | apply Kd.V_drewN | apply Kd.V_drew)); exact aa.out) (Kd.Ao ho0) hb); have n1_ := Aa.mk (Kd.Bv (Kd.Cm (M := fun k_ => (w.heap.size ≤ k_)) ho0 (Af (lU HB.out)) (fun k_ h_ => h_)) (Af (lU HB.out))); have n2_ := Aa.mk (Ai (lU HB.out) hb); clear aa; clear HB; have aa := n0_; have ae := n1_; have HB := n2_; clear n0_ n1_ n2_; (try clear hb); (try clear hb2); (try clear hk); (try clear hi); (try clear ho0); obtain ⟨aM, aN, bh⟩ := Kd.Bi ae.out; subst bh) | ((with_reducible refine Ap (f := 47) rfl ?_); refine Br (some 34) rfl rfl Try.func47 (by kernel_rfl) rfl #[.slice aM ar.length aN, .slice none 0 0, .func (.func (49 : Int).toNat) #[] #[]] rfl (by (try simp only [List.map_toArray, List.map_cons, List.map_nil]); first | done | rfl | (simp only [List.length_drop, List.length_take]; rfl)) ?_; (refine (Am.calls kj5 (fun k_ => some k_ = (.slice aM ar.length aN : Value).ownBlock) _ _ ar (fun k_ => False) _ _ ([] : List (S58)) 49 aw _ ?side1 ?side2 A26.out).mono ?_); (case side1 => exact Kd.R_V (Kd.Cv rfl (ae.out))); (case side2 => exact Kd.V_nil _ _ _ _ _); rintro e w30 ⟨v293, rfl, ho0, hb⟩; refine ⟨_, rfl, ?_⟩; have n0_ := Aa.mk (Kd.V_elder' (by (with_reducible repeat (first | apply Kd.V_alloc | apply Kd.V_drewN | apply Kd.V_drew)); exact aa.out) (Kd.N_base ho0) hb); have n1_ := Aa.mk (Kd.At (by exact rU <| ae.out) hb); have n2_ := Aa.mk (Kd.N_lower (Kd.N_mono (ok' := fun k_ => (P0_ k_ ∨ w.heap.size ≤ k_)) ho0 (fun k_ hk_ => Or.elim hk_ (fun hs_ => Or.elim hs_ (fun hs_ => (.inr (((ae.out).1 k_ hs_.symm).1))) (fun hs_ => (hs_).elim)) (fun hn_ => (.inr (Nat.le_trans (Af (lU HB.out)) hn_))))) (Af (lU HB.out))); have n3_ := Aa.mk (Ai (lU HB.out) hb); clear aa; clear ae; clear HB; have aa := n0_; have ae := n1_; have ai := n2_; have HB := n3_; clear n0_ n1_ n2_ n3_; (try clear hb); (try clear hb2); (try clear hk); (try clear hi); (try clear ho0); obtain ⟨bi, bj, bk⟩ := Kd.N_slice ai.out; subst bk) | ((with_reducible refine Ap (f := 46) rfl ?_); refine Br (some 35) rfl rfl Try.func46 (by kernel_rfl) rfl #[.slice bi aw.length bj] rfl (by (try simp only [List.map_toArray, List.map_cons, List.map_nil]); first | done | rfl | (simp only [List.length_drop, List.length_take]; rfl)) ?_; (with_reducible refine (Bm.calls kj5 _ _ aw bf bg _ ?side1 ?side2 A27.out).mono ?_); (case side1 => repeat (first | exact (Kd.N_reads' ai.out).2.2 | (with_reducible refine Kd.Bh ?_ _) | (with_reducible refine Kd.Bg ?_ _) | (with_reducible refine Kd.Bp ?_))); (case side2 => exact (Kd.N_reads' ai.out).2.1); rintro e w32 ⟨v297, rfl, ho0, hb⟩; refine ⟨_, rfl, ?_⟩; have n0_ := Aa.mk (Kd.V_elder' (by (with_reducible repeat (first | apply Kd.V_alloc | apply Kd.V_drewN | apply Kd.V_drew)); exact aa.out) (Kd.Ao ho0) hb); have n1_ := Aa.mk (Kd.As (by exact rU <| ae.out) (Kd.Ao ho0) hb); have n2_ := Aa.mk (Kd.N_elder' (by (with_reducible repeat (first | apply Kd.N_alloc | apply Kd.N_drewN | apply Kd.N_drew)); exact ai.out) (Kd.Ao ho0) hb); have n3_ := Aa.mk (Kd.Bv (Kd.Bf (Kd.Cm (M := fun k_ => (w.heap.size ≤ k_)) ho0 (Af (lU HB.out)) (fun k_ h_ => h_)) (Kd.Bw (by exact rU <| ae.out))) (Af (lU HB.out))); have n4_ := Aa.mk (Ai (lU HB.out) hb); clear aa; clear ae; clear ai; clear HB; have aa := n0_; have ae := n1_; have ai := n2_; have aQ := n3_; have HB := n4_; clear n0_ n1_ n2_ n3_ n4_; (try clear hb); (try clear hb2); (try clear hk); (try clear hi); (try clear ho0)))
     go_ret2
     exact ⟨_, by first | rfl | (simp [Av, Au] <;> rfl) | (simp [*, Av, Au] <;> rfl), by exact rU <| Kd.Bj aQ.out (fun _ hk => hk.1.1), by repeat (first | (with_reducible first | exact HB.out | apply Ae | apply Ac | apply Ad) | exact HB.out)⟩
    ·replace c24 := Bool.eq_false_iff.mpr c24
     subst c24
     have H1 := H
     rw [if_neg (show ¬ (false = true) by decide)] at H1
     clear H
     have H := H1
     clear H1
     obtain ⟨aE, aA⟩ : ∃ y_ : List (List (S58)), y_ = (([l0] : List (List (S58)))) := ⟨_, rfl⟩
     (try rw [Option.bind_some] at H); try rw [← aA] at H
     have aq := Aa.mk aA
     clear aA
     replace H := Option.bind_eq_some_iff.mp H
     obtain ⟨aj, A330, H⟩ := H
     try dsimp only at H
     have A33 := Aa.mk A330
     clear A330
     by_cases c34 : (aj.length : Int) > 0
     ·rw [if_pos c34] at H
      have aT : decide (0 < (aj.length : Int)) = true := decide_eq_true c34
      have aU : decide (0 < aj.length) = true := decide_eq_true (by omega)
      clear c34
      simp only [Option.some.injEq, Prod.mk.injEq] at H
      obtain ⟨rfl, rfl⟩ := H
      go_wp2_with (first | ((with_reducible refine Bo (N := 39) rfl ?_); (try (refine Cf (by rfl) ?_; dsimp only)); refine Kd.N_lit (Kd.slice 58 k58) _ 22 ?hg (N' := 39) ?hd (xs := ([l0] : List (List (S58)))) (inner := [.slice A0 l0.length c0]) (ok := (fun k_ => (P0_ k_ ∨ w.heap.size ≤ k_))) (okp := (fun k_ => (P0_ k_ ∨ w.heap.size ≤ k_))) ?hr ?hp (fun _ hk => hk) ((show ∀ k_, wc.heap.size ≤ k_ → (fun k_ => (P0_ k_ ∨ w.heap.size ≤ k_)) k_ from fun k_ hk => (.inr (Nat.le_trans (Af (lU HB.out)) hk))) _ (Nat.le_refl _)) (Below.refl _ _) (Nat.le_refl _) (by simp) ?_; (case hd => rfl); (case hg => rfl); (case hr => first | (go_simp; done) | (go_simp; rfl)); (case hp => exact (Reps.one (show Kd.FK (Kd.slice 58 k58) _ _ l0 [.slice A0 l0.length c0] from (Kd.FK_slice_mk (Kd.V_reads' (Kd.V_mono (ok' := (fun k_ => (P0_ k_ ∨ w.heap.size ≤ k_))) (aa.out) (fun k_ hk => hk))).2.1 (Kd.V_F (Kd.V_mono (ok' := (fun k_ => (P0_ k_ ∨ w.heap.size ≤ k_))) (aa.out) (fun k_ hk => hk))))) (Reps.none _ _))); intro v300 w35 ho36 hb hg_ hnew_; clear hg_ hnew_; (first | rw [← aq.out] at ho36 | (simp only [Int.reduceToNat] at ho36; rw [← aq.out] at ho36)); have n0_ := Aa.mk (Kd.V_elder' (by (with_reducible repeat (first | apply Kd.V_alloc | apply Kd.V_drewN | apply Kd.V_drew)); exact aa.out) (Kd.N_base ho36) hb); have n1_ := Aa.mk (Kd.N_lower ho36 (Af (lU HB.out))); have n2_ := Aa.mk (Ai (lU HB.out) hb); clear aa; clear HB; have aa := n0_; have ac := n1_; have HB := n2_; clear n0_ n1_ n2_; clear hb ho36; obtain ⟨bl, bm, bn⟩ := Kd.N_slice ac.out; subst bn) | ((with_reducible refine Ap (f := 43) rfl ?_); refine Br (some 40) rfl rfl Try.func43 (by kernel_rfl) rfl #[.slice bl aE.length bm] rfl (by (try simp only [List.map_toArray, List.map_cons, List.map_nil]); first | done | rfl | (simp only [List.length_drop, List.length_take]; rfl)) ?_; (with_reducible refine (Bn.calls kj5 _ _ aE aj _ ?side1 ?side2 A33.out).mono ?_); (case side1 => repeat (first | exact (Kd.N_reads' ac.out).2.2 | (with_reducible refine Kd.Bh ?_ _) | (with_reducible refine Kd.Bg ?_ _) | (with_reducible refine Kd.Bp ?_))); (case side2 => exact (Kd.N_reads' ac.out).2.1); rintro e w38 ⟨v303, rfl, ho0, hb⟩; refine ⟨_, rfl, ?_⟩; have n0_ := Aa.mk (Kd.V_elder' (by (with_reducible repeat (first | apply Kd.V_alloc | apply Kd.V_drewN | apply Kd.V_drew)); exact aa.out) (Kd.Ao ho0) hb); have n1_ := Aa.mk (Kd.N_elder' (by (with_reducible repeat (first | apply Kd.N_alloc | apply Kd.N_drewN | apply Kd.N_drew)); exact ac.out) (Kd.Ao ho0) hb); have n2_ := Aa.mk (Kd.Bv (Kd.Cm (M := fun k_ => (w.heap.size ≤ k_)) ho0 (Af (lU HB.out)) (fun k_ h_ => h_)) (Af (lU HB.out))); have n3_ := Aa.mk (Ai (lU HB.out) hb); clear aa; clear ac; clear HB; have aa := n0_; have ac := n1_; have aC := n2_; have HB := n3_; clear n0_ n1_ n2_ n3_; (try clear hb); (try clear hb2); (try clear hk); (try clear hi); (try clear ho0); obtain ⟨bK, bL, bo⟩ := Kd.Bi aC.out; subst bo))
      go_ret2
      exact ⟨_, by first | rfl | (simp [Av, Au] <;> rfl) | (simp [*, Av, Au] <;> rfl), by first | exact Kd.C0 _ _ _ _ _ | exact Kd.N_nil _ _ _ _ _ | exact Kd.V_nil _ _ _ _ _ | exact Kd.Q_nil _ _ _ _ _ | exact Kd.S_nil _ _ _ _ _, by repeat (first | (with_reducible first | exact HB.out | apply Ae | apply Ac | apply Ad) | exact HB.out)⟩
     ·rw [if_neg c34] at H
      have aT : decide (0 < (aj.length : Int)) = false := decide_eq_false c34
      have aU : decide (0 < aj.length) = false := decide_eq_false (by omega)
      clear c34
      simp only [Option.some.injEq, Prod.mk.injEq] at H
      obtain ⟨rfl, rfl⟩ := H
      go_wp2_with (first | ((with_reducible refine Bo (N := 39) rfl ?_); (try (refine Cf (by rfl) ?_; dsimp only)); refine Kd.N_lit (Kd.slice 58 k58) _ 22 ?hg (N' := 39) ?hd (xs := ([l0] : List (List (S58)))) (inner := [.slice A0 l0.length c0]) (ok := (fun k_ => (P0_ k_ ∨ w.heap.size ≤ k_))) (okp := (fun k_ => (P0_ k_ ∨ w.heap.size ≤ k_))) ?hr ?hp (fun _ hk => hk) ((show ∀ k_, wc.heap.size ≤ k_ → (fun k_ => (P0_ k_ ∨ w.heap.size ≤ k_)) k_ from fun k_ hk => (.inr (Nat.le_trans (Af (lU HB.out)) hk))) _ (Nat.le_refl _)) (Below.refl _ _) (Nat.le_refl _) (by simp) ?_; (case hd => rfl); (case hg => rfl); (case hr => first | (go_simp; done) | (go_simp; rfl)); (case hp => exact (Reps.one (show Kd.FK (Kd.slice 58 k58) _ _ l0 [.slice A0 l0.length c0] from (Kd.FK_slice_mk (Kd.V_reads' (Kd.V_mono (ok' := (fun k_ => (P0_ k_ ∨ w.heap.size ≤ k_))) (aa.out) (fun k_ hk => hk))).2.1 (Kd.V_F (Kd.V_mono (ok' := (fun k_ => (P0_ k_ ∨ w.heap.size ≤ k_))) (aa.out) (fun k_ hk => hk))))) (Reps.none _ _))); intro v300 w40 ho41 hb hg_ hnew_; clear hg_ hnew_; (first | rw [← aq.out] at ho41 | (simp only [Int.reduceToNat] at ho41; rw [← aq.out] at ho41)); have n0_ := Aa.mk (Kd.V_elder' (by (with_reducible repeat (first | apply Kd.V_alloc | apply Kd.V_drewN | apply Kd.V_drew)); exact aa.out) (Kd.N_base ho41) hb); have n1_ := Aa.mk (Kd.N_lower ho41 (Af (lU HB.out))); have n2_ := Aa.mk (Ai (lU HB.out) hb); clear aa; clear HB; have aa := n0_; have ac := n1_; have HB := n2_; clear n0_ n1_ n2_; clear hb ho41; obtain ⟨bp, bq, br⟩ := Kd.N_slice ac.out; subst br) | ((with_reducible refine Ap (f := 43) rfl ?_); refine Br (some 40) rfl rfl Try.func43 (by kernel_rfl) rfl #[.slice bp aE.length bq] rfl (by (try simp only [List.map_toArray, List.map_cons, List.map_nil]); first | done | rfl | (simp only [List.length_drop, List.length_take]; rfl)) ?_; (with_reducible refine (Bn.calls kj5 _ _ aE aj _ ?side1 ?side2 A33.out).mono ?_); (case side1 => repeat (first | exact (Kd.N_reads' ac.out).2.2 | (with_reducible refine Kd.Bh ?_ _) | (with_reducible refine Kd.Bg ?_ _) | (with_reducible refine Kd.Bp ?_))); (case side2 => exact (Kd.N_reads' ac.out).2.1); rintro e w43 ⟨v303, rfl, ho0, hb⟩; refine ⟨_, rfl, ?_⟩; have n0_ := Aa.mk (Kd.V_elder' (by (with_reducible repeat (first | apply Kd.V_alloc | apply Kd.V_drewN | apply Kd.V_drew)); exact aa.out) (Kd.Ao ho0) hb); have n1_ := Aa.mk (Kd.N_elder' (by (with_reducible repeat (first | apply Kd.N_alloc | apply Kd.N_drewN | apply Kd.N_drew)); exact ac.out) (Kd.Ao ho0) hb); have n2_ := Aa.mk (Kd.Bv (Kd.Cm (M := fun k_ => (w.heap.size ≤ k_)) ho0 (Af (lU HB.out)) (fun k_ h_ => h_)) (Af (lU HB.out))); have n3_ := Aa.mk (Ai (lU HB.out) hb); clear aa; clear ac; clear HB; have aa := n0_; have ac := n1_; have aC := n2_; have HB := n3_; clear n0_ n1_ n2_ n3_; (try clear hb); (try clear hb2); (try clear hk); (try clear hi); (try clear ho0); obtain ⟨bM, bN, bs⟩ := Kd.Bi aC.out; subst bs))
      go_ret2
      exact ⟨_, by first | rfl | (simp [Av, Au] <;> rfl) | (simp [*, Av, Au] <;> rfl), by first | exact Kd.C0 _ _ _ _ _ | exact Kd.N_nil _ _ _ _ _ | exact Kd.V_nil _ _ _ _ _ | exact Kd.Q_nil _ _ _ _ _ | exact Kd.S_nil _ _ _ _ _, by repeat (first | (with_reducible first | exact HB.out | apply Ae | apply Ac | apply Ad) | exact HB.out)⟩
 ·rw [if_neg c5] at H
  have aI : (af == 0) = false := beq_eq_false_iff_ne.mpr c5
  have aJ : (af != 0) = true := bne_iff_ne.mpr c5
  simp only [Option.some.injEq, Prod.mk.injEq] at H
  obtain ⟨rfl, rfl⟩ := H
  go_enter Try.func12, Try.ntmps12
  go_wp2_with (first | ((with_reducible refine Ap (f := 42) rfl ?_); refine Br (some 10) rfl rfl Try.func42 (by kernel_rfl) rfl #[.slice A0 l0.length c0] rfl (by (try simp only [List.map_toArray, List.map_cons, List.map_nil]); first | done | rfl | (simp only [List.length_drop, List.length_take]; rfl)) ?_; (with_reducible refine (Bq.calls k _ _ l0 af _ ?side1 ?side2 A4.out).mono ?_); (case side1 => repeat (first | exact (Kd.V_reads' HO0.out).2.2 | (with_reducible refine Kd.Bh ?_ _) | (with_reducible refine Kd.Bg ?_ _) | (with_reducible refine Kd.Bp ?_))); (case side2 => exact (Kd.V_reads' HO0.out).2.1); rintro e w45 ⟨rfl, hb⟩; refine ⟨_, rfl, ?_⟩; have n0_ := Aa.mk (Kd.V_below (by (with_reducible repeat (first | apply Kd.V_alloc | apply Kd.V_drewN | apply Kd.V_drew)); exact HO0.out) hb); have n1_ := Aa.mk (Ai (lU HB.out) hb); clear HO0; clear HB; have HO0 := n0_; have HB := n1_; clear n0_ n1_; (try clear hb); (try clear hb2); (try clear hk); (try clear hi)))
  go_ret2
  exact ⟨_, by first | rfl | (simp [Av, Au] <;> rfl) | (simp [*, Av, Au] <;> rfl), by first | exact Kd.C0 _ _ _ _ _ | exact Kd.N_nil _ _ _ _ _ | exact Kd.V_nil _ _ _ _ _ | exact Kd.Q_nil _ _ _ _ _ | exact Kd.S_nil _ _ _ _ _, by repeat (first | (with_reducible first | exact HB.out | apply Ae | apply Ac | apply Ad) | exact HB.out)⟩

def Co.f (k : Nat) (l0 : List (S58)) : Option ((List (S58)) × Int) := (B5.f k l0 ([] : List (S58)) 49).bind fun ak => (some (ak.1, ak.2))
set_option maxHeartbeats 8000000 in
set_option maxRecDepth 100000 in
theorem Co.calls (k : Nat) (A0 : Option Addr) (c0 : Nat) (l0 : List (S58)) (r1 : List (S58)) (r2 : Int) (w : World) (hr0 : Kd.C k58 w A0 l0.length l0) (hc0 : l0.length ≤ c0) (h : Co.f k l0 = some (r1, r2)) :
  Calls Try.prog 21 #[.slice A0 l0.length c0] w fun e w' => ∃ v0_ : Value, e = .returned (.tuple #[v0_, .int .i64 r2]) ∧ Kd.R k58 58 w' w.heap.size (fun _ => True) v0_ r1 ∧ Below w.heap.size w w' := by
 have HR0 := Aa.mk hr0
 have HC0 := Aa.mk hc0
 clear hr0 hc0
 have HB := Aa.mk (Below.refl w.heap.size w)
 have H : ((B5.f k l0 ([] : List (S58)) 49).bind fun ak => (some (ak.1, ak.2))) = some (r1, r2) := h
 clear h
 replace H := Option.bind_eq_some_iff.mp H
 obtain ⟨⟨bu, bv⟩, A20, H⟩ := H
 try dsimp only at H
 have A2 := Aa.mk A20
 clear A20
 simp only [Option.some.injEq, Prod.mk.injEq] at H
 obtain ⟨rfl, rfl⟩ := H
 go_enter Try.func21, Try.ntmps21
 go_wp2_with (first | ((with_reducible refine Ap (f := 55) rfl ?_); refine Br (some 5) rfl rfl Try.func55 (by kernel_rfl) rfl #[.slice A0 l0.length c0, .slice none 0 0, .func (.func (49 : Int).toNat) #[] #[]] rfl (by (try simp only [List.map_toArray, List.map_cons, List.map_nil]); first | done | rfl | (simp only [List.length_drop, List.length_take]; rfl)) ?_; (refine (B5.calls k (fun k_ => k_ < w.heap.size) _ _ l0 (fun k_ => False) _ _ ([] : List (S58)) 49 bu bv _ ?side1 ?side2 A2.out).mono ?_); (case side1 => exact Kd.V_mk HC0.out (Kd.F_below (Kd.C_F k58_heap HR0.out) (lU HB.out))); (case side2 => exact Kd.V_nil _ _ _ _ _); rintro e w3 ⟨v306, rfl, ho0, hb⟩; refine ⟨_, rfl, ?_⟩; have n0_ := Aa.mk (Kd.Bv (Kd.Bj (ok' := fun k_ => True) ho0 (fun _ hk_ => trivial)) (Af (lU HB.out))); have n1_ := Aa.mk (Ai (lU HB.out) hb); clear HB; have aV := n0_; have HB := n1_; clear n0_ n1_; (try clear hb); (try clear hb2); (try clear hk); (try clear hi); (try clear ho0)))
 go_ret2
 exact ⟨_, by first | rfl | (simp [Av, Au] <;> rfl) | (simp [*, Av, Au] <;> rfl), by exact rU <| aV.out, by repeat (first | (with_reducible first | exact HB.out | apply Ae | apply Ac | apply Ad) | exact HB.out)⟩

def Cp.f (k : Nat) (l0 : List (S58)) (l1 : List (S58)) : Option ((List (S58)) × Int) := (B5.f k l0 l1 57).bind fun al => (some (al.1, al.2))
set_option maxHeartbeats 8000000 in
set_option maxRecDepth 100000 in
theorem Cp.calls (k : Nat) (A0 : Option Addr) (c0 : Nat) (l0 : List (S58)) (A1 : Option Addr) (c1 : Nat) (l1 : List (S58)) (r1 : List (S58)) (r2 : Int) (w : World) (hr0 : Kd.C k58 w A0 l0.length l0) (hc0 : l0.length ≤ c0) (hr1 : Kd.C k58 w A1 l1.length l1) (hc1 : l1.length ≤ c1) (h : Cp.f k l0 l1 = some (r1, r2)) :
  Calls Try.prog 23 #[.slice A0 l0.length c0, .slice A1 l1.length c1] w fun e w' => ∃ v0_ : Value, e = .returned (.tuple #[v0_, .int .i64 r2]) ∧ Kd.R k58 58 w' w.heap.size (fun _ => True) v0_ r1 ∧ Below w.heap.size w w' := by
 have HR0 := Aa.mk hr0
 have HC0 := Aa.mk hc0
 clear hr0 hc0
 have HR1 := Aa.mk hr1
 have HC1 := Aa.mk hc1
 clear hr1 hc1
 have HB := Aa.mk (Below.refl w.heap.size w)
 have H : ((B5.f k l0 l1 57).bind fun al => (some (al.1, al.2))) = some (r1, r2) := h
 clear h
 replace H := Option.bind_eq_some_iff.mp H
 obtain ⟨⟨bw, bx⟩, A30, H⟩ := H
 try dsimp only at H
 have A3 := Aa.mk A30
 clear A30
 simp only [Option.some.injEq, Prod.mk.injEq] at H
 obtain ⟨rfl, rfl⟩ := H
 go_enter Try.func23, Try.ntmps23
 go_wp2_with (first | ((with_reducible refine Ap (f := 55) rfl ?_); refine Br (some 8) rfl rfl Try.func55 (by kernel_rfl) rfl #[.slice A0 l0.length c0, .slice A1 l1.length c1, .func (.func (57 : Int).toNat) #[] #[]] rfl (by (try simp only [List.map_toArray, List.map_cons, List.map_nil]); first | done | rfl | (simp only [List.length_drop, List.length_take]; rfl)) ?_; (with_reducible refine (B5.calls k (fun k_ => k_ < w.heap.size) _ _ l0 (fun k_ => k_ < w.heap.size) _ _ l1 57 bw bx _ ?side1 ?side2 A3.out).mono ?_); (case side1 => exact Kd.V_mk HC0.out (Kd.F_below (Kd.C_F k58_heap HR0.out) (lU HB.out))); (case side2 => exact Kd.V_mk HC1.out (Kd.F_below (Kd.C_F k58_heap HR1.out) (lU HB.out))); rintro e w4 ⟨v310, rfl, ho0, hb⟩; refine ⟨_, rfl, ?_⟩; have n0_ := Aa.mk (Kd.Bv (Kd.Bj (ok' := fun k_ => True) ho0 (fun _ hk_ => trivial)) (Af (lU HB.out))); have n1_ := Aa.mk (Ai (lU HB.out) hb); clear HB; have aW := n0_; have HB := n1_; clear n0_ n1_; (try clear hb); (try clear hb2); (try clear hk); (try clear hi); (try clear ho0)))
 go_ret2
 exact ⟨_, by first | rfl | (simp [Av, Au] <;> rfl) | (simp [*, Av, Au] <;> rfl), by exact rU <| aW.out, by repeat (first | (with_reducible first | exact HB.out | apply Ae | apply Ac | apply Ad) | exact HB.out)⟩

def Cq.f (k : Nat) (l0 : List (S58)) (l1 : List (S58)) : Option ((List (S58)) × Int) := (B5.f k l0 l1 58).bind fun am => (some (am.1, am.2))
set_option maxHeartbeats 8000000 in
set_option maxRecDepth 100000 in
theorem Cq.calls (k : Nat) (A0 : Option Addr) (c0 : Nat) (l0 : List (S58)) (A1 : Option Addr) (c1 : Nat) (l1 : List (S58)) (r1 : List (S58)) (r2 : Int) (w : World) (hr0 : Kd.C k58 w A0 l0.length l0) (hc0 : l0.length ≤ c0) (hr1 : Kd.C k58 w A1 l1.length l1) (hc1 : l1.length ≤ c1) (h : Cq.f k l0 l1 = some (r1, r2)) :
  Calls Try.prog 25 #[.slice A0 l0.length c0, .slice A1 l1.length c1] w fun e w' => ∃ v0_ : Value, e = .returned (.tuple #[v0_, .int .i64 r2]) ∧ Kd.R k58 58 w' w.heap.size (fun _ => True) v0_ r1 ∧ Below w.heap.size w w' := by
 have HR0 := Aa.mk hr0
 have HC0 := Aa.mk hc0
 clear hr0 hc0
 have HR1 := Aa.mk hr1
 have HC1 := Aa.mk hc1
 clear hr1 hc1
 have HB := Aa.mk (Below.refl w.heap.size w)
 have H : ((B5.f k l0 l1 58).bind fun am => (some (am.1, am.2))) = some (r1, r2) := h
 clear h
 replace H := Option.bind_eq_some_iff.mp H
 obtain ⟨⟨bz, bB⟩, A30, H⟩ := H
 try dsimp only at H
 have A3 := Aa.mk A30
 clear A30
 simp only [Option.some.injEq, Prod.mk.injEq] at H
 obtain ⟨rfl, rfl⟩ := H
 go_enter Try.func25, Try.ntmps25
 go_wp2_with (first | ((with_reducible refine Ap (f := 55) rfl ?_); refine Br (some 8) rfl rfl Try.func55 (by kernel_rfl) rfl #[.slice A0 l0.length c0, .slice A1 l1.length c1, .func (.func (58 : Int).toNat) #[] #[]] rfl (by (try simp only [List.map_toArray, List.map_cons, List.map_nil]); first | done | rfl | (simp only [List.length_drop, List.length_take]; rfl)) ?_; (with_reducible refine (B5.calls k (fun k_ => k_ < w.heap.size) _ _ l0 (fun k_ => k_ < w.heap.size) _ _ l1 58 bz bB _ ?side1 ?side2 A3.out).mono ?_); (case side1 => exact Kd.V_mk HC0.out (Kd.F_below (Kd.C_F k58_heap HR0.out) (lU HB.out))); (case side2 => exact Kd.V_mk HC1.out (Kd.F_below (Kd.C_F k58_heap HR1.out) (lU HB.out))); rintro e w4 ⟨v314, rfl, ho0, hb⟩; refine ⟨_, rfl, ?_⟩; have n0_ := Aa.mk (Kd.Bv (Kd.Bj (ok' := fun k_ => True) ho0 (fun _ hk_ => trivial)) (Af (lU HB.out))); have n1_ := Aa.mk (Ai (lU HB.out) hb); clear HB; have aX := n0_; have HB := n1_; clear n0_ n1_; (try clear hb); (try clear hb2); (try clear hk); (try clear hi); (try clear ho0)))
 go_ret2
 exact ⟨_, by first | rfl | (simp [Av, Au] <;> rfl) | (simp [*, Av, Au] <;> rfl), by exact rU <| aX.out, by repeat (first | (with_reducible first | exact HB.out | apply Ae | apply Ac | apply Ad) | exact HB.out)⟩

def Cb.f (k : Nat) (l0 : List (S58)) (l1 : List (S58)) : Option ((List (S58)) × Int) := (B5.f k l0 l1 59).bind fun an => (some (an.1, an.2))
set_option maxHeartbeats 8000000 in
set_option maxRecDepth 100000 in
theorem Cb.calls (k : Nat) (A0 : Option Addr) (c0 : Nat) (l0 : List (S58)) (A1 : Option Addr) (c1 : Nat) (l1 : List (S58)) (r1 : List (S58)) (r2 : Int) (w : World) (hr0 : Kd.C k58 w A0 l0.length l0) (hc0 : l0.length ≤ c0) (hr1 : Kd.C k58 w A1 l1.length l1) (hc1 : l1.length ≤ c1) (h : Cb.f k l0 l1 = some (r1, r2)) :
  Calls Try.prog 27 #[.slice A0 l0.length c0, .slice A1 l1.length c1] w fun e w' => ∃ v0_ : Value, e = .returned (.tuple #[v0_, .int .i64 r2]) ∧ Kd.R k58 58 w' w.heap.size (fun _ => True) v0_ r1 ∧ Below w.heap.size w w' := by
 have HR0 := Aa.mk hr0
 have HC0 := Aa.mk hc0
 clear hr0 hc0
 have HR1 := Aa.mk hr1
 have HC1 := Aa.mk hc1
 clear hr1 hc1
 have HB := Aa.mk (Below.refl w.heap.size w)
 have H : ((B5.f k l0 l1 59).bind fun an => (some (an.1, an.2))) = some (r1, r2) := h
 clear h
 replace H := Option.bind_eq_some_iff.mp H
 obtain ⟨⟨bC, bD⟩, A30, H⟩ := H
 try dsimp only at H
 have A3 := Aa.mk A30
 clear A30
 simp only [Option.some.injEq, Prod.mk.injEq] at H
 obtain ⟨rfl, rfl⟩ := H
 go_enter Try.func27, Try.ntmps27
 go_wp2_with (first | ((with_reducible refine Ap (f := 55) rfl ?_); refine Br (some 8) rfl rfl Try.func55 (by kernel_rfl) rfl #[.slice A0 l0.length c0, .slice A1 l1.length c1, .func (.func (59 : Int).toNat) #[] #[]] rfl (by (try simp only [List.map_toArray, List.map_cons, List.map_nil]); first | done | rfl | (simp only [List.length_drop, List.length_take]; rfl)) ?_; (with_reducible refine (B5.calls k (fun k_ => k_ < w.heap.size) _ _ l0 (fun k_ => k_ < w.heap.size) _ _ l1 59 bC bD _ ?side1 ?side2 A3.out).mono ?_); (case side1 => exact Kd.V_mk HC0.out (Kd.F_below (Kd.C_F k58_heap HR0.out) (lU HB.out))); (case side2 => exact Kd.V_mk HC1.out (Kd.F_below (Kd.C_F k58_heap HR1.out) (lU HB.out))); rintro e w4 ⟨v318, rfl, ho0, hb⟩; refine ⟨_, rfl, ?_⟩; have n0_ := Aa.mk (Kd.Bv (Kd.Bj (ok' := fun k_ => True) ho0 (fun _ hk_ => trivial)) (Af (lU HB.out))); have n1_ := Aa.mk (Ai (lU HB.out) hb); clear HB; have aY := n0_; have HB := n1_; clear n0_ n1_; (try clear hb); (try clear hb2); (try clear hk); (try clear hi); (try clear ho0)))
 go_ret2
 exact ⟨_, by first | rfl | (simp [Av, Au] <;> rfl) | (simp [*, Av, Au] <;> rfl), by exact rU <| aY.out, by repeat (first | (with_reducible first | exact HB.out | apply Ae | apply Ac | apply Ad) | exact HB.out)⟩

end Go.Proofs.Ytobdfiglgdbecaa.PGA

