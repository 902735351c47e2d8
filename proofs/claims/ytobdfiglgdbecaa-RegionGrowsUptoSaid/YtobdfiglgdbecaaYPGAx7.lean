import Derived.Test.YtobdfiglgdbecaaYPGAx0
import Derived.Test.YtobdfiglgdbecaaYPGAx2
import Derived.Test.YtobdfiglgdbecaaYPGAx5
import Derived.Test.YtobdfiglgdbecaaYPGAx6
import Derived.Test.YtobdfiglgdbecaaYNS
namespace Go.Proofs.Ytobdfiglgdbecaa.PGA
open Go.Proofs.Ytobdfiglgdbecaa.PGB
open Go.RowKit Go.Proofs.YtobdfiglgdbecaaW.PrintWords Go.Proofs.YtobdfiglgdbecaaW.PrintLast Go.Proofs.YtobdfiglgdbecaaW.PrintMore
attribute [local go_sem] max2_int min2_int max_two min_two max_three min_three max_four min_four
set_option linter.unusedVariables false
set_option linter.unusedSimpArgs false

def Az.j0 : Nat → List (S58) → Int → Int → Bool → Option ((List (S58)) × Int)
 | 0, _, _, _, _ => none
 | k + 1, x0, x1, x2, x25 => if x25 = true then ((B3.f k x0 (wrap64 (-x1)) (wrap64 (-x2)) x1 x2).bind fun aq => ((Aq.f k aq ([] : List (S58)) 49).bind fun av => ((Bo.f k av).bind fun aE => (some (aE.1, aE.2))))) else ((Bp.f k (([x0] : List (List (S58))))).bind fun aj => (if (aj.length : Int) > 0 then (some (([] : List (S58)), 61)) else (some (([] : List (S58)), 0))))
def Az.f (k : Nat) (l0 : List (S58)) (a1 : Int) (a2 : Int) : Option ((List (S58)) × Int) := (Bk.f k l0).bind fun af => (if af = 0 then ((Bp.f k (([l0] : List (List (S58))))).bind fun ag => (if (ag.length : Int) > 0 then ((Cq.f (([a1, a2] : List Int))).bind fun ar => (Az.j0 k l0 a1 a2 (!ar))) else (Az.j0 k l0 a1 a2 false))) else (some (([] : List (S58)), af)))
set_option maxHeartbeats 8000000 in
set_option maxRecDepth 100000 in
theorem Az.calls (k : Nat) (P0_ : Nat → Prop) (A0 : Option Addr) (c0 : Nat) (l0 : List (S58)) (a1 : Int) (a2 : Int) (r1 : List (S58)) (r2 : Int) (w : World) (hs0 : Kd.V k58 58 w w.heap.size (fun k_ => P0_ k_) (.slice A0 l0.length c0) l0) (h : Az.f k l0 a1 a2 = some (r1, r2)) :
  Calls Try.prog 12 #[.slice A0 l0.length c0, .int .i64 a1, .int .i64 a2] w fun e w' => ∃ v0_ : Value, e = .returned (.tuple #[v0_, .int .i64 r2]) ∧ Kd.R k58 58 w' w.heap.size (fun k_ => (w.heap.size ≤ k_)) v0_ r1 ∧ Below w.heap.size w w' := by
 have HO0 := Aa.mk (show Kd.V k58 58 w w.heap.size (fun k_ => (P0_ k_ ∨ w.heap.size ≤ k_)) (.slice A0 l0.length c0) l0 from Kd.V_mono hs0 (fun k_ hk => .inl hk))
 have HB := Aa.mk (Below.refl w.heap.size w)
 have H : ((Bk.f k l0).bind fun af => (if af = 0 then ((Bp.f k (([l0] : List (List (S58))))).bind fun ag => (if (ag.length : Int) > 0 then ((Cq.f (([a1, a2] : List Int))).bind fun ar => (Az.j0 k l0 a1 a2 (!ar))) else (Az.j0 k l0 a1 a2 false))) else (some (([] : List (S58)), af)))) = some (r1, r2) := h
 clear h
 replace H := Option.bind_eq_some_iff.mp H
 obtain ⟨af, A40, H⟩ := H
 try dsimp only at H
 have A4 := Aa.mk A40
 clear A40
 by_cases c5 : af = 0
 ·rw [if_pos c5] at H
  have aH : (af == 0) = true := beq_iff_eq.mpr c5
  have aI : (af != 0) = false := bne_eq_false_iff_eq.mpr c5
  clear c5
  have HC6 := Aa.mk H
  clear H
  go_enter Try.func12, Try.ntmps12
  go_upto_region 4 with (first | ((with_reducible refine As (f := 42) rfl ?_); refine Br (some 10) rfl rfl Try.func42 (by kernel_rfl) rfl #[.slice A0 l0.length c0] rfl (by (try simp only [List.map_toArray, List.map_cons, List.map_nil]); first | done | rfl | (simp only [List.length_drop, List.length_take]; rfl)) ?_; (with_reducible refine (Bk.calls k _ _ l0 af _ ?side1 ?side2 A4.out).mono ?_); (case side1 => repeat (first | exact (Kd.V_reads' HO0.out).2.2 | (with_reducible refine Kd.Bi ?_ _) | (with_reducible refine Kd.Bh ?_ _) | (with_reducible refine Kd.Bm ?_))); (case side2 => exact (Kd.V_reads' HO0.out).2.1); rintro e w7 ⟨rfl, hb⟩; refine ⟨_, rfl, ?_⟩; have n0_ := Aa.mk (Kd.V_below (by (with_reducible repeat (first | apply Kd.V_alloc | apply Kd.V_drewN | apply Kd.V_drew)); exact HO0.out) hb); have n1_ := Aa.mk (Ak (lU HB.out) hb); clear HO0; clear HB; have HO0 := n0_; have HB := n1_; clear n0_ n1_; (try clear hb); (try clear hb2); (try clear hk); (try clear hi)))
  (try simp only [Act.put, sA, sB, sC])
  go_cut [25] (fun v25 wc => ∃ (kq : Nat) (an : Bool), v25 = .bool an ∧ Aa (Az.j0 kq l0 a1 a2 an = some (r1, r2)) ∧ Aa (kq ≤ k) ∧ Aa (Kd.V k58 58 wc w.heap.size (fun k_ => (P0_ k_ ∨ w.heap.size ≤ k_)) (.slice A0 l0.length c0) l0) ∧ Aa (Below w.heap.size w wc))
  case first =>
   have H := HC6.out
   clear HC6
   obtain ⟨aC, aw⟩ : ∃ y_ : List (List (S58)), y_ = (([l0] : List (List (S58)))) := ⟨_, rfl⟩
   (try rw [Option.bind_some] at H); try rw [← aw] at H
   have ao := Aa.mk aw
   clear aw
   replace H := Option.bind_eq_some_iff.mp H
   obtain ⟨ag, A80, H⟩ := H
   try dsimp only at H
   have A8 := Aa.mk A80
   clear A80
   by_cases c9 : (ag.length : Int) > 0
   ·rw [if_pos c9] at H
    have au : decide (0 < (ag.length : Int)) = true := decide_eq_true c9
    have aJ : decide (0 < ag.length) = true := decide_eq_true (by omega)
    clear c9
    (first | rw [au] | (simp only [i64_w, i32_w]; rw [au]) | skip)
    obtain ⟨aX, ax⟩ : ∃ y_ : List Int, y_ = (([a1, a2] : List Int)) := ⟨_, rfl⟩
    (try rw [Option.bind_some] at H); try rw [← ax] at H
    have aG := Aa.mk ax
    clear ax
    replace H := Option.bind_eq_some_iff.mp H
    obtain ⟨ar, A100, H⟩ := H
    try dsimp only at H
    have A10 := Aa.mk A100
    clear A100
    have H' := Aa.mk H
    clear H
    go_wp2_with (first | ((with_reducible refine Bj (N := 15) rfl ?_); (try (refine Cc (by rfl) ?_; dsimp only)); refine Kd.N_lit (Kd.slice 58 k58) _ 22 ?hg (N' := 15) ?hd (xs := ([l0] : List (List (S58)))) (inner := [.slice A0 l0.length c0]) (ok := (fun k_ => (P0_ k_ ∨ w.heap.size ≤ k_))) (okp := (fun k_ => (P0_ k_ ∨ w.heap.size ≤ k_))) ?hr ?hp (fun _ hk => hk) ((show ∀ k_, w7.heap.size ≤ k_ → (fun k_ => (P0_ k_ ∨ w.heap.size ≤ k_)) k_ from fun k_ hk => (.inr (Nat.le_trans (Ag (lU HB.out)) hk))) _ (Nat.le_refl _)) (Below.refl _ _) (Nat.le_refl _) (by simp) ?_; (case hd => rfl); (case hg => rfl); (case hr => first | (go_simp; done) | (go_simp; rfl)); (case hp => exact (Reps.one (show Kd.FK (Kd.slice 58 k58) _ _ l0 [.slice A0 l0.length c0] from (Kd.FK_slice_mk (Kd.V_reads' (Kd.V_mono (ok' := (fun k_ => (P0_ k_ ∨ w.heap.size ≤ k_))) (HO0.out) (fun k_ hk => hk))).2.1 (Kd.V_F (Kd.V_mono (ok' := (fun k_ => (P0_ k_ ∨ w.heap.size ≤ k_))) (HO0.out) (fun k_ hk => hk))))) (Reps.none _ _))); intro v280 w11 ho12 hb hg_ hnew_; clear hg_ hnew_; (first | rw [← ao.out] at ho12 | (simp only [Int.reduceToNat] at ho12; rw [← ao.out] at ho12)); have n0_ := Aa.mk (Kd.V_elder' (by (with_reducible repeat (first | apply Kd.V_alloc | apply Kd.V_drewN | apply Kd.V_drew)); exact HO0.out) (Kd.N_base ho12) hb); have n1_ := Aa.mk (Kd.N_lower ho12 (Ag (lU HB.out))); have n2_ := Aa.mk (Ak (lU HB.out) hb); clear HO0; clear HB; have HO0 := n0_; have ab := n1_; have HB := n2_; clear n0_ n1_ n2_; clear hb ho12; obtain ⟨aY, aZ, a8⟩ := Kd.N_slice ab.out; subst a8) | ((with_reducible refine As (f := 43) rfl ?_); refine Br (some 16) rfl rfl Try.func43 (by kernel_rfl) rfl #[.slice aY aC.length aZ] rfl (by (try simp only [List.map_toArray, List.map_cons, List.map_nil]); first | done | rfl | (simp only [List.length_drop, List.length_take]; rfl)) ?_; (with_reducible refine (Bp.calls k _ _ aC ag _ ?side1 ?side2 A8.out).mono ?_); (case side1 => repeat (first | exact (Kd.N_reads' ab.out).2.2 | (with_reducible refine Kd.Bi ?_ _) | (with_reducible refine Kd.Bh ?_ _) | (with_reducible refine Kd.Bm ?_))); (case side2 => exact (Kd.N_reads' ab.out).2.1); rintro e w14 ⟨v283, rfl, ho0, hb⟩; refine ⟨_, rfl, ?_⟩; have n0_ := Aa.mk (Kd.V_elder' (by (with_reducible repeat (first | apply Kd.V_alloc | apply Kd.V_drewN | apply Kd.V_drew)); exact HO0.out) (Kd.Ao ho0) hb); have n1_ := Aa.mk (Kd.N_elder' (by (with_reducible repeat (first | apply Kd.N_alloc | apply Kd.N_drewN | apply Kd.N_drew)); exact ab.out) (Kd.Ao ho0) hb); have n2_ := Aa.mk (Kd.Bx (Kd.Cf (M := fun k_ => (w.heap.size ≤ k_)) ho0 (Ag (lU HB.out)) (fun k_ h_ => h_)) (Ag (lU HB.out))); have n3_ := Aa.mk (Ak (lU HB.out) hb); clear HO0; clear ab; clear HB; have HO0 := n0_; have ab := n1_; have ah := n2_; have HB := n3_; clear n0_ n1_ n2_ n3_; (try clear hb); (try clear hb2); (try clear hk); (try clear hi); (try clear ho0); obtain ⟨bG, bH, a9⟩ := Kd.Bn ah.out; subst a9) | ((with_reducible refine Bj (N := 22) rfl ?_); (try (refine Cc (by rfl) ?_; dsimp only)); refine Kd.Cz (Kd.int .i64) _ 3 ?hg (N := 22) ?hd (xs := ([a1, a2] : List Int)) (inner := [.int .i64 a1, .int .i64 a2]) (ok := fun _ => True) (okp := fun _ => True) ?hr ?hp (fun _ hk => hk) trivial (Below.refl _ _) (Nat.le_refl _) (by simp) ?_; (case hd => rfl); (case hg => rfl); (case hr => first | (go_simp; done) | (go_simp; rfl)); (case hp => exact (Reps.one (show Kd.M (Kd.int .i64) _ _ _ a1 [.int .i64 a1] from rfl) (Reps.one (show Kd.M (Kd.int .i64) _ _ _ a2 [.int .i64 a2] from rfl) (Reps.none _ _)))); intro v286 w16 ho17 hb hg_ hnew_; clear hg_ hnew_; (first | rw [← aG.out] at ho17 | (simp only [Int.reduceToNat] at ho17; rw [← aG.out] at ho17)); have n0_ := Aa.mk (Kd.V_elder' (by (with_reducible repeat (first | apply Kd.V_alloc | apply Kd.V_drewN | apply Kd.V_drew)); exact HO0.out) (Kd.Ao ho17) hb); have n1_ := Aa.mk (Kd.N_elder' (by (with_reducible repeat (first | apply Kd.N_alloc | apply Kd.N_drewN | apply Kd.N_drew)); exact ab.out) (Kd.Ao ho17) hb); have n2_ := Aa.mk (Kd.Ap (by exact rU <| ah.out) (Kd.Ao ho17) hb); have n3_ := Aa.mk (Kd.Bx (Kd.Au (Kd.Cf (M := fun k_ => (w.heap.size ≤ k_)) ho17 (Ag (lU HB.out)) (fun k_ h_ => h_)) (Kd.Bq (by exact rU <| ah.out))) (Ag (lU HB.out))); have n4_ := Aa.mk (Ak (lU HB.out) hb); clear HO0; clear ab; clear ah; clear HB; have HO0 := n0_; have ab := n1_; have ah := n2_; have ay := n3_; have HB := n4_; clear n0_ n1_ n2_ n3_ n4_; clear hb ho17; obtain ⟨bI, bJ, bc⟩ := Kd.Bn ay.out; subst bc) | (go_at_call 44; (with_reducible refine (Cq.calls _ _ aX ar _ ?side1 ?side2 A10.out).mono ?_); (case side1 => repeat (first | exact (Kd.At ay.out).2.2 | (with_reducible refine Kd.Bi ?_ _) | (with_reducible refine Kd.Bh ?_ _) | (with_reducible refine Kd.Bm ?_))); (case side2 => exact (Kd.At ay.out).2.1); rintro e w' ⟨rfl, ⟨nd, rfl⟩⟩))
    go_meet
    case rel => exact ⟨_, (!ar), (by first | rfl | (simp; done) | (simp [*]; done)), H', ⟨by first | omega | exact Nat.le_refl _⟩, ⟨by (with_reducible repeat (first | apply Kd.V_alloc | apply Kd.V_drewN | apply Kd.V_drew)); exact Kd.V_mono HO0.out (fun _ hk => hk.1.1.1)⟩, ⟨by repeat (first | (with_reducible first | exact HB.out | apply Ad | apply Ab | apply Ac) | exact HB.out)⟩⟩
   ·rw [if_neg c9] at H
    have au : decide (0 < (ag.length : Int)) = false := decide_eq_false c9
    have aJ : decide (0 < ag.length) = false := decide_eq_false (by omega)
    clear c9
    (first | rw [au] | (simp only [i64_w, i32_w]; rw [au]) | skip)
    have H' := Aa.mk H
    clear H
    go_wp2_with (first | ((with_reducible refine Bj (N := 15) rfl ?_); (try (refine Cc (by rfl) ?_; dsimp only)); refine Kd.N_lit (Kd.slice 58 k58) _ 22 ?hg (N' := 15) ?hd (xs := ([l0] : List (List (S58)))) (inner := [.slice A0 l0.length c0]) (ok := (fun k_ => (P0_ k_ ∨ w.heap.size ≤ k_))) (okp := (fun k_ => (P0_ k_ ∨ w.heap.size ≤ k_))) ?hr ?hp (fun _ hk => hk) ((show ∀ k_, w7.heap.size ≤ k_ → (fun k_ => (P0_ k_ ∨ w.heap.size ≤ k_)) k_ from fun k_ hk => (.inr (Nat.le_trans (Ag (lU HB.out)) hk))) _ (Nat.le_refl _)) (Below.refl _ _) (Nat.le_refl _) (by simp) ?_; (case hd => rfl); (case hg => rfl); (case hr => first | (go_simp; done) | (go_simp; rfl)); (case hp => exact (Reps.one (show Kd.FK (Kd.slice 58 k58) _ _ l0 [.slice A0 l0.length c0] from (Kd.FK_slice_mk (Kd.V_reads' (Kd.V_mono (ok' := (fun k_ => (P0_ k_ ∨ w.heap.size ≤ k_))) (HO0.out) (fun k_ hk => hk))).2.1 (Kd.V_F (Kd.V_mono (ok' := (fun k_ => (P0_ k_ ∨ w.heap.size ≤ k_))) (HO0.out) (fun k_ hk => hk))))) (Reps.none _ _))); intro v280 w19 ho20 hb hg_ hnew_; clear hg_ hnew_; (first | rw [← ao.out] at ho20 | (simp only [Int.reduceToNat] at ho20; rw [← ao.out] at ho20)); have n0_ := Aa.mk (Kd.V_elder' (by (with_reducible repeat (first | apply Kd.V_alloc | apply Kd.V_drewN | apply Kd.V_drew)); exact HO0.out) (Kd.N_base ho20) hb); have n1_ := Aa.mk (Kd.N_lower ho20 (Ag (lU HB.out))); have n2_ := Aa.mk (Ak (lU HB.out) hb); clear HO0; clear HB; have HO0 := n0_; have ab := n1_; have HB := n2_; clear n0_ n1_ n2_; clear hb ho20; obtain ⟨be, bf, bg⟩ := Kd.N_slice ab.out; subst bg) | ((with_reducible refine As (f := 43) rfl ?_); refine Br (some 16) rfl rfl Try.func43 (by kernel_rfl) rfl #[.slice be aC.length bf] rfl (by (try simp only [List.map_toArray, List.map_cons, List.map_nil]); first | done | rfl | (simp only [List.length_drop, List.length_take]; rfl)) ?_; (with_reducible refine (Bp.calls k _ _ aC ag _ ?side1 ?side2 A8.out).mono ?_); (case side1 => repeat (first | exact (Kd.N_reads' ab.out).2.2 | (with_reducible refine Kd.Bi ?_ _) | (with_reducible refine Kd.Bh ?_ _) | (with_reducible refine Kd.Bm ?_))); (case side2 => exact (Kd.N_reads' ab.out).2.1); rintro e w22 ⟨v283, rfl, ho0, hb⟩; refine ⟨_, rfl, ?_⟩; have n0_ := Aa.mk (Kd.V_elder' (by (with_reducible repeat (first | apply Kd.V_alloc | apply Kd.V_drewN | apply Kd.V_drew)); exact HO0.out) (Kd.Ao ho0) hb); have n1_ := Aa.mk (Kd.N_elder' (by (with_reducible repeat (first | apply Kd.N_alloc | apply Kd.N_drewN | apply Kd.N_drew)); exact ab.out) (Kd.Ao ho0) hb); have n2_ := Aa.mk (Kd.Bx (Kd.Cf (M := fun k_ => (w.heap.size ≤ k_)) ho0 (Ag (lU HB.out)) (fun k_ h_ => h_)) (Ag (lU HB.out))); have n3_ := Aa.mk (Ak (lU HB.out) hb); clear HO0; clear ab; clear HB; have HO0 := n0_; have ab := n1_; have ah := n2_; have HB := n3_; clear n0_ n1_ n2_ n3_; (try clear hb); (try clear hb2); (try clear hk); (try clear hi); (try clear ho0); obtain ⟨bK, bL, bh⟩ := Kd.Bn ah.out; subst bh))
    go_meet
    case rel => exact ⟨_, (false), (by first | rfl | (simp; done) | (simp [*]; done)), H', ⟨by first | omega | exact Nat.le_refl _⟩, ⟨by (with_reducible repeat (first | apply Kd.V_alloc | apply Kd.V_drewN | apply Kd.V_drew)); exact Kd.V_mono HO0.out (fun _ hk => hk.1.1)⟩, ⟨by repeat (first | (with_reducible first | exact HB.out | apply Ad | apply Ab | apply Ac) | exact HB.out)⟩⟩
  case rest =>
   clear HC6
   try clear c1
   try clear p2
   try clear c4
   try clear c5
   try clear aH
   try clear aI
   try clear c9
   try clear au
   try clear aJ
   try clear c12
   obtain ⟨kq, an, rfl, HA, HJ5, aa, HB⟩ := hcut
   cases kq with
   | zero => exact absurd HA.out (by simp [Az.j0])
   | succ kj5 =>
    have H := HA.out
    clear HA
    simp only [Az.j0] at H
    by_cases c24 : an = true
    ·subst c24
     have H1 := H
     rw [if_pos rfl] at H1
     clear H
     have H := H1
     clear H1
     replace H := Option.bind_eq_some_iff.mp H
     obtain ⟨aq, A250, H⟩ := H
     try dsimp only at H
     have A25 := Aa.mk A250
     clear A250
     replace H := Option.bind_eq_some_iff.mp H
     obtain ⟨av, A260, H⟩ := H
     try dsimp only at H
     have A26 := Aa.mk A260
     clear A260
     replace H := Option.bind_eq_some_iff.mp H
     obtain ⟨⟨bi, bj⟩, A270, H⟩ := H
     try dsimp only at H
     have A27 := Aa.mk A270
     clear A270
     simp only [Option.some.injEq, Prod.mk.injEq] at H
     obtain ⟨rfl, rfl⟩ := H
     go_wp2_with (first | ((with_reducible refine As (f := 48) rfl ?_); refine Br (some 33) rfl rfl Try.func48 (by kernel_rfl) rfl #[.slice A0 l0.length c0, .int .i64 (wrap64 (-a1)), .int .i64 (wrap64 (-a2)), .int .i64 a1, .int .i64 a2] rfl (by (try simp only [List.map_toArray, List.map_cons, List.map_nil]); first | done | rfl | (simp only [List.length_drop, List.length_take]; rfl)) ?_; (with_reducible refine (B3.calls kj5 _ _ l0 (wrap64 (-a1)) (wrap64 (-a2)) a1 a2 aq _ ?side1 ?side2 A25.out).mono ?_); (case side1 => repeat (first | exact (Kd.V_reads' aa.out).2.2 | (with_reducible refine Kd.Bi ?_ _) | (with_reducible refine Kd.Bh ?_ _) | (with_reducible refine Kd.Bm ?_))); (case side2 => exact (Kd.V_reads' aa.out).2.1); rintro e w28 ⟨v290, rfl, ho0, hb⟩; refine ⟨_, rfl, ?_⟩; have n0_ := Aa.mk (Kd.V_elder' (by (with_reducible repeat (first | apply Kd.V_alloc | apply Kd.V_drewN | apply Kd.V_drew)); exact aa.out) (Kd.Ao ho0) hb); have n1_ := Aa.mk (Kd.Bx (Kd.Cf (M := fun k_ => (w.heap.size ≤ k_)) ho0 (Ag (lU HB.out)) (fun k_ h_ => h_)) (Ag (lU HB.out))); have n2_ := Aa.mk (Ak (lU HB.out) hb); clear aa; clear HB; have aa := n0_; have ae := n1_; have HB := n2_; clear n0_ n1_ n2_; (try clear hb); (try clear hb2); (try clear hk); (try clear hi); (try clear ho0); obtain ⟨aK, aM, bl⟩ := Kd.Bn ae.out; subst bl) | ((with_reducible refine As (f := 47) rfl ?_); refine Br (some 34) rfl rfl Try.func47 (by kernel_rfl) rfl #[.slice aK aq.length aM, .slice none 0 0, .func (.func (49 : Int).toNat) #[] #[]] rfl (by (try simp only [List.map_toArray, List.map_cons, List.map_nil]); first | done | rfl | (simp only [List.length_drop, List.length_take]; rfl)) ?_; (refine (Aq.calls kj5 (fun k_ => some k_ = (.slice aK aq.length aM : Value).ownBlock) _ _ aq (fun k_ => False) _ _ ([] : List (S58)) 49 av _ ?side1 ?side2 A26.out).mono ?_); (case side1 => exact Kd.R_V (Kd.Cs rfl (ae.out))); (case side2 => exact Kd.V_nil _ _ _ _ _); rintro e w30 ⟨v293, rfl, ho0, hb⟩; refine ⟨_, rfl, ?_⟩; have n0_ := Aa.mk (Kd.V_elder' (by (with_reducible repeat (first | apply Kd.V_alloc | apply Kd.V_drewN | apply Kd.V_drew)); exact aa.out) (Kd.N_base ho0) hb); have n1_ := Aa.mk (Kd.Be (by exact rU <| ae.out) hb); have n2_ := Aa.mk (Kd.N_lower (Kd.N_mono (ok' := fun k_ => (P0_ k_ ∨ w.heap.size ≤ k_)) ho0 (fun k_ hk_ => Or.elim hk_ (fun hs_ => Or.elim hs_ (fun hs_ => (.inr (((ae.out).1 k_ hs_.symm).1))) (fun hs_ => (hs_).elim)) (fun hn_ => (.inr (Nat.le_trans (Ag (lU HB.out)) hn_))))) (Ag (lU HB.out))); have n3_ := Aa.mk (Ak (lU HB.out) hb); clear aa; clear ae; clear HB; have aa := n0_; have ae := n1_; have ai := n2_; have HB := n3_; clear n0_ n1_ n2_ n3_; (try clear hb); (try clear hb2); (try clear hk); (try clear hi); (try clear ho0); obtain ⟨bm, bn, bo⟩ := Kd.N_slice ai.out; subst bo) | ((with_reducible refine As (f := 46) rfl ?_); refine Br (some 35) rfl rfl Try.func46 (by kernel_rfl) rfl #[.slice bm av.length bn] rfl (by (try simp only [List.map_toArray, List.map_cons, List.map_nil]); first | done | rfl | (simp only [List.length_drop, List.length_take]; rfl)) ?_; (with_reducible refine (Bo.calls kj5 _ _ av bi bj _ ?side1 ?side2 A27.out).mono ?_); (case side1 => repeat (first | exact (Kd.N_reads' ai.out).2.2 | (with_reducible refine Kd.Bi ?_ _) | (with_reducible refine Kd.Bh ?_ _) | (with_reducible refine Kd.Bm ?_))); (case side2 => exact (Kd.N_reads' ai.out).2.1); rintro e w32 ⟨v297, rfl, ho0, hb⟩; refine ⟨_, rfl, ?_⟩; have n0_ := Aa.mk (Kd.V_elder' (by (with_reducible repeat (first | apply Kd.V_alloc | apply Kd.V_drewN | apply Kd.V_drew)); exact aa.out) (Kd.Ao ho0) hb); have n1_ := Aa.mk (Kd.Ap (by exact rU <| ae.out) (Kd.Ao ho0) hb); have n2_ := Aa.mk (Kd.N_elder' (by (with_reducible repeat (first | apply Kd.N_alloc | apply Kd.N_drewN | apply Kd.N_drew)); exact ai.out) (Kd.Ao ho0) hb); have n3_ := Aa.mk (Kd.Bx (Kd.Au (Kd.Cf (M := fun k_ => (w.heap.size ≤ k_)) ho0 (Ag (lU HB.out)) (fun k_ h_ => h_)) (Kd.Bq (by exact rU <| ae.out))) (Ag (lU HB.out))); have n4_ := Aa.mk (Ak (lU HB.out) hb); clear aa; clear ae; clear ai; clear HB; have aa := n0_; have ae := n1_; have ai := n2_; have aN := n3_; have HB := n4_; clear n0_ n1_ n2_ n3_ n4_; (try clear hb); (try clear hb2); (try clear hk); (try clear hi); (try clear ho0)))
     go_ret2
     exact ⟨_, by first | rfl | (simp [Ax, Aw] <;> rfl) | (simp [*, Ax, Aw] <;> rfl), by exact rU <| Kd.Bs aN.out (fun _ hk => hk.1.1), by repeat (first | (with_reducible first | exact HB.out | apply Ad | apply Ab | apply Ac) | exact HB.out)⟩
    ·replace c24 := Bool.eq_false_iff.mpr c24
     subst c24
     have H1 := H
     rw [if_neg (show ¬ (false = true) by decide)] at H1
     clear H
     have H := H1
     clear H1
     obtain ⟨aD, az⟩ : ∃ y_ : List (List (S58)), y_ = (([l0] : List (List (S58)))) := ⟨_, rfl⟩
     (try rw [Option.bind_some] at H); try rw [← az] at H
     have ap := Aa.mk az
     clear az
     replace H := Option.bind_eq_some_iff.mp H
     obtain ⟨aj, A330, H⟩ := H
     try dsimp only at H
     have A33 := Aa.mk A330
     clear A330
     by_cases c34 : (aj.length : Int) > 0
     ·rw [if_pos c34] at H
      have aQ : decide (0 < (aj.length : Int)) = true := decide_eq_true c34
      have aT : decide (0 < aj.length) = true := decide_eq_true (by omega)
      clear c34
      simp only [Option.some.injEq, Prod.mk.injEq] at H
      obtain ⟨rfl, rfl⟩ := H
      go_wp2_with (first | ((with_reducible refine Bj (N := 39) rfl ?_); (try (refine Cc (by rfl) ?_; dsimp only)); refine Kd.N_lit (Kd.slice 58 k58) _ 22 ?hg (N' := 39) ?hd (xs := ([l0] : List (List (S58)))) (inner := [.slice A0 l0.length c0]) (ok := (fun k_ => (P0_ k_ ∨ w.heap.size ≤ k_))) (okp := (fun k_ => (P0_ k_ ∨ w.heap.size ≤ k_))) ?hr ?hp (fun _ hk => hk) ((show ∀ k_, wc.heap.size ≤ k_ → (fun k_ => (P0_ k_ ∨ w.heap.size ≤ k_)) k_ from fun k_ hk => (.inr (Nat.le_trans (Ag (lU HB.out)) hk))) _ (Nat.le_refl _)) (Below.refl _ _) (Nat.le_refl _) (by simp) ?_; (case hd => rfl); (case hg => rfl); (case hr => first | (go_simp; done) | (go_simp; rfl)); (case hp => exact (Reps.one (show Kd.FK (Kd.slice 58 k58) _ _ l0 [.slice A0 l0.length c0] from (Kd.FK_slice_mk (Kd.V_reads' (Kd.V_mono (ok' := (fun k_ => (P0_ k_ ∨ w.heap.size ≤ k_))) (aa.out) (fun k_ hk => hk))).2.1 (Kd.V_F (Kd.V_mono (ok' := (fun k_ => (P0_ k_ ∨ w.heap.size ≤ k_))) (aa.out) (fun k_ hk => hk))))) (Reps.none _ _))); intro v300 w35 ho36 hb hg_ hnew_; clear hg_ hnew_; (first | rw [← ap.out] at ho36 | (simp only [Int.reduceToNat] at ho36; rw [← ap.out] at ho36)); have n0_ := Aa.mk (Kd.V_elder' (by (with_reducible repeat (first | apply Kd.V_alloc | apply Kd.V_drewN | apply Kd.V_drew)); exact aa.out) (Kd.N_base ho36) hb); have n1_ := Aa.mk (Kd.N_lower ho36 (Ag (lU HB.out))); have n2_ := Aa.mk (Ak (lU HB.out) hb); clear aa; clear HB; have aa := n0_; have ac := n1_; have HB := n2_; clear n0_ n1_ n2_; clear hb ho36; obtain ⟨bp, bq, br⟩ := Kd.N_slice ac.out; subst br) | ((with_reducible refine As (f := 43) rfl ?_); refine Br (some 40) rfl rfl Try.func43 (by kernel_rfl) rfl #[.slice bp aD.length bq] rfl (by (try simp only [List.map_toArray, List.map_cons, List.map_nil]); first | done | rfl | (simp only [List.length_drop, List.length_take]; rfl)) ?_; (with_reducible refine (Bp.calls kj5 _ _ aD aj _ ?side1 ?side2 A33.out).mono ?_); (case side1 => repeat (first | exact (Kd.N_reads' ac.out).2.2 | (with_reducible refine Kd.Bi ?_ _) | (with_reducible refine Kd.Bh ?_ _) | (with_reducible refine Kd.Bm ?_))); (case side2 => exact (Kd.N_reads' ac.out).2.1); rintro e w38 ⟨v303, rfl, ho0, hb⟩; refine ⟨_, rfl, ?_⟩; have n0_ := Aa.mk (Kd.V_elder' (by (with_reducible repeat (first | apply Kd.V_alloc | apply Kd.V_drewN | apply Kd.V_drew)); exact aa.out) (Kd.Ao ho0) hb); have n1_ := Aa.mk (Kd.N_elder' (by (with_reducible repeat (first | apply Kd.N_alloc | apply Kd.N_drewN | apply Kd.N_drew)); exact ac.out) (Kd.Ao ho0) hb); have n2_ := Aa.mk (Kd.Bx (Kd.Cf (M := fun k_ => (w.heap.size ≤ k_)) ho0 (Ag (lU HB.out)) (fun k_ h_ => h_)) (Ag (lU HB.out))); have n3_ := Aa.mk (Ak (lU HB.out) hb); clear aa; clear ac; clear HB; have aa := n0_; have ac := n1_; have aA := n2_; have HB := n3_; clear n0_ n1_ n2_ n3_; (try clear hb); (try clear hb2); (try clear hk); (try clear hi); (try clear ho0); obtain ⟨bM, bN, bs⟩ := Kd.Bn aA.out; subst bs))
      go_ret2
      exact ⟨_, by first | rfl | (simp [Ax, Aw] <;> rfl) | (simp [*, Ax, Aw] <;> rfl), by first | exact Kd.Cy _ _ _ _ _ | exact Kd.N_nil _ _ _ _ _ | exact Kd.V_nil _ _ _ _ _ | exact Kd.Q_nil _ _ _ _ _ | exact Kd.S_nil _ _ _ _ _, by repeat (first | (with_reducible first | exact HB.out | apply Ad | apply Ab | apply Ac) | exact HB.out)⟩
     ·rw [if_neg c34] at H
      have aQ : decide (0 < (aj.length : Int)) = false := decide_eq_false c34
      have aT : decide (0 < aj.length) = false := decide_eq_false (by omega)
      clear c34
      simp only [Option.some.injEq, Prod.mk.injEq] at H
      obtain ⟨rfl, rfl⟩ := H
      go_wp2_with (first | ((with_reducible refine Bj (N := 39) rfl ?_); (try (refine Cc (by rfl) ?_; dsimp only)); refine Kd.N_lit (Kd.slice 58 k58) _ 22 ?hg (N' := 39) ?hd (xs := ([l0] : List (List (S58)))) (inner := [.slice A0 l0.length c0]) (ok := (fun k_ => (P0_ k_ ∨ w.heap.size ≤ k_))) (okp := (fun k_ => (P0_ k_ ∨ w.heap.size ≤ k_))) ?hr ?hp (fun _ hk => hk) ((show ∀ k_, wc.heap.size ≤ k_ → (fun k_ => (P0_ k_ ∨ w.heap.size ≤ k_)) k_ from fun k_ hk => (.inr (Nat.le_trans (Ag (lU HB.out)) hk))) _ (Nat.le_refl _)) (Below.refl _ _) (Nat.le_refl _) (by simp) ?_; (case hd => rfl); (case hg => rfl); (case hr => first | (go_simp; done) | (go_simp; rfl)); (case hp => exact (Reps.one (show Kd.FK (Kd.slice 58 k58) _ _ l0 [.slice A0 l0.length c0] from (Kd.FK_slice_mk (Kd.V_reads' (Kd.V_mono (ok' := (fun k_ => (P0_ k_ ∨ w.heap.size ≤ k_))) (aa.out) (fun k_ hk => hk))).2.1 (Kd.V_F (Kd.V_mono (ok' := (fun k_ => (P0_ k_ ∨ w.heap.size ≤ k_))) (aa.out) (fun k_ hk => hk))))) (Reps.none _ _))); intro v300 w40 ho41 hb hg_ hnew_; clear hg_ hnew_; (first | rw [← ap.out] at ho41 | (simp only [Int.reduceToNat] at ho41; rw [← ap.out] at ho41)); have n0_ := Aa.mk (Kd.V_elder' (by (with_reducible repeat (first | apply Kd.V_alloc | apply Kd.V_drewN | apply Kd.V_drew)); exact aa.out) (Kd.N_base ho41) hb); have n1_ := Aa.mk (Kd.N_lower ho41 (Ag (lU HB.out))); have n2_ := Aa.mk (Ak (lU HB.out) hb); clear aa; clear HB; have aa := n0_; have ac := n1_; have HB := n2_; clear n0_ n1_ n2_; clear hb ho41; obtain ⟨bu, bv, bw⟩ := Kd.N_slice ac.out; subst bw) | ((with_reducible refine As (f := 43) rfl ?_); refine Br (some 40) rfl rfl Try.func43 (by kernel_rfl) rfl #[.slice bu aD.length bv] rfl (by (try simp only [List.map_toArray, List.map_cons, List.map_nil]); first | done | rfl | (simp only [List.length_drop, List.length_take]; rfl)) ?_; (with_reducible refine (Bp.calls kj5 _ _ aD aj _ ?side1 ?side2 A33.out).mono ?_); (case side1 => repeat (first | exact (Kd.N_reads' ac.out).2.2 | (with_reducible refine Kd.Bi ?_ _) | (with_reducible refine Kd.Bh ?_ _) | (with_reducible refine Kd.Bm ?_))); (case side2 => exact (Kd.N_reads' ac.out).2.1); rintro e w43 ⟨v303, rfl, ho0, hb⟩; refine ⟨_, rfl, ?_⟩; have n0_ := Aa.mk (Kd.V_elder' (by (with_reducible repeat (first | apply Kd.V_alloc | apply Kd.V_drewN | apply Kd.V_drew)); exact aa.out) (Kd.Ao ho0) hb); have n1_ := Aa.mk (Kd.N_elder' (by (with_reducible repeat (first | apply Kd.N_alloc | apply Kd.N_drewN | apply Kd.N_drew)); exact ac.out) (Kd.Ao ho0) hb); have n2_ := Aa.mk (Kd.Bx (Kd.Cf (M := fun k_ => (w.heap.size ≤ k_)) ho0 (Ag (lU HB.out)) (fun k_ h_ => h_)) (Ag (lU HB.out))); have n3_ := Aa.mk (Ak (lU HB.out) hb); clear aa; clear ac; clear HB; have aa := n0_; have ac := n1_; have aA := n2_; have HB := n3_; clear n0_ n1_ n2_ n3_; (try clear hb); (try clear hb2); (try clear hk); (try clear hi); (try clear ho0); obtain ⟨bO, bP, bx⟩ := Kd.Bn aA.out; subst bx))
      go_ret2
      exact ⟨_, by first | rfl | (simp [Ax, Aw] <;> rfl) | (simp [*, Ax, Aw] <;> rfl), by first | exact Kd.Cy _ _ _ _ _ | exact Kd.N_nil _ _ _ _ _ | exact Kd.V_nil _ _ _ _ _ | exact Kd.Q_nil _ _ _ _ _ | exact Kd.S_nil _ _ _ _ _, by repeat (first | (with_reducible first | exact HB.out | apply Ad | apply Ab | apply Ac) | exact HB.out)⟩
 ·rw [if_neg c5] at H
  have aH : (af == 0) = false := beq_eq_false_iff_ne.mpr c5
  have aI : (af != 0) = true := bne_iff_ne.mpr c5
  simp only [Option.some.injEq, Prod.mk.injEq] at H
  obtain ⟨rfl, rfl⟩ := H
  go_enter Try.func12, Try.ntmps12
  go_wp2_with (first | ((with_reducible refine As (f := 42) rfl ?_); refine Br (some 10) rfl rfl Try.func42 (by kernel_rfl) rfl #[.slice A0 l0.length c0] rfl (by (try simp only [List.map_toArray, List.map_cons, List.map_nil]); first | done | rfl | (simp only [List.length_drop, List.length_take]; rfl)) ?_; (with_reducible refine (Bk.calls k _ _ l0 af _ ?side1 ?side2 A4.out).mono ?_); (case side1 => repeat (first | exact (Kd.V_reads' HO0.out).2.2 | (with_reducible refine Kd.Bi ?_ _) | (with_reducible refine Kd.Bh ?_ _) | (with_reducible refine Kd.Bm ?_))); (case side2 => exact (Kd.V_reads' HO0.out).2.1); rintro e w45 ⟨rfl, hb⟩; refine ⟨_, rfl, ?_⟩; have n0_ := Aa.mk (Kd.V_below (by (with_reducible repeat (first | apply Kd.V_alloc | apply Kd.V_drewN | apply Kd.V_drew)); exact HO0.out) hb); have n1_ := Aa.mk (Ak (lU HB.out) hb); clear HO0; clear HB; have HO0 := n0_; have HB := n1_; clear n0_ n1_; (try clear hb); (try clear hb2); (try clear hk); (try clear hi)))
  go_ret2
  exact ⟨_, by first | rfl | (simp [Ax, Aw] <;> rfl) | (simp [*, Ax, Aw] <;> rfl), by first | exact Kd.Cy _ _ _ _ _ | exact Kd.N_nil _ _ _ _ _ | exact Kd.V_nil _ _ _ _ _ | exact Kd.Q_nil _ _ _ _ _ | exact Kd.S_nil _ _ _ _ _, by repeat (first | (with_reducible first | exact HB.out | apply Ad | apply Ab | apply Ac) | exact HB.out)⟩

def Cg.f (k : Nat) (l0 : List (S58)) : Option ((List (S58)) × Int) := (B7.f k l0 ([] : List (S58)) 49).bind fun ak => (some (ak.1, ak.2))
set_option maxHeartbeats 8000000 in
set_option maxRecDepth 100000 in
theorem Cg.calls (k : Nat) (A0 : Option Addr) (c0 : Nat) (l0 : List (S58)) (r1 : List (S58)) (r2 : Int) (w : World) (hr0 : Kd.C k58 w A0 l0.length l0) (hc0 : l0.length ≤ c0) (h : Cg.f k l0 = some (r1, r2)) :
  Calls Try.prog 21 #[.slice A0 l0.length c0] w fun e w' => ∃ v0_ : Value, e = .returned (.tuple #[v0_, .int .i64 r2]) ∧ Kd.R k58 58 w' w.heap.size (fun _ => True) v0_ r1 ∧ Below w.heap.size w w' := by
 have HR0 := Aa.mk hr0
 have HC0 := Aa.mk hc0
 clear hr0 hc0
 have HB := Aa.mk (Below.refl w.heap.size w)
 have H : ((B7.f k l0 ([] : List (S58)) 49).bind fun ak => (some (ak.1, ak.2))) = some (r1, r2) := h
 clear h
 replace H := Option.bind_eq_some_iff.mp H
 obtain ⟨⟨bz, bB⟩, A20, H⟩ := H
 try dsimp only at H
 have A2 := Aa.mk A20
 clear A20
 simp only [Option.some.injEq, Prod.mk.injEq] at H
 obtain ⟨rfl, rfl⟩ := H
 go_enter Try.func21, Try.ntmps21
 go_wp2_with (first | ((with_reducible refine As (f := 55) rfl ?_); refine Br (some 5) rfl rfl Try.func55 (by kernel_rfl) rfl #[.slice A0 l0.length c0, .slice none 0 0, .func (.func (49 : Int).toNat) #[] #[]] rfl (by (try simp only [List.map_toArray, List.map_cons, List.map_nil]); first | done | rfl | (simp only [List.length_drop, List.length_take]; rfl)) ?_; (refine (B7.calls k (fun k_ => k_ < w.heap.size) _ _ l0 (fun k_ => False) _ _ ([] : List (S58)) 49 bz bB _ ?side1 ?side2 A2.out).mono ?_); (case side1 => exact Kd.V_mk HC0.out (Kd.F_below (Kd.C_F k58_heap HR0.out) (lU HB.out))); (case side2 => exact Kd.V_nil _ _ _ _ _); rintro e w3 ⟨v306, rfl, ho0, hb⟩; refine ⟨_, rfl, ?_⟩; have n0_ := Aa.mk (Kd.Bx (Kd.Bs (ok' := fun k_ => True) ho0 (fun _ hk_ => trivial)) (Ag (lU HB.out))); have n1_ := Aa.mk (Ak (lU HB.out) hb); clear HB; have aU := n0_; have HB := n1_; clear n0_ n1_; (try clear hb); (try clear hb2); (try clear hk); (try clear hi); (try clear ho0)))
 go_ret2
 exact ⟨_, by first | rfl | (simp [Ax, Aw] <;> rfl) | (simp [*, Ax, Aw] <;> rfl), by exact rU <| aU.out, by repeat (first | (with_reducible first | exact HB.out | apply Ad | apply Ab | apply Ac) | exact HB.out)⟩

def B2.f (k : Nat) (l0 : List (S58)) (l1 : List (S58)) : Option ((List (S58)) × Int) := (B7.f k l0 l1 57).bind fun al => (some (al.1, al.2))
set_option maxHeartbeats 8000000 in
set_option maxRecDepth 100000 in
theorem B2.calls (k : Nat) (A0 : Option Addr) (c0 : Nat) (l0 : List (S58)) (A1 : Option Addr) (c1 : Nat) (l1 : List (S58)) (r1 : List (S58)) (r2 : Int) (w : World) (hr0 : Kd.C k58 w A0 l0.length l0) (hc0 : l0.length ≤ c0) (hr1 : Kd.C k58 w A1 l1.length l1) (hc1 : l1.length ≤ c1) (h : B2.f k l0 l1 = some (r1, r2)) :
  Calls Try.prog 23 #[.slice A0 l0.length c0, .slice A1 l1.length c1] w fun e w' => ∃ v0_ : Value, e = .returned (.tuple #[v0_, .int .i64 r2]) ∧ Kd.R k58 58 w' w.heap.size (fun _ => True) v0_ r1 ∧ Below w.heap.size w w' := by
 have HR0 := Aa.mk hr0
 have HC0 := Aa.mk hc0
 clear hr0 hc0
 have HR1 := Aa.mk hr1
 have HC1 := Aa.mk hc1
 clear hr1 hc1
 have HB := Aa.mk (Below.refl w.heap.size w)
 have H : ((B7.f k l0 l1 57).bind fun al => (some (al.1, al.2))) = some (r1, r2) := h
 clear h
 replace H := Option.bind_eq_some_iff.mp H
 obtain ⟨⟨bC, bD⟩, A30, H⟩ := H
 try dsimp only at H
 have A3 := Aa.mk A30
 clear A30
 simp only [Option.some.injEq, Prod.mk.injEq] at H
 obtain ⟨rfl, rfl⟩ := H
 go_enter Try.func23, Try.ntmps23
 go_wp2_with (first | ((with_reducible refine As (f := 55) rfl ?_); refine Br (some 8) rfl rfl Try.func55 (by kernel_rfl) rfl #[.slice A0 l0.length c0, .slice A1 l1.length c1, .func (.func (57 : Int).toNat) #[] #[]] rfl (by (try simp only [List.map_toArray, List.map_cons, List.map_nil]); first | done | rfl | (simp only [List.length_drop, List.length_take]; rfl)) ?_; (with_reducible refine (B7.calls k (fun k_ => k_ < w.heap.size) _ _ l0 (fun k_ => k_ < w.heap.size) _ _ l1 57 bC bD _ ?side1 ?side2 A3.out).mono ?_); (case side1 => exact Kd.V_mk HC0.out (Kd.F_below (Kd.C_F k58_heap HR0.out) (lU HB.out))); (case side2 => exact Kd.V_mk HC1.out (Kd.F_below (Kd.C_F k58_heap HR1.out) (lU HB.out))); rintro e w4 ⟨v310, rfl, ho0, hb⟩; refine ⟨_, rfl, ?_⟩; have n0_ := Aa.mk (Kd.Bx (Kd.Bs (ok' := fun k_ => True) ho0 (fun _ hk_ => trivial)) (Ag (lU HB.out))); have n1_ := Aa.mk (Ak (lU HB.out) hb); clear HB; have aV := n0_; have HB := n1_; clear n0_ n1_; (try clear hb); (try clear hb2); (try clear hk); (try clear hi); (try clear ho0)))
 go_ret2
 exact ⟨_, by first | rfl | (simp [Ax, Aw] <;> rfl) | (simp [*, Ax, Aw] <;> rfl), by exact rU <| aV.out, by repeat (first | (with_reducible first | exact HB.out | apply Ad | apply Ab | apply Ac) | exact HB.out)⟩

def Cr.f (k : Nat) (l0 : List (S58)) (l1 : List (S58)) : Option ((List (S58)) × Int) := (B7.f k l0 l1 59).bind fun am => (some (am.1, am.2))
set_option maxHeartbeats 8000000 in
set_option maxRecDepth 100000 in
theorem Cr.calls (k : Nat) (A0 : Option Addr) (c0 : Nat) (l0 : List (S58)) (A1 : Option Addr) (c1 : Nat) (l1 : List (S58)) (r1 : List (S58)) (r2 : Int) (w : World) (hr0 : Kd.C k58 w A0 l0.length l0) (hc0 : l0.length ≤ c0) (hr1 : Kd.C k58 w A1 l1.length l1) (hc1 : l1.length ≤ c1) (h : Cr.f k l0 l1 = some (r1, r2)) :
  Calls Try.prog 27 #[.slice A0 l0.length c0, .slice A1 l1.length c1] w fun e w' => ∃ v0_ : Value, e = .returned (.tuple #[v0_, .int .i64 r2]) ∧ Kd.R k58 58 w' w.heap.size (fun _ => True) v0_ r1 ∧ Below w.heap.size w w' := by
 have HR0 := Aa.mk hr0
 have HC0 := Aa.mk hc0
 clear hr0 hc0
 have HR1 := Aa.mk hr1
 have HC1 := Aa.mk hc1
 clear hr1 hc1
 have HB := Aa.mk (Below.refl w.heap.size w)
 have H : ((B7.f k l0 l1 59).bind fun am => (some (am.1, am.2))) = some (r1, r2) := h
 clear h
 replace H := Option.bind_eq_some_iff.mp H
 obtain ⟨⟨bE, bF⟩, A30, H⟩ := H
 try dsimp only at H
 have A3 := Aa.mk A30
 clear A30
 simp only [Option.some.injEq, Prod.mk.injEq] at H
 obtain ⟨rfl, rfl⟩ := H
 go_enter Try.func27, Try.ntmps27
 go_wp2_with (first | ((with_reducible refine As (f := 55) rfl ?_); refine Br (some 8) rfl rfl Try.func55 (by kernel_rfl) rfl #[.slice A0 l0.length c0, .slice A1 l1.length c1, .func (.func (59 : Int).toNat) #[] #[]] rfl (by (try simp only [List.map_toArray, List.map_cons, List.map_nil]); first | done | rfl | (simp only [List.length_drop, List.length_take]; rfl)) ?_; (with_reducible refine (B7.calls k (fun k_ => k_ < w.heap.size) _ _ l0 (fun k_ => k_ < w.heap.size) _ _ l1 59 bE bF _ ?side1 ?side2 A3.out).mono ?_); (case side1 => exact Kd.V_mk HC0.out (Kd.F_below (Kd.C_F k58_heap HR0.out) (lU HB.out))); (case side2 => exact Kd.V_mk HC1.out (Kd.F_below (Kd.C_F k58_heap HR1.out) (lU HB.out))); rintro e w4 ⟨v318, rfl, ho0, hb⟩; refine ⟨_, rfl, ?_⟩; have n0_ := Aa.mk (Kd.Bx (Kd.Bs (ok' := fun k_ => True) ho0 (fun _ hk_ => trivial)) (Ag (lU HB.out))); have n1_ := Aa.mk (Ak (lU HB.out) hb); clear HB; have aW := n0_; have HB := n1_; clear n0_ n1_; (try clear hb); (try clear hb2); (try clear hk); (try clear hi); (try clear ho0)))
 go_ret2
 exact ⟨_, by first | rfl | (simp [Ax, Aw] <;> rfl) | (simp [*, Ax, Aw] <;> rfl), by exact rU <| aW.out, by repeat (first | (with_reducible first | exact HB.out | apply Ad | apply Ab | apply Ac) | exact HB.out)⟩

end Go.Proofs.Ytobdfiglgdbecaa.PGA

