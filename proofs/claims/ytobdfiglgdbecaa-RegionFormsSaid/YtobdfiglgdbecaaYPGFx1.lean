import Derived.Test.YtobdfiglgdbecaaYPGFx0
import Derived.Test.YtobdfiglgdbecaaYPGAx7
import Derived.Test.YtobdfiglgdbecaaYPGHx2
import Derived.Test.YtobdfiglgdbecaaYPGHx5
import Derived.Test.YtobdfiglgdbecaaYPGKx1
namespace Go.Proofs.Ytobdfiglgdbecaa.PGF
open Go.Proofs.Ytobdfiglgdbecaa.PGA Go.Proofs.Ytobdfiglgdbecaa.PGB Go.Proofs.Ytobdfiglgdbecaa.PGH Go.Proofs.Ytobdfiglgdbecaa.PGK
open Go.RowKit Go.Proofs.YtobdfiglgdbecaaW.PrintWords Go.Proofs.YtobdfiglgdbecaaW.PrintLast Go.Proofs.YtobdfiglgdbecaaW.PrintMore
attribute [local go_sem] max2_int min2_int max_two min_two max_three min_three max_four min_four
set_option linter.unusedVariables false
set_option linter.unusedSimpArgs false

mutual
def Ah.j0 : Nat → List (S58) → Int → Int → Bool → Option (Bool)
 | 0, _, _, _, _ => none
 | k + 1, x0, x1, x2, x28 => if x28 = true then (some true) else ((B7.f k x0).bind fun bT => ((Ay.f bT.2).bind fun aG => (if aG = 0 then (Ah.l0 k x0 x1 x2 bT.1 ([] : List (S58)) (wrap64 ((x0.length : Int) - 1))) else (some false))))
def Ah.l0 : Nat → List (S58) → Int → Int → List (S58) → List (S58) → Int → Option (Bool)
 | 0, _, _, _, _, _, _ => none
 | k + 1, x0, x1, x2, x7, x9, x10 => if x10 ≥ 0 then (if 0 ≤ x10 then (if x10 < (x0.length : Int) then (if ((rd_T58 x0 x10).f0) < x1 then (Ah.j2 k x0 x1 x2 x7 x9 x10 (decide (x1 < ((rd_T58 x0 x10).f2))) ((rd_T58 x0 x10).f0) ((rd_T58 x0 x10).f1) ((rd_T58 x0 x10).f2) ((rd_T58 x0 x10).f3)) else (Ah.j2 k x0 x1 x2 x7 x9 x10 false ((rd_T58 x0 x10).f0) ((rd_T58 x0 x10).f1) ((rd_T58 x0 x10).f2) ((rd_T58 x0 x10).f3))) else (none)) else (none)) else ((B7.f k x9).bind fun bV => ((B7.f k x7).bind fun bW => ((C0.f k x0 x9).bind fun bX => ((Ay.f bV.2).bind fun aH => ((Ay.f bW.2).bind fun aI => ((Ay.f bX.2).bind fun aJ => (if (wrap64 ((wrap64 (aH + aI)) + aJ)) = 0 then (if bX.1 = true then ((Ag.f k x7 bV.1).bind fun b4 => (if b4 = true then ((Ag.f k x7 bW.1).bind fun b5 => (some b5)) else (some false))) else (some false)) else (some false))))))))
def Ah.j2 : Nat → List (S58) → Int → Int → List (S58) → List (S58) → Int → Bool → Int → Int → Int → Int → Option (Bool)
 | 0, _, _, _, _, _, _, _, _, _, _, _ => none
 | k + 1, x0, x1, x2, x7, x9, x10, x57, am, ak, an, al => if x57 = true then ((some (([(⟨x1, ak, an, al⟩ : S58), (⟨am, ak, x1, al⟩ : S58)] : List (S58)) : List (S58))).bind fun aj => (if x9.length + aj.length < 4398046511104 then ((some (x9 ++ aj : List (S58))).bind fun ar => (if ak < x2 then (if x2 < al then ((some (([(⟨am, x2, an, al⟩ : S58), (⟨am, ak, an, x2⟩ : S58)] : List (S58)) : List (S58))).bind fun av => (if ar.length + av.length < 4398046511104 then (Ah.l0 k x0 x1 x2 x7 (ar ++ av) (wrap64 (x10 - 1))) else (none))) else (if ar.length < 4398046511104 then (Ah.l0 k x0 x1 x2 x7 (ar ++ [(⟨am, ak, an, al⟩ : S58)]) (wrap64 (x10 - 1))) else (none))) else (if ar.length < 4398046511104 then (Ah.l0 k x0 x1 x2 x7 (ar ++ [(⟨am, ak, an, al⟩ : S58)]) (wrap64 (x10 - 1))) else (none)))) else (none))) else (if ak < x2 then (if x2 < al then ((some (([(⟨am, x2, an, al⟩ : S58), (⟨am, ak, an, x2⟩ : S58)] : List (S58)) : List (S58))).bind fun aC => (if x9.length + aC.length < 4398046511104 then (Ah.l0 k x0 x1 x2 x7 (x9 ++ aC) (wrap64 (x10 - 1))) else (none))) else (if x9.length < 4398046511104 then (Ah.l0 k x0 x1 x2 x7 (x9 ++ [(⟨am, ak, an, al⟩ : S58)]) (wrap64 (x10 - 1))) else (none))) else (if x9.length < 4398046511104 then (Ah.l0 k x0 x1 x2 x7 (x9 ++ [(⟨am, ak, an, al⟩ : S58)]) (wrap64 (x10 - 1))) else (none)))
end
def Ah.f (k : Nat) (l0 : List (S58)) (a1 : Int) (a2 : Int) : Option (Bool) := (Cm.f k).bind fun aX => (if aX = true then ((Bx.f k (([l0] : List (List (S58))))).bind fun aY => (if aY = true then (Ah.j0 k l0 a1 a2 (decide ((l0.length : Int) > 12))) else (Ah.j0 k l0 a1 a2 true))) else (some false))
set_option maxHeartbeats 8000000 in
set_option maxRecDepth 100000 in
theorem Ah.calls (k : Nat) (P0_ : Nat → Prop) (A0 : Option Addr) (c0 : Nat) (l0 : List (S58)) (a1 : Int) (a2 : Int) (r : Bool) (w : World) (hs0 : Kd.V k58 58 w w.heap.size (fun k_ => P0_ k_) (.slice A0 l0.length c0) l0) (h : Ah.f k l0 a1 a2 = some r) (HT0 : r = true := by decide) :
  Calls Try.prog 6 #[.slice A0 l0.length c0, .int .i64 a1, .int .i64 a2] w fun e w' => e = .returned (.bool r) ∧ Below w.heap.size w w' := by
 have HT := Aa.mk HT0
 clear HT0
 have hu58 := Try.underlying58
 have HO0 := Aa.mk (show Kd.V k58 58 w w.heap.size (fun k_ => (P0_ k_ ∨ w.heap.size ≤ k_)) (.slice A0 l0.length c0) l0 from Kd.V_mono hs0 (fun k_ hk => .inl hk))
 have HB := Aa.mk (Below.refl w.heap.size w)
 have H : ((Cm.f k).bind fun aX => (if aX = true then ((Bx.f k (([l0] : List (List (S58))))).bind fun aY => (if aY = true then (Ah.j0 k l0 a1 a2 (decide ((l0.length : Int) > 12))) else (Ah.j0 k l0 a1 a2 true))) else (some false))) = some r := h
 clear h
 replace H := Option.bind_eq_some_iff.mp H
 obtain ⟨aX, A40, H⟩ := H
 try dsimp only at H
 have A4 := Aa.mk A40
 clear A40
 by_cases c5 : aX = true
 ·subst c5
  have H1 := H
  rw [if_pos rfl] at H1
  clear H
  have H := H1
  clear H1
  have HC6 := Aa.mk H
  clear H
  go_enter Try.func6, Try.ntmps6
  go_upto_region 3 with (first | ((with_reducible refine Ap (f := 10) rfl ?_); refine Br (some 18) rfl rfl Try.func10 (by kernel_rfl) rfl #[] rfl (by (try simp only [List.map_toArray, List.map_cons, List.map_nil]); first | done | rfl | (simp only [List.length_drop, List.length_take]; rfl)) ?_; (with_reducible refine (Cm.calls k  true _ A4.out).mono ?_); rintro e w7 ⟨rfl, hb⟩; refine ⟨_, rfl, ?_⟩; have n0_ := Aa.mk (Kd.V_below (by (with_reducible repeat (first | apply Kd.V_alloc | apply Kd.V_drewN | apply Kd.V_drew)); exact HO0.out) hb); have n1_ := Aa.mk (Aj (lU HB.out) hb); clear HO0; clear HB; have HO0 := n0_; have HB := n1_; clear n0_ n1_; (try clear hb); (try clear hb2); (try clear hk); (try clear hi)))
  (try simp only [Act.put, sA, sB, sC])
  go_cut [28] (fun v28 wc => ∃ (kq : Nat) (aN : Bool), v28 = .bool aN ∧ Aa (Ah.j0 kq l0 a1 a2 aN = some r) ∧ Aa (kq ≤ k) ∧ Aa (Kd.V k58 58 wc w.heap.size (fun k_ => (P0_ k_ ∨ w.heap.size ≤ k_)) (.slice A0 l0.length c0) l0) ∧ Aa (Below w.heap.size w wc))
  case first =>
   have H := HC6.out
   clear HC6
   obtain ⟨bj, aZ⟩ : ∃ y_ : List (List (S58)), y_ = (([l0] : List (List (S58)))) := ⟨_, rfl⟩
   (try rw [Option.bind_some] at H); try rw [← aZ] at H
   have aQ := Aa.mk aZ
   clear aZ
   replace H := Option.bind_eq_some_iff.mp H
   obtain ⟨aY, A80, H⟩ := H
   try dsimp only at H
   have A8 := Aa.mk A80
   clear A80
   by_cases c9 : aY = true
   ·subst c9
    have H1 := H
    rw [if_pos rfl] at H1
    clear H
    have H := H1
    clear H1
    have H' := Aa.mk H
    clear H
    go_wp2_with (first | ((with_reducible refine Bj (N := 21) rfl ?_); (try (refine Bu (by rfl) ?_; dsimp only)); refine Kd.N_lit (Kd.slice 58 k58) _ 22 ?hg (N' := 21) ?hd (xs := ([l0] : List (List (S58)))) (inner := [.slice A0 l0.length c0]) (ok := (fun k_ => (P0_ k_ ∨ w.heap.size ≤ k_))) (okp := (fun k_ => (P0_ k_ ∨ w.heap.size ≤ k_))) ?hr ?hp (fun _ hk => hk) ((show ∀ k_, w7.heap.size ≤ k_ → (fun k_ => (P0_ k_ ∨ w.heap.size ≤ k_)) k_ from fun k_ hk => (.inr (Nat.le_trans (Ae (lU HB.out)) hk))) _ (Nat.le_refl _)) (Below.refl _ _) (Nat.le_refl _) (by simp) ?_; (case hd => rfl); (case hg => rfl); (case hr => first | (go_simp; done) | (go_simp; rfl)); (case hp => exact (Reps.one (show Kd.FK (Kd.slice 58 k58) _ _ l0 [.slice A0 l0.length c0] from (Kd.FK_slice_mk (Kd.V_reads' (Kd.V_mono (ok' := (fun k_ => (P0_ k_ ∨ w.heap.size ≤ k_))) (HO0.out) (fun k_ hk => hk))).2.1 (Kd.V_F (Kd.V_mono (ok' := (fun k_ => (P0_ k_ ∨ w.heap.size ≤ k_))) (HO0.out) (fun k_ hk => hk))))) (Reps.none _ _))); intro v103 w10 ho11 hb hg_ hnew_; clear hg_ hnew_; (first | rw [← aQ.out] at ho11 | (simp only [Int.reduceToNat] at ho11; rw [← aQ.out] at ho11)); have n0_ := Aa.mk (Kd.V_elder' (by (with_reducible repeat (first | apply Kd.V_alloc | apply Kd.V_drewN | apply Kd.V_drew)); exact HO0.out) (Kd.N_base ho11) hb); have n1_ := Aa.mk (Kd.N_lower ho11 (Ae (lU HB.out))); have n2_ := Aa.mk (Aj (lU HB.out) hb); clear HO0; clear HB; have HO0 := n0_; have aq := n1_; have HB := n2_; clear n0_ n1_ n2_; clear hb ho11; obtain ⟨ej, ek, el⟩ := Kd.N_slice aq.out; subst el) | ((with_reducible refine Ap (f := 29) rfl ?_); refine Br (some 22) rfl rfl Try.func29 (by kernel_rfl) rfl #[.slice ej bj.length ek] rfl (by (try simp only [List.map_toArray, List.map_cons, List.map_nil]); first | done | rfl | (simp only [List.length_drop, List.length_take]; rfl)) ?_; (with_reducible refine (Bx.calls k _ _ bj true _ ?side1 ?side2 A8.out).mono ?_); (case side1 => repeat (first | exact (Kd.N_reads' aq.out).2.2 | (with_reducible refine Kd.Bf ?_ _) | (with_reducible refine Kd.Be ?_ _) | (with_reducible refine Kd.Bn ?_))); (case side2 => exact (Kd.N_reads' aq.out).2.1); rintro e w13 ⟨rfl, hb⟩; refine ⟨_, rfl, ?_⟩; have n0_ := Aa.mk (Kd.V_below (by (with_reducible repeat (first | apply Kd.V_alloc | apply Kd.V_drewN | apply Kd.V_drew)); exact HO0.out) hb); have n1_ := Aa.mk (Kd.N_below (by (with_reducible repeat (first | apply Kd.N_alloc | apply Kd.N_drewN | apply Kd.N_drew)); exact aq.out) hb); have n2_ := Aa.mk (Aj (lU HB.out) hb); clear HO0; clear aq; clear HB; have HO0 := n0_; have aq := n1_; have HB := n2_; clear n0_ n1_ n2_; (try clear hb); (try clear hb2); (try clear hk); (try clear hi)))
    go_meet
    case rel => exact ⟨_, (decide ((l0.length : Int) > 12)), (by first | rfl | (simp; done) | (simp [*]; done)), H', ⟨by first | omega | exact Nat.le_refl _⟩, ⟨by (with_reducible repeat (first | apply Kd.V_alloc | apply Kd.V_drewN | apply Kd.V_drew)); exact Kd.V_mono HO0.out (fun _ hk => hk.1)⟩, ⟨by repeat (first | (with_reducible first | exact HB.out | apply Ad | apply Ab | apply Ac) | exact HB.out)⟩⟩
   ·replace c9 := Bool.eq_false_iff.mpr c9
    subst c9
    have H1 := H
    rw [if_neg (show ¬ (false = true) by decide)] at H1
    clear H
    have H := H1
    clear H1
    have H' := Aa.mk H
    clear H
    go_wp2_with (first | ((with_reducible refine Bj (N := 21) rfl ?_); (try (refine Bu (by rfl) ?_; dsimp only)); refine Kd.N_lit (Kd.slice 58 k58) _ 22 ?hg (N' := 21) ?hd (xs := ([l0] : List (List (S58)))) (inner := [.slice A0 l0.length c0]) (ok := (fun k_ => (P0_ k_ ∨ w.heap.size ≤ k_))) (okp := (fun k_ => (P0_ k_ ∨ w.heap.size ≤ k_))) ?hr ?hp (fun _ hk => hk) ((show ∀ k_, w7.heap.size ≤ k_ → (fun k_ => (P0_ k_ ∨ w.heap.size ≤ k_)) k_ from fun k_ hk => (.inr (Nat.le_trans (Ae (lU HB.out)) hk))) _ (Nat.le_refl _)) (Below.refl _ _) (Nat.le_refl _) (by simp) ?_; (case hd => rfl); (case hg => rfl); (case hr => first | (go_simp; done) | (go_simp; rfl)); (case hp => exact (Reps.one (show Kd.FK (Kd.slice 58 k58) _ _ l0 [.slice A0 l0.length c0] from (Kd.FK_slice_mk (Kd.V_reads' (Kd.V_mono (ok' := (fun k_ => (P0_ k_ ∨ w.heap.size ≤ k_))) (HO0.out) (fun k_ hk => hk))).2.1 (Kd.V_F (Kd.V_mono (ok' := (fun k_ => (P0_ k_ ∨ w.heap.size ≤ k_))) (HO0.out) (fun k_ hk => hk))))) (Reps.none _ _))); intro v103 w14 ho15 hb hg_ hnew_; clear hg_ hnew_; (first | rw [← aQ.out] at ho15 | (simp only [Int.reduceToNat] at ho15; rw [← aQ.out] at ho15)); have n0_ := Aa.mk (Kd.V_elder' (by (with_reducible repeat (first | apply Kd.V_alloc | apply Kd.V_drewN | apply Kd.V_drew)); exact HO0.out) (Kd.N_base ho15) hb); have n1_ := Aa.mk (Kd.N_lower ho15 (Ae (lU HB.out))); have n2_ := Aa.mk (Aj (lU HB.out) hb); clear HO0; clear HB; have HO0 := n0_; have aq := n1_; have HB := n2_; clear n0_ n1_ n2_; clear hb ho15; obtain ⟨em, en, eo⟩ := Kd.N_slice aq.out; subst eo) | ((with_reducible refine Ap (f := 29) rfl ?_); refine Br (some 22) rfl rfl Try.func29 (by kernel_rfl) rfl #[.slice em bj.length en] rfl (by (try simp only [List.map_toArray, List.map_cons, List.map_nil]); first | done | rfl | (simp only [List.length_drop, List.length_take]; rfl)) ?_; (with_reducible refine (Bx.calls k _ _ bj false _ ?side1 ?side2 A8.out).mono ?_); (case side1 => repeat (first | exact (Kd.N_reads' aq.out).2.2 | (with_reducible refine Kd.Bf ?_ _) | (with_reducible refine Kd.Be ?_ _) | (with_reducible refine Kd.Bn ?_))); (case side2 => exact (Kd.N_reads' aq.out).2.1); rintro e w17 ⟨rfl, hb⟩; refine ⟨_, rfl, ?_⟩; have n0_ := Aa.mk (Kd.V_below (by (with_reducible repeat (first | apply Kd.V_alloc | apply Kd.V_drewN | apply Kd.V_drew)); exact HO0.out) hb); have n1_ := Aa.mk (Kd.N_below (by (with_reducible repeat (first | apply Kd.N_alloc | apply Kd.N_drewN | apply Kd.N_drew)); exact aq.out) hb); have n2_ := Aa.mk (Aj (lU HB.out) hb); clear HO0; clear aq; clear HB; have HO0 := n0_; have aq := n1_; have HB := n2_; clear n0_ n1_ n2_; (try clear hb); (try clear hb2); (try clear hk); (try clear hi)))
    go_meet
    case rel => exact ⟨_, (true), (by first | rfl | (simp; done) | (simp [*]; done)), H', ⟨by first | omega | exact Nat.le_refl _⟩, ⟨by (with_reducible repeat (first | apply Kd.V_alloc | apply Kd.V_drewN | apply Kd.V_drew)); exact Kd.V_mono HO0.out (fun _ hk => hk.1)⟩, ⟨by repeat (first | (with_reducible first | exact HB.out | apply Ad | apply Ab | apply Ac) | exact HB.out)⟩⟩
  case rest =>
   clear HC6
   try clear c1
   try clear c2
   try clear p2
   try clear c5
   try clear c6
   try clear c9
   try clear c10
   obtain ⟨kq, aN, rfl, HA, HJ5, ag, HB⟩ := hcut
   cases kq with
   | zero => exact absurd HA.out (by simp [Ah.j0])
   | succ kj5 =>
    have H := HA.out
    clear HA
    simp only [Ah.j0] at H
    by_cases c18 : aN = true
    ·subst c18
     have H1 := H
     rw [if_pos rfl] at H1
     clear H
     have H := H1
     clear H1
     obtain rfl := Option.some.inj H
     go_wp2
     go_ret
     exact ⟨by first | rfl | (simp [Aw, Av] <;> rfl) | (simp [*, Aw, Av] <;> rfl), by repeat (first | (with_reducible first | exact HB.out | apply Ad | apply Ab | apply Ac) | exact HB.out)⟩
    ·replace c18 := Bool.eq_false_iff.mpr c18
     subst c18
     have H1 := H
     rw [if_neg (show ¬ (false = true) by decide)] at H1
     clear H
     have H := H1
     clear H1
     replace H := Option.bind_eq_some_iff.mp H
     obtain ⟨⟨aD, b6⟩, A190, H⟩ := H
     try dsimp only at H
     have A19 := Aa.mk A190
     clear A190
     replace H := Option.bind_eq_some_iff.mp H
     obtain ⟨aG, A200, H⟩ := H
     try dsimp only at H
     have A20 := Aa.mk A200
     clear A200
     by_cases c21 : aG = 0
     ·rw [if_pos c21] at H
      have a5 : (aG == 0) = true := beq_iff_eq.mpr c21
      have a6 : (aG != 0) = false := bne_eq_false_iff_eq.mpr c21
      clear c21
      have H' := Aa.mk H
      clear H
      go_wp2_with (first | ((with_reducible refine Ap (f := 21) rfl ?_); refine Br (some 31) rfl rfl Try.func21 (by kernel_rfl) rfl #[.slice A0 l0.length c0] rfl (by (try simp only [List.map_toArray, List.map_cons, List.map_nil]); first | done | rfl | (simp only [List.length_drop, List.length_take]; rfl)) ?_; (with_reducible refine (B7.calls kj5 _ _ l0 aD b6 _ ?side1 ?side2 A19.out).mono ?_); (case side1 => repeat (first | exact (Kd.V_reads' ag.out).2.2 | (with_reducible refine Kd.Bf ?_ _) | (with_reducible refine Kd.Be ?_ _) | (with_reducible refine Kd.Bn ?_))); (case side2 => exact (Kd.V_reads' ag.out).2.1); rintro e w22 ⟨v108, rfl, ho0, hb⟩; refine ⟨_, rfl, ?_⟩; have n0_ := Aa.mk (Kd.V_elder' (by (with_reducible repeat (first | apply Kd.V_alloc | apply Kd.V_drewN | apply Kd.V_drew)); exact ag.out) (Kd.An ho0) hb); have n1_ := Aa.mk (Kd.Bt (Kd.Cg (M := fun k_ => (w.heap.size ≤ k_)) ho0 (Ae (lU HB.out)) (fun k_ h_ => h_)) (Ae (lU HB.out))); have n2_ := Aa.mk (Aj (lU HB.out) hb); clear ag; clear HB; have ag := n0_; have ch := n1_; have HB := n2_; clear n0_ n1_ n2_; (try clear hb); (try clear hb2); (try clear hk); (try clear hi); (try clear ho0)) | ((with_reducible refine Ap (f := 14) rfl ?_); refine Br (some 35) rfl rfl Try.func14 (by kernel_rfl) rfl #[.int .i64 b6] rfl (by (try simp only [List.map_toArray, List.map_cons, List.map_nil]); first | done | rfl | (simp only [List.length_drop, List.length_take]; rfl)) ?_; (with_reducible refine (Ay.calls b6 aG _ A20.out).mono ?_); rintro e w' ⟨rfl, ⟨nd, rfl⟩⟩; refine ⟨_, rfl, ?_⟩))
      go_loopg [9, 10] kj5 (fun kq v9 v10 w' => ∃ (ao : List (S58)) (aa : Int), v10 = .int .i64 aa ∧ Aa (Ah.l0 kq l0 a1 a2 aD ao aa = some r) ∧ Aa (kq ≤ kj5) ∧ Aa (Kd.V k58 58 w' w.heap.size (fun k_ => (P0_ k_ ∨ w.heap.size ≤ k_) ∧ some k_ ≠ (v108 : Value).ownBlock ∧ some k_ ≠ (v9 : Value).ownBlock) (.slice A0 l0.length c0) l0) ∧ Aa (Kd.R k58 58 w' w.heap.size (fun k_ => (w.heap.size ≤ k_) ∧ some k_ ≠ (v9 : Value).ownBlock) v108 aD) ∧ Aa (Kd.R k58 58 w' w.heap.size (fun k_ => (w.heap.size ≤ k_) ∧ some k_ ≠ (v108 : Value).ownBlock) v9 ao) ∧ Aa (Below w.heap.size w w'))
      case atStart => exact ⟨(([] : List (S58))), (wrap64 ((l0.length : Int) - 1)), (by first | rfl | (simp; done) | (simp [*]; done)), H', ⟨Nat.le_refl _⟩, ⟨by (with_reducible repeat (first | apply Kd.V_alloc | apply Kd.V_drewN | apply Kd.V_drew)); exact Kd.V_mono ag.out (fun _ hk => ⟨hk.1, ⟨hk.2, (by simp [Value.ownBlock])⟩⟩)⟩, ⟨by exact rU <| Kd.Bb ch.out (fun _ hk => ⟨hk.1, (by simp [Value.ownBlock])⟩)⟩, ⟨by first | exact Kd.C2 _ _ _ _ _ | exact Kd.N_nil _ _ _ _ _ | exact Kd.V_nil _ _ _ _ _ | exact Kd.Q_nil _ _ _ _ _ | exact Kd.S_nil _ _ _ _ _⟩, ⟨by repeat (first | (with_reducible first | exact HB.out | apply Ad | apply Ab | apply Ac) | exact HB.out)⟩⟩
      case round =>
       clear H'
       try clear c1
       try clear c2
       try clear p2
       try clear c5
       try clear c6
       try clear p6
       try clear c9
       try clear c10
       try clear c14
       try clear c18
       try clear c21
       try clear a5
       try clear a6
       try clear p2
       obtain ⟨ao, aa, rfl, HA, HK2, ag, ae, ah, HB⟩ := hrel
       cases gk with
       | zero => exact absurd HA.out (by simp [Ah.l0])
       | succ k2 =>
        have H := HA.out
        clear HA
        simp only [Ah.l0] at H
        by_cases c23 : aa ≥ 0
        ·rw [if_pos c23] at H
         have bY : decide (0 ≤ aa) = true := decide_eq_true c23
         clear c23
         by_cases c24 : 0 ≤ aa
         ·rw [if_pos c24] at H
          have ci : decide (0 ≤ aa) = true := decide_eq_true c24
          clear c24
          by_cases c25 : aa < (l0.length : Int)
          ·rw [if_pos c25] at H
           have cj : decide (aa < (l0.length : Int)) = true := decide_eq_true c25
           clear c25
           have HC26 := Aa.mk H
           clear H
           have bk : 0 ≤ (aa : Int) := of_decide_eq_true (by with_reducible assumption)
           have bl : aa < (l0.length : Int) := of_decide_eq_true (by with_reducible assumption)
           obtain ⟨cl, e111, bm, bn, bo, bp⟩ := at_T58 (Kd.V_reads' ag.out).2.2 aa bk bl
           cases e111
           replace bk := eq_true bk
           replace bl := eq_true bl
           go_upto_region 13 with (first | ((with_reducible refine Bj (N := 11) rfl ?_); (try (refine Bu (by rfl) ?_; dsimp only)); refine B2 ?hg (N := 11) ?hd (cs := #[.int .i64 0, .int .i64 0, .int .i64 0, .int .i64 0]) (t := 58) ?hr ?_; (case hd => rfl); (case hg => rfl); (case hr => first | (go_simp; done) | (go_simp; rfl)); intro ac hg w27 hbox hb; have n0_ := Aa.mk (Kd.V_below (Kd.V_elderB (by (with_reducible repeat (first | apply Kd.V_alloc | apply Kd.V_drewN | apply Kd.V_drew)); exact ag.out) ac (Nat.le_of_eq hg.symm)) hb); have n1_ := Aa.mk (Kd.Bm (Kd.C1 (by exact rU <| ae.out) ac (Nat.le_of_eq hg.symm)) hb); have n2_ := Aa.mk (Kd.Bm (Kd.C1 (by exact rU <| ah.out) ac (Nat.le_of_eq hg.symm)) hb); have n3_ := Aa.mk (Aj (lU HB.out) hb); have n4_ := Aa.mk (hbox); have n5_ := Aa.mk ((by rw [hg]; exact (Ae (lU HB.out)) : w.heap.size ≤ ac)); have n6_ := Aa.mk ((by rw [hg]; exact (Ae (lU HB.out)) : w.heap.size ≤ ac)); clear ag; clear ae; clear ah; clear HB; have ag := n0_; have ae := n1_; have ah := n2_; have HB := n3_; have ab := n4_; have eI := n5_; have af := n6_; clear n0_ n1_ n2_ n3_ n4_ n5_ n6_; clear hb hbox hg; have bq : w27.cell? ⟨ac, 0, none⟩ = some (.int .i64 0) := (Ai ab.out 0).trans rfl; have br : w27.cell? ⟨ac, 1, none⟩ = some (.int .i64 0) := (Ai ab.out 1).trans rfl; have bs : w27.cell? ⟨ac, 2, none⟩ = some (.int .i64 0) := (Ai ab.out 2).trans rfl; have bu : w27.cell? ⟨ac, 3, none⟩ = some (.int .i64 0) := (Ai ab.out 3).trans rfl; have bv := Af ab.out 0; have bw := Af ab.out 1; have bx := Af ab.out 2; have bz := Af ab.out 3))
           (try simp only [Act.put, sA, sB, sC])
           go_cut [57] (fun v57 wc => ∃ (kq : Nat) (aE : Bool), v57 = .bool aE ∧ Aa (Ah.j2 kq l0 a1 a2 aD ao aa aE ((rd_T58 l0 aa).f0) ((rd_T58 l0 aa).f1) ((rd_T58 l0 aa).f2) ((rd_T58 l0 aa).f3) = some r) ∧ Aa (kq ≤ k2) ∧ Aa (Kd.V k58 58 wc w.heap.size (fun k_ => (P0_ k_ ∨ w.heap.size ≤ k_) ∧ some k_ ≠ (v108 : Value).ownBlock ∧ some k_ ≠ (u9 : Value).ownBlock ∧ k_ ≠ ac) (.slice (some cl) l0.length c0) l0) ∧ Aa (Kd.R k58 58 wc w.heap.size (fun k_ => (w.heap.size ≤ k_) ∧ some k_ ≠ (u9 : Value).ownBlock ∧ k_ ≠ ac) v108 aD) ∧ Aa (Kd.R k58 58 wc w.heap.size (fun k_ => (w.heap.size ≤ k_) ∧ some k_ ≠ (v108 : Value).ownBlock ∧ k_ ≠ ac) u9 ao) ∧ Aa (wc.heap[ac]? = some (.cells #[.int .i64 ((rd_T58 l0 aa).f0), .int .i64 ((rd_T58 l0 aa).f1), .int .i64 ((rd_T58 l0 aa).f2), .int .i64 ((rd_T58 l0 aa).f3)] 58 (0, 0))) ∧ Aa (Below w.heap.size w wc))
           case first =>
            have H := HC26.out
            clear HC26
            by_cases c29 : ((rd_T58 l0 aa).f0) < a1
            ·rw [if_pos c29] at H
             have aw : decide (((rd_T58 l0 aa).f0) < a1) = true := decide_eq_true c29
             clear c29
             (first | rw [aw] | (simp only [i64_w, i32_w]; rw [aw]) | skip)
             have H' := Aa.mk H
             clear H
             have bB : w27.cell? ⟨ac, 0, none⟩ = some (.int .i64 0) := (Ai ab.out 0).trans rfl
             have bC : w27.cell? ⟨ac, 1, none⟩ = some (.int .i64 0) := (Ai ab.out 1).trans rfl
             have bD : w27.cell? ⟨ac, 2, none⟩ = some (.int .i64 0) := (Ai ab.out 2).trans rfl
             have bE : w27.cell? ⟨ac, 3, none⟩ = some (.int .i64 0) := (Ai ab.out 3).trans rfl
             have bF := Af ab.out 0
             have bG := Af ab.out 1
             have bH := Af ab.out 2
             have bI := Af ab.out 3
             go_wp2
             go_meet
             case rel => exact ⟨_, (decide (a1 < ((rd_T58 l0 aa).f2))), (by first | rfl | (simp; done) | (simp [*]; done)), H', ⟨by have := HJ5.out; have := HK2.out; first | omega | exact Nat.le_refl _⟩, ⟨by (with_reducible repeat (first | apply Kd.V_alloc | apply Kd.V_drewN | apply Kd.V_drew)); exact Kd.V_mono (Kd.V_far (p := ⟨ac, 3, none⟩) (Kd.V_far (p := ⟨ac, 2, none⟩) (Kd.V_far (p := ⟨ac, 1, none⟩) (Kd.V_far (p := ⟨ac, 0, none⟩) (Kd.V_mono ag.out (fun k_ hk => (⟨hk, hk.2⟩ : _ ∧ k_ ≠ ac))) (fun _ hk => hk.2) (.int .i64 ((rd_T58 l0 aa).f0))) (fun _ hk => hk.2) (.int .i64 ((rd_T58 l0 aa).f1))) (fun _ hk => hk.2) (.int .i64 ((rd_T58 l0 aa).f2))) (fun _ hk => hk.2) (.int .i64 ((rd_T58 l0 aa).f3))) (fun _ hk => ⟨hk.1.1.1, ⟨hk.1.1.2.1, ⟨hk.1.1.2.2, hk.1.2⟩⟩⟩)⟩, ⟨by exact rU <| Kd.Bb (Kd.B3 (p := ⟨ac, 3, none⟩) (Kd.B3 (p := ⟨ac, 2, none⟩) (Kd.B3 (p := ⟨ac, 1, none⟩) (Kd.B3 (p := ⟨ac, 0, none⟩) (Kd.Bb ae.out (fun k_ hk => (⟨hk, hk.2⟩ : _ ∧ k_ ≠ ac))) (fun _ hk => hk.2) (.int .i64 ((rd_T58 l0 aa).f0))) (fun _ hk => hk.2) (.int .i64 ((rd_T58 l0 aa).f1))) (fun _ hk => hk.2) (.int .i64 ((rd_T58 l0 aa).f2))) (fun _ hk => hk.2) (.int .i64 ((rd_T58 l0 aa).f3))) (fun _ hk => ⟨hk.1.1.1, ⟨hk.1.1.2, hk.1.2⟩⟩)⟩, ⟨by exact rU <| Kd.Bb (Kd.B3 (p := ⟨ac, 3, none⟩) (Kd.B3 (p := ⟨ac, 2, none⟩) (Kd.B3 (p := ⟨ac, 1, none⟩) (Kd.B3 (p := ⟨ac, 0, none⟩) (Kd.Bb ah.out (fun k_ hk => (⟨hk, hk.2⟩ : _ ∧ k_ ≠ ac))) (fun _ hk => hk.2) (.int .i64 ((rd_T58 l0 aa).f0))) (fun _ hk => hk.2) (.int .i64 ((rd_T58 l0 aa).f1))) (fun _ hk => hk.2) (.int .i64 ((rd_T58 l0 aa).f2))) (fun _ hk => hk.2) (.int .i64 ((rd_T58 l0 aa).f3))) (fun _ hk => ⟨hk.1.1.1, ⟨hk.1.1.2, hk.1.2⟩⟩)⟩, ⟨by (with_reducible repeat (first | refine Aq ?_ _ | refine Au ?_ | refine Ar ?_ _)); refine Bc (cs := #[.int .i64 ((rd_T58 l0 aa).f0), .int .i64 ((rd_T58 l0 aa).f1), .int .i64 ((rd_T58 l0 aa).f2), .int .i64 0]) ?_ 3 _ rfl; (with_reducible repeat (first | refine Aq ?_ _ | refine Au ?_ | refine Ar ?_ _)); refine Bc (cs := #[.int .i64 ((rd_T58 l0 aa).f0), .int .i64 ((rd_T58 l0 aa).f1), .int .i64 0, .int .i64 0]) ?_ 2 _ rfl; (with_reducible repeat (first | refine Aq ?_ _ | refine Au ?_ | refine Ar ?_ _)); refine Bc (cs := #[.int .i64 ((rd_T58 l0 aa).f0), .int .i64 0, .int .i64 0, .int .i64 0]) ?_ 1 _ rfl; (with_reducible repeat (first | refine Aq ?_ _ | refine Au ?_ | refine Ar ?_ _)); refine Bc (cs := #[.int .i64 0, .int .i64 0, .int .i64 0, .int .i64 0]) ?_ 0 _ rfl; exact bU <| ab.out⟩, ⟨by repeat (first | (with_reducible first | exact HB.out | apply Ad | apply Ab | apply Ac | refine Ak ?_ af.out) | exact HB.out)⟩⟩
            ·rw [if_neg c29] at H
             have aw : decide (((rd_T58 l0 aa).f0) < a1) = false := decide_eq_false c29
             clear c29
             (first | rw [aw] | (simp only [i64_w, i32_w]; rw [aw]) | skip)
             have H' := Aa.mk H
             clear H
             have bJ : w27.cell? ⟨ac, 0, none⟩ = some (.int .i64 0) := (Ai ab.out 0).trans rfl
             have bK : w27.cell? ⟨ac, 1, none⟩ = some (.int .i64 0) := (Ai ab.out 1).trans rfl
             have bL : w27.cell? ⟨ac, 2, none⟩ = some (.int .i64 0) := (Ai ab.out 2).trans rfl
             have bM : w27.cell? ⟨ac, 3, none⟩ = some (.int .i64 0) := (Ai ab.out 3).trans rfl
             have bN := Af ab.out 0
             have bO := Af ab.out 1
             have bP := Af ab.out 2
             have bQ := Af ab.out 3
             go_wp2
             go_meet
             case rel => exact ⟨_, (false), (by first | rfl | (simp; done) | (simp [*]; done)), H', ⟨by have := HJ5.out; have := HK2.out; first | omega | exact Nat.le_refl _⟩, ⟨by (with_reducible repeat (first | apply Kd.V_alloc | apply Kd.V_drewN | apply Kd.V_drew)); exact Kd.V_mono (Kd.V_far (p := ⟨ac, 3, none⟩) (Kd.V_far (p := ⟨ac, 2, none⟩) (Kd.V_far (p := ⟨ac, 1, none⟩) (Kd.V_far (p := ⟨ac, 0, none⟩) (Kd.V_mono ag.out (fun k_ hk => (⟨hk, hk.2⟩ : _ ∧ k_ ≠ ac))) (fun _ hk => hk.2) (.int .i64 ((rd_T58 l0 aa).f0))) (fun _ hk => hk.2) (.int .i64 ((rd_T58 l0 aa).f1))) (fun _ hk => hk.2) (.int .i64 ((rd_T58 l0 aa).f2))) (fun _ hk => hk.2) (.int .i64 ((rd_T58 l0 aa).f3))) (fun _ hk => ⟨hk.1.1.1, ⟨hk.1.1.2.1, ⟨hk.1.1.2.2, hk.1.2⟩⟩⟩)⟩, ⟨by exact rU <| Kd.Bb (Kd.B3 (p := ⟨ac, 3, none⟩) (Kd.B3 (p := ⟨ac, 2, none⟩) (Kd.B3 (p := ⟨ac, 1, none⟩) (Kd.B3 (p := ⟨ac, 0, none⟩) (Kd.Bb ae.out (fun k_ hk => (⟨hk, hk.2⟩ : _ ∧ k_ ≠ ac))) (fun _ hk => hk.2) (.int .i64 ((rd_T58 l0 aa).f0))) (fun _ hk => hk.2) (.int .i64 ((rd_T58 l0 aa).f1))) (fun _ hk => hk.2) (.int .i64 ((rd_T58 l0 aa).f2))) (fun _ hk => hk.2) (.int .i64 ((rd_T58 l0 aa).f3))) (fun _ hk => ⟨hk.1.1.1, ⟨hk.1.1.2, hk.1.2⟩⟩)⟩, ⟨by exact rU <| Kd.Bb (Kd.B3 (p := ⟨ac, 3, none⟩) (Kd.B3 (p := ⟨ac, 2, none⟩) (Kd.B3 (p := ⟨ac, 1, none⟩) (Kd.B3 (p := ⟨ac, 0, none⟩) (Kd.Bb ah.out (fun k_ hk => (⟨hk, hk.2⟩ : _ ∧ k_ ≠ ac))) (fun _ hk => hk.2) (.int .i64 ((rd_T58 l0 aa).f0))) (fun _ hk => hk.2) (.int .i64 ((rd_T58 l0 aa).f1))) (fun _ hk => hk.2) (.int .i64 ((rd_T58 l0 aa).f2))) (fun _ hk => hk.2) (.int .i64 ((rd_T58 l0 aa).f3))) (fun _ hk => ⟨hk.1.1.1, ⟨hk.1.1.2, hk.1.2⟩⟩)⟩, ⟨by (with_reducible repeat (first | refine Aq ?_ _ | refine Au ?_ | refine Ar ?_ _)); refine Bc (cs := #[.int .i64 ((rd_T58 l0 aa).f0), .int .i64 ((rd_T58 l0 aa).f1), .int .i64 ((rd_T58 l0 aa).f2), .int .i64 0]) ?_ 3 _ rfl; (with_reducible repeat (first | refine Aq ?_ _ | refine Au ?_ | refine Ar ?_ _)); refine Bc (cs := #[.int .i64 ((rd_T58 l0 aa).f0), .int .i64 ((rd_T58 l0 aa).f1), .int .i64 0, .int .i64 0]) ?_ 2 _ rfl; (with_reducible repeat (first | refine Aq ?_ _ | refine Au ?_ | refine Ar ?_ _)); refine Bc (cs := #[.int .i64 ((rd_T58 l0 aa).f0), .int .i64 0, .int .i64 0, .int .i64 0]) ?_ 1 _ rfl; (with_reducible repeat (first | refine Aq ?_ _ | refine Au ?_ | refine Ar ?_ _)); refine Bc (cs := #[.int .i64 0, .int .i64 0, .int .i64 0, .int .i64 0]) ?_ 0 _ rfl; exact bU <| ab.out⟩, ⟨by repeat (first | (with_reducible first | exact HB.out | apply Ad | apply Ab | apply Ac | refine Ak ?_ af.out) | exact HB.out)⟩⟩
           case rest =>
            clear HC26
            try clear c1
            try clear p1
            try clear q1
            try clear hx1
            try clear c2
            try clear p2
            try clear c5
            try clear c6
            try clear p6
            try clear c9
            try clear c10
            try clear p11
            try clear q11
            try clear hx11
            try clear c14
            try clear c18
            try clear c21
            try clear a5
            try clear a6
            try clear c23
            try clear bY
            try clear c24
            try clear ci
            try clear c25
            try clear cj
            try clear c29
            try clear aw
            try clear bq
            try clear br
            try clear bs
            try clear bu
            try clear bB
            try clear bC
            try clear bD
            try clear bE
            try clear bJ
            try clear bK
            try clear bL
            try clear bM
            try clear bv
            try clear bw
            try clear bx
            try clear bz
            try clear bF
            try clear bG
            try clear bH
            try clear bI
            try clear bN
            try clear bO
            try clear bP
            try clear bQ
            try clear bm
            try clear bn
            try clear bo
            try clear bp
            try clear bk
            try clear p2
            try clear p6
            try clear bl
            obtain ⟨kq, aE, rfl, HA, HJ25, ag, ae, ah, ab, HB⟩ := hcut
            cases kq with
            | zero => exact absurd HA.out (by simp [Ah.j2])
            | succ kj25 =>
             have H := HA.out
             clear HA
             simp only [Ah.j2] at H
             by_cases c32 : aE = true
             ·subst c32
              have H1 := H
              rw [if_pos rfl] at H1
              clear H
              have H := H1
              clear H1
              obtain ⟨aj, a7⟩ : ∃ y_ : List (S58), y_ = (([(⟨a1, ((rd_T58 l0 aa).f1), ((rd_T58 l0 aa).f2), ((rd_T58 l0 aa).f3)⟩ : S58), (⟨((rd_T58 l0 aa).f0), ((rd_T58 l0 aa).f1), a1, ((rd_T58 l0 aa).f3)⟩ : S58)] : List (S58))) := ⟨_, rfl⟩
              (try rw [Option.bind_some] at H); try rw [← a7] at H
              have ax := Aa.mk a7
              clear a7
              by_cases c33 : ao.length + aj.length < 4398046511104
              ·rw [if_pos c33] at H
               have LMc33 := Aa.mk c33
               clear c33
               obtain ⟨ar, a8⟩ : ∃ y_ : List (S58), y_ = (ao ++ aj) := ⟨_, rfl⟩
               (try rw [Option.bind_some] at H); try rw [← a8] at H
               have a9 := Aa.mk a8
               clear a8
               by_cases c34 : ((rd_T58 l0 aa).f1) < a2
               ·rw [if_pos c34] at H
                have cn : decide (((rd_T58 l0 aa).f1) < a2) = true := decide_eq_true c34
                clear c34
                by_cases c35 : a2 < ((rd_T58 l0 aa).f3)
                ·rw [if_pos c35] at H
                 have co : decide (a2 < ((rd_T58 l0 aa).f3)) = true := decide_eq_true c35
                 clear c35
                 obtain ⟨av, ba⟩ : ∃ y_ : List (S58), y_ = (([(⟨((rd_T58 l0 aa).f0), a2, ((rd_T58 l0 aa).f2), ((rd_T58 l0 aa).f3)⟩ : S58), (⟨((rd_T58 l0 aa).f0), ((rd_T58 l0 aa).f1), ((rd_T58 l0 aa).f2), a2⟩ : S58)] : List (S58))) := ⟨_, rfl⟩
                 (try rw [Option.bind_some] at H); try rw [← ba] at H
                 have bZ := Aa.mk ba
                 clear ba
                 by_cases c36 : ar.length + av.length < 4398046511104
                 ·rw [if_pos c36] at H
                  have LMc36 := Aa.mk c36
                  clear c36
                  obtain ⟨ep, bb⟩ : ∃ y_ : List (S58), y_ = (ar ++ av) := ⟨_, rfl⟩
                  (try rw [Option.bind_some] at H); try rw [← bb] at H
                  have cp := Aa.mk bb
                  clear bb
                  have H' := Aa.mk H
                  clear H
                  have cL : wc.cell? ⟨ac, 0, none⟩ = some (.int .i64 ((rd_T58 l0 aa).f0)) := (Ai ab.out 0).trans rfl
                  have cM : wc.cell? ⟨ac, 1, none⟩ = some (.int .i64 ((rd_T58 l0 aa).f1)) := (Ai ab.out 1).trans rfl
                  have cN : wc.cell? ⟨ac, 2, none⟩ = some (.int .i64 ((rd_T58 l0 aa).f2)) := (Ai ab.out 2).trans rfl
                  have cO : wc.cell? ⟨ac, 3, none⟩ = some (.int .i64 ((rd_T58 l0 aa).f3)) := (Ai ab.out 3).trans rfl
                  have cP := Af ab.out 0
                  have cQ := Af ab.out 1
                  have cR := Af ab.out 2
                  have cS := Af ab.out 3
                  go_wp2_with (first | ((with_reducible refine Bj (N := 75) rfl ?_); (try (refine Bu (by rfl) ?_; dsimp only)); refine Kd.Cx k58 _ 58 ?hg (N := 75) ?hd (xs := ([(⟨a1, ((rd_T58 l0 aa).f1), ((rd_T58 l0 aa).f2), ((rd_T58 l0 aa).f3)⟩ : S58), (⟨((rd_T58 l0 aa).f0), ((rd_T58 l0 aa).f1), a1, ((rd_T58 l0 aa).f3)⟩ : S58)] : List (S58))) (inner := [.int .i64 a1, .int .i64 ((rd_T58 l0 aa).f1), .int .i64 ((rd_T58 l0 aa).f2), .int .i64 ((rd_T58 l0 aa).f3), .int .i64 ((rd_T58 l0 aa).f0), .int .i64 ((rd_T58 l0 aa).f1), .int .i64 a1, .int .i64 ((rd_T58 l0 aa).f3)]) (ok := fun _ => True) (okp := fun _ => True) ?hr ?hp (fun _ hk => hk) trivial (Below.refl _ _) (Nat.le_refl _) (by simp) ?_; (case hd => rfl); (case hg => rfl); (case hr => first | (go_simp; done) | (go_simp; rfl)); (case hp => exact (Reps.c4 (show Kd.M k58 _ _ _ (⟨a1, ((rd_T58 l0 aa).f1), ((rd_T58 l0 aa).f2), ((rd_T58 l0 aa).f3)⟩ : S58) [.int .i64 a1, .int .i64 ((rd_T58 l0 aa).f1), .int .i64 ((rd_T58 l0 aa).f2), .int .i64 ((rd_T58 l0 aa).f3)] from (k58_mkM _ _ _ (⟨a1, ((rd_T58 l0 aa).f1), ((rd_T58 l0 aa).f2), ((rd_T58 l0 aa).f3)⟩ : S58) )) (Reps.c4 (show Kd.M k58 _ _ _ (⟨((rd_T58 l0 aa).f0), ((rd_T58 l0 aa).f1), a1, ((rd_T58 l0 aa).f3)⟩ : S58) [.int .i64 ((rd_T58 l0 aa).f0), .int .i64 ((rd_T58 l0 aa).f1), .int .i64 a1, .int .i64 ((rd_T58 l0 aa).f3)] from (k58_mkM _ _ _ (⟨((rd_T58 l0 aa).f0), ((rd_T58 l0 aa).f1), a1, ((rd_T58 l0 aa).f3)⟩ : S58) )) (Reps.none _ _)))); intro v114 w38 ho39 hb hg_ hnew_; clear hg_ hnew_; (first | rw [← ax.out] at ho39 | (simp only [Int.reduceToNat] at ho39; rw [← ax.out] at ho39)); have n0_ := Aa.mk (Kd.V_elder' (by (with_reducible repeat (first | apply Kd.V_alloc | apply Kd.V_drewN | apply Kd.V_drew)); exact ag.out) (Kd.An ho39) hb); have n1_ := Aa.mk (Kd.Ao (by exact rU <| ae.out) (Kd.An ho39) hb); have n2_ := Aa.mk (Kd.Ao (by exact rU <| ah.out) (Kd.An ho39) hb); have n3_ := Aa.mk (Kd.Bt (Kd.R_newB (Kd.Az (Kd.Az (Kd.Cg (M := fun k_ => (w.heap.size ≤ k_)) ho39 (Ae (by repeat (first | (with_reducible first | exact HB.out | apply Ad | apply Ab | apply Ac | refine Ak ?_ af.out) | exact HB.out))) (fun k_ h_ => h_)) (Kd.Bs (by exact rU <| ae.out))) (Kd.Bs (by exact rU <| ah.out))) (g := ac) (o := .cells #[.int .i64 ((rd_T58 l0 aa).f0), .int .i64 ((rd_T58 l0 aa).f1), .int .i64 ((rd_T58 l0 aa).f2), .int .i64 ((rd_T58 l0 aa).f3)] 58 (0, 0)) (by exact bU <| ab.out)) (Ae (by repeat (first | (with_reducible first | exact HB.out | apply Ad | apply Ab | apply Ac | refine Ak ?_ af.out) | exact HB.out)))); have n4_ := Aa.mk (Bz (g := ac) (o := .cells #[.int .i64 ((rd_T58 l0 aa).f0), .int .i64 ((rd_T58 l0 aa).f1), .int .i64 ((rd_T58 l0 aa).f2), .int .i64 ((rd_T58 l0 aa).f3)] 58 (0, 0)) (by exact bU <| ab.out) hb); have n5_ := Aa.mk (Aj (by repeat (first | (with_reducible first | exact HB.out | apply Ad | apply Ab | apply Ac | refine Ak ?_ af.out) | exact HB.out)) hb); clear ag; clear ae; clear ah; clear ab; clear HB; have ag := n0_; have ae := n1_; have ah := n2_; have ai := n3_; have ab := n4_; have HB := n5_; clear n0_ n1_ n2_ n3_ n4_ n5_; clear hb ho39; obtain ⟨aK, aM, eq⟩ := Kd.Bk ai.out; subst eq) | ((with_reducible refine B5 (b := .append) (xs := #[.tmp 58, .tmp 75]) rfl ?_); (try (refine Bu (by rfl) ?_; dsimp only)); at_builtin; refine Kd.Cs k58 (w0 := w) w.heap.size rfl (.tmp 58) (.tmp 75) 22 58 (.agg #[(.int .i64 0), (.int .i64 0), (.int .i64 0), (.int .i64 0)]) 32 rfl Try.underlying22 info58 rfl (by decide) (by omega) u9 ao aj _ _ _ (fun k_ => (w.heap.size ≤ k_) ∧ some k_ ≠ (v108 : Value).ownBlock ∧ some k_ ≠ (.slice aK aj.length aM : Value).ownBlock ∧ k_ ≠ ac) (fun _ => False) rfl rfl ?aO ?aR (fun _ _ h => h) (fun _ h => h.elim) ?aF ?aB ?aS ?aL ?_; (case aR => repeat (first | exact (Kd.As ai.out).2.2 | (with_reducible refine Kd.Bf ?_ _) | (with_reducible refine Kd.Be ?_ _) | (with_reducible refine Kd.Bn ?_))); (case aB => exact (by repeat (first | (with_reducible first | exact HB.out | apply Ad | apply Ab | apply Ac | refine Ak ?_ af.out) | exact HB.out))); (case aF => exact (fun k_ hk => ⟨(Nat.le_trans (Ae (by repeat (first | (with_reducible first | exact HB.out | apply Ad | apply Ab | apply Ac | refine Ak ?_ af.out) | exact HB.out))) hk), Kd.fresh' (Kd.Bs (by exact rU <| ae.out)) k_ hk, Kd.fresh' (Kd.Bs (by exact rU <| ai.out)) k_ hk, Kd.freshB (g := ac) (o := .cells #[.int .i64 ((rd_T58 l0 aa).f0), .int .i64 ((rd_T58 l0 aa).f1), .int .i64 ((rd_T58 l0 aa).f2), .int .i64 ((rd_T58 l0 aa).f3)] 58 (0, 0)) (by exact bU <| ab.out) k_ hk⟩)); (case aO => exact (by exact rU <| Kd.Bb ah.out (fun _ hk => ⟨hk.1.1, ⟨hk.1.2.1, ⟨hk.2, hk.1.2.2⟩⟩⟩))); (case aS => exact (Ae (by repeat (first | (with_reducible first | exact HB.out | apply Ad | apply Ab | apply Ac | refine Ak ?_ af.out) | exact HB.out)))); (case aL => have := LMc33.out; omega); intro v117 w40 ho hb hg hat; rw [← a9.out] at ho; have n0_ := Aa.mk (Kd.V_afterv (ok := (fun k_ => (P0_ k_ ∨ w.heap.size ≤ k_) ∧ some k_ ≠ (v108 : Value).ownBlock ∧ some k_ ≠ (.slice aK aj.length aM : Value).ownBlock ∧ k_ ≠ ac)) (by (with_reducible repeat (first | apply Kd.V_alloc | apply Kd.V_drewN | apply Kd.V_drew)); exact Kd.V_mono ag.out (fun _ hk => ⟨⟨hk.1.1, ⟨hk.1.2.1, ⟨hk.2, hk.1.2.2.2⟩⟩⟩, hk.1.2.2.1⟩)) hg hat); have n1_ := Aa.mk (Kd.Co (ok := (fun k_ => (w.heap.size ≤ k_) ∧ some k_ ≠ (.slice aK aj.length aM : Value).ownBlock ∧ k_ ≠ ac)) (by exact rU <| Kd.Bb ae.out (fun _ hk => ⟨⟨hk.1.1, ⟨hk.2, hk.1.2.2⟩⟩, hk.1.2.1⟩)) hg hat); have n2_ := Aa.mk (Ck (g := ac) (o := .cells #[.int .i64 ((rd_T58 l0 aa).f0), .int .i64 ((rd_T58 l0 aa).f1), .int .i64 ((rd_T58 l0 aa).f2), .int .i64 ((rd_T58 l0 aa).f3)] 58 (0, 0)) (by exact bU <| ab.out) hg (Kd.R_away ah.out (fun _ hk => hk.1.2.2))); have n3_ := Aa.mk (Kd.Co (ok := (fun k_ => (w.heap.size ≤ k_) ∧ some k_ ≠ (v108 : Value).ownBlock ∧ k_ ≠ ac)) (by exact rU <| Kd.Bb ai.out (fun _ hk => ⟨⟨hk.1.1.1.1, ⟨hk.1.1.2, hk.2⟩⟩, hk.1.2⟩)) hg hat); have n4_ := Aa.mk (hb); have n5_ := Aa.mk (ho); clear ag; clear ae; clear ab; clear ai; clear HB; clear ah; have ag := n0_; have ae := n1_; have ab := n2_; have ai := n3_; have HB := n4_; have ap := n5_; clear n0_ n1_ n2_ n3_ n4_ n5_; clear ho hb hg hat; have cT : w40.cell? ⟨ac, 0, none⟩ = some (.int .i64 ((rd_T58 l0 aa).f0)) := (Ai ab.out 0).trans rfl; have cU : w40.cell? ⟨ac, 1, none⟩ = some (.int .i64 ((rd_T58 l0 aa).f1)) := (Ai ab.out 1).trans rfl; have cV : w40.cell? ⟨ac, 2, none⟩ = some (.int .i64 ((rd_T58 l0 aa).f2)) := (Ai ab.out 2).trans rfl; have cW : w40.cell? ⟨ac, 3, none⟩ = some (.int .i64 ((rd_T58 l0 aa).f3)) := (Ai ab.out 3).trans rfl; have cX := Af ab.out 0; have cY := Af ab.out 1; have cZ := Af ab.out 2; have da := Af ab.out 3) | ((with_reducible refine Bj (N := 104) rfl ?_); (try (refine Bu (by rfl) ?_; dsimp only)); refine Kd.Cx k58 _ 58 ?hg (N := 104) ?hd (xs := ([(⟨((rd_T58 l0 aa).f0), a2, ((rd_T58 l0 aa).f2), ((rd_T58 l0 aa).f3)⟩ : S58), (⟨((rd_T58 l0 aa).f0), ((rd_T58 l0 aa).f1), ((rd_T58 l0 aa).f2), a2⟩ : S58)] : List (S58))) (inner := [.int .i64 ((rd_T58 l0 aa).f0), .int .i64 a2, .int .i64 ((rd_T58 l0 aa).f2), .int .i64 ((rd_T58 l0 aa).f3), .int .i64 ((rd_T58 l0 aa).f0), .int .i64 ((rd_T58 l0 aa).f1), .int .i64 ((rd_T58 l0 aa).f2), .int .i64 a2]) (ok := fun _ => True) (okp := fun _ => True) ?hr ?hp (fun _ hk => hk) trivial (Below.refl _ _) (Nat.le_refl _) (by simp) ?_; (case hd => rfl); (case hg => rfl); (case hr => first | (go_simp; done) | (go_simp; rfl)); (case hp => exact (Reps.c4 (show Kd.M k58 _ _ _ (⟨((rd_T58 l0 aa).f0), a2, ((rd_T58 l0 aa).f2), ((rd_T58 l0 aa).f3)⟩ : S58) [.int .i64 ((rd_T58 l0 aa).f0), .int .i64 a2, .int .i64 ((rd_T58 l0 aa).f2), .int .i64 ((rd_T58 l0 aa).f3)] from (k58_mkM _ _ _ (⟨((rd_T58 l0 aa).f0), a2, ((rd_T58 l0 aa).f2), ((rd_T58 l0 aa).f3)⟩ : S58) )) (Reps.c4 (show Kd.M k58 _ _ _ (⟨((rd_T58 l0 aa).f0), ((rd_T58 l0 aa).f1), ((rd_T58 l0 aa).f2), a2⟩ : S58) [.int .i64 ((rd_T58 l0 aa).f0), .int .i64 ((rd_T58 l0 aa).f1), .int .i64 ((rd_T58 l0 aa).f2), .int .i64 a2] from (k58_mkM _ _ _ (⟨((rd_T58 l0 aa).f0), ((rd_T58 l0 aa).f1), ((rd_T58 l0 aa).f2), a2⟩ : S58) )) (Reps.none _ _)))); intro v120 w43 ho44 hb hg_ hnew_; clear hg_ hnew_; (first | rw [← bZ.out] at ho44 | (simp only [Int.reduceToNat] at ho44; rw [← bZ.out] at ho44)); have n0_ := Aa.mk (Kd.V_elder' (by (with_reducible repeat (first | apply Kd.V_alloc | apply Kd.V_drewN | apply Kd.V_drew)); exact ag.out) (Kd.An ho44) hb); have n1_ := Aa.mk (Kd.Ao (by exact rU <| ae.out) (Kd.An ho44) hb); have n2_ := Aa.mk (Kd.Ao (by exact rU <| ai.out) (Kd.An ho44) hb); have n3_ := Aa.mk (Kd.Ao (by exact rU <| ap.out) (Kd.An ho44) hb); have n4_ := Aa.mk (Kd.Bt (Kd.R_newB (Kd.Az (Kd.Az (Kd.Az (Kd.Cg (M := fun k_ => (w.heap.size ≤ k_)) ho44 (Ae (by repeat (first | (with_reducible first | exact HB.out | apply Ad | apply Ab | apply Ac | refine Ak ?_ af.out) | exact HB.out))) (fun k_ h_ => h_)) (Kd.Bs (by exact rU <| ae.out))) (Kd.Bs (by exact rU <| ai.out))) (Kd.Bs (by exact rU <| ap.out))) (g := ac) (o := .cells #[.int .i64 ((rd_T58 l0 aa).f0), .int .i64 ((rd_T58 l0 aa).f1), .int .i64 ((rd_T58 l0 aa).f2), .int .i64 ((rd_T58 l0 aa).f3)] 58 (0, 0)) (by exact bU <| ab.out)) (Ae (by repeat (first | (with_reducible first | exact HB.out | apply Ad | apply Ab | apply Ac | refine Ak ?_ af.out) | exact HB.out)))); have n5_ := Aa.mk (Bz (g := ac) (o := .cells #[.int .i64 ((rd_T58 l0 aa).f0), .int .i64 ((rd_T58 l0 aa).f1), .int .i64 ((rd_T58 l0 aa).f2), .int .i64 ((rd_T58 l0 aa).f3)] 58 (0, 0)) (by exact bU <| ab.out) hb); have n6_ := Aa.mk (Aj (by repeat (first | (with_reducible first | exact HB.out | apply Ad | apply Ab | apply Ac | refine Ak ?_ af.out) | exact HB.out)) hb); clear ag; clear ae; clear ai; clear ap; clear ab; clear HB; have ag := n0_; have ae := n1_; have ai := n2_; have ap := n3_; have ay := n4_; have ab := n5_; have HB := n6_; clear n0_ n1_ n2_ n3_ n4_ n5_ n6_; clear hb ho44; obtain ⟨bR, bS, er⟩ := Kd.Bk ay.out; subst er) | ((with_reducible refine B5 (b := .append) (xs := #[.tmp 87, .tmp 104]) rfl ?_); (try (refine Bu (by rfl) ?_; dsimp only)); at_builtin; refine Kd.Cs k58 (w0 := w) w.heap.size rfl (.tmp 87) (.tmp 104) 22 58 (.agg #[(.int .i64 0), (.int .i64 0), (.int .i64 0), (.int .i64 0)]) 32 rfl Try.underlying22 info58 rfl (by decide) (by omega) v117 ar av _ _ _ (fun k_ => (w.heap.size ≤ k_) ∧ some k_ ≠ (v108 : Value).ownBlock ∧ some k_ ≠ (.slice aK aj.length aM : Value).ownBlock ∧ some k_ ≠ (.slice bR av.length bS : Value).ownBlock ∧ k_ ≠ ac) (fun _ => False) rfl rfl ?aO ?aR (fun _ _ h => h) (fun _ h => h.elim) ?aF ?aB ?aS ?aL ?_; (case aR => repeat (first | exact (Kd.As ay.out).2.2 | (with_reducible refine Kd.Bf ?_ _) | (with_reducible refine Kd.Be ?_ _) | (with_reducible refine Kd.Bn ?_))); (case aB => exact (by repeat (first | (with_reducible first | exact HB.out | apply Ad | apply Ab | apply Ac | refine Ak ?_ af.out) | exact HB.out))); (case aF => exact (fun k_ hk => ⟨(Nat.le_trans (Ae (by repeat (first | (with_reducible first | exact HB.out | apply Ad | apply Ab | apply Ac | refine Ak ?_ af.out) | exact HB.out))) hk), Kd.fresh' (Kd.Bs (by exact rU <| ae.out)) k_ hk, Kd.fresh' (Kd.Bs (by exact rU <| ai.out)) k_ hk, Kd.fresh' (Kd.Bs (by exact rU <| ay.out)) k_ hk, Kd.freshB (g := ac) (o := .cells #[.int .i64 ((rd_T58 l0 aa).f0), .int .i64 ((rd_T58 l0 aa).f1), .int .i64 ((rd_T58 l0 aa).f2), .int .i64 ((rd_T58 l0 aa).f3)] 58 (0, 0)) (by exact bU <| ab.out) k_ hk⟩)); (case aO => exact (by exact rU <| Kd.Bb ap.out (fun _ hk => ⟨hk.1.1, ⟨hk.1.2.1, ⟨hk.1.2.2.1, ⟨hk.2, hk.1.2.2.2⟩⟩⟩⟩))); (case aS => exact (Ae (by repeat (first | (with_reducible first | exact HB.out | apply Ad | apply Ab | apply Ac | refine Ak ?_ af.out) | exact HB.out)))); (case aL => have := LMc36.out; omega); intro v123 w45 ho hb hg hat; rw [← cp.out] at ho; have n0_ := Aa.mk (Kd.V_afterv (ok := (fun k_ => (P0_ k_ ∨ w.heap.size ≤ k_) ∧ some k_ ≠ (v108 : Value).ownBlock ∧ some k_ ≠ (.slice aK aj.length aM : Value).ownBlock ∧ some k_ ≠ (.slice bR av.length bS : Value).ownBlock ∧ k_ ≠ ac)) (by (with_reducible repeat (first | apply Kd.V_alloc | apply Kd.V_drewN | apply Kd.V_drew)); exact Kd.V_mono ag.out (fun _ hk => ⟨⟨hk.1.1.1, ⟨hk.1.1.2.1, ⟨hk.1.1.2.2.1, ⟨hk.2, hk.1.1.2.2.2⟩⟩⟩⟩, hk.1.2⟩)) hg hat); have n1_ := Aa.mk (Kd.Co (ok := (fun k_ => (w.heap.size ≤ k_) ∧ some k_ ≠ (.slice aK aj.length aM : Value).ownBlock ∧ some k_ ≠ (.slice bR av.length bS : Value).ownBlock ∧ k_ ≠ ac)) (by exact rU <| Kd.Bb ae.out (fun _ hk => ⟨⟨hk.1.1.1, ⟨hk.1.1.2.1, ⟨hk.2, hk.1.1.2.2⟩⟩⟩, hk.1.2⟩)) hg hat); have n2_ := Aa.mk (Ck (g := ac) (o := .cells #[.int .i64 ((rd_T58 l0 aa).f0), .int .i64 ((rd_T58 l0 aa).f1), .int .i64 ((rd_T58 l0 aa).f2), .int .i64 ((rd_T58 l0 aa).f3)] 58 (0, 0)) (by exact bU <| ab.out) hg (Kd.R_away ap.out (fun _ hk => hk.1.2.2.2))); have n3_ := Aa.mk (Kd.Co (ok := (fun k_ => (w.heap.size ≤ k_) ∧ some k_ ≠ (v108 : Value).ownBlock ∧ some k_ ≠ (.slice bR av.length bS : Value).ownBlock ∧ k_ ≠ ac)) (by exact rU <| Kd.Bb ai.out (fun _ hk => ⟨⟨hk.1.1.1, ⟨hk.1.1.2.1, ⟨hk.2, hk.1.1.2.2⟩⟩⟩, hk.1.2⟩)) hg hat); have n4_ := Aa.mk (Kd.Co (ok := (fun k_ => (w.heap.size ≤ k_) ∧ some k_ ≠ (v108 : Value).ownBlock ∧ some k_ ≠ (.slice aK aj.length aM : Value).ownBlock ∧ k_ ≠ ac)) (by exact rU <| Kd.Bb ay.out (fun _ hk => ⟨⟨hk.1.1.1.1.1, ⟨hk.1.1.1.2, ⟨hk.1.1.2, hk.2⟩⟩⟩, hk.1.2⟩)) hg hat); have n5_ := Aa.mk (hb); have n6_ := Aa.mk (ho); clear ag; clear ae; clear ab; clear ai; clear ay; clear HB; clear ap; have ag := n0_; have ae := n1_; have ab := n2_; have ai := n3_; have ay := n4_; have HB := n5_; have cq := n6_; clear n0_ n1_ n2_ n3_ n4_ n5_ n6_; clear ho hb hg hat))
                  go_roundg kj25
                  case measure => have := HJ5.out; have := HK2.out; have := HJ25.out; omega
                  case rel => exact ⟨(ep), (wrap64 (aa - 1)), (by first | rfl | (simp; done) | (simp [*]; done)), H', ⟨by have := HJ5.out; have := HK2.out; have := HJ25.out; omega⟩, ⟨by (with_reducible repeat (first | apply Kd.V_alloc | apply Kd.V_drewN | apply Kd.V_drew)); exact Kd.V_mono ag.out (fun _ hk => ⟨hk.1.1, ⟨hk.1.2.1, hk.2⟩⟩)⟩, ⟨by exact rU <| Kd.Bb ae.out (fun _ hk => ⟨hk.1.1, hk.2⟩)⟩, ⟨by exact rU <| Kd.Bb cq.out (fun _ hk => ⟨hk.1, hk.2.1⟩)⟩, ⟨by repeat (first | (with_reducible first | exact HB.out | apply Ad | apply Ab | apply Ac | refine Ak ?_ af.out) | exact HB.out)⟩⟩
                 ·rw [if_neg c36] at H
                  exact absurd H (by simp)
                ·rw [if_neg c35] at H
                 have co : decide (a2 < ((rd_T58 l0 aa).f3)) = false := decide_eq_false c35
                 clear c35
                 by_cases c47 : ar.length < 4398046511104
                 ·rw [if_pos c47] at H
                  have LMc47 := Aa.mk c47
                  clear c47
                  obtain ⟨es, bc⟩ : ∃ y_ : List (S58), y_ = (ar ++ [(⟨((rd_T58 l0 aa).f0), ((rd_T58 l0 aa).f1), ((rd_T58 l0 aa).f2), ((rd_T58 l0 aa).f3)⟩ : S58)]) := ⟨_, rfl⟩
                  (try rw [Option.bind_some] at H); try rw [← bc] at H
                  have ct := Aa.mk bc
                  clear bc
                  have H' := Aa.mk H
                  clear H
                  have dc : wc.cell? ⟨ac, 0, none⟩ = some (.int .i64 ((rd_T58 l0 aa).f0)) := (Ai ab.out 0).trans rfl
                  have dd : wc.cell? ⟨ac, 1, none⟩ = some (.int .i64 ((rd_T58 l0 aa).f1)) := (Ai ab.out 1).trans rfl
                  have de : wc.cell? ⟨ac, 2, none⟩ = some (.int .i64 ((rd_T58 l0 aa).f2)) := (Ai ab.out 2).trans rfl
                  have df : wc.cell? ⟨ac, 3, none⟩ = some (.int .i64 ((rd_T58 l0 aa).f3)) := (Ai ab.out 3).trans rfl
                  have dg := Af ab.out 0
                  have dh := Af ab.out 1
                  have di := Af ab.out 2
                  have dj := Af ab.out 3
                  go_wp2_with (first | ((with_reducible refine Bj (N := 75) rfl ?_); (try (refine Bu (by rfl) ?_; dsimp only)); refine Kd.Cx k58 _ 58 ?hg (N := 75) ?hd (xs := ([(⟨a1, ((rd_T58 l0 aa).f1), ((rd_T58 l0 aa).f2), ((rd_T58 l0 aa).f3)⟩ : S58), (⟨((rd_T58 l0 aa).f0), ((rd_T58 l0 aa).f1), a1, ((rd_T58 l0 aa).f3)⟩ : S58)] : List (S58))) (inner := [.int .i64 a1, .int .i64 ((rd_T58 l0 aa).f1), .int .i64 ((rd_T58 l0 aa).f2), .int .i64 ((rd_T58 l0 aa).f3), .int .i64 ((rd_T58 l0 aa).f0), .int .i64 ((rd_T58 l0 aa).f1), .int .i64 a1, .int .i64 ((rd_T58 l0 aa).f3)]) (ok := fun _ => True) (okp := fun _ => True) ?hr ?hp (fun _ hk => hk) trivial (Below.refl _ _) (Nat.le_refl _) (by simp) ?_; (case hd => rfl); (case hg => rfl); (case hr => first | (go_simp; done) | (go_simp; rfl)); (case hp => exact (Reps.c4 (show Kd.M k58 _ _ _ (⟨a1, ((rd_T58 l0 aa).f1), ((rd_T58 l0 aa).f2), ((rd_T58 l0 aa).f3)⟩ : S58) [.int .i64 a1, .int .i64 ((rd_T58 l0 aa).f1), .int .i64 ((rd_T58 l0 aa).f2), .int .i64 ((rd_T58 l0 aa).f3)] from (k58_mkM _ _ _ (⟨a1, ((rd_T58 l0 aa).f1), ((rd_T58 l0 aa).f2), ((rd_T58 l0 aa).f3)⟩ : S58) )) (Reps.c4 (show Kd.M k58 _ _ _ (⟨((rd_T58 l0 aa).f0), ((rd_T58 l0 aa).f1), a1, ((rd_T58 l0 aa).f3)⟩ : S58) [.int .i64 ((rd_T58 l0 aa).f0), .int .i64 ((rd_T58 l0 aa).f1), .int .i64 a1, .int .i64 ((rd_T58 l0 aa).f3)] from (k58_mkM _ _ _ (⟨((rd_T58 l0 aa).f0), ((rd_T58 l0 aa).f1), a1, ((rd_T58 l0 aa).f3)⟩ : S58) )) (Reps.none _ _)))); intro v114 w49 ho50 hb hg_ hnew_; clear hg_ hnew_; (first | rw [← ax.out] at ho50 | (simp only [Int.reduceToNat] at ho50; rw [← ax.out] at ho50)); have n0_ := Aa.mk (Kd.V_elder' (by (with_reducible repeat (first | apply Kd.V_alloc | apply Kd.V_drewN | apply Kd.V_drew)); exact ag.out) (Kd.An ho50) hb); have n1_ := Aa.mk (Kd.Ao (by exact rU <| ae.out) (Kd.An ho50) hb); have n2_ := Aa.mk (Kd.Ao (by exact rU <| ah.out) (Kd.An ho50) hb); have n3_ := Aa.mk (Kd.Bt (Kd.R_newB (Kd.Az (Kd.Az (Kd.Cg (M := fun k_ => (w.heap.size ≤ k_)) ho50 (Ae (by repeat (first | (with_reducible first | exact HB.out | apply Ad | apply Ab | apply Ac | refine Ak ?_ af.out) | exact HB.out))) (fun k_ h_ => h_)) (Kd.Bs (by exact rU <| ae.out))) (Kd.Bs (by exact rU <| ah.out))) (g := ac) (o := .cells #[.int .i64 ((rd_T58 l0 aa).f0), .int .i64 ((rd_T58 l0 aa).f1), .int .i64 ((rd_T58 l0 aa).f2), .int .i64 ((rd_T58 l0 aa).f3)] 58 (0, 0)) (by exact bU <| ab.out)) (Ae (by repeat (first | (with_reducible first | exact HB.out | apply Ad | apply Ab | apply Ac | refine Ak ?_ af.out) | exact HB.out)))); have n4_ := Aa.mk (Bz (g := ac) (o := .cells #[.int .i64 ((rd_T58 l0 aa).f0), .int .i64 ((rd_T58 l0 aa).f1), .int .i64 ((rd_T58 l0 aa).f2), .int .i64 ((rd_T58 l0 aa).f3)] 58 (0, 0)) (by exact bU <| ab.out) hb); have n5_ := Aa.mk (Aj (by repeat (first | (with_reducible first | exact HB.out | apply Ad | apply Ab | apply Ac | refine Ak ?_ af.out) | exact HB.out)) hb); clear ag; clear ae; clear ah; clear ab; clear HB; have ag := n0_; have ae := n1_; have ah := n2_; have ai := n3_; have ab := n4_; have HB := n5_; clear n0_ n1_ n2_ n3_ n4_ n5_; clear hb ho50; obtain ⟨aT, aU, et⟩ := Kd.Bk ai.out; subst et) | ((with_reducible refine B5 (b := .append) (xs := #[.tmp 58, .tmp 75]) rfl ?_); (try (refine Bu (by rfl) ?_; dsimp only)); at_builtin; refine Kd.Cs k58 (w0 := w) w.heap.size rfl (.tmp 58) (.tmp 75) 22 58 (.agg #[(.int .i64 0), (.int .i64 0), (.int .i64 0), (.int .i64 0)]) 32 rfl Try.underlying22 info58 rfl (by decide) (by omega) u9 ao aj _ _ _ (fun k_ => (w.heap.size ≤ k_) ∧ some k_ ≠ (v108 : Value).ownBlock ∧ some k_ ≠ (.slice aT aj.length aU : Value).ownBlock ∧ k_ ≠ ac) (fun _ => False) rfl rfl ?aO ?aR (fun _ _ h => h) (fun _ h => h.elim) ?aF ?aB ?aS ?aL ?_; (case aR => repeat (first | exact (Kd.As ai.out).2.2 | (with_reducible refine Kd.Bf ?_ _) | (with_reducible refine Kd.Be ?_ _) | (with_reducible refine Kd.Bn ?_))); (case aB => exact (by repeat (first | (with_reducible first | exact HB.out | apply Ad | apply Ab | apply Ac | refine Ak ?_ af.out) | exact HB.out))); (case aF => exact (fun k_ hk => ⟨(Nat.le_trans (Ae (by repeat (first | (with_reducible first | exact HB.out | apply Ad | apply Ab | apply Ac | refine Ak ?_ af.out) | exact HB.out))) hk), Kd.fresh' (Kd.Bs (by exact rU <| ae.out)) k_ hk, Kd.fresh' (Kd.Bs (by exact rU <| ai.out)) k_ hk, Kd.freshB (g := ac) (o := .cells #[.int .i64 ((rd_T58 l0 aa).f0), .int .i64 ((rd_T58 l0 aa).f1), .int .i64 ((rd_T58 l0 aa).f2), .int .i64 ((rd_T58 l0 aa).f3)] 58 (0, 0)) (by exact bU <| ab.out) k_ hk⟩)); (case aO => exact (by exact rU <| Kd.Bb ah.out (fun _ hk => ⟨hk.1.1, ⟨hk.1.2.1, ⟨hk.2, hk.1.2.2⟩⟩⟩))); (case aS => exact (Ae (by repeat (first | (with_reducible first | exact HB.out | apply Ad | apply Ab | apply Ac | refine Ak ?_ af.out) | exact HB.out)))); (case aL => have := LMc33.out; omega); intro v117 w51 ho hb hg hat; rw [← a9.out] at ho; have n0_ := Aa.mk (Kd.V_afterv (ok := (fun k_ => (P0_ k_ ∨ w.heap.size ≤ k_) ∧ some k_ ≠ (v108 : Value).ownBlock ∧ some k_ ≠ (.slice aT aj.length aU : Value).ownBlock ∧ k_ ≠ ac)) (by (with_reducible repeat (first | apply Kd.V_alloc | apply Kd.V_drewN | apply Kd.V_drew)); exact Kd.V_mono ag.out (fun _ hk => ⟨⟨hk.1.1, ⟨hk.1.2.1, ⟨hk.2, hk.1.2.2.2⟩⟩⟩, hk.1.2.2.1⟩)) hg hat); have n1_ := Aa.mk (Kd.Co (ok := (fun k_ => (w.heap.size ≤ k_) ∧ some k_ ≠ (.slice aT aj.length aU : Value).ownBlock ∧ k_ ≠ ac)) (by exact rU <| Kd.Bb ae.out (fun _ hk => ⟨⟨hk.1.1, ⟨hk.2, hk.1.2.2⟩⟩, hk.1.2.1⟩)) hg hat); have n2_ := Aa.mk (Ck (g := ac) (o := .cells #[.int .i64 ((rd_T58 l0 aa).f0), .int .i64 ((rd_T58 l0 aa).f1), .int .i64 ((rd_T58 l0 aa).f2), .int .i64 ((rd_T58 l0 aa).f3)] 58 (0, 0)) (by exact bU <| ab.out) hg (Kd.R_away ah.out (fun _ hk => hk.1.2.2))); have n3_ := Aa.mk (Kd.Co (ok := (fun k_ => (w.heap.size ≤ k_) ∧ some k_ ≠ (v108 : Value).ownBlock ∧ k_ ≠ ac)) (by exact rU <| Kd.Bb ai.out (fun _ hk => ⟨⟨hk.1.1.1.1, ⟨hk.1.1.2, hk.2⟩⟩, hk.1.2⟩)) hg hat); have n4_ := Aa.mk (hb); have n5_ := Aa.mk (ho); clear ag; clear ae; clear ab; clear ai; clear HB; clear ah; have ag := n0_; have ae := n1_; have ab := n2_; have ai := n3_; have HB := n4_; have ap := n5_; clear n0_ n1_ n2_ n3_ n4_ n5_; clear ho hb hg hat; have dk : w51.cell? ⟨ac, 0, none⟩ = some (.int .i64 ((rd_T58 l0 aa).f0)) := (Ai ab.out 0).trans rfl; have dl : w51.cell? ⟨ac, 1, none⟩ = some (.int .i64 ((rd_T58 l0 aa).f1)) := (Ai ab.out 1).trans rfl; have dm : w51.cell? ⟨ac, 2, none⟩ = some (.int .i64 ((rd_T58 l0 aa).f2)) := (Ai ab.out 2).trans rfl; have dn : w51.cell? ⟨ac, 3, none⟩ = some (.int .i64 ((rd_T58 l0 aa).f3)) := (Ai ab.out 3).trans rfl; have dp := Af ab.out 0; have dq := Af ab.out 1; have dr := Af ab.out 2; have dt := Af ab.out 3) | ((with_reducible refine B5 (b := .append) (xs := #[.tmp 106, .tmp 108]) rfl ?_); (try (refine Bu (by rfl) ?_; dsimp only)); at_builtin; refine Kd.Cy k58 (w0 := w) w.heap.size rfl (.tmp 106) (.tmp 108) 22 58 (.agg #[(.int .i64 0), (.int .i64 0), (.int .i64 0), (.int .i64 0)]) 32 rfl Try.underlying22 info58 rfl (by decide) (by omega) v117 ar (⟨((rd_T58 l0 aa).f0), ((rd_T58 l0 aa).f1), ((rd_T58 l0 aa).f2), ((rd_T58 l0 aa).f3)⟩ : S58) [.int .i64 ((rd_T58 l0 aa).f0), .int .i64 ((rd_T58 l0 aa).f1), .int .i64 ((rd_T58 l0 aa).f2), .int .i64 ((rd_T58 l0 aa).f3)] (fun k_ => (w.heap.size ≤ k_) ∧ some k_ ≠ (v108 : Value).ownBlock ∧ some k_ ≠ (.slice aT aj.length aU : Value).ownBlock ∧ k_ ≠ ac) (fun _ => False) rfl rfl ?aP (fun _ hk => hk.elim) ?aF ?aO ?aB ?aS ?aL ?_; (case aP => exact k58_mkM _ _ _ (⟨((rd_T58 l0 aa).f0), ((rd_T58 l0 aa).f1), ((rd_T58 l0 aa).f2), ((rd_T58 l0 aa).f3)⟩ : S58)); (case aB => exact (by repeat (first | (with_reducible first | exact HB.out | apply Ad | apply Ab | apply Ac | refine Ak ?_ af.out) | exact HB.out))); (case aF => exact (fun k_ hk => ⟨(Nat.le_trans (Ae (by repeat (first | (with_reducible first | exact HB.out | apply Ad | apply Ab | apply Ac | refine Ak ?_ af.out) | exact HB.out))) hk), Kd.fresh' (Kd.Bs (by exact rU <| ae.out)) k_ hk, Kd.fresh' (Kd.Bs (by exact rU <| ai.out)) k_ hk, Kd.freshB (g := ac) (o := .cells #[.int .i64 ((rd_T58 l0 aa).f0), .int .i64 ((rd_T58 l0 aa).f1), .int .i64 ((rd_T58 l0 aa).f2), .int .i64 ((rd_T58 l0 aa).f3)] 58 (0, 0)) (by exact bU <| ab.out) k_ hk⟩)); (case aO => exact (by exact rU <| ap.out)); (case aS => exact (Ae (by repeat (first | (with_reducible first | exact HB.out | apply Ad | apply Ab | apply Ac | refine Ak ?_ af.out) | exact HB.out)))); (case aL => have := LMc47.out; omega); intro v126 w54 ho hb hg hat; rw [← ct.out] at ho; have n0_ := Aa.mk (Kd.V_afterv (ok := (fun k_ => (P0_ k_ ∨ w.heap.size ≤ k_) ∧ some k_ ≠ (v108 : Value).ownBlock ∧ some k_ ≠ (.slice aT aj.length aU : Value).ownBlock ∧ k_ ≠ ac)) (by (with_reducible repeat (first | apply Kd.V_alloc | apply Kd.V_drewN | apply Kd.V_drew)); exact ag.out) hg hat); have n1_ := Aa.mk (Kd.Co (ok := (fun k_ => (w.heap.size ≤ k_) ∧ some k_ ≠ (.slice aT aj.length aU : Value).ownBlock ∧ k_ ≠ ac)) (by exact rU <| ae.out) hg hat); have n2_ := Aa.mk (Ck (g := ac) (o := .cells #[.int .i64 ((rd_T58 l0 aa).f0), .int .i64 ((rd_T58 l0 aa).f1), .int .i64 ((rd_T58 l0 aa).f2), .int .i64 ((rd_T58 l0 aa).f3)] 58 (0, 0)) (by exact bU <| ab.out) hg (Kd.R_away ap.out (fun _ hk => hk.2.2.2))); have n3_ := Aa.mk (Kd.Co (ok := (fun k_ => (w.heap.size ≤ k_) ∧ some k_ ≠ (v108 : Value).ownBlock ∧ k_ ≠ ac)) (by exact rU <| ai.out) hg hat); have n4_ := Aa.mk (hb); have n5_ := Aa.mk (ho); clear ag; clear ae; clear ab; clear ai; clear HB; clear ap; have ag := n0_; have ae := n1_; have ab := n2_; have ai := n3_; have HB := n4_; have cu := n5_; clear n0_ n1_ n2_ n3_ n4_ n5_; clear ho hb hg hat))
                  go_roundg kj25
                  case measure => have := HJ5.out; have := HK2.out; have := HJ25.out; omega
                  case rel => exact ⟨(es), (wrap64 (aa - 1)), (by first | rfl | (simp; done) | (simp [*]; done)), H', ⟨by have := HJ5.out; have := HK2.out; have := HJ25.out; omega⟩, ⟨by (with_reducible repeat (first | apply Kd.V_alloc | apply Kd.V_drewN | apply Kd.V_drew)); exact Kd.V_mono ag.out (fun _ hk => ⟨hk.1.1, ⟨hk.1.2.1, hk.2⟩⟩)⟩, ⟨by exact rU <| Kd.Bb ae.out (fun _ hk => ⟨hk.1.1, hk.2⟩)⟩, ⟨by exact rU <| Kd.Bb cu.out (fun _ hk => ⟨hk.1, hk.2.1⟩)⟩, ⟨by repeat (first | (with_reducible first | exact HB.out | apply Ad | apply Ab | apply Ac | refine Ak ?_ af.out) | exact HB.out)⟩⟩
                 ·rw [if_neg c47] at H
                  exact absurd H (by simp)
               ·rw [if_neg c34] at H
                have cn : decide (((rd_T58 l0 aa).f1) < a2) = false := decide_eq_false c34
                clear c34
                by_cases c55 : ar.length < 4398046511104
                ·rw [if_pos c55] at H
                 have LMc55 := Aa.mk c55
                 clear c55
                 obtain ⟨eu, be⟩ : ∃ y_ : List (S58), y_ = (ar ++ [(⟨((rd_T58 l0 aa).f0), ((rd_T58 l0 aa).f1), ((rd_T58 l0 aa).f2), ((rd_T58 l0 aa).f3)⟩ : S58)]) := ⟨_, rfl⟩
                 (try rw [Option.bind_some] at H); try rw [← be] at H
                 have cv := Aa.mk be
                 clear be
                 have H' := Aa.mk H
                 clear H
                 have du : wc.cell? ⟨ac, 0, none⟩ = some (.int .i64 ((rd_T58 l0 aa).f0)) := (Ai ab.out 0).trans rfl
                 have dv : wc.cell? ⟨ac, 1, none⟩ = some (.int .i64 ((rd_T58 l0 aa).f1)) := (Ai ab.out 1).trans rfl
                 have dw : wc.cell? ⟨ac, 2, none⟩ = some (.int .i64 ((rd_T58 l0 aa).f2)) := (Ai ab.out 2).trans rfl
                 have dz : wc.cell? ⟨ac, 3, none⟩ = some (.int .i64 ((rd_T58 l0 aa).f3)) := (Ai ab.out 3).trans rfl
                 have dA := Af ab.out 0
                 have dB := Af ab.out 1
                 have dC := Af ab.out 2
                 have dD := Af ab.out 3
                 go_wp2_with (first | ((with_reducible refine Bj (N := 75) rfl ?_); (try (refine Bu (by rfl) ?_; dsimp only)); refine Kd.Cx k58 _ 58 ?hg (N := 75) ?hd (xs := ([(⟨a1, ((rd_T58 l0 aa).f1), ((rd_T58 l0 aa).f2), ((rd_T58 l0 aa).f3)⟩ : S58), (⟨((rd_T58 l0 aa).f0), ((rd_T58 l0 aa).f1), a1, ((rd_T58 l0 aa).f3)⟩ : S58)] : List (S58))) (inner := [.int .i64 a1, .int .i64 ((rd_T58 l0 aa).f1), .int .i64 ((rd_T58 l0 aa).f2), .int .i64 ((rd_T58 l0 aa).f3), .int .i64 ((rd_T58 l0 aa).f0), .int .i64 ((rd_T58 l0 aa).f1), .int .i64 a1, .int .i64 ((rd_T58 l0 aa).f3)]) (ok := fun _ => True) (okp := fun _ => True) ?hr ?hp (fun _ hk => hk) trivial (Below.refl _ _) (Nat.le_refl _) (by simp) ?_; (case hd => rfl); (case hg => rfl); (case hr => first | (go_simp; done) | (go_simp; rfl)); (case hp => exact (Reps.c4 (show Kd.M k58 _ _ _ (⟨a1, ((rd_T58 l0 aa).f1), ((rd_T58 l0 aa).f2), ((rd_T58 l0 aa).f3)⟩ : S58) [.int .i64 a1, .int .i64 ((rd_T58 l0 aa).f1), .int .i64 ((rd_T58 l0 aa).f2), .int .i64 ((rd_T58 l0 aa).f3)] from (k58_mkM _ _ _ (⟨a1, ((rd_T58 l0 aa).f1), ((rd_T58 l0 aa).f2), ((rd_T58 l0 aa).f3)⟩ : S58) )) (Reps.c4 (show Kd.M k58 _ _ _ (⟨((rd_T58 l0 aa).f0), ((rd_T58 l0 aa).f1), a1, ((rd_T58 l0 aa).f3)⟩ : S58) [.int .i64 ((rd_T58 l0 aa).f0), .int .i64 ((rd_T58 l0 aa).f1), .int .i64 a1, .int .i64 ((rd_T58 l0 aa).f3)] from (k58_mkM _ _ _ (⟨((rd_T58 l0 aa).f0), ((rd_T58 l0 aa).f1), a1, ((rd_T58 l0 aa).f3)⟩ : S58) )) (Reps.none _ _)))); intro v114 w57 ho58 hb hg_ hnew_; clear hg_ hnew_; (first | rw [← ax.out] at ho58 | (simp only [Int.reduceToNat] at ho58; rw [← ax.out] at ho58)); have n0_ := Aa.mk (Kd.V_elder' (by (with_reducible repeat (first | apply Kd.V_alloc | apply Kd.V_drewN | apply Kd.V_drew)); exact ag.out) (Kd.An ho58) hb); have n1_ := Aa.mk (Kd.Ao (by exact rU <| ae.out) (Kd.An ho58) hb); have n2_ := Aa.mk (Kd.Ao (by exact rU <| ah.out) (Kd.An ho58) hb); have n3_ := Aa.mk (Kd.Bt (Kd.R_newB (Kd.Az (Kd.Az (Kd.Cg (M := fun k_ => (w.heap.size ≤ k_)) ho58 (Ae (by repeat (first | (with_reducible first | exact HB.out | apply Ad | apply Ab | apply Ac | refine Ak ?_ af.out) | exact HB.out))) (fun k_ h_ => h_)) (Kd.Bs (by exact rU <| ae.out))) (Kd.Bs (by exact rU <| ah.out))) (g := ac) (o := .cells #[.int .i64 ((rd_T58 l0 aa).f0), .int .i64 ((rd_T58 l0 aa).f1), .int .i64 ((rd_T58 l0 aa).f2), .int .i64 ((rd_T58 l0 aa).f3)] 58 (0, 0)) (by exact bU <| ab.out)) (Ae (by repeat (first | (with_reducible first | exact HB.out | apply Ad | apply Ab | apply Ac | refine Ak ?_ af.out) | exact HB.out)))); have n4_ := Aa.mk (Bz (g := ac) (o := .cells #[.int .i64 ((rd_T58 l0 aa).f0), .int .i64 ((rd_T58 l0 aa).f1), .int .i64 ((rd_T58 l0 aa).f2), .int .i64 ((rd_T58 l0 aa).f3)] 58 (0, 0)) (by exact bU <| ab.out) hb); have n5_ := Aa.mk (Aj (by repeat (first | (with_reducible first | exact HB.out | apply Ad | apply Ab | apply Ac | refine Ak ?_ af.out) | exact HB.out)) hb); clear ag; clear ae; clear ah; clear ab; clear HB; have ag := n0_; have ae := n1_; have ah := n2_; have ai := n3_; have ab := n4_; have HB := n5_; clear n0_ n1_ n2_ n3_ n4_ n5_; clear hb ho58; obtain ⟨aV, aW, ew⟩ := Kd.Bk ai.out; subst ew) | ((with_reducible refine B5 (b := .append) (xs := #[.tmp 58, .tmp 75]) rfl ?_); (try (refine Bu (by rfl) ?_; dsimp only)); at_builtin; refine Kd.Cs k58 (w0 := w) w.heap.size rfl (.tmp 58) (.tmp 75) 22 58 (.agg #[(.int .i64 0), (.int .i64 0), (.int .i64 0), (.int .i64 0)]) 32 rfl Try.underlying22 info58 rfl (by decide) (by omega) u9 ao aj _ _ _ (fun k_ => (w.heap.size ≤ k_) ∧ some k_ ≠ (v108 : Value).ownBlock ∧ some k_ ≠ (.slice aV aj.length aW : Value).ownBlock ∧ k_ ≠ ac) (fun _ => False) rfl rfl ?aO ?aR (fun _ _ h => h) (fun _ h => h.elim) ?aF ?aB ?aS ?aL ?_; (case aR => repeat (first | exact (Kd.As ai.out).2.2 | (with_reducible refine Kd.Bf ?_ _) | (with_reducible refine Kd.Be ?_ _) | (with_reducible refine Kd.Bn ?_))); (case aB => exact (by repeat (first | (with_reducible first | exact HB.out | apply Ad | apply Ab | apply Ac | refine Ak ?_ af.out) | exact HB.out))); (case aF => exact (fun k_ hk => ⟨(Nat.le_trans (Ae (by repeat (first | (with_reducible first | exact HB.out | apply Ad | apply Ab | apply Ac | refine Ak ?_ af.out) | exact HB.out))) hk), Kd.fresh' (Kd.Bs (by exact rU <| ae.out)) k_ hk, Kd.fresh' (Kd.Bs (by exact rU <| ai.out)) k_ hk, Kd.freshB (g := ac) (o := .cells #[.int .i64 ((rd_T58 l0 aa).f0), .int .i64 ((rd_T58 l0 aa).f1), .int .i64 ((rd_T58 l0 aa).f2), .int .i64 ((rd_T58 l0 aa).f3)] 58 (0, 0)) (by exact bU <| ab.out) k_ hk⟩)); (case aO => exact (by exact rU <| Kd.Bb ah.out (fun _ hk => ⟨hk.1.1, ⟨hk.1.2.1, ⟨hk.2, hk.1.2.2⟩⟩⟩))); (case aS => exact (Ae (by repeat (first | (with_reducible first | exact HB.out | apply Ad | apply Ab | apply Ac | refine Ak ?_ af.out) | exact HB.out)))); (case aL => have := LMc33.out; omega); intro v117 w59 ho hb hg hat; rw [← a9.out] at ho; have n0_ := Aa.mk (Kd.V_afterv (ok := (fun k_ => (P0_ k_ ∨ w.heap.size ≤ k_) ∧ some k_ ≠ (v108 : Value).ownBlock ∧ some k_ ≠ (.slice aV aj.length aW : Value).ownBlock ∧ k_ ≠ ac)) (by (with_reducible repeat (first | apply Kd.V_alloc | apply Kd.V_drewN | apply Kd.V_drew)); exact Kd.V_mono ag.out (fun _ hk => ⟨⟨hk.1.1, ⟨hk.1.2.1, ⟨hk.2, hk.1.2.2.2⟩⟩⟩, hk.1.2.2.1⟩)) hg hat); have n1_ := Aa.mk (Kd.Co (ok := (fun k_ => (w.heap.size ≤ k_) ∧ some k_ ≠ (.slice aV aj.length aW : Value).ownBlock ∧ k_ ≠ ac)) (by exact rU <| Kd.Bb ae.out (fun _ hk => ⟨⟨hk.1.1, ⟨hk.2, hk.1.2.2⟩⟩, hk.1.2.1⟩)) hg hat); have n2_ := Aa.mk (Ck (g := ac) (o := .cells #[.int .i64 ((rd_T58 l0 aa).f0), .int .i64 ((rd_T58 l0 aa).f1), .int .i64 ((rd_T58 l0 aa).f2), .int .i64 ((rd_T58 l0 aa).f3)] 58 (0, 0)) (by exact bU <| ab.out) hg (Kd.R_away ah.out (fun _ hk => hk.1.2.2))); have n3_ := Aa.mk (Kd.Co (ok := (fun k_ => (w.heap.size ≤ k_) ∧ some k_ ≠ (v108 : Value).ownBlock ∧ k_ ≠ ac)) (by exact rU <| Kd.Bb ai.out (fun _ hk => ⟨⟨hk.1.1.1.1, ⟨hk.1.1.2, hk.2⟩⟩, hk.1.2⟩)) hg hat); have n4_ := Aa.mk (hb); have n5_ := Aa.mk (ho); clear ag; clear ae; clear ab; clear ai; clear HB; clear ah; have ag := n0_; have ae := n1_; have ab := n2_; have ai := n3_; have HB := n4_; have ap := n5_; clear n0_ n1_ n2_ n3_ n4_ n5_; clear ho hb hg hat; have dE : w59.cell? ⟨ac, 0, none⟩ = some (.int .i64 ((rd_T58 l0 aa).f0)) := (Ai ab.out 0).trans rfl; have dF : w59.cell? ⟨ac, 1, none⟩ = some (.int .i64 ((rd_T58 l0 aa).f1)) := (Ai ab.out 1).trans rfl; have dG : w59.cell? ⟨ac, 2, none⟩ = some (.int .i64 ((rd_T58 l0 aa).f2)) := (Ai ab.out 2).trans rfl; have dH : w59.cell? ⟨ac, 3, none⟩ = some (.int .i64 ((rd_T58 l0 aa).f3)) := (Ai ab.out 3).trans rfl; have dI := Af ab.out 0; have dJ := Af ab.out 1; have dK := Af ab.out 2; have dL := Af ab.out 3) | ((with_reducible refine B5 (b := .append) (xs := #[.tmp 106, .tmp 108]) rfl ?_); (try (refine Bu (by rfl) ?_; dsimp only)); at_builtin; refine Kd.Cy k58 (w0 := w) w.heap.size rfl (.tmp 106) (.tmp 108) 22 58 (.agg #[(.int .i64 0), (.int .i64 0), (.int .i64 0), (.int .i64 0)]) 32 rfl Try.underlying22 info58 rfl (by decide) (by omega) v117 ar (⟨((rd_T58 l0 aa).f0), ((rd_T58 l0 aa).f1), ((rd_T58 l0 aa).f2), ((rd_T58 l0 aa).f3)⟩ : S58) [.int .i64 ((rd_T58 l0 aa).f0), .int .i64 ((rd_T58 l0 aa).f1), .int .i64 ((rd_T58 l0 aa).f2), .int .i64 ((rd_T58 l0 aa).f3)] (fun k_ => (w.heap.size ≤ k_) ∧ some k_ ≠ (v108 : Value).ownBlock ∧ some k_ ≠ (.slice aV aj.length aW : Value).ownBlock ∧ k_ ≠ ac) (fun _ => False) rfl rfl ?aP (fun _ hk => hk.elim) ?aF ?aO ?aB ?aS ?aL ?_; (case aP => exact k58_mkM _ _ _ (⟨((rd_T58 l0 aa).f0), ((rd_T58 l0 aa).f1), ((rd_T58 l0 aa).f2), ((rd_T58 l0 aa).f3)⟩ : S58)); (case aB => exact (by repeat (first | (with_reducible first | exact HB.out | apply Ad | apply Ab | apply Ac | refine Ak ?_ af.out) | exact HB.out))); (case aF => exact (fun k_ hk => ⟨(Nat.le_trans (Ae (by repeat (first | (with_reducible first | exact HB.out | apply Ad | apply Ab | apply Ac | refine Ak ?_ af.out) | exact HB.out))) hk), Kd.fresh' (Kd.Bs (by exact rU <| ae.out)) k_ hk, Kd.fresh' (Kd.Bs (by exact rU <| ai.out)) k_ hk, Kd.freshB (g := ac) (o := .cells #[.int .i64 ((rd_T58 l0 aa).f0), .int .i64 ((rd_T58 l0 aa).f1), .int .i64 ((rd_T58 l0 aa).f2), .int .i64 ((rd_T58 l0 aa).f3)] 58 (0, 0)) (by exact bU <| ab.out) k_ hk⟩)); (case aO => exact (by exact rU <| ap.out)); (case aS => exact (Ae (by repeat (first | (with_reducible first | exact HB.out | apply Ad | apply Ab | apply Ac | refine Ak ?_ af.out) | exact HB.out)))); (case aL => have := LMc55.out; omega); intro v129 w62 ho hb hg hat; rw [← cv.out] at ho; have n0_ := Aa.mk (Kd.V_afterv (ok := (fun k_ => (P0_ k_ ∨ w.heap.size ≤ k_) ∧ some k_ ≠ (v108 : Value).ownBlock ∧ some k_ ≠ (.slice aV aj.length aW : Value).ownBlock ∧ k_ ≠ ac)) (by (with_reducible repeat (first | apply Kd.V_alloc | apply Kd.V_drewN | apply Kd.V_drew)); exact ag.out) hg hat); have n1_ := Aa.mk (Kd.Co (ok := (fun k_ => (w.heap.size ≤ k_) ∧ some k_ ≠ (.slice aV aj.length aW : Value).ownBlock ∧ k_ ≠ ac)) (by exact rU <| ae.out) hg hat); have n2_ := Aa.mk (Ck (g := ac) (o := .cells #[.int .i64 ((rd_T58 l0 aa).f0), .int .i64 ((rd_T58 l0 aa).f1), .int .i64 ((rd_T58 l0 aa).f2), .int .i64 ((rd_T58 l0 aa).f3)] 58 (0, 0)) (by exact bU <| ab.out) hg (Kd.R_away ap.out (fun _ hk => hk.2.2.2))); have n3_ := Aa.mk (Kd.Co (ok := (fun k_ => (w.heap.size ≤ k_) ∧ some k_ ≠ (v108 : Value).ownBlock ∧ k_ ≠ ac)) (by exact rU <| ai.out) hg hat); have n4_ := Aa.mk (hb); have n5_ := Aa.mk (ho); clear ag; clear ae; clear ab; clear ai; clear HB; clear ap; have ag := n0_; have ae := n1_; have ab := n2_; have ai := n3_; have HB := n4_; have cw := n5_; clear n0_ n1_ n2_ n3_ n4_ n5_; clear ho hb hg hat))
                 go_roundg kj25
                 case measure => have := HJ5.out; have := HK2.out; have := HJ25.out; omega
                 case rel => exact ⟨(eu), (wrap64 (aa - 1)), (by first | rfl | (simp; done) | (simp [*]; done)), H', ⟨by have := HJ5.out; have := HK2.out; have := HJ25.out; omega⟩, ⟨by (with_reducible repeat (first | apply Kd.V_alloc | apply Kd.V_drewN | apply Kd.V_drew)); exact Kd.V_mono ag.out (fun _ hk => ⟨hk.1.1, ⟨hk.1.2.1, hk.2⟩⟩)⟩, ⟨by exact rU <| Kd.Bb ae.out (fun _ hk => ⟨hk.1.1, hk.2⟩)⟩, ⟨by exact rU <| Kd.Bb cw.out (fun _ hk => ⟨hk.1, hk.2.1⟩)⟩, ⟨by repeat (first | (with_reducible first | exact HB.out | apply Ad | apply Ab | apply Ac | refine Ak ?_ af.out) | exact HB.out)⟩⟩
                ·rw [if_neg c55] at H
                 exact absurd H (by simp)
              ·rw [if_neg c33] at H
               exact absurd H (by simp)
             ·replace c32 := Bool.eq_false_iff.mpr c32
              subst c32
              have H1 := H
              rw [if_neg (show ¬ (false = true) by decide)] at H1
              clear H
              have H := H1
              clear H1
              by_cases c63 : ((rd_T58 l0 aa).f1) < a2
              ·rw [if_pos c63] at H
               have cx : decide (((rd_T58 l0 aa).f1) < a2) = true := decide_eq_true c63
               clear c63
               by_cases c64 : a2 < ((rd_T58 l0 aa).f3)
               ·rw [if_pos c64] at H
                have cy : decide (a2 < ((rd_T58 l0 aa).f3)) = true := decide_eq_true c64
                clear c64
                obtain ⟨aC, bf⟩ : ∃ y_ : List (S58), y_ = (([(⟨((rd_T58 l0 aa).f0), a2, ((rd_T58 l0 aa).f2), ((rd_T58 l0 aa).f3)⟩ : S58), (⟨((rd_T58 l0 aa).f0), ((rd_T58 l0 aa).f1), ((rd_T58 l0 aa).f2), a2⟩ : S58)] : List (S58))) := ⟨_, rfl⟩
                (try rw [Option.bind_some] at H); try rw [← bf] at H
                have b3 := Aa.mk bf
                clear bf
                by_cases c65 : ao.length + aC.length < 4398046511104
                ·rw [if_pos c65] at H
                 have LMc65 := Aa.mk c65
                 clear c65
                 obtain ⟨ex, bg⟩ : ∃ y_ : List (S58), y_ = (ao ++ aC) := ⟨_, rfl⟩
                 (try rw [Option.bind_some] at H); try rw [← bg] at H
                 have cz := Aa.mk bg
                 clear bg
                 have H' := Aa.mk H
                 clear H
                 have dM : wc.cell? ⟨ac, 0, none⟩ = some (.int .i64 ((rd_T58 l0 aa).f0)) := (Ai ab.out 0).trans rfl
                 have dN : wc.cell? ⟨ac, 1, none⟩ = some (.int .i64 ((rd_T58 l0 aa).f1)) := (Ai ab.out 1).trans rfl
                 have dO : wc.cell? ⟨ac, 2, none⟩ = some (.int .i64 ((rd_T58 l0 aa).f2)) := (Ai ab.out 2).trans rfl
                 have dP : wc.cell? ⟨ac, 3, none⟩ = some (.int .i64 ((rd_T58 l0 aa).f3)) := (Ai ab.out 3).trans rfl
                 have dQ := Af ab.out 0
                 have dR := Af ab.out 1
                 have dS := Af ab.out 2
                 have dT := Af ab.out 3
                 go_wp2_with (first | ((with_reducible refine Bj (N := 104) rfl ?_); (try (refine Bu (by rfl) ?_; dsimp only)); refine Kd.Cx k58 _ 58 ?hg (N := 104) ?hd (xs := ([(⟨((rd_T58 l0 aa).f0), a2, ((rd_T58 l0 aa).f2), ((rd_T58 l0 aa).f3)⟩ : S58), (⟨((rd_T58 l0 aa).f0), ((rd_T58 l0 aa).f1), ((rd_T58 l0 aa).f2), a2⟩ : S58)] : List (S58))) (inner := [.int .i64 ((rd_T58 l0 aa).f0), .int .i64 a2, .int .i64 ((rd_T58 l0 aa).f2), .int .i64 ((rd_T58 l0 aa).f3), .int .i64 ((rd_T58 l0 aa).f0), .int .i64 ((rd_T58 l0 aa).f1), .int .i64 ((rd_T58 l0 aa).f2), .int .i64 a2]) (ok := fun _ => True) (okp := fun _ => True) ?hr ?hp (fun _ hk => hk) trivial (Below.refl _ _) (Nat.le_refl _) (by simp) ?_; (case hd => rfl); (case hg => rfl); (case hr => first | (go_simp; done) | (go_simp; rfl)); (case hp => exact (Reps.c4 (show Kd.M k58 _ _ _ (⟨((rd_T58 l0 aa).f0), a2, ((rd_T58 l0 aa).f2), ((rd_T58 l0 aa).f3)⟩ : S58) [.int .i64 ((rd_T58 l0 aa).f0), .int .i64 a2, .int .i64 ((rd_T58 l0 aa).f2), .int .i64 ((rd_T58 l0 aa).f3)] from (k58_mkM _ _ _ (⟨((rd_T58 l0 aa).f0), a2, ((rd_T58 l0 aa).f2), ((rd_T58 l0 aa).f3)⟩ : S58) )) (Reps.c4 (show Kd.M k58 _ _ _ (⟨((rd_T58 l0 aa).f0), ((rd_T58 l0 aa).f1), ((rd_T58 l0 aa).f2), a2⟩ : S58) [.int .i64 ((rd_T58 l0 aa).f0), .int .i64 ((rd_T58 l0 aa).f1), .int .i64 ((rd_T58 l0 aa).f2), .int .i64 a2] from (k58_mkM _ _ _ (⟨((rd_T58 l0 aa).f0), ((rd_T58 l0 aa).f1), ((rd_T58 l0 aa).f2), a2⟩ : S58) )) (Reps.none _ _)))); intro v132 w67 ho68 hb hg_ hnew_; clear hg_ hnew_; (first | rw [← b3.out] at ho68 | (simp only [Int.reduceToNat] at ho68; rw [← b3.out] at ho68)); have n0_ := Aa.mk (Kd.V_elder' (by (with_reducible repeat (first | apply Kd.V_alloc | apply Kd.V_drewN | apply Kd.V_drew)); exact ag.out) (Kd.An ho68) hb); have n1_ := Aa.mk (Kd.Ao (by exact rU <| ae.out) (Kd.An ho68) hb); have n2_ := Aa.mk (Kd.Ao (by exact rU <| ah.out) (Kd.An ho68) hb); have n3_ := Aa.mk (Kd.Bt (Kd.R_newB (Kd.Az (Kd.Az (Kd.Cg (M := fun k_ => (w.heap.size ≤ k_)) ho68 (Ae (by repeat (first | (with_reducible first | exact HB.out | apply Ad | apply Ab | apply Ac | refine Ak ?_ af.out) | exact HB.out))) (fun k_ h_ => h_)) (Kd.Bs (by exact rU <| ae.out))) (Kd.Bs (by exact rU <| ah.out))) (g := ac) (o := .cells #[.int .i64 ((rd_T58 l0 aa).f0), .int .i64 ((rd_T58 l0 aa).f1), .int .i64 ((rd_T58 l0 aa).f2), .int .i64 ((rd_T58 l0 aa).f3)] 58 (0, 0)) (by exact bU <| ab.out)) (Ae (by repeat (first | (with_reducible first | exact HB.out | apply Ad | apply Ab | apply Ac | refine Ak ?_ af.out) | exact HB.out)))); have n4_ := Aa.mk (Bz (g := ac) (o := .cells #[.int .i64 ((rd_T58 l0 aa).f0), .int .i64 ((rd_T58 l0 aa).f1), .int .i64 ((rd_T58 l0 aa).f2), .int .i64 ((rd_T58 l0 aa).f3)] 58 (0, 0)) (by exact bU <| ab.out) hb); have n5_ := Aa.mk (Aj (by repeat (first | (with_reducible first | exact HB.out | apply Ad | apply Ab | apply Ac | refine Ak ?_ af.out) | exact HB.out)) hb); clear ag; clear ae; clear ah; clear ab; clear HB; have ag := n0_; have ae := n1_; have ah := n2_; have az := n3_; have ab := n4_; have HB := n5_; clear n0_ n1_ n2_ n3_ n4_ n5_; clear hb ho68; obtain ⟨b7, b8, ey⟩ := Kd.Bk az.out; subst ey) | ((with_reducible refine B5 (b := .append) (xs := #[.tmp 87, .tmp 104]) rfl ?_); (try (refine Bu (by rfl) ?_; dsimp only)); at_builtin; refine Kd.Cs k58 (w0 := w) w.heap.size rfl (.tmp 87) (.tmp 104) 22 58 (.agg #[(.int .i64 0), (.int .i64 0), (.int .i64 0), (.int .i64 0)]) 32 rfl Try.underlying22 info58 rfl (by decide) (by omega) u9 ao aC _ _ _ (fun k_ => (w.heap.size ≤ k_) ∧ some k_ ≠ (v108 : Value).ownBlock ∧ some k_ ≠ (.slice b7 aC.length b8 : Value).ownBlock ∧ k_ ≠ ac) (fun _ => False) rfl rfl ?aO ?aR (fun _ _ h => h) (fun _ h => h.elim) ?aF ?aB ?aS ?aL ?_; (case aR => repeat (first | exact (Kd.As az.out).2.2 | (with_reducible refine Kd.Bf ?_ _) | (with_reducible refine Kd.Be ?_ _) | (with_reducible refine Kd.Bn ?_))); (case aB => exact (by repeat (first | (with_reducible first | exact HB.out | apply Ad | apply Ab | apply Ac | refine Ak ?_ af.out) | exact HB.out))); (case aF => exact (fun k_ hk => ⟨(Nat.le_trans (Ae (by repeat (first | (with_reducible first | exact HB.out | apply Ad | apply Ab | apply Ac | refine Ak ?_ af.out) | exact HB.out))) hk), Kd.fresh' (Kd.Bs (by exact rU <| ae.out)) k_ hk, Kd.fresh' (Kd.Bs (by exact rU <| az.out)) k_ hk, Kd.freshB (g := ac) (o := .cells #[.int .i64 ((rd_T58 l0 aa).f0), .int .i64 ((rd_T58 l0 aa).f1), .int .i64 ((rd_T58 l0 aa).f2), .int .i64 ((rd_T58 l0 aa).f3)] 58 (0, 0)) (by exact bU <| ab.out) k_ hk⟩)); (case aO => exact (by exact rU <| Kd.Bb ah.out (fun _ hk => ⟨hk.1.1, ⟨hk.1.2.1, ⟨hk.2, hk.1.2.2⟩⟩⟩))); (case aS => exact (Ae (by repeat (first | (with_reducible first | exact HB.out | apply Ad | apply Ab | apply Ac | refine Ak ?_ af.out) | exact HB.out)))); (case aL => have := LMc65.out; omega); intro v135 w69 ho hb hg hat; rw [← cz.out] at ho; have n0_ := Aa.mk (Kd.V_afterv (ok := (fun k_ => (P0_ k_ ∨ w.heap.size ≤ k_) ∧ some k_ ≠ (v108 : Value).ownBlock ∧ some k_ ≠ (.slice b7 aC.length b8 : Value).ownBlock ∧ k_ ≠ ac)) (by (with_reducible repeat (first | apply Kd.V_alloc | apply Kd.V_drewN | apply Kd.V_drew)); exact Kd.V_mono ag.out (fun _ hk => ⟨⟨hk.1.1, ⟨hk.1.2.1, ⟨hk.2, hk.1.2.2.2⟩⟩⟩, hk.1.2.2.1⟩)) hg hat); have n1_ := Aa.mk (Kd.Co (ok := (fun k_ => (w.heap.size ≤ k_) ∧ some k_ ≠ (.slice b7 aC.length b8 : Value).ownBlock ∧ k_ ≠ ac)) (by exact rU <| Kd.Bb ae.out (fun _ hk => ⟨⟨hk.1.1, ⟨hk.2, hk.1.2.2⟩⟩, hk.1.2.1⟩)) hg hat); have n2_ := Aa.mk (Ck (g := ac) (o := .cells #[.int .i64 ((rd_T58 l0 aa).f0), .int .i64 ((rd_T58 l0 aa).f1), .int .i64 ((rd_T58 l0 aa).f2), .int .i64 ((rd_T58 l0 aa).f3)] 58 (0, 0)) (by exact bU <| ab.out) hg (Kd.R_away ah.out (fun _ hk => hk.1.2.2))); have n3_ := Aa.mk (Kd.Co (ok := (fun k_ => (w.heap.size ≤ k_) ∧ some k_ ≠ (v108 : Value).ownBlock ∧ k_ ≠ ac)) (by exact rU <| Kd.Bb az.out (fun _ hk => ⟨⟨hk.1.1.1.1, ⟨hk.1.1.2, hk.2⟩⟩, hk.1.2⟩)) hg hat); have n4_ := Aa.mk (hb); have n5_ := Aa.mk (ho); clear ag; clear ae; clear ab; clear az; clear HB; clear ah; have ag := n0_; have ae := n1_; have ab := n2_; have az := n3_; have HB := n4_; have cA := n5_; clear n0_ n1_ n2_ n3_ n4_ n5_; clear ho hb hg hat))
                 go_roundg kj25
                 case measure => have := HJ5.out; have := HK2.out; have := HJ25.out; omega
                 case rel => exact ⟨(ex), (wrap64 (aa - 1)), (by first | rfl | (simp; done) | (simp [*]; done)), H', ⟨by have := HJ5.out; have := HK2.out; have := HJ25.out; omega⟩, ⟨by (with_reducible repeat (first | apply Kd.V_alloc | apply Kd.V_drewN | apply Kd.V_drew)); exact Kd.V_mono ag.out (fun _ hk => ⟨hk.1.1, ⟨hk.1.2.1, hk.2⟩⟩)⟩, ⟨by exact rU <| Kd.Bb ae.out (fun _ hk => ⟨hk.1.1, hk.2⟩)⟩, ⟨by exact rU <| Kd.Bb cA.out (fun _ hk => ⟨hk.1, hk.2.1⟩)⟩, ⟨by repeat (first | (with_reducible first | exact HB.out | apply Ad | apply Ab | apply Ac | refine Ak ?_ af.out) | exact HB.out)⟩⟩
                ·rw [if_neg c65] at H
                 exact absurd H (by simp)
               ·rw [if_neg c64] at H
                have cy : decide (a2 < ((rd_T58 l0 aa).f3)) = false := decide_eq_false c64
                clear c64
                by_cases c71 : ao.length < 4398046511104
                ·rw [if_pos c71] at H
                 have LMc71 := Aa.mk c71
                 clear c71
                 obtain ⟨ez, bh⟩ : ∃ y_ : List (S58), y_ = (ao ++ [(⟨((rd_T58 l0 aa).f0), ((rd_T58 l0 aa).f1), ((rd_T58 l0 aa).f2), ((rd_T58 l0 aa).f3)⟩ : S58)]) := ⟨_, rfl⟩
                 (try rw [Option.bind_some] at H); try rw [← bh] at H
                 have cB := Aa.mk bh
                 clear bh
                 have H' := Aa.mk H
                 clear H
                 have dU : wc.cell? ⟨ac, 0, none⟩ = some (.int .i64 ((rd_T58 l0 aa).f0)) := (Ai ab.out 0).trans rfl
                 have dV : wc.cell? ⟨ac, 1, none⟩ = some (.int .i64 ((rd_T58 l0 aa).f1)) := (Ai ab.out 1).trans rfl
                 have dW : wc.cell? ⟨ac, 2, none⟩ = some (.int .i64 ((rd_T58 l0 aa).f2)) := (Ai ab.out 2).trans rfl
                 have dX : wc.cell? ⟨ac, 3, none⟩ = some (.int .i64 ((rd_T58 l0 aa).f3)) := (Ai ab.out 3).trans rfl
                 have dY := Af ab.out 0
                 have dZ := Af ab.out 1
                 have d5 := Af ab.out 2
                 have d6 := Af ab.out 3
                 go_wp2_with (first | ((with_reducible refine B5 (b := .append) (xs := #[.tmp 106, .tmp 108]) rfl ?_); (try (refine Bu (by rfl) ?_; dsimp only)); at_builtin; refine Kd.Cy k58 (w0 := w) w.heap.size rfl (.tmp 106) (.tmp 108) 22 58 (.agg #[(.int .i64 0), (.int .i64 0), (.int .i64 0), (.int .i64 0)]) 32 rfl Try.underlying22 info58 rfl (by decide) (by omega) u9 ao (⟨((rd_T58 l0 aa).f0), ((rd_T58 l0 aa).f1), ((rd_T58 l0 aa).f2), ((rd_T58 l0 aa).f3)⟩ : S58) [.int .i64 ((rd_T58 l0 aa).f0), .int .i64 ((rd_T58 l0 aa).f1), .int .i64 ((rd_T58 l0 aa).f2), .int .i64 ((rd_T58 l0 aa).f3)] (fun k_ => (w.heap.size ≤ k_) ∧ some k_ ≠ (v108 : Value).ownBlock ∧ k_ ≠ ac) (fun _ => False) rfl rfl ?aP (fun _ hk => hk.elim) ?aF ?aO ?aB ?aS ?aL ?_; (case aP => exact k58_mkM _ _ _ (⟨((rd_T58 l0 aa).f0), ((rd_T58 l0 aa).f1), ((rd_T58 l0 aa).f2), ((rd_T58 l0 aa).f3)⟩ : S58)); (case aB => exact (by repeat (first | (with_reducible first | exact HB.out | apply Ad | apply Ab | apply Ac | refine Ak ?_ af.out) | exact HB.out))); (case aF => exact (fun k_ hk => ⟨(Nat.le_trans (Ae (by repeat (first | (with_reducible first | exact HB.out | apply Ad | apply Ab | apply Ac | refine Ak ?_ af.out) | exact HB.out))) hk), Kd.fresh' (Kd.Bs (by exact rU <| ae.out)) k_ hk, Kd.freshB (g := ac) (o := .cells #[.int .i64 ((rd_T58 l0 aa).f0), .int .i64 ((rd_T58 l0 aa).f1), .int .i64 ((rd_T58 l0 aa).f2), .int .i64 ((rd_T58 l0 aa).f3)] 58 (0, 0)) (by exact bU <| ab.out) k_ hk⟩)); (case aO => exact (by exact rU <| ah.out)); (case aS => exact (Ae (by repeat (first | (with_reducible first | exact HB.out | apply Ad | apply Ab | apply Ac | refine Ak ?_ af.out) | exact HB.out)))); (case aL => have := LMc71.out; omega); intro v138 w73 ho hb hg hat; rw [← cB.out] at ho; have n0_ := Aa.mk (Kd.V_afterv (ok := (fun k_ => (P0_ k_ ∨ w.heap.size ≤ k_) ∧ some k_ ≠ (v108 : Value).ownBlock ∧ k_ ≠ ac)) (by (with_reducible repeat (first | apply Kd.V_alloc | apply Kd.V_drewN | apply Kd.V_drew)); exact Kd.V_mono ag.out (fun _ hk => ⟨⟨hk.1, ⟨hk.2.1, hk.2.2.2⟩⟩, hk.2.2.1⟩)) hg hat); have n1_ := Aa.mk (Kd.Co (ok := (fun k_ => (w.heap.size ≤ k_) ∧ k_ ≠ ac)) (by exact rU <| Kd.Bb ae.out (fun _ hk => ⟨⟨hk.1, hk.2.2⟩, hk.2.1⟩)) hg hat); have n2_ := Aa.mk (Ck (g := ac) (o := .cells #[.int .i64 ((rd_T58 l0 aa).f0), .int .i64 ((rd_T58 l0 aa).f1), .int .i64 ((rd_T58 l0 aa).f2), .int .i64 ((rd_T58 l0 aa).f3)] 58 (0, 0)) (by exact bU <| ab.out) hg (Kd.R_away ah.out (fun _ hk => hk.2.2))); have n3_ := Aa.mk (hb); have n4_ := Aa.mk (ho); clear ag; clear ae; clear ab; clear HB; clear ah; have ag := n0_; have ae := n1_; have ab := n2_; have HB := n3_; have cC := n4_; clear n0_ n1_ n2_ n3_ n4_; clear ho hb hg hat))
                 go_roundg kj25
                 case measure => have := HJ5.out; have := HK2.out; have := HJ25.out; omega
                 case rel => exact ⟨(ez), (wrap64 (aa - 1)), (by first | rfl | (simp; done) | (simp [*]; done)), H', ⟨by have := HJ5.out; have := HK2.out; have := HJ25.out; omega⟩, ⟨by (with_reducible repeat (first | apply Kd.V_alloc | apply Kd.V_drewN | apply Kd.V_drew)); exact Kd.V_mono ag.out (fun _ hk => ⟨hk.1.1, ⟨hk.1.2.1, hk.2⟩⟩)⟩, ⟨by exact rU <| Kd.Bb ae.out (fun _ hk => ⟨hk.1.1, hk.2⟩)⟩, ⟨by exact rU <| Kd.Bb cC.out (fun _ hk => ⟨hk.1, hk.2.1⟩)⟩, ⟨by repeat (first | (with_reducible first | exact HB.out | apply Ad | apply Ab | apply Ac | refine Ak ?_ af.out) | exact HB.out)⟩⟩
                ·rw [if_neg c71] at H
                 exact absurd H (by simp)
              ·rw [if_neg c63] at H
               have cx : decide (((rd_T58 l0 aa).f1) < a2) = false := decide_eq_false c63
               clear c63
               by_cases c74 : ao.length < 4398046511104
               ·rw [if_pos c74] at H
                have LMc74 := Aa.mk c74
                clear c74
                obtain ⟨eA, bi⟩ : ∃ y_ : List (S58), y_ = (ao ++ [(⟨((rd_T58 l0 aa).f0), ((rd_T58 l0 aa).f1), ((rd_T58 l0 aa).f2), ((rd_T58 l0 aa).f3)⟩ : S58)]) := ⟨_, rfl⟩
                (try rw [Option.bind_some] at H); try rw [← bi] at H
                have cD := Aa.mk bi
                clear bi
                have H' := Aa.mk H
                clear H
                have d7 : wc.cell? ⟨ac, 0, none⟩ = some (.int .i64 ((rd_T58 l0 aa).f0)) := (Ai ab.out 0).trans rfl
                have d8 : wc.cell? ⟨ac, 1, none⟩ = some (.int .i64 ((rd_T58 l0 aa).f1)) := (Ai ab.out 1).trans rfl
                have d9 : wc.cell? ⟨ac, 2, none⟩ = some (.int .i64 ((rd_T58 l0 aa).f2)) := (Ai ab.out 2).trans rfl
                have ec : wc.cell? ⟨ac, 3, none⟩ = some (.int .i64 ((rd_T58 l0 aa).f3)) := (Ai ab.out 3).trans rfl
                have ed := Af ab.out 0
                have ef := Af ab.out 1
                have eh := Af ab.out 2
                have ei := Af ab.out 3
                go_wp2_with (first | ((with_reducible refine B5 (b := .append) (xs := #[.tmp 106, .tmp 108]) rfl ?_); (try (refine Bu (by rfl) ?_; dsimp only)); at_builtin; refine Kd.Cy k58 (w0 := w) w.heap.size rfl (.tmp 106) (.tmp 108) 22 58 (.agg #[(.int .i64 0), (.int .i64 0), (.int .i64 0), (.int .i64 0)]) 32 rfl Try.underlying22 info58 rfl (by decide) (by omega) u9 ao (⟨((rd_T58 l0 aa).f0), ((rd_T58 l0 aa).f1), ((rd_T58 l0 aa).f2), ((rd_T58 l0 aa).f3)⟩ : S58) [.int .i64 ((rd_T58 l0 aa).f0), .int .i64 ((rd_T58 l0 aa).f1), .int .i64 ((rd_T58 l0 aa).f2), .int .i64 ((rd_T58 l0 aa).f3)] (fun k_ => (w.heap.size ≤ k_) ∧ some k_ ≠ (v108 : Value).ownBlock ∧ k_ ≠ ac) (fun _ => False) rfl rfl ?aP (fun _ hk => hk.elim) ?aF ?aO ?aB ?aS ?aL ?_; (case aP => exact k58_mkM _ _ _ (⟨((rd_T58 l0 aa).f0), ((rd_T58 l0 aa).f1), ((rd_T58 l0 aa).f2), ((rd_T58 l0 aa).f3)⟩ : S58)); (case aB => exact (by repeat (first | (with_reducible first | exact HB.out | apply Ad | apply Ab | apply Ac | refine Ak ?_ af.out) | exact HB.out))); (case aF => exact (fun k_ hk => ⟨(Nat.le_trans (Ae (by repeat (first | (with_reducible first | exact HB.out | apply Ad | apply Ab | apply Ac | refine Ak ?_ af.out) | exact HB.out))) hk), Kd.fresh' (Kd.Bs (by exact rU <| ae.out)) k_ hk, Kd.freshB (g := ac) (o := .cells #[.int .i64 ((rd_T58 l0 aa).f0), .int .i64 ((rd_T58 l0 aa).f1), .int .i64 ((rd_T58 l0 aa).f2), .int .i64 ((rd_T58 l0 aa).f3)] 58 (0, 0)) (by exact bU <| ab.out) k_ hk⟩)); (case aO => exact (by exact rU <| ah.out)); (case aS => exact (Ae (by repeat (first | (with_reducible first | exact HB.out | apply Ad | apply Ab | apply Ac | refine Ak ?_ af.out) | exact HB.out)))); (case aL => have := LMc74.out; omega); intro v141 w76 ho hb hg hat; rw [← cD.out] at ho; have n0_ := Aa.mk (Kd.V_afterv (ok := (fun k_ => (P0_ k_ ∨ w.heap.size ≤ k_) ∧ some k_ ≠ (v108 : Value).ownBlock ∧ k_ ≠ ac)) (by (with_reducible repeat (first | apply Kd.V_alloc | apply Kd.V_drewN | apply Kd.V_drew)); exact Kd.V_mono ag.out (fun _ hk => ⟨⟨hk.1, ⟨hk.2.1, hk.2.2.2⟩⟩, hk.2.2.1⟩)) hg hat); have n1_ := Aa.mk (Kd.Co (ok := (fun k_ => (w.heap.size ≤ k_) ∧ k_ ≠ ac)) (by exact rU <| Kd.Bb ae.out (fun _ hk => ⟨⟨hk.1, hk.2.2⟩, hk.2.1⟩)) hg hat); have n2_ := Aa.mk (Ck (g := ac) (o := .cells #[.int .i64 ((rd_T58 l0 aa).f0), .int .i64 ((rd_T58 l0 aa).f1), .int .i64 ((rd_T58 l0 aa).f2), .int .i64 ((rd_T58 l0 aa).f3)] 58 (0, 0)) (by exact bU <| ab.out) hg (Kd.R_away ah.out (fun _ hk => hk.2.2))); have n3_ := Aa.mk (hb); have n4_ := Aa.mk (ho); clear ag; clear ae; clear ab; clear HB; clear ah; have ag := n0_; have ae := n1_; have ab := n2_; have HB := n3_; have cE := n4_; clear n0_ n1_ n2_ n3_ n4_; clear ho hb hg hat))
                go_roundg kj25
                case measure => have := HJ5.out; have := HK2.out; have := HJ25.out; omega
                case rel => exact ⟨(eA), (wrap64 (aa - 1)), (by first | rfl | (simp; done) | (simp [*]; done)), H', ⟨by have := HJ5.out; have := HK2.out; have := HJ25.out; omega⟩, ⟨by (with_reducible repeat (first | apply Kd.V_alloc | apply Kd.V_drewN | apply Kd.V_drew)); exact Kd.V_mono ag.out (fun _ hk => ⟨hk.1.1, ⟨hk.1.2.1, hk.2⟩⟩)⟩, ⟨by exact rU <| Kd.Bb ae.out (fun _ hk => ⟨hk.1.1, hk.2⟩)⟩, ⟨by exact rU <| Kd.Bb cE.out (fun _ hk => ⟨hk.1, hk.2.1⟩)⟩, ⟨by repeat (first | (with_reducible first | exact HB.out | apply Ad | apply Ab | apply Ac | refine Ak ?_ af.out) | exact HB.out)⟩⟩
               ·rw [if_neg c74] at H
                exact absurd H (by simp)
          ·rw [if_neg c25] at H
           exact absurd H (by simp)
         ·rw [if_neg c24] at H
          exact absurd H (by simp)
        ·rw [if_neg c23] at H
         have bY : decide (0 ≤ aa) = false := decide_eq_false c23
         clear c23
         replace H := Option.bind_eq_some_iff.mp H
         obtain ⟨⟨cF, b9⟩, A770, H⟩ := H
         try dsimp only at H
         have A77 := Aa.mk A770
         clear A770
         replace H := Option.bind_eq_some_iff.mp H
         obtain ⟨⟨cG, cd⟩, A780, H⟩ := H
         try dsimp only at H
         have A78 := Aa.mk A780
         clear A780
         replace H := Option.bind_eq_some_iff.mp H
         obtain ⟨⟨eB, cg⟩, A790, H⟩ := H
         try dsimp only at H
         have A79 := Aa.mk A790
         clear A790
         replace H := Option.bind_eq_some_iff.mp H
         obtain ⟨aH, A800, H⟩ := H
         try dsimp only at H
         have A80 := Aa.mk A800
         clear A800
         replace H := Option.bind_eq_some_iff.mp H
         obtain ⟨aI, A810, H⟩ := H
         try dsimp only at H
         have A81 := Aa.mk A810
         clear A810
         replace H := Option.bind_eq_some_iff.mp H
         obtain ⟨aJ, A820, H⟩ := H
         try dsimp only at H
         have A82 := Aa.mk A820
         clear A820
         by_cases c83 : (wrap64 ((wrap64 (aH + aI)) + aJ)) = 0
         ·rw [if_pos c83] at H
          have cH : ((wrap64 ((wrap64 (aH + aI)) + aJ)) == 0) = true := beq_iff_eq.mpr c83
          have cI : ((wrap64 ((wrap64 (aH + aI)) + aJ)) != 0) = false := bne_eq_false_iff_eq.mpr c83
          clear c83
          by_cases c84 : eB = true
          ·subst c84
           have H1 := H
           rw [if_pos rfl] at H1
           clear H
           have H := H1
           clear H1
           replace H := Option.bind_eq_some_iff.mp H
           obtain ⟨b4, A850, H⟩ := H
           try dsimp only at H
           have A85 := Aa.mk A850
           clear A850
           by_cases c86 : b4 = true
           ·subst c86
            have H1 := H
            rw [if_pos rfl] at H1
            clear H
            have H := H1
            clear H1
            replace H := Option.bind_eq_some_iff.mp H
            obtain ⟨b5, A870, H⟩ := H
            try dsimp only at H
            have A87 := Aa.mk A870
            clear A870
            obtain rfl := Option.some.inj H
            obtain ⟨cJ, cK, eC⟩ := Kd.Bk ah.out
            subst eC
            go_wp2_with (first | ((with_reducible refine Ap (f := 21) rfl ?_); refine Br (some 112) rfl rfl Try.func21 (by kernel_rfl) rfl #[.slice cJ ao.length cK] rfl (by (try simp only [List.map_toArray, List.map_cons, List.map_nil]); first | done | rfl | (simp only [List.length_drop, List.length_take]; rfl)) ?_; (with_reducible refine (B7.calls k2 _ _ ao cF b9 _ ?side1 ?side2 A77.out).mono ?_); (case side1 => repeat (first | exact (Kd.As ah.out).2.2 | (with_reducible refine Kd.Bf ?_ _) | (with_reducible refine Kd.Be ?_ _) | (with_reducible refine Kd.Bn ?_))); (case side2 => exact (Kd.As ah.out).2.1); rintro e w89 ⟨v145, rfl, ho0, hb⟩; refine ⟨_, rfl, ?_⟩; have n0_ := Aa.mk (Kd.V_elder' (by (with_reducible repeat (first | apply Kd.V_alloc | apply Kd.V_drewN | apply Kd.V_drew)); exact ag.out) (Kd.An ho0) hb); have n1_ := Aa.mk (Kd.Ao (by exact rU <| ae.out) (Kd.An ho0) hb); have n2_ := Aa.mk (Kd.Ao (by exact rU <| ah.out) (Kd.An ho0) hb); have n3_ := Aa.mk (Kd.Bt (Kd.Az (Kd.Az (Kd.Cg (M := fun k_ => (w.heap.size ≤ k_)) ho0 (Ae (lU HB.out)) (fun k_ h_ => h_)) (Kd.Bs (by exact rU <| ae.out))) (Kd.Bs (by exact rU <| ah.out))) (Ae (lU HB.out))); have n4_ := Aa.mk (Aj (lU HB.out) hb); clear ag; clear ae; clear ah; clear HB; have ag := n0_; have ae := n1_; have ah := n2_; have au := n3_; have HB := n4_; clear n0_ n1_ n2_ n3_ n4_; (try clear hb); (try clear hb2); (try clear hk); (try clear hi); (try clear ho0); obtain ⟨eD, eE, eF⟩ := Kd.Bk ae.out; subst eF) | ((with_reducible refine Ap (f := 21) rfl ?_); refine Br (some 117) rfl rfl Try.func21 (by kernel_rfl) rfl #[.slice eD aD.length eE] rfl (by (try simp only [List.map_toArray, List.map_cons, List.map_nil]); first | done | rfl | (simp only [List.length_drop, List.length_take]; rfl)) ?_; (with_reducible refine (B7.calls k2 _ _ aD cG cd _ ?side1 ?side2 A78.out).mono ?_); (case side1 => repeat (first | exact (Kd.As ae.out).2.2 | (with_reducible refine Kd.Bf ?_ _) | (with_reducible refine Kd.Be ?_ _) | (with_reducible refine Kd.Bn ?_))); (case side2 => exact (Kd.As ae.out).2.1); rintro e w91 ⟨v149, rfl, ho0, hb⟩; refine ⟨_, rfl, ?_⟩; have n0_ := Aa.mk (Kd.V_elder' (by (with_reducible repeat (first | apply Kd.V_alloc | apply Kd.V_drewN | apply Kd.V_drew)); exact ag.out) (Kd.An ho0) hb); have n1_ := Aa.mk (Kd.Ao (by exact rU <| ae.out) (Kd.An ho0) hb); have n2_ := Aa.mk (Kd.Ao (by exact rU <| ah.out) (Kd.An ho0) hb); have n3_ := Aa.mk (Kd.Ao (by exact rU <| au.out) (Kd.An ho0) hb); have n4_ := Aa.mk (Kd.Bt (Kd.Az (Kd.Az (Kd.Az (Kd.Cg (M := fun k_ => (w.heap.size ≤ k_)) ho0 (Ae (lU HB.out)) (fun k_ h_ => h_)) (Kd.Bs (by exact rU <| ae.out))) (Kd.Bs (by exact rU <| ah.out))) (Kd.Bs (by exact rU <| au.out))) (Ae (lU HB.out))); have n5_ := Aa.mk (Aj (lU HB.out) hb); clear ag; clear ae; clear ah; clear au; clear HB; have ag := n0_; have ae := n1_; have ah := n2_; have au := n3_; have aA := n4_; have HB := n5_; clear n0_ n1_ n2_ n3_ n4_ n5_; (try clear hb); (try clear hb2); (try clear hk); (try clear hi); (try clear ho0)) | ((with_reducible refine Ap (f := 33) rfl ?_); refine Br (some 123) rfl rfl Try.func33 (by kernel_rfl) rfl #[.slice A0 l0.length c0, .slice cJ ao.length cK] rfl (by (try simp only [List.map_toArray, List.map_cons, List.map_nil]); first | done | rfl | (simp only [List.length_drop, List.length_take]; rfl)) ?_; (with_reducible refine (C0.calls k2 _ _ l0 _ _ ao true cg _ ?side1 ?side2 ?side3 ?side4 A79.out).mono ?_); (case side1 => repeat (first | exact (Kd.V_reads' ag.out).2.2 | (with_reducible refine Kd.Bf ?_ _) | (with_reducible refine Kd.Be ?_ _) | (with_reducible refine Kd.Bn ?_))); (case side2 => exact (Kd.V_reads' ag.out).2.1); (case side3 => repeat (first | exact (Kd.As ah.out).2.2 | (with_reducible refine Kd.Bf ?_ _) | (with_reducible refine Kd.Be ?_ _) | (with_reducible refine Kd.Bn ?_))); (case side4 => exact (Kd.As ah.out).2.1); rintro e w92 ⟨rfl, hb⟩; refine ⟨_, rfl, ?_⟩; have n0_ := Aa.mk (Kd.V_below (by (with_reducible repeat (first | apply Kd.V_alloc | apply Kd.V_drewN | apply Kd.V_drew)); exact ag.out) hb); have n1_ := Aa.mk (Kd.Bm (by exact rU <| ae.out) hb); have n2_ := Aa.mk (Kd.Bm (by exact rU <| ah.out) hb); have n3_ := Aa.mk (Kd.Bm (by exact rU <| au.out) hb); have n4_ := Aa.mk (Kd.Bm (by exact rU <| aA.out) hb); have n5_ := Aa.mk (Aj (lU HB.out) hb); clear ag; clear ae; clear ah; clear au; clear aA; clear HB; have ag := n0_; have ae := n1_; have ah := n2_; have au := n3_; have aA := n4_; have HB := n5_; clear n0_ n1_ n2_ n3_ n4_ n5_; (try clear hb); (try clear hb2); (try clear hk); (try clear hi)) | ((with_reducible refine Ap (f := 14) rfl ?_); refine Br (some 127) rfl rfl Try.func14 (by kernel_rfl) rfl #[.int .i64 b9] rfl (by (try simp only [List.map_toArray, List.map_cons, List.map_nil]); first | done | rfl | (simp only [List.length_drop, List.length_take]; rfl)) ?_; (with_reducible refine (Ay.calls b9 aH _ A80.out).mono ?_); rintro e w' ⟨rfl, ⟨nd, rfl⟩⟩; refine ⟨_, rfl, ?_⟩) | ((with_reducible refine Ap (f := 14) rfl ?_); refine Br (some 129) rfl rfl Try.func14 (by kernel_rfl) rfl #[.int .i64 cd] rfl (by (try simp only [List.map_toArray, List.map_cons, List.map_nil]); first | done | rfl | (simp only [List.length_drop, List.length_take]; rfl)) ?_; (with_reducible refine (Ay.calls cd aI _ A81.out).mono ?_); rintro e w' ⟨rfl, ⟨nd, rfl⟩⟩; refine ⟨_, rfl, ?_⟩) | ((with_reducible refine Ap (f := 14) rfl ?_); refine Br (some 132) rfl rfl Try.func14 (by kernel_rfl) rfl #[.int .i64 cg] rfl (by (try simp only [List.map_toArray, List.map_cons, List.map_nil]); first | done | rfl | (simp only [List.length_drop, List.length_take]; rfl)) ?_; (with_reducible refine (Ay.calls cg aJ _ A82.out).mono ?_); rintro e w' ⟨rfl, ⟨nd, rfl⟩⟩; refine ⟨_, rfl, ?_⟩; obtain ⟨eJ, eK, eG⟩ := Kd.Bk au.out; subst eG) | (go_at_call 15; (with_reducible refine (Ag.calls k2 _ _ aD _ _ cF true _ ?side1 ?side2 ?side3 ?side4 A85.out).mono ?_); (case side1 => repeat (first | exact (Kd.As ae.out).2.2 | (with_reducible refine Kd.Bf ?_ _) | (with_reducible refine Kd.Be ?_ _) | (with_reducible refine Kd.Bn ?_))); (case side2 => exact (Kd.As ae.out).2.1); (case side3 => repeat (first | exact (Kd.As au.out).2.2 | (with_reducible refine Kd.Bf ?_ _) | (with_reducible refine Kd.Be ?_ _) | (with_reducible refine Kd.Bn ?_))); (case side4 => exact (Kd.As au.out).2.1); rintro e w' ⟨rfl, ⟨nd, rfl⟩⟩; obtain ⟨eL, eM, eH⟩ := Kd.Bk aA.out; subst eH) | (go_at_call 15; (with_reducible refine (Ag.calls k2 _ _ aD _ _ cG b5 _ ?side1 ?side2 ?side3 ?side4 A87.out).mono ?_); (case side1 => repeat (first | exact (Kd.As ae.out).2.2 | (with_reducible refine Kd.Bf ?_ _) | (with_reducible refine Kd.Be ?_ _) | (with_reducible refine Kd.Bn ?_))); (case side2 => exact (Kd.As ae.out).2.1); (case side3 => repeat (first | exact (Kd.As aA.out).2.2 | (with_reducible refine Kd.Bf ?_ _) | (with_reducible refine Kd.Be ?_ _) | (with_reducible refine Kd.Bn ?_))); (case side4 => exact (Kd.As aA.out).2.1); rintro e w' ⟨rfl, ⟨nd, rfl⟩⟩))
            go_ret
            exact ⟨by first | rfl | (simp [Aw, Av] <;> rfl) | (simp [*, Aw, Av] <;> rfl), by repeat (first | (with_reducible first | exact HB.out | apply Ad | apply Ab | apply Ac) | exact HB.out)⟩
           ·replace c86 := Bool.eq_false_iff.mpr c86
            subst c86
            have H1 := H
            rw [if_neg (show ¬ (false = true) by decide)] at H1
            clear H
            have H := H1
            clear H1
            exact absurd (H.trans (congrArg some HT.out)) (by decide)
          ·replace c84 := Bool.eq_false_iff.mpr c84
           subst c84
           have H1 := H
           rw [if_neg (show ¬ (false = true) by decide)] at H1
           clear H
           have H := H1
           clear H1
           exact absurd (H.trans (congrArg some HT.out)) (by decide)
         ·rw [if_neg c83] at H
          have cH : ((wrap64 ((wrap64 (aH + aI)) + aJ)) == 0) = false := beq_eq_false_iff_ne.mpr c83
          have cI : ((wrap64 ((wrap64 (aH + aI)) + aJ)) != 0) = true := bne_iff_ne.mpr c83
          exact absurd (H.trans (congrArg some HT.out)) (by decide)
     ·rw [if_neg c21] at H
      have a5 : (aG == 0) = false := beq_eq_false_iff_ne.mpr c21
      have a6 : (aG != 0) = true := bne_iff_ne.mpr c21
      exact absurd (H.trans (congrArg some HT.out)) (by decide)
 ·replace c5 := Bool.eq_false_iff.mpr c5
  subst c5
  have H1 := H
  rw [if_neg (show ¬ (false = true) by decide)] at H1
  clear H
  have H := H1
  clear H1
  exact absurd (H.trans (congrArg some HT.out)) (by decide)

end Go.Proofs.Ytobdfiglgdbecaa.PGF

