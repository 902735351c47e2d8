import Derived.Test.YtobdfiglgdbecaaQNR
import Derived.Test.YtobdfiglgdbecaaQUQ
import Derived.Test.YtobdfiglgdbecaaQPGAx0
import Derived.Test.YtobdfiglgdbecaaQPGAx2
import Derived.Test.YtobdfiglgdbecaaQPGAx5
import Derived.Test.YtobdfiglgdbecaaQPGAx6
section
open Go Go.RowKit Go.Shelf Go.Lib Go.Proofs.YtobdfiglgdbecaaW.PrintWords Go.Proofs.YtobdfiglgdbecaaW.PrintLast Go.Proofs.YtobdfiglgdbecaaW.PrintMore
set_option linter.unusedVariables false
set_option linter.unusedSimpArgs false
namespace Go.Proofs.Ytobdfiglgdbecaa
def farB (n : Int) : Bool := decide (32768 < n) || decide (n < -32768)
theorem pred_far (w : World) : PredAt Try.prog 45 #[] (Value.int .i64) farB w := fun W n _ => by
  unfold FnGives
  show Calls Try.prog 45 #[.int .i64 n] W fun e w' => e = .returned (.bool (decide (32768 < n) || decide (n < -32768))) ∧ ∃ q, w' = W.drewN q
  by_cases h1 : 32768 < n
  · have hb : decide (32768 < n) = true := decide_eq_true h1
    rw [hb]
    go_enter Try.func45, Try.ntmps45
    go_wp2
    go_ret
    exact ⟨rfl, 0, rfl⟩
  · have hb : decide (32768 < n) = false := decide_eq_false h1
    rw [hb, Bool.false_or]
    by_cases h2 : n < -32768
    · have hb2 : decide (n < -32768) = true := decide_eq_true h2
      rw [hb2]
      go_enter Try.func45, Try.ntmps45
      go_wp2
      go_ret
      exact ⟨rfl, 0, rfl⟩
    · have hb2 : decide (n < -32768) = false := decide_eq_false h2
      rw [hb2]
      go_enter Try.func45, Try.ntmps45
      go_wp2
      go_ret
      exact ⟨rfl, 0, rfl⟩
def Da.f (l0 : List Int) : Option Bool := some (l0.any farB)
theorem Da.calls (A0 : Option Addr) (c0 : Nat) (l0 : List Int) (r : Bool) (w : World) (hr0 : Kd.C (Kd.int .i64) w A0 l0.length l0) (hc0 : l0.length ≤ c0) (h : Da.f l0 = some r) :
    Calls Try.prog 44 #[.slice A0 l0.length c0, .func (.func 45) #[] #[]] w fun e w' => e = .returned (.bool r) ∧ Drawn0 w w' := by
  obtain rfl := Option.some.inj h
  have hlen := (Kd.reads_of_C (d := (0 : Int)) hr0).2.1
  rcases ints_cells hr0 with rfl | ⟨b, o, rfl, hc⟩
  · have h0 := AnyE.slices_ContainsFunc_empty (P := Try.prog) (ρ := Try.lCI_ren) { Try.lCI with } A0 c0 (.func (.func 45) #[] #[]) w
    change Calls Try.prog 44 _ _ _ at h0
    exact h0.mono fun e w' ⟨h1, h2⟩ => ⟨h1, ⟨0, h2⟩⟩
  · have eg : ∀ args w, (callFunc 45 args).run Try.prog w = .ok (.enter 45 args) w := fun args w => enters_ Try.func45 (by kernel_rfl) rfl args w
    have hS := AnyE.slices_ContainsFunc Try.lCI (Value.int .i64) farB 45 #[] eg b o l0.length c0 l0 w (pred_far w) (Nat.le_refl _) hlen hc
    change Calls Try.prog 44 _ _ _ at hS
    rw [List.take_length] at hS
    exact hS.mono fun e w' ⟨h1, h2⟩ => ⟨h1, ⟨h2⟩⟩
end Go.Proofs.Ytobdfiglgdbecaa
end
section
namespace Go.Proofs.Ytobdfiglgdbecaa.PGA
open Go.Proofs.Ytobdfiglgdbecaa.PGB
open Go.RowKit Go.Proofs.YtobdfiglgdbecaaW.PrintWords Go.Proofs.YtobdfiglgdbecaaW.PrintLast Go.Proofs.YtobdfiglgdbecaaW.PrintMore
attribute [local go_sem] max2_int min2_int max_two min_two max_three min_three max_four min_four
set_option linter.unusedVariables false
set_option linter.unusedSimpArgs false

def B4.j0 : Nat → List (S58) → Int → Int → Bool → Option ((List (S58)) × Int)
 | 0, _, _, _, _ => none
 | k + 1, x0, x1, x2, x25 => if x25 = true then ((Ck.f k x0 (wrap64 (-x1)) (wrap64 (-x2)) x1 x2).bind fun ar => ((Ar.f k ar ([] : List (S58)) 49).bind fun aw => ((Bs.f k aw).bind fun aG => (some (aG.1, aG.2))))) else ((Bt.f k (([x0] : List (List (S58))))).bind fun ai => (if (ai.length : Int) > 0 then (some (([] : List (S58)), 61)) else (some (([] : List (S58)), 0))))
def B4.f (k : Nat) (l0 : List (S58)) (a1 : Int) (a2 : Int) : Option ((List (S58)) × Int) := (Bw.f k l0).bind fun ae => (if ae = 0 then ((Bt.f k (([l0] : List (List (S58))))).bind fun ag => (if (ag.length : Int) > 0 then ((Da.f (([a1, a2] : List Int))).bind fun au => (B4.j0 k l0 a1 a2 (!au))) else (B4.j0 k l0 a1 a2 false))) else (some (([] : List (S58)), ae)))
set_option maxHeartbeats 8000000 in
set_option maxRecDepth 100000 in
theorem B4.calls (k : Nat) (P0_ : Nat → Prop) (A0 : Option Addr) (c0 : Nat) (l0 : List (S58)) (a1 : Int) (a2 : Int) (r1 : List (S58)) (r2 : Int) (w : World) (hs0 : Kd.V k58 58 w w.heap.size (fun k_ => P0_ k_) (.slice A0 l0.length c0) l0) (h : B4.f k l0 a1 a2 = some (r1, r2)) :
  Calls Try.prog 12 #[.slice A0 l0.length c0, .int .i64 a1, .int .i64 a2] w fun e w' => ∃ v0_ : Value, e = .returned (.tuple #[v0_, .int .i64 r2]) ∧ Kd.R k58 58 w' w.heap.size (fun k_ => (w.heap.size ≤ k_)) v0_ r1 ∧ Below w.heap.size w w' := by
 have HO0 := Aa.mk (show Kd.V k58 58 w w.heap.size (fun k_ => (P0_ k_ ∨ w.heap.size ≤ k_)) (.slice A0 l0.length c0) l0 from Kd.V_mono hs0 (fun k_ hk => .inl hk)); have HB := Aa.mk (Below.refl w.heap.size w); have H : ((Bw.f k l0).bind fun ae => (if ae = 0 then ((Bt.f k (([l0] : List (List (S58))))).bind fun ag => (if (ag.length : Int) > 0 then ((Da.f (([a1, a2] : List Int))).bind fun au => (B4.j0 k l0 a1 a2 (!au))) else (B4.j0 k l0 a1 a2 false))) else (some (([] : List (S58)), ae)))) = some (r1, r2) := h; clear h; replace H := Option.bind_eq_some_iff.mp H; obtain ⟨ae, A40, H⟩ := H
 try dsimp only at H
 have A4 := Aa.mk A40; clear A40
 by_cases c5 : ae = 0
 ·rw [if_pos c5] at H
  have aI : (ae == 0) = true := beq_iff_eq.mpr c5; have aJ : (ae != 0) = false := bne_eq_false_iff_eq.mpr c5; clear c5; have HC6 := Aa.mk H; clear H; go_enter Try.func12, Try.ntmps12
  go_upto_region 4 with (((with_reducible refine As (f := 42) rfl ?_); refine gL (some 10) Try.func42 #[.slice A0 l0.length c0] ?_; (with_reducible refine (Bw.calls k _ _ l0 ae _ ?side1 ?side2 A4.out).mono ?_); (case side1 => repeat (first | exact (Kd.V_reads' HO0.out).2.2 | (with_reducible refine Kd.Bp ?_ _) | (with_reducible refine Kd.Bo ?_ _) | (with_reducible refine Kd.Bu ?_))); (case side2 => exact (Kd.V_reads' HO0.out).2.1); rintro e w7 ⟨rfl, hb⟩; refine ⟨_, rfl, ?_⟩; replace HO0 := Aa.mk (Kd.V_below (by (with_reducible repeat (first | apply Kd.V_alloc | apply Kd.V_drewN | apply Kd.V_drew)); exact HO0.out) hb); replace HB := Aa.mk (Ak (lU HB.out) hb); (try clear hb); (try clear hb2); (try clear hk); (try clear hi)))
  (try simp only [Act.put, sA, sB, sC])
  go_cut [25] (fun v25 wc => ∃ (kq : Nat) (ao : Bool), v25 = .bool ao ∧ Aa (B4.j0 kq l0 a1 a2 ao = some (r1, r2)) ∧ Aa (kq ≤ k) ∧ Aa (Kd.V k58 58 wc w.heap.size (fun k_ => (P0_ k_ ∨ w.heap.size ≤ k_)) (.slice A0 l0.length c0) l0) ∧ Aa (Below w.heap.size w wc))
  case first =>
   have H := HC6.out; clear HC6; obtain ⟨aD, ax⟩ : ∃ y_ : List (List (S58)), y_ = (([l0] : List (List (S58)))) := ⟨_, rfl⟩; (try rw [Option.bind_some] at H); try rw [← ax] at H; have ap := Aa.mk ax; clear ax; replace H := Option.bind_eq_some_iff.mp H; obtain ⟨ag, A80, H⟩ := H
   try dsimp only at H
   have A8 := Aa.mk A80; clear A80
   by_cases c9 : (ag.length : Int) > 0
   ·rw [if_pos c9] at H
    have av : decide (0 < (ag.length : Int)) = true := decide_eq_true c9; have aK : decide (0 < ag.length) = true := decide_eq_true (by omega); clear c9; (first | rw [av] | (simp only [i64_w, i32_w]; rw [av]) | skip); obtain ⟨aZ, ay⟩ : ∃ y_ : List Int, y_ = (([a1, a2] : List Int)) := ⟨_, rfl⟩; (try rw [Option.bind_some] at H); try rw [← ay] at H; have aH := Aa.mk ay; clear ay; replace H := Option.bind_eq_some_iff.mp H; obtain ⟨au, A100, H⟩ := H
    try dsimp only at H
    have A10 := Aa.mk A100; clear A100; have H' := Aa.mk H; clear H
    go_wp2_with (first | ((with_reducible refine Bz (N := 15) rfl ?_); (try (refine Cx (by rfl) ?_; dsimp only)); refine Kd.N_lit (Kd.slice 58 k58) _ 22 ?hg (N' := 15) ?hd (xs := ([l0] : List (List (S58)))) (inner := [.slice A0 l0.length c0]) (ok := (fun k_ => (P0_ k_ ∨ w.heap.size ≤ k_))) (okp := (fun k_ => (P0_ k_ ∨ w.heap.size ≤ k_))) ?hr ?hp (fun _ hk => hk) ((show ∀ k_, w7.heap.size ≤ k_ → (fun k_ => (P0_ k_ ∨ w.heap.size ≤ k_)) k_ from fun k_ hk => (.inr (Nat.le_trans (Ae (lU HB.out)) hk))) _ (Nat.le_refl _)) (Below.refl _ _) (Nat.le_refl _) (by simp) ?_; (case hd => rfl); (case hg => rfl); (case hr => first | (go_simp; done) | (go_simp; rfl)); (case hp => exact (Reps.one (show Kd.FK (Kd.slice 58 k58) _ _ l0 [.slice A0 l0.length c0] from (Kd.FK_slice_mk (Kd.V_reads' (Kd.V_mono (ok' := (fun k_ => (P0_ k_ ∨ w.heap.size ≤ k_))) (HO0.out) (fun k_ hk => hk))).2.1 (Kd.V_F (Kd.V_mono (ok' := (fun k_ => (P0_ k_ ∨ w.heap.size ≤ k_))) (HO0.out) (fun k_ hk => hk))))) (Reps.none _ _))); intro v280 w11 ho12 hb hg_ hnew_; clear hg_ hnew_; (first | rw [← ap.out] at ho12 | (simp only [Int.reduceToNat] at ho12; rw [← ap.out] at ho12)); replace HO0 := Aa.mk (Kd.V_elder' (by (with_reducible repeat (first | apply Kd.V_alloc | apply Kd.V_drewN | apply Kd.V_drew)); exact HO0.out) (Kd.N_base ho12) hb); have aa := Aa.mk (Kd.N_lower ho12 (Ae (lU HB.out))); replace HB := Aa.mk (Ak (lU HB.out) hb); clear hb ho12; obtain ⟨a5, a6, a7⟩ := Kd.N_slice aa.out; subst a7) | ((with_reducible refine As (f := 43) rfl ?_); refine gL (some 16) Try.func43 #[.slice a5 aD.length a6] ?_; (with_reducible refine (Bt.calls k _ _ aD ag _ ?side1 ?side2 A8.out).mono ?_); (case side1 => repeat (first | exact (Kd.N_reads' aa.out).2.2 | (with_reducible refine Kd.Bp ?_ _) | (with_reducible refine Kd.Bo ?_ _) | (with_reducible refine Kd.Bu ?_))); (case side2 => exact (Kd.N_reads' aa.out).2.1); rintro e w14 ⟨v283, rfl, ho0, hb⟩; refine ⟨_, rfl, ?_⟩; replace HO0 := Aa.mk (Kd.V_elder' (by (with_reducible repeat (first | apply Kd.V_alloc | apply Kd.V_drewN | apply Kd.V_drew)); exact HO0.out) (Kd.Ay ho0) hb); replace aa := Aa.mk (Kd.N_elder' (by (with_reducible repeat (first | apply Kd.N_alloc | apply Kd.N_drewN | apply Kd.N_drew)); exact aa.out) (Kd.Ay ho0) hb); have ah := Aa.mk (Kd.Cb (Kd.C8 (M := fun k_ => (w.heap.size ≤ k_)) ho0 (Ae (lU HB.out)) (fun k_ h_ => h_)) (Ae (lU HB.out))); replace HB := Aa.mk (Ak (lU HB.out) hb); (try clear hb); (try clear hb2); (try clear hk); (try clear hi); (try clear ho0); obtain ⟨bK, bL, a8⟩ := Kd.Bg ah.out; subst a8) | ((with_reducible refine Bz (N := 22) rfl ?_); (try (refine Cx (by rfl) ?_; dsimp only)); refine Kd.Dq (Kd.int .i64) _ 3 ?hg (N := 22) ?hd (xs := ([a1, a2] : List Int)) (inner := [.int .i64 a1, .int .i64 a2]) (ok := fun _ => True) (okp := fun _ => True) ?hr ?hp (fun _ hk => hk) trivial (Below.refl _ _) (Nat.le_refl _) (by simp) ?_; (case hd => rfl); (case hg => rfl); (case hr => first | (go_simp; done) | (go_simp; rfl)); (case hp => exact (Reps.one (show Kd.M (Kd.int .i64) _ _ _ a1 [.int .i64 a1] from rfl) (Reps.one (show Kd.M (Kd.int .i64) _ _ _ a2 [.int .i64 a2] from rfl) (Reps.none _ _)))); intro v286 w16 ho17 hb hg_ hnew_; clear hg_ hnew_; (first | rw [← aH.out] at ho17 | (simp only [Int.reduceToNat] at ho17; rw [← aH.out] at ho17)); replace HO0 := Aa.mk (Kd.V_elder' (by (with_reducible repeat (first | apply Kd.V_alloc | apply Kd.V_drewN | apply Kd.V_drew)); exact HO0.out) (Kd.Ay ho17) hb); replace aa := Aa.mk (Kd.N_elder' (by (with_reducible repeat (first | apply Kd.N_alloc | apply Kd.N_drewN | apply Kd.N_drew)); exact aa.out) (Kd.Ay ho17) hb); have az := Aa.mk (Kd.Cb (Kd.Bn (Kd.C8 (M := fun k_ => (w.heap.size ≤ k_)) ho17 (Ae (lU HB.out)) (fun k_ h_ => h_)) (Kd.Cc (by exact rU <| ah.out))) (Ae (lU HB.out))); replace ah := Aa.mk (Kd.Az (by exact rU <| ah.out) (Kd.Ay ho17) hb); replace HB := Aa.mk (Ak (lU HB.out) hb); clear hb ho17; obtain ⟨bM, bN, a9⟩ := Kd.Bg az.out; subst a9) | (go_at_call 44; (with_reducible refine (Da.calls _ _ aZ au _ ?side1 ?side2 A10.out).mono ?_); (case side1 => repeat (first | exact (Kd.Ao az.out).2.2 | (with_reducible refine Kd.Bp ?_ _) | (with_reducible refine Kd.Bo ?_ _) | (with_reducible refine Kd.Bu ?_))); (case side2 => exact (Kd.Ao az.out).2.1); rintro e w' ⟨rfl, ⟨nd, rfl⟩⟩))
    go_meet
    case rel => exact ⟨_, (!au), (by first | rfl | (simp; done) | (simp [*]; done)), H', ⟨by first | omega | exact Nat.le_refl _⟩, ⟨by (with_reducible repeat (first | apply Kd.V_alloc | apply Kd.V_drewN | apply Kd.V_drew)); exact Kd.V_mono HO0.out (fun _ hk => hk.1.1.1)⟩, ⟨by repeat (first | (with_reducible first | exact HB.out | apply Ad | apply Ab | apply Ac) | exact HB.out)⟩⟩
   ·rw [if_neg c9] at H
    have av : decide (0 < (ag.length : Int)) = false := decide_eq_false c9; have aK : decide (0 < ag.length) = false := decide_eq_false (by omega); clear c9; (first | rw [av] | (simp only [i64_w, i32_w]; rw [av]) | skip); have H' := Aa.mk H; clear H
    go_wp2_with (first | ((with_reducible refine Bz (N := 15) rfl ?_); (try (refine Cx (by rfl) ?_; dsimp only)); refine Kd.N_lit (Kd.slice 58 k58) _ 22 ?hg (N' := 15) ?hd (xs := ([l0] : List (List (S58)))) (inner := [.slice A0 l0.length c0]) (ok := (fun k_ => (P0_ k_ ∨ w.heap.size ≤ k_))) (okp := (fun k_ => (P0_ k_ ∨ w.heap.size ≤ k_))) ?hr ?hp (fun _ hk => hk) ((show ∀ k_, w7.heap.size ≤ k_ → (fun k_ => (P0_ k_ ∨ w.heap.size ≤ k_)) k_ from fun k_ hk => (.inr (Nat.le_trans (Ae (lU HB.out)) hk))) _ (Nat.le_refl _)) (Below.refl _ _) (Nat.le_refl _) (by simp) ?_; (case hd => rfl); (case hg => rfl); (case hr => first | (go_simp; done) | (go_simp; rfl)); (case hp => exact (Reps.one (show Kd.FK (Kd.slice 58 k58) _ _ l0 [.slice A0 l0.length c0] from (Kd.FK_slice_mk (Kd.V_reads' (Kd.V_mono (ok' := (fun k_ => (P0_ k_ ∨ w.heap.size ≤ k_))) (HO0.out) (fun k_ hk => hk))).2.1 (Kd.V_F (Kd.V_mono (ok' := (fun k_ => (P0_ k_ ∨ w.heap.size ≤ k_))) (HO0.out) (fun k_ hk => hk))))) (Reps.none _ _))); intro v280 w19 ho20 hb hg_ hnew_; clear hg_ hnew_; (first | rw [← ap.out] at ho20 | (simp only [Int.reduceToNat] at ho20; rw [← ap.out] at ho20)); replace HO0 := Aa.mk (Kd.V_elder' (by (with_reducible repeat (first | apply Kd.V_alloc | apply Kd.V_drewN | apply Kd.V_drew)); exact HO0.out) (Kd.N_base ho20) hb); have aa := Aa.mk (Kd.N_lower ho20 (Ae (lU HB.out))); replace HB := Aa.mk (Ak (lU HB.out) hb); clear hb ho20; obtain ⟨bc, be, bf⟩ := Kd.N_slice aa.out; subst bf) | ((with_reducible refine As (f := 43) rfl ?_); refine gL (some 16) Try.func43 #[.slice bc aD.length be] ?_; (with_reducible refine (Bt.calls k _ _ aD ag _ ?side1 ?side2 A8.out).mono ?_); (case side1 => repeat (first | exact (Kd.N_reads' aa.out).2.2 | (with_reducible refine Kd.Bp ?_ _) | (with_reducible refine Kd.Bo ?_ _) | (with_reducible refine Kd.Bu ?_))); (case side2 => exact (Kd.N_reads' aa.out).2.1); rintro e w22 ⟨v283, rfl, ho0, hb⟩; refine ⟨_, rfl, ?_⟩; replace HO0 := Aa.mk (Kd.V_elder' (by (with_reducible repeat (first | apply Kd.V_alloc | apply Kd.V_drewN | apply Kd.V_drew)); exact HO0.out) (Kd.Ay ho0) hb); replace aa := Aa.mk (Kd.N_elder' (by (with_reducible repeat (first | apply Kd.N_alloc | apply Kd.N_drewN | apply Kd.N_drew)); exact aa.out) (Kd.Ay ho0) hb); have ah := Aa.mk (Kd.Cb (Kd.C8 (M := fun k_ => (w.heap.size ≤ k_)) ho0 (Ae (lU HB.out)) (fun k_ h_ => h_)) (Ae (lU HB.out))); replace HB := Aa.mk (Ak (lU HB.out) hb); (try clear hb); (try clear hb2); (try clear hk); (try clear hi); (try clear ho0); obtain ⟨bO, bP, bg⟩ := Kd.Bg ah.out; subst bg))
    go_meet
    case rel => exact ⟨_, (false), (by first | rfl | (simp; done) | (simp [*]; done)), H', ⟨by first | omega | exact Nat.le_refl _⟩, ⟨by (with_reducible repeat (first | apply Kd.V_alloc | apply Kd.V_drewN | apply Kd.V_drew)); exact Kd.V_mono HO0.out (fun _ hk => hk.1.1)⟩, ⟨by repeat (first | (with_reducible first | exact HB.out | apply Ad | apply Ab | apply Ac) | exact HB.out)⟩⟩
  case rest =>
   clear HC6; (try clear c1); (try clear p2); (try clear c4); (try clear c5); (try clear aI); (try clear aJ); (try clear c9); (try clear av); (try clear aK); (try clear c12); obtain ⟨kq, ao, rfl, HA, HJ5, ab, HB⟩ := hcut; cases kq with
   | zero => exact absurd HA.out (by simp [B4.j0])
   | succ kj5 =>
    have H := HA.out; clear HA
    simp only [B4.j0] at H
    by_cases c24 : ao = true
    ·subst c24
     have H1 := H; rw [if_pos rfl] at H1; clear H; have H := H1; clear H1; replace H := Option.bind_eq_some_iff.mp H; obtain ⟨ar, A250, H⟩ := H
     try dsimp only at H
     have A25 := Aa.mk A250; clear A250; replace H := Option.bind_eq_some_iff.mp H; obtain ⟨aw, A260, H⟩ := H
     try dsimp only at H
     have A26 := Aa.mk A260; clear A260; replace H := Option.bind_eq_some_iff.mp H; obtain ⟨⟨bh, bi⟩, A270, H⟩ := H
     try dsimp only at H
     have A27 := Aa.mk A270; clear A270
     simp only [Option.some.injEq, Prod.mk.injEq] at H
     obtain ⟨rfl, rfl⟩ := H
     go_wp2_with (first | ((with_reducible refine As (f := 48) rfl ?_); refine gL (some 33) Try.func48 #[.slice A0 l0.length c0, .int .i64 (wrap64 (-a1)), .int .i64 (wrap64 (-a2)), .int .i64 a1, .int .i64 a2] ?_; (with_reducible refine (Ck.calls kj5 _ _ l0 (wrap64 (-a1)) (wrap64 (-a2)) a1 a2 ar _ ?side1 ?side2 A25.out).mono ?_); (case side1 => repeat (first | exact (Kd.V_reads' ab.out).2.2 | (with_reducible refine Kd.Bp ?_ _) | (with_reducible refine Kd.Bo ?_ _) | (with_reducible refine Kd.Bu ?_))); (case side2 => exact (Kd.V_reads' ab.out).2.1); rintro e w28 ⟨v290, rfl, ho0, hb⟩; refine ⟨_, rfl, ?_⟩; replace ab := Aa.mk (Kd.V_elder' (by (with_reducible repeat (first | apply Kd.V_alloc | apply Kd.V_drewN | apply Kd.V_drew)); exact ab.out) (Kd.Ay ho0) hb); have af := Aa.mk (Kd.Cb (Kd.C8 (M := fun k_ => (w.heap.size ≤ k_)) ho0 (Ae (lU HB.out)) (fun k_ h_ => h_)) (Ae (lU HB.out))); replace HB := Aa.mk (Ak (lU HB.out) hb); (try clear hb); (try clear hb2); (try clear hk); (try clear hi); (try clear ho0); obtain ⟨aM, aN, bj⟩ := Kd.Bg af.out; subst bj) | ((with_reducible refine As (f := 47) rfl ?_); refine gL (some 34) Try.func47 #[.slice aM ar.length aN, .slice none 0 0, .func (.func (49 : Int).toNat) #[] #[]] ?_; (refine (Ar.calls kj5 (fun k_ => some k_ = (.slice aM ar.length aN : Value).ownBlock) _ _ ar (fun k_ => False) _ _ ([] : List (S58)) 49 aw _ ?side1 ?side2 A26.out).mono ?_); (case side1 => exact Kd.R_V (Kd.C3 rfl (af.out))); (case side2 => exact Kd.V_nil _ _ _ _ _); rintro e w30 ⟨v293, rfl, ho0, hb⟩; refine ⟨_, rfl, ?_⟩; replace ab := Aa.mk (Kd.V_elder' (by (with_reducible repeat (first | apply Kd.V_alloc | apply Kd.V_drewN | apply Kd.V_drew)); exact ab.out) (Kd.N_base ho0) hb); have aj := Aa.mk (Kd.N_lower (Kd.N_mono (ok' := fun k_ => (P0_ k_ ∨ w.heap.size ≤ k_)) ho0 (fun k_ hk_ => Or.elim hk_ (fun hs_ => Or.elim hs_ (fun hs_ => (.inr (((af.out).1 k_ hs_.symm).1))) (fun hs_ => (hs_).elim)) (fun hn_ => (.inr (Nat.le_trans (Ae (lU HB.out)) hn_))))) (Ae (lU HB.out))); replace af := Aa.mk (Kd.Bm (by exact rU <| af.out) hb); replace HB := Aa.mk (Ak (lU HB.out) hb); (try clear hb); (try clear hb2); (try clear hk); (try clear hi); (try clear ho0); obtain ⟨bl, bm, bn⟩ := Kd.N_slice aj.out; subst bn) | ((with_reducible refine As (f := 46) rfl ?_); refine gL (some 35) Try.func46 #[.slice bl aw.length bm] ?_; (with_reducible refine (Bs.calls kj5 _ _ aw bh bi _ ?side1 ?side2 A27.out).mono ?_); (case side1 => repeat (first | exact (Kd.N_reads' aj.out).2.2 | (with_reducible refine Kd.Bp ?_ _) | (with_reducible refine Kd.Bo ?_ _) | (with_reducible refine Kd.Bu ?_))); (case side2 => exact (Kd.N_reads' aj.out).2.1); rintro e w32 ⟨v297, rfl, ho0, hb⟩; refine ⟨_, rfl, ?_⟩; replace ab := Aa.mk (Kd.V_elder' (by (with_reducible repeat (first | apply Kd.V_alloc | apply Kd.V_drewN | apply Kd.V_drew)); exact ab.out) (Kd.Ay ho0) hb); replace aj := Aa.mk (Kd.N_elder' (by (with_reducible repeat (first | apply Kd.N_alloc | apply Kd.N_drewN | apply Kd.N_drew)); exact aj.out) (Kd.Ay ho0) hb); have aQ := Aa.mk (Kd.Cb (Kd.Bn (Kd.C8 (M := fun k_ => (w.heap.size ≤ k_)) ho0 (Ae (lU HB.out)) (fun k_ h_ => h_)) (Kd.Cc (by exact rU <| af.out))) (Ae (lU HB.out))); replace af := Aa.mk (Kd.Az (by exact rU <| af.out) (Kd.Ay ho0) hb); replace HB := Aa.mk (Ak (lU HB.out) hb); (try clear hb); (try clear hb2); (try clear hk); (try clear hi); (try clear ho0)))
     go_ret2
     exact ⟨_, by first | rfl | (simp [Au, At] <;> rfl) | (simp [*, Au, At] <;> rfl), by exact rU <| Kd.Bi aQ.out (fun _ hk => hk.1.1), by repeat (first | (with_reducible first | exact HB.out | apply Ad | apply Ab | apply Ac) | exact HB.out)⟩
    ·replace c24 := Bool.eq_false_iff.mpr c24
     subst c24; have H1 := H; rw [if_neg (show ¬ (false = true) by decide)] at H1; clear H; have H := H1; clear H1; obtain ⟨aE, aA⟩ : ∃ y_ : List (List (S58)), y_ = (([l0] : List (List (S58)))) := ⟨_, rfl⟩; (try rw [Option.bind_some] at H); try rw [← aA] at H; have aq := Aa.mk aA; clear aA; replace H := Option.bind_eq_some_iff.mp H; obtain ⟨ai, A330, H⟩ := H
     try dsimp only at H
     have A33 := Aa.mk A330; clear A330
     by_cases c34 : (ai.length : Int) > 0
     ·rw [if_pos c34] at H
      have aT : decide (0 < (ai.length : Int)) = true := decide_eq_true c34; have aU : decide (0 < ai.length) = true := decide_eq_true (by omega); clear c34
      simp only [Option.some.injEq, Prod.mk.injEq] at H
      obtain ⟨rfl, rfl⟩ := H
      go_wp2_with (first | ((with_reducible refine Bz (N := 39) rfl ?_); (try (refine Cx (by rfl) ?_; dsimp only)); refine Kd.N_lit (Kd.slice 58 k58) _ 22 ?hg (N' := 39) ?hd (xs := ([l0] : List (List (S58)))) (inner := [.slice A0 l0.length c0]) (ok := (fun k_ => (P0_ k_ ∨ w.heap.size ≤ k_))) (okp := (fun k_ => (P0_ k_ ∨ w.heap.size ≤ k_))) ?hr ?hp (fun _ hk => hk) ((show ∀ k_, wc.heap.size ≤ k_ → (fun k_ => (P0_ k_ ∨ w.heap.size ≤ k_)) k_ from fun k_ hk => (.inr (Nat.le_trans (Ae (lU HB.out)) hk))) _ (Nat.le_refl _)) (Below.refl _ _) (Nat.le_refl _) (by simp) ?_; (case hd => rfl); (case hg => rfl); (case hr => first | (go_simp; done) | (go_simp; rfl)); (case hp => exact (Reps.one (show Kd.FK (Kd.slice 58 k58) _ _ l0 [.slice A0 l0.length c0] from (Kd.FK_slice_mk (Kd.V_reads' (Kd.V_mono (ok' := (fun k_ => (P0_ k_ ∨ w.heap.size ≤ k_))) (ab.out) (fun k_ hk => hk))).2.1 (Kd.V_F (Kd.V_mono (ok' := (fun k_ => (P0_ k_ ∨ w.heap.size ≤ k_))) (ab.out) (fun k_ hk => hk))))) (Reps.none _ _))); intro v300 w35 ho36 hb hg_ hnew_; clear hg_ hnew_; (first | rw [← aq.out] at ho36 | (simp only [Int.reduceToNat] at ho36; rw [← aq.out] at ho36)); replace ab := Aa.mk (Kd.V_elder' (by (with_reducible repeat (first | apply Kd.V_alloc | apply Kd.V_drewN | apply Kd.V_drew)); exact ab.out) (Kd.N_base ho36) hb); have ac := Aa.mk (Kd.N_lower ho36 (Ae (lU HB.out))); replace HB := Aa.mk (Ak (lU HB.out) hb); clear hb ho36; obtain ⟨bo, br, bs⟩ := Kd.N_slice ac.out; subst bs) | ((with_reducible refine As (f := 43) rfl ?_); refine gL (some 40) Try.func43 #[.slice bo aE.length br] ?_; (with_reducible refine (Bt.calls kj5 _ _ aE ai _ ?side1 ?side2 A33.out).mono ?_); (case side1 => repeat (first | exact (Kd.N_reads' ac.out).2.2 | (with_reducible refine Kd.Bp ?_ _) | (with_reducible refine Kd.Bo ?_ _) | (with_reducible refine Kd.Bu ?_))); (case side2 => exact (Kd.N_reads' ac.out).2.1); rintro e w38 ⟨v303, rfl, ho0, hb⟩; refine ⟨_, rfl, ?_⟩; replace ab := Aa.mk (Kd.V_elder' (by (with_reducible repeat (first | apply Kd.V_alloc | apply Kd.V_drewN | apply Kd.V_drew)); exact ab.out) (Kd.Ay ho0) hb); replace ac := Aa.mk (Kd.N_elder' (by (with_reducible repeat (first | apply Kd.N_alloc | apply Kd.N_drewN | apply Kd.N_drew)); exact ac.out) (Kd.Ay ho0) hb); have aC := Aa.mk (Kd.Cb (Kd.C8 (M := fun k_ => (w.heap.size ≤ k_)) ho0 (Ae (lU HB.out)) (fun k_ h_ => h_)) (Ae (lU HB.out))); replace HB := Aa.mk (Ak (lU HB.out) hb); (try clear hb); (try clear hb2); (try clear hk); (try clear hi); (try clear ho0); obtain ⟨bQ, bR, bu⟩ := Kd.Bg aC.out; subst bu))
      go_ret2
      exact ⟨_, by first | rfl | (simp [Au, At] <;> rfl) | (simp [*, Au, At] <;> rfl), by first | exact Kd.C2 _ _ _ _ _ | exact Kd.N_nil _ _ _ _ _ | exact Kd.V_nil _ _ _ _ _ | exact Kd.Q_nil _ _ _ _ _ | exact Kd.S_nil _ _ _ _ _, by repeat (first | (with_reducible first | exact HB.out | apply Ad | apply Ab | apply Ac) | exact HB.out)⟩
     ·rw [if_neg c34] at H
      have aT : decide (0 < (ai.length : Int)) = false := decide_eq_false c34; have aU : decide (0 < ai.length) = false := decide_eq_false (by omega); clear c34
      simp only [Option.some.injEq, Prod.mk.injEq] at H
      obtain ⟨rfl, rfl⟩ := H
      go_wp2_with (first | ((with_reducible refine Bz (N := 39) rfl ?_); (try (refine Cx (by rfl) ?_; dsimp only)); refine Kd.N_lit (Kd.slice 58 k58) _ 22 ?hg (N' := 39) ?hd (xs := ([l0] : List (List (S58)))) (inner := [.slice A0 l0.length c0]) (ok := (fun k_ => (P0_ k_ ∨ w.heap.size ≤ k_))) (okp := (fun k_ => (P0_ k_ ∨ w.heap.size ≤ k_))) ?hr ?hp (fun _ hk => hk) ((show ∀ k_, wc.heap.size ≤ k_ → (fun k_ => (P0_ k_ ∨ w.heap.size ≤ k_)) k_ from fun k_ hk => (.inr (Nat.le_trans (Ae (lU HB.out)) hk))) _ (Nat.le_refl _)) (Below.refl _ _) (Nat.le_refl _) (by simp) ?_; (case hd => rfl); (case hg => rfl); (case hr => first | (go_simp; done) | (go_simp; rfl)); (case hp => exact (Reps.one (show Kd.FK (Kd.slice 58 k58) _ _ l0 [.slice A0 l0.length c0] from (Kd.FK_slice_mk (Kd.V_reads' (Kd.V_mono (ok' := (fun k_ => (P0_ k_ ∨ w.heap.size ≤ k_))) (ab.out) (fun k_ hk => hk))).2.1 (Kd.V_F (Kd.V_mono (ok' := (fun k_ => (P0_ k_ ∨ w.heap.size ≤ k_))) (ab.out) (fun k_ hk => hk))))) (Reps.none _ _))); intro v300 w40 ho41 hb hg_ hnew_; clear hg_ hnew_; (first | rw [← aq.out] at ho41 | (simp only [Int.reduceToNat] at ho41; rw [← aq.out] at ho41)); replace ab := Aa.mk (Kd.V_elder' (by (with_reducible repeat (first | apply Kd.V_alloc | apply Kd.V_drewN | apply Kd.V_drew)); exact ab.out) (Kd.N_base ho41) hb); have ac := Aa.mk (Kd.N_lower ho41 (Ae (lU HB.out))); replace HB := Aa.mk (Ak (lU HB.out) hb); clear hb ho41; obtain ⟨bv, bw, bx⟩ := Kd.N_slice ac.out; subst bx) | ((with_reducible refine As (f := 43) rfl ?_); refine gL (some 40) Try.func43 #[.slice bv aE.length bw] ?_; (with_reducible refine (Bt.calls kj5 _ _ aE ai _ ?side1 ?side2 A33.out).mono ?_); (case side1 => repeat (first | exact (Kd.N_reads' ac.out).2.2 | (with_reducible refine Kd.Bp ?_ _) | (with_reducible refine Kd.Bo ?_ _) | (with_reducible refine Kd.Bu ?_))); (case side2 => exact (Kd.N_reads' ac.out).2.1); rintro e w43 ⟨v303, rfl, ho0, hb⟩; refine ⟨_, rfl, ?_⟩; replace ab := Aa.mk (Kd.V_elder' (by (with_reducible repeat (first | apply Kd.V_alloc | apply Kd.V_drewN | apply Kd.V_drew)); exact ab.out) (Kd.Ay ho0) hb); replace ac := Aa.mk (Kd.N_elder' (by (with_reducible repeat (first | apply Kd.N_alloc | apply Kd.N_drewN | apply Kd.N_drew)); exact ac.out) (Kd.Ay ho0) hb); have aC := Aa.mk (Kd.Cb (Kd.C8 (M := fun k_ => (w.heap.size ≤ k_)) ho0 (Ae (lU HB.out)) (fun k_ h_ => h_)) (Ae (lU HB.out))); replace HB := Aa.mk (Ak (lU HB.out) hb); (try clear hb); (try clear hb2); (try clear hk); (try clear hi); (try clear ho0); obtain ⟨bS, bT, bz⟩ := Kd.Bg aC.out; subst bz))
      go_ret2
      exact ⟨_, by first | rfl | (simp [Au, At] <;> rfl) | (simp [*, Au, At] <;> rfl), by first | exact Kd.C2 _ _ _ _ _ | exact Kd.N_nil _ _ _ _ _ | exact Kd.V_nil _ _ _ _ _ | exact Kd.Q_nil _ _ _ _ _ | exact Kd.S_nil _ _ _ _ _, by repeat (first | (with_reducible first | exact HB.out | apply Ad | apply Ab | apply Ac) | exact HB.out)⟩
 ·rw [if_neg c5] at H
  have aI : (ae == 0) = false := beq_eq_false_iff_ne.mpr c5; have aJ : (ae != 0) = true := bne_iff_ne.mpr c5
  simp only [Option.some.injEq, Prod.mk.injEq] at H
  obtain ⟨rfl, rfl⟩ := H; go_enter Try.func12, Try.ntmps12
  go_wp2_with (((with_reducible refine As (f := 42) rfl ?_); refine gL (some 10) Try.func42 #[.slice A0 l0.length c0] ?_; (with_reducible refine (Bw.calls k _ _ l0 ae _ ?side1 ?side2 A4.out).mono ?_); (case side1 => repeat (first | exact (Kd.V_reads' HO0.out).2.2 | (with_reducible refine Kd.Bp ?_ _) | (with_reducible refine Kd.Bo ?_ _) | (with_reducible refine Kd.Bu ?_))); (case side2 => exact (Kd.V_reads' HO0.out).2.1); rintro e w45 ⟨rfl, hb⟩; refine ⟨_, rfl, ?_⟩; replace HO0 := Aa.mk (Kd.V_below (by (with_reducible repeat (first | apply Kd.V_alloc | apply Kd.V_drewN | apply Kd.V_drew)); exact HO0.out) hb); replace HB := Aa.mk (Ak (lU HB.out) hb); (try clear hb); (try clear hb2); (try clear hk); (try clear hi)))
  go_ret2
  exact ⟨_, by first | rfl | (simp [Au, At] <;> rfl) | (simp [*, Au, At] <;> rfl), by first | exact Kd.C2 _ _ _ _ _ | exact Kd.N_nil _ _ _ _ _ | exact Kd.V_nil _ _ _ _ _ | exact Kd.Q_nil _ _ _ _ _ | exact Kd.S_nil _ _ _ _ _, by repeat (first | (with_reducible first | exact HB.out | apply Ad | apply Ab | apply Ac) | exact HB.out)⟩

def C0.f (k : Nat) (l0 : List (S58)) : Option ((List (S58)) × Int) := (Co.f k l0 ([] : List (S58)) 49).bind fun ak => (some (ak.1, ak.2))
set_option maxHeartbeats 8000000 in
set_option maxRecDepth 100000 in
theorem C0.calls (k : Nat) (A0 : Option Addr) (c0 : Nat) (l0 : List (S58)) (r1 : List (S58)) (r2 : Int) (w : World) (hr0 : Kd.C k58 w A0 l0.length l0) (hc0 : l0.length ≤ c0) (h : C0.f k l0 = some (r1, r2)) :
  Calls Try.prog 21 #[.slice A0 l0.length c0] w fun e w' => ∃ v0_ : Value, e = .returned (.tuple #[v0_, .int .i64 r2]) ∧ Kd.R k58 58 w' w.heap.size (fun _ => True) v0_ r1 ∧ Below w.heap.size w w' := by
 have HR0 := Aa.mk hr0; have HC0 := Aa.mk hc0; clear hr0 hc0; have HB := Aa.mk (Below.refl w.heap.size w); have H : ((Co.f k l0 ([] : List (S58)) 49).bind fun ak => (some (ak.1, ak.2))) = some (r1, r2) := h; clear h; replace H := Option.bind_eq_some_iff.mp H; obtain ⟨⟨bB, bD⟩, A20, H⟩ := H
 try dsimp only at H
 have A2 := Aa.mk A20; clear A20
 simp only [Option.some.injEq, Prod.mk.injEq] at H
 obtain ⟨rfl, rfl⟩ := H; go_enter Try.func21, Try.ntmps21
 go_wp2_with (((with_reducible refine As (f := 55) rfl ?_); refine gL (some 5) Try.func55 #[.slice A0 l0.length c0, .slice none 0 0, .func (.func (49 : Int).toNat) #[] #[]] ?_; (refine (Co.calls k (fun k_ => k_ < w.heap.size) _ _ l0 (fun k_ => False) _ _ ([] : List (S58)) 49 bB bD _ ?side1 ?side2 A2.out).mono ?_); (case side1 => exact Kd.V_mk HC0.out (Kd.F_below (Kd.C_F k58_heap HR0.out) (lU HB.out))); (case side2 => exact Kd.V_nil _ _ _ _ _); rintro e w3 ⟨v306, rfl, ho0, hb⟩; refine ⟨_, rfl, ?_⟩; have aV := Aa.mk (Kd.Cb (Kd.Bi (ok' := fun k_ => True) ho0 (fun _ hk_ => trivial)) (Ae (lU HB.out))); replace HB := Aa.mk (Ak (lU HB.out) hb); (try clear hb); (try clear hb2); (try clear hk); (try clear hi); (try clear ho0)))
 go_ret2
 exact ⟨_, by first | rfl | (simp [Au, At] <;> rfl) | (simp [*, Au, At] <;> rfl), by exact rU <| aV.out, by repeat (first | (with_reducible first | exact HB.out | apply Ad | apply Ab | apply Ac) | exact HB.out)⟩

def region_Union.f (k : Nat) (l0 : List (S58)) (l1 : List (S58)) : Option ((List (S58)) × Int) := (Co.f k l0 l1 57).bind fun al => (some (al.1, al.2))
set_option maxHeartbeats 8000000 in
set_option maxRecDepth 100000 in
theorem region_Union.calls (k : Nat) (A0 : Option Addr) (c0 : Nat) (l0 : List (S58)) (A1 : Option Addr) (c1 : Nat) (l1 : List (S58)) (r1 : List (S58)) (r2 : Int) (w : World) (hr0 : Kd.C k58 w A0 l0.length l0) (hc0 : l0.length ≤ c0) (hr1 : Kd.C k58 w A1 l1.length l1) (hc1 : l1.length ≤ c1) (h : region_Union.f k l0 l1 = some (r1, r2)) :
  Calls Try.prog 23 #[.slice A0 l0.length c0, .slice A1 l1.length c1] w fun e w' => ∃ v0_ : Value, e = .returned (.tuple #[v0_, .int .i64 r2]) ∧ Kd.R k58 58 w' w.heap.size (fun _ => True) v0_ r1 ∧ Below w.heap.size w w' := by
 have HR0 := Aa.mk hr0; have HC0 := Aa.mk hc0; clear hr0 hc0; have HR1 := Aa.mk hr1; have HC1 := Aa.mk hc1; clear hr1 hc1; have HB := Aa.mk (Below.refl w.heap.size w); have H : ((Co.f k l0 l1 57).bind fun al => (some (al.1, al.2))) = some (r1, r2) := h; clear h; replace H := Option.bind_eq_some_iff.mp H; obtain ⟨⟨bE, bF⟩, A30, H⟩ := H
 try dsimp only at H
 have A3 := Aa.mk A30; clear A30
 simp only [Option.some.injEq, Prod.mk.injEq] at H
 obtain ⟨rfl, rfl⟩ := H; go_enter Try.func23, Try.ntmps23
 go_wp2_with (((with_reducible refine As (f := 55) rfl ?_); refine gL (some 8) Try.func55 #[.slice A0 l0.length c0, .slice A1 l1.length c1, .func (.func (57 : Int).toNat) #[] #[]] ?_; (with_reducible refine (Co.calls k (fun k_ => k_ < w.heap.size) _ _ l0 (fun k_ => k_ < w.heap.size) _ _ l1 57 bE bF _ ?side1 ?side2 A3.out).mono ?_); (case side1 => exact Kd.V_mk HC0.out (Kd.F_below (Kd.C_F k58_heap HR0.out) (lU HB.out))); (case side2 => exact Kd.V_mk HC1.out (Kd.F_below (Kd.C_F k58_heap HR1.out) (lU HB.out))); rintro e w4 ⟨v310, rfl, ho0, hb⟩; refine ⟨_, rfl, ?_⟩; have aW := Aa.mk (Kd.Cb (Kd.Bi (ok' := fun k_ => True) ho0 (fun _ hk_ => trivial)) (Ae (lU HB.out))); replace HB := Aa.mk (Ak (lU HB.out) hb); (try clear hb); (try clear hb2); (try clear hk); (try clear hi); (try clear ho0)))
 go_ret2
 exact ⟨_, by first | rfl | (simp [Au, At] <;> rfl) | (simp [*, Au, At] <;> rfl), by exact rU <| aW.out, by repeat (first | (with_reducible first | exact HB.out | apply Ad | apply Ab | apply Ac) | exact HB.out)⟩

def region_Meet.f (k : Nat) (l0 : List (S58)) (l1 : List (S58)) : Option ((List (S58)) × Int) := (Co.f k l0 l1 58).bind fun am => (some (am.1, am.2))
set_option maxHeartbeats 8000000 in
set_option maxRecDepth 100000 in
theorem region_Meet.calls (k : Nat) (A0 : Option Addr) (c0 : Nat) (l0 : List (S58)) (A1 : Option Addr) (c1 : Nat) (l1 : List (S58)) (r1 : List (S58)) (r2 : Int) (w : World) (hr0 : Kd.C k58 w A0 l0.length l0) (hc0 : l0.length ≤ c0) (hr1 : Kd.C k58 w A1 l1.length l1) (hc1 : l1.length ≤ c1) (h : region_Meet.f k l0 l1 = some (r1, r2)) :
  Calls Try.prog 25 #[.slice A0 l0.length c0, .slice A1 l1.length c1] w fun e w' => ∃ v0_ : Value, e = .returned (.tuple #[v0_, .int .i64 r2]) ∧ Kd.R k58 58 w' w.heap.size (fun _ => True) v0_ r1 ∧ Below w.heap.size w w' := by
 have HR0 := Aa.mk hr0; have HC0 := Aa.mk hc0; clear hr0 hc0; have HR1 := Aa.mk hr1; have HC1 := Aa.mk hc1; clear hr1 hc1; have HB := Aa.mk (Below.refl w.heap.size w); have H : ((Co.f k l0 l1 58).bind fun am => (some (am.1, am.2))) = some (r1, r2) := h; clear h; replace H := Option.bind_eq_some_iff.mp H; obtain ⟨⟨bG, bH⟩, A30, H⟩ := H
 try dsimp only at H
 have A3 := Aa.mk A30; clear A30
 simp only [Option.some.injEq, Prod.mk.injEq] at H
 obtain ⟨rfl, rfl⟩ := H; go_enter Try.func25, Try.ntmps25
 go_wp2_with (((with_reducible refine As (f := 55) rfl ?_); refine gL (some 8) Try.func55 #[.slice A0 l0.length c0, .slice A1 l1.length c1, .func (.func (58 : Int).toNat) #[] #[]] ?_; (with_reducible refine (Co.calls k (fun k_ => k_ < w.heap.size) _ _ l0 (fun k_ => k_ < w.heap.size) _ _ l1 58 bG bH _ ?side1 ?side2 A3.out).mono ?_); (case side1 => exact Kd.V_mk HC0.out (Kd.F_below (Kd.C_F k58_heap HR0.out) (lU HB.out))); (case side2 => exact Kd.V_mk HC1.out (Kd.F_below (Kd.C_F k58_heap HR1.out) (lU HB.out))); rintro e w4 ⟨v314, rfl, ho0, hb⟩; refine ⟨_, rfl, ?_⟩; have aX := Aa.mk (Kd.Cb (Kd.Bi (ok' := fun k_ => True) ho0 (fun _ hk_ => trivial)) (Ae (lU HB.out))); replace HB := Aa.mk (Ak (lU HB.out) hb); (try clear hb); (try clear hb2); (try clear hk); (try clear hi); (try clear ho0)))
 go_ret2
 exact ⟨_, by first | rfl | (simp [Au, At] <;> rfl) | (simp [*, Au, At] <;> rfl), by exact rU <| aX.out, by repeat (first | (with_reducible first | exact HB.out | apply Ad | apply Ab | apply Ac) | exact HB.out)⟩

def C4.f (k : Nat) (l0 : List (S58)) (l1 : List (S58)) : Option ((List (S58)) × Int) := (Co.f k l0 l1 59).bind fun an => (some (an.1, an.2))
set_option maxHeartbeats 8000000 in
set_option maxRecDepth 100000 in
theorem C4.calls (k : Nat) (A0 : Option Addr) (c0 : Nat) (l0 : List (S58)) (A1 : Option Addr) (c1 : Nat) (l1 : List (S58)) (r1 : List (S58)) (r2 : Int) (w : World) (hr0 : Kd.C k58 w A0 l0.length l0) (hc0 : l0.length ≤ c0) (hr1 : Kd.C k58 w A1 l1.length l1) (hc1 : l1.length ≤ c1) (h : C4.f k l0 l1 = some (r1, r2)) :
  Calls Try.prog 27 #[.slice A0 l0.length c0, .slice A1 l1.length c1] w fun e w' => ∃ v0_ : Value, e = .returned (.tuple #[v0_, .int .i64 r2]) ∧ Kd.R k58 58 w' w.heap.size (fun _ => True) v0_ r1 ∧ Below w.heap.size w w' := by
 have HR0 := Aa.mk hr0; have HC0 := Aa.mk hc0; clear hr0 hc0; have HR1 := Aa.mk hr1; have HC1 := Aa.mk hc1; clear hr1 hc1; have HB := Aa.mk (Below.refl w.heap.size w); have H : ((Co.f k l0 l1 59).bind fun an => (some (an.1, an.2))) = some (r1, r2) := h; clear h; replace H := Option.bind_eq_some_iff.mp H; obtain ⟨⟨bI, bJ⟩, A30, H⟩ := H
 try dsimp only at H
 have A3 := Aa.mk A30; clear A30
 simp only [Option.some.injEq, Prod.mk.injEq] at H
 obtain ⟨rfl, rfl⟩ := H; go_enter Try.func27, Try.ntmps27
 go_wp2_with (((with_reducible refine As (f := 55) rfl ?_); refine gL (some 8) Try.func55 #[.slice A0 l0.length c0, .slice A1 l1.length c1, .func (.func (59 : Int).toNat) #[] #[]] ?_; (with_reducible refine (Co.calls k (fun k_ => k_ < w.heap.size) _ _ l0 (fun k_ => k_ < w.heap.size) _ _ l1 59 bI bJ _ ?side1 ?side2 A3.out).mono ?_); (case side1 => exact Kd.V_mk HC0.out (Kd.F_below (Kd.C_F k58_heap HR0.out) (lU HB.out))); (case side2 => exact Kd.V_mk HC1.out (Kd.F_below (Kd.C_F k58_heap HR1.out) (lU HB.out))); rintro e w4 ⟨v318, rfl, ho0, hb⟩; refine ⟨_, rfl, ?_⟩; have aY := Aa.mk (Kd.Cb (Kd.Bi (ok' := fun k_ => True) ho0 (fun _ hk_ => trivial)) (Ae (lU HB.out))); replace HB := Aa.mk (Ak (lU HB.out) hb); (try clear hb); (try clear hb2); (try clear hk); (try clear hi); (try clear ho0)))
 go_ret2
 exact ⟨_, by first | rfl | (simp [Au, At] <;> rfl) | (simp [*, Au, At] <;> rfl), by exact rU <| aY.out, by repeat (first | (with_reducible first | exact HB.out | apply Ad | apply Ab | apply Ac) | exact HB.out)⟩

end Go.Proofs.Ytobdfiglgdbecaa.PGA
end
