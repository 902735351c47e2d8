import Derived.Test.YtobdfiglgdbecaaXUQ
import Derived.Test.YtobdfiglgdbecaaXPGRx0
import Derived.Test.YtobdfiglgdbecaaXPGRx2
import Derived.Test.YtobdfiglgdbecaaXPGRx4
import Derived.Test.YtobdfiglgdbecaaXPGHx2
import Derived.Test.YtobdfiglgdbecaaXPGIx1
namespace Go.Proofs.Ytobdfiglgdbecaa.PGR
open Go.Proofs.Ytobdfiglgdbecaa.PGA Go.Proofs.Ytobdfiglgdbecaa.PGB Go.Proofs.Ytobdfiglgdbecaa.PGH Go.Proofs.Ytobdfiglgdbecaa.PGI
open Go.RowKit Go.Proofs.YtobdfiglgdbecaaW.PrintWords Go.Proofs.YtobdfiglgdbecaaW.PrintLast Go.Proofs.YtobdfiglgdbecaaW.PrintMore
attribute [local go_sem] max2_int min2_int max_two min_two max_three min_three max_four min_four
set_option linter.unusedVariables false
set_option linter.unusedSimpArgs false

mutual
def Bb.l0 : Nat → List (S58) → Int → List Int → Int → Option (Int × Int)
 | 0, _, _, _, _ => none
 | k + 1, x0, x5, x6, x7 => if x7 < (x0.length : Int) then (if 0 ≤ x7 then ((Cf.f ((rd_T58 x0 x7).f0) ((rd_T58 x0 x7).f1) ((rd_T58 x0 x7).f2) ((rd_T58 x0 x7).f3)).bind fun bg => (if bg = true then ((Bh.f k x6 ((rd_T58 x0 x7).f1)).bind fun aJ => ((Bh.f k aJ ((rd_T58 x0 x7).f3)).bind fun a6 => (Bb.l0 k x0 x5 a6 (wrap64 (x7 + 1))))) else (Bb.l0 k x0 x5 x6 (wrap64 (x7 + 1))))) else (none)) else (Bb.l1 k x0 x5 x6 0)
def Bb.l1 : Nat → List (S58) → Int → List Int → Int → Option (Int × Int)
 | 0, _, _, _, _ => none
 | k + 1, x0, x5, x6, x8 => if (wrap64 (x8 + 1)) < (x6.length : Int) then (if 0 ≤ x8 then (if x8 < (x6.length : Int) then ((Bz.f k x0 (rd x6 x8)).bind fun ak => (Bb.l2 k x0 x5 x6 x8 ak 0)) else (none)) else (none)) else (some (x5, 0))
def Bb.l2 : Nat → List (S58) → Int → List Int → Int → List (S99) → Int → Option (Int × Int)
 | 0, _, _, _, _, _, _ => none
 | k + 1, x0, x5, x6, x8, x9, x10 => if x10 < (x9.length : Int) then (if 0 ≤ x10 then (if 0 ≤ (wrap64 (x8 + 1)) then (if (wrap64 (x8 + 1)) < (x6.length : Int) then (if 0 ≤ x8 then (if x8 < (x6.length : Int) then (Bb.l2 k x0 (wrap64 (x5 + (wrap64 ((wrap64 (((rd_T99 x9 x10).f1) - ((rd_T99 x9 x10).f0))) * (wrap64 ((rd x6 (wrap64 (x8 + 1))) - (rd x6 x8))))))) x6 x8 x9 (wrap64 (x10 + 1))) else (none)) else (none)) else (none)) else (none)) else (none)) else (Bb.l1 k x0 x5 x6 (wrap64 (x8 + 1)))
end
def Bb.f (k : Nat) (l0 : List (S58)) : Option (Int × Int) := (Ch.f k l0).bind fun am => (if am = 0 then ((As.f k l0).bind fun ae => (Bb.l0 k ae 0 ([] : List Int) 0)) else (some (0, am)))
def Bb.T11 : Bool × List (List Nat × List Nat) := (true, [([], []), ([], []), ([], []), ([1, 2], [1, 2]), ([3], [3]), ([4], [4]), ([0, 5], [0, 5]), ([], []), ([], []), ([7, 8], [7, 8]), ([9], [9]), ([10], [10]), ([6, 11, 6], [6, 11]), ([12, 12, 0, 1, 2, 3, 4, 5, 6, 7, 8, 9, 10, 11, 12], [0, 12])])
def Bb.B11 : List Nat := [0, 0, 0, 6, 14, 30, 63, 0, 0, 384, 896, 1920, 4095, 8191]
theorem Bb.tab11 : rtab .any (opsOf Try.f37 11) = Bb.T11 := by kernel_rfl
theorem Bb.bits11 : waitsOk Bb.T11.2 Bb.B11 = true := by kernel_rfl
def Bb.T19 : Bool × List (List Nat × List Nat) := (true, [([], []), ([], []), ([], []), ([1, 2], [1, 2]), ([3], [3]), ([4], [4]), ([], []), ([], []), ([6, 7], [6, 7]), ([8], [8]), ([9], [9]), ([5, 10], [5, 10]), ([], []), ([], []), ([13], [13]), ([12, 14], [12, 14]), ([15], [15]), ([], []), ([], []), ([17, 18], [17, 18]), ([19], [19]), ([16, 20], [16, 20]), ([11, 21], [11, 21]), ([0, 22], [0, 22]), ([23, 0, 1, 2, 3, 4, 5, 6, 7, 8, 9, 10, 11, 12, 13, 14, 15, 16, 17, 18, 19, 20, 21, 22, 23], [0, 23])])
def Bb.B19 : List Nat := [0, 0, 0, 6, 14, 30, 0, 0, 192, 448, 960, 2046, 0, 0, 8192, 28672, 61440, 0, 0, 393216, 917504, 2093056, 4194302, 8388607, 16777215]
theorem Bb.tab19 : rtab .any (opsOf Try.f37 19) = Bb.T19 := by kernel_rfl
theorem Bb.bits19 : waitsOk Bb.T19.2 Bb.B19 = true := by kernel_rfl
set_option maxHeartbeats 8000000 in
set_option maxRecDepth 100000 in
theorem Bb.calls (k : Nat) (A0 : Option Addr) (c0 : Nat) (l0 : List (S58)) (r1 : Int) (r2 : Int) (w : World) (hr0 : Kd.C k58 w A0 l0.length l0) (hc0 : l0.length ≤ c0) (h : Bb.f k l0 = some (r1, r2)) :
  Calls Try.prog 37 #[.slice A0 l0.length c0] w fun e w' => e = .returned (.tuple #[.int .i64 r1, .int .i64 r2]) ∧ Below w.heap.size w w' := by
 have hu58 := Try.underlying58; have HR0 := Aa.mk hr0; have HC0 := Aa.mk hc0; clear hr0 hc0; have HB := Aa.mk (Below.refl w.heap.size w); have H : ((Ch.f k l0).bind fun am => (if am = 0 then ((As.f k l0).bind fun ae => (Bb.l0 k ae 0 ([] : List Int) 0)) else (some (0, am)))) = some (r1, r2) := h; clear h; replace H := Option.bind_eq_some_iff.mp H; obtain ⟨am, A20, H⟩ := H
 try dsimp only at H
 have A2 := Aa.mk A20; clear A20
 by_cases c3 : am = 0
 ·rw [if_pos c3] at H
  have a7 : (am == 0) = true := beq_iff_eq.mpr c3; have a8 : (am != 0) = false := bne_eq_false_iff_eq.mpr c3; clear c3; replace H := Option.bind_eq_some_iff.mp H; obtain ⟨ae, A40, H⟩ := H
  try dsimp only at H
  have A4 := Aa.mk A40; clear A40; have H' := Aa.mk H; clear H; go_enter Try.func37, Try.ntmps37
  go_wp2_with (first | ((with_reducible refine Ay (f := 50) rfl ?_); refine gL (some 12) Try.func50 #[.slice A0 l0.length c0] ?_; (with_reducible refine (Ch.calls k _ _ l0 am _ ?side1 ?side2 A2.out).mono ?_); (case side1 => repeat (first | exact HR0.out | (with_reducible refine Kd.Bn ?_ _) | (with_reducible refine Kd.Bm ?_ _) | (with_reducible refine Kd.Bx ?_))); (case side2 => exact HC0.out); rintro e w5 ⟨rfl, hb⟩; refine ⟨_, rfl, ?_⟩; replace HB := Aa.mk (Aj (lU HB.out) hb); (try clear hb); (try clear hb2); (try clear hk); (try clear hi)) | ((with_reducible refine Ay (f := 63) rfl ?_); refine gL (some 17) Try.func63 #[.slice A0 l0.length c0] ?_; (with_reducible refine (As.calls k _ _ l0 ae _ ?side1 ?side2 A4.out).mono ?_); (case side1 => repeat (first | exact (Kd.Cs HR0.out HB.out) | (with_reducible refine Kd.Bn ?_ _) | (with_reducible refine Kd.Bm ?_ _) | (with_reducible refine Kd.Bx ?_))); (case side2 => exact HC0.out); rintro e w6 ⟨v320, rfl, ho0, hb⟩; refine ⟨_, rfl, ?_⟩; have bD := Aa.mk (Kd.Cg ho0 (Af (lU HB.out))); replace HB := Aa.mk (Aj (lU HB.out) hb); (try clear hb); (try clear hb2); (try clear hk); (try clear hi); (try clear ho0)))
  go_loopg [6, 7] k (fun kq v6 v7 w' => ∃ (ah : List Int) (ab : Int), v7 = .int .i64 ab ∧ Aa (Bb.l0 kq ae 0 ah ab = some (r1, r2)) ∧ Aa (kq ≤ k) ∧ Aa (Kd.R k58 58 w' w.heap.size (fun _ => True) v320 ae) ∧ Aa (Kd.R (Kd.int .i64) 3 w' w.heap.size (fun _ => True) v6 ah) ∧ Aa (Below w.heap.size w w'))
  case atStart => exact ⟨(([] : List Int)), (0), (by first | rfl | (simp; done) | (simp [*]; done)), H', ⟨Nat.le_refl _⟩, ⟨by exact rU <| bD.out⟩, ⟨by first | exact Kd.De _ _ _ _ _ | exact Kd.N_nil _ _ _ _ _ | exact Kd.V_nil _ _ _ _ _ | exact Kd.Q_nil _ _ _ _ _ | exact Kd.S_nil _ _ _ _ _⟩, ⟨by repeat (first | (with_reducible first | exact HB.out | apply Ad | apply Ab | apply Ac) | exact HB.out)⟩⟩
  case round =>
   clear H'; (try clear p2); (try clear c3); (try clear a7); (try clear a8); (try clear c5); (try clear c6); obtain ⟨ah, ab, rfl, HA, HK1, aa, ac, HB⟩ := hrel; cases gk with
   | zero => exact absurd HA.out (by simp [Bb.l0])
   | succ k1 =>
    have H := HA.out; clear HA
    simp only [Bb.l0] at H
    by_cases c7 : ab < (ae.length : Int)
    ·rw [if_pos c7] at H
     have bh : decide (ab < (ae.length : Int)) = true := decide_eq_true c7; clear c7
     by_cases c8 : 0 ≤ ab
     ·rw [if_pos c8] at H
      have bE : decide (0 ≤ ab) = true := decide_eq_true c8; clear c8; replace H := Option.bind_eq_some_iff.mp H; obtain ⟨bg, A90, H⟩ := H
      try dsimp only at H
      have A9 := Aa.mk A90; clear A90
      by_cases c10 : bg = true
      ·subst c10
       have H1 := H; rw [if_pos rfl] at H1; clear H; have H := H1; clear H1; replace H := Option.bind_eq_some_iff.mp H; obtain ⟨aJ, A110, H⟩ := H
       try dsimp only at H
       have A11 := Aa.mk A110; clear A110; replace H := Option.bind_eq_some_iff.mp H; obtain ⟨a6, A120, H⟩ := H
       try dsimp only at H
       have A12 := Aa.mk A120; clear A120; have H' := Aa.mk H; clear H; obtain ⟨b8, b9, bR⟩ := Kd.Bk aa.out; subst bR; have az : 0 ≤ (ab : Int) := of_decide_eq_true (by with_reducible assumption); have aA : ab < (ae.length : Int) := of_decide_eq_true (by with_reducible assumption); obtain ⟨aj, e322, aC, aD, aE, aG⟩ := at_T58 (Kd.Ax aa.out).2.2 ab az aA; cases e322; replace az := eq_true az; replace aA := eq_true aA; (try go_wp2_with (((with_reducible refine Ay (f := 64) rfl ?_); refine gL (some 28) Try.func64 #[.agg #[.int .i64 ((rd_T58 ae ab).f0), .int .i64 ((rd_T58 ae ab).f1), .int .i64 ((rd_T58 ae ab).f2), .int .i64 ((rd_T58 ae ab).f3)]] ?_; (with_reducible refine (Cf.calls ((rd_T58 ae ab).f0) ((rd_T58 ae ab).f1) ((rd_T58 ae ab).f2) ((rd_T58 ae ab).f3) true _ A9.out).mono ?_); rintro e w14 ⟨rfl, hb⟩; refine ⟨_, rfl, ?_⟩; replace aa := Aa.mk (Kd.Bo (by exact rU <| aa.out) hb); replace ac := Aa.mk (Kd.Bo (by exact rU <| ac.out) hb); replace HB := Aa.mk (Aj (lU HB.out) hb); (try clear hb); (try clear hb2); (try clear hk); (try clear hi)))); replace aa := Aa.mk (Kd.Ck aa.out); replace ac := Aa.mk (Kd.Ck ac.out); replace HB := Aa.mk (Ac HB.out); have aW : 0 ≤ (ab : Int) := of_decide_eq_true (by with_reducible assumption); have aX : ab < (ae.length : Int) := of_decide_eq_true (by with_reducible assumption); obtain ⟨bF, e324, an, ao, ap, aq⟩ := at_T58 (Kd.Ax aa.out).2.2 ab aW aX; obtain rfl : aj = bF := (by injection e324); replace aW := eq_true aW; replace aX := eq_true aX; have aY : 0 ≤ (ab : Int) := of_decide_eq_true (by with_reducible assumption); have aZ : ab < (ae.length : Int) := of_decide_eq_true (by with_reducible assumption); obtain ⟨bG, e328, ar, au, av, aw⟩ := at_T58 (Kd.Ax aa.out).2.2 ab aY aZ; obtain rfl : aj = bG := (by injection e328); replace aY := eq_true aY; replace aZ := eq_true aZ; obtain ⟨bi, bj, bH⟩ := Kd.Bk ac.out; (first | subst bH | (injection bH with f1_ f2_ f3_; have f4_ := f1_.symm; have f5_ := f3_.symm; clear f1_ f2_ f3_; subst f4_; subst f5_)); refine start_ (n := 14) (S := fun w' => w'.cell? (aj.add ((ab).toNat * 4)) = some (.int .i64 ((rd_T58 ae ab).f0)) ∧ w'.cell? ⟨(aj.add ((ab).toNat * 4)).block, (aj.add ((ab).toNat * 4)).off + 1, none⟩ = some (.int .i64 ((rd_T58 ae ab).f1)) ∧ w'.cell? ⟨(aj.add ((ab).toNat * 4)).block, (aj.add ((ab).toNat * 4)).off + 2, none⟩ = some (.int .i64 ((rd_T58 ae ab).f2)) ∧ w'.cell? ⟨(aj.add ((ab).toNat * 4)).block, (aj.add ((ab).toNat * 4)).off + 3, none⟩ = some (.int .i64 ((rd_T58 ae ab).f3)) ∧ w'.cell? (aj.add ((ab).toNat * 4)) = some (.int .i64 ((rd_T58 ae ab).f0)) ∧ w'.cell? ⟨(aj.add ((ab).toNat * 4)).block, (aj.add ((ab).toNat * 4)).off + 1, none⟩ = some (.int .i64 ((rd_T58 ae ab).f1)) ∧ w'.cell? ⟨(aj.add ((ab).toNat * 4)).block, (aj.add ((ab).toNat * 4)).off + 2, none⟩ = some (.int .i64 ((rd_T58 ae ab).f2)) ∧ w'.cell? ⟨(aj.add ((ab).toNat * 4)).block, (aj.add ((ab).toNat * 4)).off + 3, none⟩ = some (.int .i64 ((rd_T58 ae ab).f3))) (ds := []) #[false, false, false, false, false, false, false, false, false, false, false, false, false, false] (by kernel_rfl) rfl rfl ⟨an, ao, ap, aq, ar, au, av, aw⟩ (fun hHeld => ?_); refine with_tabW Bb.tab11 Bb.bits11 (fun HT_ HW_ => ?_); generalize w14.drew = w15 at aa ac HB an ao ap aq ar au av aw hHeld ⊢; refine pA 0 29 (bA 14 1) HT_ ?_; refine pA 1 30 (bA 14 3) HT_ ?_; refine pA 2 31 (bA 14 7) HT_ ?_; refine pA 3 32 (bA 14 15) HT_ ?_; refine pA 4 33 (bA 14 31) HT_ ?_; refine pA 7 36 (bA 14 159) HT_ ?_; refine pA 8 37 (bA 14 415) HT_ ?_; refine pA 9 38 (bA 14 927) HT_ ?_; refine pA 10 39 (bA 14 1951) HT_ ?_; refine tA 5 34 (bA 14 1983) HT_ HW_ hHeld ?_; refine tA 11 40 (bA 14 4031) HT_ HW_ hHeld ?_; refine one_ (i := 6) (N := some 35) (bA 14 4095) rfl rfl (one_of HT_.out (by kernel_rfl)) (by decide) (fun K hK => ?_); refine Dg Try.func65 (by kernel_rfl) rfl #[.slice bi ah.length bj, .int .i64 ((rd_T58 ae ab).f1)] (by rfl) rfl rfl (by (try simp only [List.map_toArray, List.map_cons, List.map_nil]); first | done | rfl | (simp only [List.length_drop, List.length_take]; rfl)) ?_
       with_reducible refine (Bh.calls k1 (fun k_ => some k_ = (.slice bi ah.length bj : Value).ownBlock) (.slice bi ah.length bj) ah ((rd_T58 ae ab).f1) aJ w _ ?side1 ?side2 A11.out).mono ?_
       (case side1 => repeat (first | (with_reducible first | exact HB.out | apply Ad | apply Ab | apply Ac) | exact HB.out)); (case side2 => exact Kd.C4 rfl ac.out); rintro e w17 ⟨v326, rfl, ho0, hb, hkp⟩; have HS0_ := cell_kept (hHeld.1) hkp (by first | (rw [add_block]; exact (fun hs_ => ((((Kd.Au aa.out (Kd.Bc ac.out) (by decide))).1 _ rfl).2) hs_)) | (show ¬ _; simp only [add_block]; exact (fun hs_ => ((((Kd.Au aa.out (Kd.Bc ac.out) (by decide))).1 _ rfl).2) hs_)) | exact (fun hs_ => ((((Kd.Au aa.out (Kd.Bc ac.out) (by decide))).1 _ rfl).2) hs_)); have HS1_ := cell_kept (hHeld.2.1) hkp (by first | (rw [add_block]; exact (fun hs_ => ((((Kd.Au aa.out (Kd.Bc ac.out) (by decide))).1 _ rfl).2) hs_)) | (show ¬ _; simp only [add_block]; exact (fun hs_ => ((((Kd.Au aa.out (Kd.Bc ac.out) (by decide))).1 _ rfl).2) hs_)) | exact (fun hs_ => ((((Kd.Au aa.out (Kd.Bc ac.out) (by decide))).1 _ rfl).2) hs_)); have HS2_ := cell_kept (hHeld.2.2.1) hkp (by first | (rw [add_block]; exact (fun hs_ => ((((Kd.Au aa.out (Kd.Bc ac.out) (by decide))).1 _ rfl).2) hs_)) | (show ¬ _; simp only [add_block]; exact (fun hs_ => ((((Kd.Au aa.out (Kd.Bc ac.out) (by decide))).1 _ rfl).2) hs_)) | exact (fun hs_ => ((((Kd.Au aa.out (Kd.Bc ac.out) (by decide))).1 _ rfl).2) hs_)); have HS3_ := cell_kept (hHeld.2.2.2.1) hkp (by first | (rw [add_block]; exact (fun hs_ => ((((Kd.Au aa.out (Kd.Bc ac.out) (by decide))).1 _ rfl).2) hs_)) | (show ¬ _; simp only [add_block]; exact (fun hs_ => ((((Kd.Au aa.out (Kd.Bc ac.out) (by decide))).1 _ rfl).2) hs_)) | exact (fun hs_ => ((((Kd.Au aa.out (Kd.Bc ac.out) (by decide))).1 _ rfl).2) hs_)); have HS4_ := cell_kept (hHeld.2.2.2.2.1) hkp (by first | (rw [add_block]; exact (fun hs_ => ((((Kd.Au aa.out (Kd.Bc ac.out) (by decide))).1 _ rfl).2) hs_)) | (show ¬ _; simp only [add_block]; exact (fun hs_ => ((((Kd.Au aa.out (Kd.Bc ac.out) (by decide))).1 _ rfl).2) hs_)) | exact (fun hs_ => ((((Kd.Au aa.out (Kd.Bc ac.out) (by decide))).1 _ rfl).2) hs_)); have HS5_ := cell_kept (hHeld.2.2.2.2.2.1) hkp (by first | (rw [add_block]; exact (fun hs_ => ((((Kd.Au aa.out (Kd.Bc ac.out) (by decide))).1 _ rfl).2) hs_)) | (show ¬ _; simp only [add_block]; exact (fun hs_ => ((((Kd.Au aa.out (Kd.Bc ac.out) (by decide))).1 _ rfl).2) hs_)) | exact (fun hs_ => ((((Kd.Au aa.out (Kd.Bc ac.out) (by decide))).1 _ rfl).2) hs_)); have HS6_ := cell_kept (hHeld.2.2.2.2.2.2.1) hkp (by first | (rw [add_block]; exact (fun hs_ => ((((Kd.Au aa.out (Kd.Bc ac.out) (by decide))).1 _ rfl).2) hs_)) | (show ¬ _; simp only [add_block]; exact (fun hs_ => ((((Kd.Au aa.out (Kd.Bc ac.out) (by decide))).1 _ rfl).2) hs_)) | exact (fun hs_ => ((((Kd.Au aa.out (Kd.Bc ac.out) (by decide))).1 _ rfl).2) hs_)); have HS7_ := cell_kept (hHeld.2.2.2.2.2.2.2) hkp (by first | (rw [add_block]; exact (fun hs_ => ((((Kd.Au aa.out (Kd.Bc ac.out) (by decide))).1 _ rfl).2) hs_)) | (show ¬ _; simp only [add_block]; exact (fun hs_ => ((((Kd.Au aa.out (Kd.Bc ac.out) (by decide))).1 _ rfl).2) hs_)) | exact (fun hs_ => ((((Kd.Au aa.out (Kd.Bc ac.out) (by decide))).1 _ rfl).2) hs_)); refine ⟨_, rfl, ?_⟩; replace aa := Aa.mk (Kd.Bs (ok' := fun k_ => True) (Kd.Dq ((Kd.Au aa.out (Kd.Bc ac.out) (by decide))) hkp (fun k_ hk_ hs_ => (hk_.2) hs_)) (fun k_ hk_ => trivial)); have ag := Aa.mk (Kd.Bs (ok' := fun k_ => True) ho0 (fun k_ hk_ => trivial)); replace HB := Aa.mk (hb); clear ac; (try clear hb); (try clear hkp); (try clear ho0); obtain ⟨bk, bl, bI⟩ := Kd.Bk ag.out; (first | subst bI | (injection bI with f1_ f2_ f3_; have f4_ := f1_.symm; have f5_ := f3_.symm; clear f1_ f2_ f3_; subst f4_; subst f5_)); refine hK.out _ _ ⟨HS0_, HS1_, HS2_, HS3_, HS4_, HS5_, HS6_, HS7_⟩ (fun hHeld => ?_); clear hK K; refine norm_ (a' := ?_) ?_ ?_; rotate_left
       ·show Act.put _ (some 35) _ = _
        simp only [Act.put, sA, sB, sC, i64_w, i32_w]
        rfl
       refine one_ (i := 12) (N := some 41) (bA 14 8191) rfl rfl (one_of HT_.out (by kernel_rfl)) (by decide) (fun K hK => ?_); refine Dg Try.func65 (by kernel_rfl) rfl #[.slice bk aJ.length bl, .int .i64 ((rd_T58 ae ab).f3)] (by rfl) rfl rfl (by (try simp only [List.map_toArray, List.map_cons, List.map_nil]); first | done | rfl | (simp only [List.length_drop, List.length_take]; rfl)) ?_
       with_reducible refine (Bh.calls k1 (fun k_ => some k_ = (.slice bk aJ.length bl : Value).ownBlock) (.slice bk aJ.length bl) aJ ((rd_T58 ae ab).f3) a6 w _ ?side1 ?side2 A12.out).mono ?_
       (case side1 => repeat (first | (with_reducible first | exact HB.out | apply Ad | apply Ab | apply Ac) | exact HB.out)); (case side2 => exact Kd.C4 rfl ag.out); rintro e w19 ⟨v330, rfl, ho0, hb, hkp⟩; have HS0_ := cell_kept (hHeld.1) hkp (by first | (rw [add_block]; exact (fun hs_ => ((((Kd.Au aa.out (Kd.Bc ag.out) (by decide))).1 _ rfl).2) hs_)) | (show ¬ _; simp only [add_block]; exact (fun hs_ => ((((Kd.Au aa.out (Kd.Bc ag.out) (by decide))).1 _ rfl).2) hs_)) | exact (fun hs_ => ((((Kd.Au aa.out (Kd.Bc ag.out) (by decide))).1 _ rfl).2) hs_)); have HS1_ := cell_kept (hHeld.2.1) hkp (by first | (rw [add_block]; exact (fun hs_ => ((((Kd.Au aa.out (Kd.Bc ag.out) (by decide))).1 _ rfl).2) hs_)) | (show ¬ _; simp only [add_block]; exact (fun hs_ => ((((Kd.Au aa.out (Kd.Bc ag.out) (by decide))).1 _ rfl).2) hs_)) | exact (fun hs_ => ((((Kd.Au aa.out (Kd.Bc ag.out) (by decide))).1 _ rfl).2) hs_)); have HS2_ := cell_kept (hHeld.2.2.1) hkp (by first | (rw [add_block]; exact (fun hs_ => ((((Kd.Au aa.out (Kd.Bc ag.out) (by decide))).1 _ rfl).2) hs_)) | (show ¬ _; simp only [add_block]; exact (fun hs_ => ((((Kd.Au aa.out (Kd.Bc ag.out) (by decide))).1 _ rfl).2) hs_)) | exact (fun hs_ => ((((Kd.Au aa.out (Kd.Bc ag.out) (by decide))).1 _ rfl).2) hs_)); have HS3_ := cell_kept (hHeld.2.2.2.1) hkp (by first | (rw [add_block]; exact (fun hs_ => ((((Kd.Au aa.out (Kd.Bc ag.out) (by decide))).1 _ rfl).2) hs_)) | (show ¬ _; simp only [add_block]; exact (fun hs_ => ((((Kd.Au aa.out (Kd.Bc ag.out) (by decide))).1 _ rfl).2) hs_)) | exact (fun hs_ => ((((Kd.Au aa.out (Kd.Bc ag.out) (by decide))).1 _ rfl).2) hs_)); have HS4_ := cell_kept (hHeld.2.2.2.2.1) hkp (by first | (rw [add_block]; exact (fun hs_ => ((((Kd.Au aa.out (Kd.Bc ag.out) (by decide))).1 _ rfl).2) hs_)) | (show ¬ _; simp only [add_block]; exact (fun hs_ => ((((Kd.Au aa.out (Kd.Bc ag.out) (by decide))).1 _ rfl).2) hs_)) | exact (fun hs_ => ((((Kd.Au aa.out (Kd.Bc ag.out) (by decide))).1 _ rfl).2) hs_)); have HS5_ := cell_kept (hHeld.2.2.2.2.2.1) hkp (by first | (rw [add_block]; exact (fun hs_ => ((((Kd.Au aa.out (Kd.Bc ag.out) (by decide))).1 _ rfl).2) hs_)) | (show ¬ _; simp only [add_block]; exact (fun hs_ => ((((Kd.Au aa.out (Kd.Bc ag.out) (by decide))).1 _ rfl).2) hs_)) | exact (fun hs_ => ((((Kd.Au aa.out (Kd.Bc ag.out) (by decide))).1 _ rfl).2) hs_)); have HS6_ := cell_kept (hHeld.2.2.2.2.2.2.1) hkp (by first | (rw [add_block]; exact (fun hs_ => ((((Kd.Au aa.out (Kd.Bc ag.out) (by decide))).1 _ rfl).2) hs_)) | (show ¬ _; simp only [add_block]; exact (fun hs_ => ((((Kd.Au aa.out (Kd.Bc ag.out) (by decide))).1 _ rfl).2) hs_)) | exact (fun hs_ => ((((Kd.Au aa.out (Kd.Bc ag.out) (by decide))).1 _ rfl).2) hs_)); have HS7_ := cell_kept (hHeld.2.2.2.2.2.2.2) hkp (by first | (rw [add_block]; exact (fun hs_ => ((((Kd.Au aa.out (Kd.Bc ag.out) (by decide))).1 _ rfl).2) hs_)) | (show ¬ _; simp only [add_block]; exact (fun hs_ => ((((Kd.Au aa.out (Kd.Bc ag.out) (by decide))).1 _ rfl).2) hs_)) | exact (fun hs_ => ((((Kd.Au aa.out (Kd.Bc ag.out) (by decide))).1 _ rfl).2) hs_)); refine ⟨_, rfl, ?_⟩; replace aa := Aa.mk (Kd.Bs (ok' := fun k_ => True) (Kd.Dq ((Kd.Au aa.out (Kd.Bc ag.out) (by decide))) hkp (fun k_ hk_ hs_ => (hk_.2) hs_)) (fun k_ hk_ => trivial)); have bJ := Aa.mk (Kd.Bs (ok' := fun k_ => True) ho0 (fun k_ hk_ => trivial)); replace HB := Aa.mk (hb); clear ag; (try clear hb); (try clear hkp); (try clear ho0); refine hK.out _ _ ⟨HS0_, HS1_, HS2_, HS3_, HS4_, HS5_, HS6_, HS7_⟩ (fun hHeld => ?_); clear hK K; refine norm_ (a' := ?_) ?_ ?_; rotate_left
       ·show Act.put _ (some 41) _ = _
        simp only [Act.put, sA, sB, sC, i64_w, i32_w]
        rfl
       refine pA 13 6 (bA 14 16383) HT_ ?_; refine done_ (done_of HT_.out (by kernel_rfl)) ?_; (try go_wp2)
       go_roundg k1
       case measure => have := HK1.out; omega
       case rel => exact ⟨(a6), (wrap64 (ab + 1)), (by first | rfl | (simp; done) | (simp [*]; done)), H', ⟨by have := HK1.out; omega⟩, ⟨by exact rU <| aa.out⟩, ⟨by exact rU <| bJ.out⟩, ⟨by repeat (first | (with_reducible first | exact HB.out | apply Ad | apply Ab | apply Ac) | exact HB.out)⟩⟩
      ·replace c10 := Bool.eq_false_iff.mpr c10
       subst c10; have H1 := H; rw [if_neg (show ¬ (false = true) by decide)] at H1; clear H; have H := H1; clear H1; have H' := Aa.mk H; clear H; obtain ⟨cd, cg, bS⟩ := Kd.Bk aa.out; subst bS; have az : 0 ≤ (ab : Int) := of_decide_eq_true (by with_reducible assumption); have aA : ab < (ae.length : Int) := of_decide_eq_true (by with_reducible assumption); obtain ⟨aj, e322, aC, aD, aE, aG⟩ := at_T58 (Kd.Ax aa.out).2.2 ab az aA; cases e322; replace az := eq_true az; replace aA := eq_true aA
       go_wp2_with (((with_reducible refine Ay (f := 64) rfl ?_); refine gL (some 28) Try.func64 #[.agg #[.int .i64 ((rd_T58 ae ab).f0), .int .i64 ((rd_T58 ae ab).f1), .int .i64 ((rd_T58 ae ab).f2), .int .i64 ((rd_T58 ae ab).f3)]] ?_; (with_reducible refine (Cf.calls ((rd_T58 ae ab).f0) ((rd_T58 ae ab).f1) ((rd_T58 ae ab).f2) ((rd_T58 ae ab).f3) false _ A9.out).mono ?_); rintro e w21 ⟨rfl, hb⟩; refine ⟨_, rfl, ?_⟩; replace aa := Aa.mk (Kd.Bo (by exact rU <| aa.out) hb); replace ac := Aa.mk (Kd.Bo (by exact rU <| ac.out) hb); replace HB := Aa.mk (Aj (lU HB.out) hb); (try clear hb); (try clear hb2); (try clear hk); (try clear hi)))
       go_roundg k1
       case measure => have := HK1.out; omega
       case rel => exact ⟨(ah), (wrap64 (ab + 1)), (by first | rfl | (simp; done) | (simp [*]; done)), H', ⟨by have := HK1.out; omega⟩, ⟨by exact rU <| aa.out⟩, ⟨by exact rU <| ac.out⟩, ⟨by repeat (first | (with_reducible first | exact HB.out | apply Ad | apply Ab | apply Ac) | exact HB.out)⟩⟩
     ·rw [if_neg c8] at H
      exact absurd H (by simp)
    ·rw [if_neg c7] at H
     have bh : decide (ab < (ae.length : Int)) = false := decide_eq_false c7; clear c7; have H' := Aa.mk H; clear H; obtain ⟨bm, bn, bT⟩ := Kd.Bk aa.out; subst bT
     go_wp2
     go_loopg [5, 8] k1 (fun kq v5 v8 w' => ∃ (a9 : Int) (ai : Int), v5 = .int .i64 a9 ∧ v8 = .int .i64 ai ∧ Aa (Bb.l1 kq ae a9 ah ai = some (r1, r2)) ∧ Aa (kq ≤ k1) ∧ Aa (Kd.R k58 58 w' w.heap.size (fun _ => True) (.slice bm ae.length bn) ae) ∧ Aa (Kd.R (Kd.int .i64) 3 w' w.heap.size (fun _ => True) u6 ah) ∧ Aa (Below w.heap.size w w'))
     case atStart => exact ⟨(0), (0), (by first | rfl | (simp; done) | (simp [*]; done)), (by first | rfl | (simp; done) | (simp [*]; done)), H', ⟨Nat.le_refl _⟩, ⟨by exact rU <| aa.out⟩, ⟨by exact rU <| ac.out⟩, ⟨by repeat (first | (with_reducible first | exact HB.out | apply Ad | apply Ab | apply Ac) | exact HB.out)⟩⟩
     case round =>
      clear H'; (try clear c1); (try clear p2); (try clear c3); (try clear a7); (try clear a8); (try clear p3); (try clear q3); (try clear hx3); (try clear c5); (try clear c6); (try clear p6); (try clear c7); (try clear bh); (try clear c8); (try clear bE); (try clear c10); (try clear aC); (try clear aD); (try clear aE); (try clear aG); (try clear an); (try clear ao); (try clear ap); (try clear aq); (try clear ar); (try clear au); (try clear av); (try clear aw); (try clear p2); (try clear az); (try clear aW); (try clear aY); (try clear aA); (try clear aX); (try clear aZ); obtain ⟨a9, ai, rfl, rfl, HA, HK2, aa, ac, HB⟩ := hrel; cases gk with
      | zero => exact absurd HA.out (by simp [Bb.l1])
      | succ k2 =>
       have H := HA.out; clear HA
       simp only [Bb.l1] at H
       by_cases c23 : (wrap64 (ai + 1)) < (ah.length : Int)
       ·rw [if_pos c23] at H
        have a5 : decide ((wrap64 (ai + 1)) < (ah.length : Int)) = true := decide_eq_true c23; clear c23
        by_cases c24 : 0 ≤ ai
        ·rw [if_pos c24] at H
         have bK : decide (0 ≤ ai) = true := decide_eq_true c24; clear c24
         by_cases c25 : ai < (ah.length : Int)
         ·rw [if_pos c25] at H
          have bL : decide (ai < (ah.length : Int)) = true := decide_eq_true c25; clear c25; replace H := Option.bind_eq_some_iff.mp H; obtain ⟨ak, A260, H⟩ := H
          try dsimp only at H
          have A26 := Aa.mk A260; clear A260; have H' := Aa.mk H; clear H; obtain ⟨ch, bV, bW⟩ := Kd.Bk ac.out; subst bW; have bc : 0 ≤ (ai : Int) := of_decide_eq_true (by with_reducible assumption); have be : ai < (ah.length : Int) := of_decide_eq_true (by with_reducible assumption); obtain ⟨aH, e332, bf⟩ := Kd.at_int (Kd.Ax ac.out).2.2 ai bc be; cases e332; replace bc := eq_true bc; replace be := eq_true be
          go_wp2_with (((with_reducible refine Ay (f := 66) rfl ?_); refine gL (some 54) Try.func66 #[.slice bm ae.length bn, .int .i64 (rd ah ai)] ?_; (with_reducible refine (Bz.calls k2 _ _ ae (rd ah ai) ak _ ?side1 ?side2 A26.out).mono ?_); (case side1 => repeat (first | exact (Kd.Ax aa.out).2.2 | (with_reducible refine Kd.Bn ?_ _) | (with_reducible refine Kd.Bm ?_ _) | (with_reducible refine Kd.Bx ?_))); (case side2 => exact (Kd.Ax aa.out).2.1); rintro e w28 ⟨v334, rfl, ho0, hb⟩; refine ⟨_, rfl, ?_⟩; replace aa := Aa.mk (Kd.Bo (by exact rU <| aa.out) hb); replace ac := Aa.mk (Kd.Bo (by exact rU <| ac.out) hb); have bM := Aa.mk (Kd.Cg ho0 (Af (lU HB.out))); replace HB := Aa.mk (Aj (lU HB.out) hb); (try clear hb); (try clear hb2); (try clear hk); (try clear hi); (try clear ho0)))
          go_loopg [5, 10] k2 (fun kq v5 v10 w' => ∃ (aV : Int) (af : Int), v5 = .int .i64 aV ∧ v10 = .int .i64 af ∧ Aa (Bb.l2 kq ae aV ah ai ak af = some (r1, r2)) ∧ Aa (kq ≤ k2) ∧ Aa (Kd.R k58 58 w' w.heap.size (fun _ => True) (.slice bm ae.length bn) ae) ∧ Aa (Kd.R (Kd.int .i64) 3 w' w.heap.size (fun _ => True) (.slice (some aH) ah.length bV) ah) ∧ Aa (Kd.R k99 99 w' w.heap.size (fun _ => True) v334 ak) ∧ Aa (Below w.heap.size w w'))
          case atStart => exact ⟨(a9), (0), (by first | rfl | (simp; done) | (simp [*]; done)), (by first | rfl | (simp; done) | (simp [*]; done)), H', ⟨Nat.le_refl _⟩, ⟨by exact rU <| aa.out⟩, ⟨by exact rU <| ac.out⟩, ⟨by exact rU <| bM.out⟩, ⟨by repeat (first | (with_reducible first | exact HB.out | apply Ad | apply Ab | apply Ac) | exact HB.out)⟩⟩
          case round =>
           clear H'; (try clear c1); (try clear c2); (try clear p2); (try clear c3); (try clear a7); (try clear a8); (try clear p3); (try clear q3); (try clear hx3); (try clear c5); (try clear c6); (try clear p6); (try clear c7); (try clear bh); (try clear c8); (try clear bE); (try clear c10); (try clear c23); (try clear a5); (try clear c24); (try clear bK); (try clear c25); (try clear bL); (try clear aC); (try clear aD); (try clear aE); (try clear aG); (try clear an); (try clear ao); (try clear ap); (try clear aq); (try clear ar); (try clear au); (try clear av); (try clear aw); (try clear bf); (try clear p2); (try clear p3); (try clear az); (try clear aW); (try clear aY); (try clear bc); (try clear p6); (try clear q3); (try clear aA); (try clear aX); (try clear aZ); (try clear be); obtain ⟨aV, af, rfl, rfl, HA, HK3, aa, ac, aI, HB⟩ := hrel; cases gk with
           | zero => exact absurd HA.out (by simp [Bb.l2])
           | succ k3 =>
            have H := HA.out; clear HA
            simp only [Bb.l2] at H
            by_cases c29 : af < (ak.length : Int)
            ·rw [if_pos c29] at H
             have bN : decide (af < (ak.length : Int)) = true := decide_eq_true c29; clear c29
             by_cases c30 : 0 ≤ af
             ·rw [if_pos c30] at H
              have b3 : decide (0 ≤ af) = true := decide_eq_true c30; clear c30; obtain ⟨al, ax⟩ : ∃ j_ : Int, (wrap64 (ai + 1)) = j_ := ⟨_, rfl⟩; replace H : (if 0 ≤ (al) then (if (al) < (ah.length : Int) then (if 0 ≤ ai then (if ai < (ah.length : Int) then (Bb.l2 k3 ae (wrap64 (aV + (wrap64 ((wrap64 (((rd_T99 ak af).f1) - ((rd_T99 ak af).f0))) * (wrap64 ((rd ah (al)) - (rd ah ai))))))) ah ai ak (wrap64 (af + 1))) else (none)) else (none)) else (none)) else (none)) = some (r1, r2) := by first | (rw [ax] at H; exact H) | (simp only [ax] at H ⊢; exact H)
              (try rw [ax] at a5); have hji31w : (IntKind.i64.wrap (ai + 1)) = al := (i64_w _).trans ax
              by_cases c32 : 0 ≤ (al)
              ·rw [if_pos c32] at H
               have b4 : decide (0 ≤ (al)) = true := decide_eq_true c32; clear c32
               by_cases c33 : (al) < (ah.length : Int)
               ·rw [if_pos c33] at H
                have b5 : decide ((al) < (ah.length : Int)) = true := decide_eq_true c33; clear c33
                by_cases c34 : 0 ≤ ai
                ·rw [if_pos c34] at H
                 have b6 : decide (0 ≤ ai) = true := decide_eq_true c34; clear c34
                 by_cases c35 : ai < (ah.length : Int)
                 ·rw [if_pos c35] at H
                  have b7 : decide (ai < (ah.length : Int)) = true := decide_eq_true c35; clear c35; have H' := Aa.mk H; clear H; obtain ⟨cl, cn, bX⟩ := Kd.Bk aI.out; subst bX; (try go_wp2); replace aa := Aa.mk (Kd.Ck aa.out); replace ac := Aa.mk (Kd.Ck ac.out); replace aI := Aa.mk (Kd.Ck aI.out); replace HB := Aa.mk (Ac HB.out); have bo : 0 ≤ (af : Int) := of_decide_eq_true (by with_reducible assumption); have br : af < (ak.length : Int) := of_decide_eq_true (by with_reducible assumption); obtain ⟨ay, e336, aK, aM⟩ := at_T99 (Kd.Ax aI.out).2.2 af bo br; cases e336; replace bo := eq_true bo; replace br := eq_true br; have bs : 0 ≤ (af : Int) := of_decide_eq_true (by with_reducible assumption); have bu : af < (ak.length : Int) := of_decide_eq_true (by with_reducible assumption); obtain ⟨bO, e337, aN, aQ⟩ := at_T99 (Kd.Ax aI.out).2.2 af bs bu; obtain rfl : ay = bO := (by injection e337); replace bs := eq_true bs; replace bu := eq_true bu; have bw : 0 ≤ ((al) : Int) := of_decide_eq_true (by with_reducible assumption); have bx : (al) < (ah.length : Int) := of_decide_eq_true (by with_reducible assumption); obtain ⟨bP, e338, aT⟩ := Kd.at_int (Kd.Ax ac.out).2.2 (al) bw bx; obtain rfl : aH = bP := (by injection e338); replace bw := eq_true bw; replace bx := eq_true bx; have bz : 0 ≤ (ai : Int) := of_decide_eq_true (by with_reducible assumption); have bB : ai < (ah.length : Int) := of_decide_eq_true (by with_reducible assumption); obtain ⟨bQ, e339, aU⟩ := Kd.at_int (Kd.Ax ac.out).2.2 ai bz bB; obtain rfl : aH = bQ := (by injection e339); replace bz := eq_true bz; replace bB := eq_true bB; refine start_ (n := 25) (S := fun w' => w'.cell? (ay.add ((af).toNat * 2)) = some (.int .i64 ((rd_T99 ak af).f0)) ∧ w'.cell? ⟨(ay.add ((af).toNat * 2)).block, (ay.add ((af).toNat * 2)).off + 1, none⟩ = some (.int .i64 ((rd_T99 ak af).f1)) ∧ w'.cell? (ay.add ((af).toNat * 2)) = some (.int .i64 ((rd_T99 ak af).f0)) ∧ w'.cell? ⟨(ay.add ((af).toNat * 2)).block, (ay.add ((af).toNat * 2)).off + 1, none⟩ = some (.int .i64 ((rd_T99 ak af).f1)) ∧ w'.cell? (aH.add ((al)).toNat) = some (.int .i64 (rd ah (al))) ∧ w'.cell? (aH.add (ai).toNat) = some (.int .i64 (rd ah ai))) (ds := []) #[false, false, false, false, false, false, false, false, false, false, false, false, false, false, false, false, false, false, false, false, false, false, false, false, false] (by kernel_rfl) rfl rfl ⟨aK, aM, aN, aQ, aT, aU⟩ (fun hHeld => ?_); refine with_tabW Bb.tab19 Bb.bits19 (fun HT_ HW_ => ?_); generalize wr.drew = w37 at aa ac aI HB aK aM aN aQ aT aU hHeld ⊢; refine pA 0 61 (bA 25 1) HT_ ?_; refine pA 1 62 (bA 25 3) HT_ ?_; refine pA 2 63 (bA 25 7) HT_ ?_; refine pA 3 64 (bA 25 15) HT_ ?_; refine pA 4 65 (bA 25 31) HT_ ?_; refine pA 6 67 (bA 25 95) HT_ ?_; refine pA 7 68 (bA 25 223) HT_ ?_; refine pA 8 69 (bA 25 479) HT_ ?_; refine pA 9 70 (bA 25 991) HT_ ?_; refine pA 12 73 (bA 25 5087) HT_ ?_; refine pA 13 74 (bA 25 13279) HT_ ?_; refine pA 14 75 (bA 25 29663) HT_ ?_; refine pA 15 76 (bA 25 62431) HT_ ?_; refine pA 17 78 (bA 25 193503) HT_ ?_; refine pA 18 79 (bA 25 455647) HT_ ?_; refine pA 19 80 (bA 25 979935) HT_ ?_; refine tA 5 66 (bA 25 979967) HT_ HW_ hHeld ?_; refine tA 10 71 (bA 25 980991) HT_ HW_ hHeld ?_; refine pA 11 72 (bA 25 983039) HT_ ?_; refine tA 16 77 (bA 25 1048575) HT_ HW_ hHeld ?_; refine tA 20 81 (bA 25 2097151) HT_ HW_ hHeld ?_; refine pA 21 82 (bA 25 4194303) HT_ ?_; refine pA 22 83 (bA 25 8388607) HT_ ?_; refine pA 23 84 (bA 25 16777215) HT_ ?_; refine pA 24 5 (bA 25 33554431) HT_ ?_; refine done_ (done_of HT_.out (by kernel_rfl)) ?_; (try go_wp2); (try rw [← ax])
                  go_roundg k3
                  case measure => have := HK1.out; have := HK2.out; have := HK3.out; omega
                  case rel => exact ⟨(wrap64 (aV + (wrap64 ((wrap64 (((rd_T99 ak af).f1) - ((rd_T99 ak af).f0))) * (wrap64 ((rd ah (al)) - (rd ah ai))))))), (wrap64 (af + 1)), (by first | rfl | (simp; done) | (simp only [← ax] <;> (first | rfl | simp)) | (simp [*]; done)), (by first | rfl | (simp; done) | (simp [*]; done)), H', ⟨by have := HK1.out; have := HK2.out; have := HK3.out; omega⟩, ⟨by exact rU <| aa.out⟩, ⟨by exact rU <| ac.out⟩, ⟨by exact rU <| aI.out⟩, ⟨by repeat (first | (with_reducible first | exact HB.out | apply Ad | apply Ab | apply Ac) | exact HB.out)⟩⟩
                 ·rw [if_neg c35] at H
                  exact absurd H (by simp)
                ·rw [if_neg c34] at H
                 exact absurd H (by simp)
               ·rw [if_neg c33] at H
                exact absurd H (by simp)
              ·rw [if_neg c32] at H
               exact absurd H (by simp)
             ·rw [if_neg c30] at H
              exact absurd H (by simp)
            ·rw [if_neg c29] at H
             have bN : decide (af < (ak.length : Int)) = false := decide_eq_false c29; clear c29; have H' := Aa.mk H; clear H; obtain ⟨co, ct, bY⟩ := Kd.Bk aI.out; subst bY
             go_wp2
             (try rw [← ax])
             go_roundg k3
             case measure => have := HK1.out; have := HK2.out; have := HK3.out; omega
             case rel => exact ⟨(aV), (wrap64 (ai + 1)), (by first | rfl | (simp; done) | (simp [*]; done)), (by first | rfl | (simp; done) | (simp [*]; done)), H', ⟨by have := HK1.out; have := HK2.out; have := HK3.out; omega⟩, ⟨by exact rU <| aa.out⟩, ⟨by exact rU <| ac.out⟩, ⟨by repeat (first | (with_reducible first | exact HB.out | apply Ad | apply Ab | apply Ac) | exact HB.out)⟩⟩
         ·rw [if_neg c25] at H
          exact absurd H (by simp)
        ·rw [if_neg c24] at H
         exact absurd H (by simp)
       ·rw [if_neg c23] at H
        have a5 : decide ((wrap64 (ai + 1)) < (ah.length : Int)) = false := decide_eq_false c23; clear c23
        simp only [Option.some.injEq, Prod.mk.injEq] at H
        obtain ⟨rfl, rfl⟩ := H; obtain ⟨cu, cx, bZ⟩ := Kd.Bk ac.out; subst bZ
        go_wp2
        go_ret2
        exact ⟨by first | rfl | (simp [Ba, Az] <;> rfl) | (simp [*, Ba, Az] <;> rfl), by repeat (first | (with_reducible first | exact HB.out | apply Ad | apply Ab | apply Ac) | exact HB.out)⟩
 ·rw [if_neg c3] at H
  have a7 : (am == 0) = false := beq_eq_false_iff_ne.mpr c3; have a8 : (am != 0) = true := bne_iff_ne.mpr c3
  simp only [Option.some.injEq, Prod.mk.injEq] at H
  obtain ⟨rfl, rfl⟩ := H; go_enter Try.func37, Try.ntmps37
  go_wp2_with (((with_reducible refine Ay (f := 50) rfl ?_); refine gL (some 12) Try.func50 #[.slice A0 l0.length c0] ?_; (with_reducible refine (Ch.calls k _ _ l0 am _ ?side1 ?side2 A2.out).mono ?_); (case side1 => repeat (first | exact HR0.out | (with_reducible refine Kd.Bn ?_ _) | (with_reducible refine Kd.Bm ?_ _) | (with_reducible refine Kd.Bx ?_))); (case side2 => exact HC0.out); rintro e w40 ⟨rfl, hb⟩; refine ⟨_, rfl, ?_⟩; replace HB := Aa.mk (Aj (lU HB.out) hb); (try clear hb); (try clear hb2); (try clear hk); (try clear hi)))
  go_ret2
  exact ⟨by first | rfl | (simp [Ba, Az] <;> rfl) | (simp [*, Ba, Az] <;> rfl), by repeat (first | (with_reducible first | exact HB.out | apply Ad | apply Ab | apply Ac) | exact HB.out)⟩

end Go.Proofs.Ytobdfiglgdbecaa.PGR

