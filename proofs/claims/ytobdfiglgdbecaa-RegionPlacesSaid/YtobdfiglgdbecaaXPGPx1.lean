import Derived.Test.YtobdfiglgdbecaaXPGPx0
import Derived.Test.YtobdfiglgdbecaaXPGAx7
import Derived.Test.YtobdfiglgdbecaaXPGHx2
import Derived.Test.YtobdfiglgdbecaaXPGHx3
import Derived.Test.YtobdfiglgdbecaaXPGHx4
import Derived.Test.YtobdfiglgdbecaaXPGHx5
import Derived.Test.YtobdfiglgdbecaaXPGKx1
namespace Go.Proofs.Ytobdfiglgdbecaa.PGP
open Go.Proofs.Ytobdfiglgdbecaa.PGA Go.Proofs.Ytobdfiglgdbecaa.PGB Go.Proofs.Ytobdfiglgdbecaa.PGH Go.Proofs.Ytobdfiglgdbecaa.PGK
open Go.RowKit Go.Proofs.YtobdfiglgdbecaaW.PrintWords Go.Proofs.YtobdfiglgdbecaaW.PrintLast Go.Proofs.YtobdfiglgdbecaaW.PrintMore
attribute [local go_sem] max2_int min2_int max_two min_two max_three min_three max_four min_four
set_option linter.unusedVariables false
set_option linter.unusedSimpArgs false

mutual
def Ab.j0 : Nat → List (S58) → List (S58) → List (S58) → List (S58) → List (S58) → Bool → Option (Bool)
 | 0, _, _, _, _, _, _ => none
 | k + 1, x0, x1, x5, x7, x9, x65 => if x65 = true then (some false) else ((Aw.f k (([x0, x1] : List (List (S58))))).bind fun bM => (Ab.l0 k x0 x1 x5 x7 x9 bM.1 bM.2 0))
def Ab.l0 : Nat → List (S58) → List (S58) → List (S58) → List (S58) → List (S58) → List Int → List Int → Int → Option (Bool)
 | 0, _, _, _, _, _, _, _, _ => none
 | k + 1, x0, x1, x5, x7, x9, x11, x12, x13 => if x13 < (x11.length : Int) then (Ab.l1 k x0 x1 x5 x7 x9 x11 x12 x13 0) else (some true)
def Ab.l1 : Nat → List (S58) → List (S58) → List (S58) → List (S58) → List (S58) → List Int → List Int → Int → Int → Option (Bool)
 | 0, _, _, _, _, _, _, _, _, _ => none
 | k + 1, x0, x1, x5, x7, x9, x11, x12, x13, x14 => if x14 < (x12.length : Int) then (if 0 ≤ x13 then (if x13 < (x11.length : Int) then (if 0 ≤ x14 then ((Ax.f k x0 (rd x11 x13) (rd x12 x14)).bind fun bS => ((Ax.f k x1 (rd x11 x13) (rd x12 x14)).bind fun aq => ((Ax.f k x5 (rd x11 x13) (rd x12 x14)).bind fun av => (if bS = true then (if (av != true) = true then (some false) else ((Ax.f k x7 (rd x11 x13) (rd x12 x14)).bind fun aU => (if (aU != aq) = true then (some false) else ((Ax.f k x9 (rd x11 x13) (rd x12 x14)).bind fun aI => (if (aI != (!aq)) = true then (some false) else (Ab.l1 k x0 x1 x5 x7 x9 x11 x12 x13 (wrap64 (x14 + 1)))))))) else (if (av != aq) = true then (some false) else ((Ax.f k x7 (rd x11 x13) (rd x12 x14)).bind fun aV => (if (aV != false) = true then (some false) else ((Ax.f k x9 (rd x11 x13) (rd x12 x14)).bind fun aW => (if (aW != false) = true then (some false) else (Ab.l1 k x0 x1 x5 x7 x9 x11 x12 x13 (wrap64 (x14 + 1)))))))))))) else (none)) else (none)) else (none)) else (Ab.l0 k x0 x1 x5 x7 x9 x11 x12 (wrap64 (x13 + 1)))
end
def Ab.f (k : Nat) (l0 : List (S58)) (l1 : List (S58)) : Option (Bool) := (Cn.f k).bind fun bw => (if bw = true then ((B0.f k (([l0, l1] : List (List (S58))))).bind fun bx => (if bx = true then ((Cp.f k l0 l1).bind fun aw => ((Cq.f k l0 l1).bind fun ax => ((Cb.f k l0 l1).bind fun ay => ((An.f aw.2).bind fun aJ => ((An.f ax.2).bind fun aK => ((An.f ay.2).bind fun aM => (if (wrap64 ((wrap64 (aJ + aK)) + aM)) = 0 then ((Aj.f k aw.1).bind fun bz => (if bz = true then ((Aj.f k ax.1).bind fun bB => (if bB = true then ((Aj.f k ay.1).bind fun bv => (Ab.j0 k l0 l1 aw.1 ax.1 ay.1 (!bv))) else (Ab.j0 k l0 l1 aw.1 ax.1 ay.1 true))) else (Ab.j0 k l0 l1 aw.1 ax.1 ay.1 true))) else (Ab.j0 k l0 l1 aw.1 ax.1 ay.1 true)))))))) else (some true))) else (some false))
def Ab.T17 : Bool × List (List Nat × List Nat) := (true, [([], []), ([], []), ([], []), ([1, 2], [1, 2]), ([3], [3]), ([], []), ([], []), ([5, 6], [5, 6]), ([7], [7]), ([0, 4, 8], [0, 4, 8]), ([], []), ([], []), ([], []), ([11, 12], [11, 12]), ([13], [13]), ([], []), ([], []), ([15, 16], [15, 16]), ([17], [17]), ([10, 14, 18, 9], [10, 14, 18]), ([9, 19, 0, 1, 2, 3, 4, 5, 6, 7, 8, 9], [9]), ([19, 20, 0, 1, 2, 3, 4, 5, 6, 7, 8, 9, 10, 11, 12, 13, 14, 15, 16, 17, 18, 19, 20], [19])])
def Ab.B17 : List Nat := [0, 0, 0, 6, 14, 0, 0, 96, 224, 511, 0, 0, 0, 6144, 14336, 0, 0, 98304, 229376, 524287, 1048575, 2097151]
theorem Ab.tab17 : rtab .any (opsOf Try.f5 17) = Ab.T17 := by kernel_rfl
theorem Ab.bits17 : waitsOk Ab.T17.2 Ab.B17 = true := by kernel_rfl
def Ab.T18 : Bool × List (List Nat × List Nat) := (true, [([], []), ([], []), ([], []), ([1, 2], [1, 2]), ([3], [3]), ([], []), ([], []), ([5, 6], [5, 6]), ([7], [7]), ([0, 4, 8], [0, 4, 8]), ([], []), ([10, 9], [10]), ([11], [11]), ([11, 12], [11, 12]), ([9, 13], [9, 13]), ([14, 11], [14]), ([15], [15]), ([15], [15]), ([15], [15]), ([17, 18, 15], [15, 17, 18]), ([19, 15], [15, 19]), ([15], [15]), ([15], [15]), ([21, 22, 15], [15, 21, 22]), ([23, 15], [15, 23]), ([16, 20, 24, 15, 15], [15, 16, 20, 24]), ([15], [15]), ([26, 25, 15], [15, 26]), ([27], [27]), ([27, 28, 15], [15, 27, 28]), ([25, 29, 15], [15, 25, 29]), ([15, 30], [15, 30]), ([31, 27], [31]), ([32], [32]), ([32], [32]), ([32], [32]), ([34, 35, 32], [32, 34, 35]), ([36, 32], [32, 36]), ([32], [32]), ([32], [32]), ([38, 39, 32], [32, 38, 39]), ([40, 32], [32, 40]), ([33, 37, 41, 32, 32], [32, 33, 37, 41]), ([32], [32]), ([43, 42, 32], [32, 43]), ([44], [44]), ([45, 44], [44, 45]), ([44, 46, 32], [32, 44, 46]), ([42, 47, 32], [32, 42, 47]), ([32, 48], [32, 48])])
def Ab.B18 : List Nat := [0, 0, 0, 6, 14, 0, 0, 96, 224, 511, 0, 2047, 4095, 8191, 16383, 32767, 65535, 65535, 65535, 458751, 983039, 65535, 65535, 6356991, 14745599, 33554431, 65535, 134217727, 268435455, 536870911, 1073741823, 2147483647, 4294967295, 8589934591, 8589934591, 8589934591, 60129542143, 128849018879, 8589934591, 8589934591, 833223655423, 1932735283199, 4398046511103, 8589934591, 17592186044415, 35184372088831, 70368744177663, 140737488355327, 281474976710655, 562949953421311]
theorem Ab.tab18 : rtab .any (opsOf Try.f5 18) = Ab.T18 := by kernel_rfl
theorem Ab.bits18 : waitsOk Ab.T18.2 Ab.B18 = true := by kernel_rfl
set_option maxHeartbeats 8000000 in
set_option maxRecDepth 100000 in
theorem Ab.calls (k : Nat) (P0_ : Nat → Prop) (A0 : Option Addr) (c0 : Nat) (l0 : List (S58)) (P1_ : Nat → Prop) (A1 : Option Addr) (c1 : Nat) (l1 : List (S58)) (r : Bool) (w : World) (hs0 : Kd.V k58 58 w w.heap.size (fun k_ => P0_ k_) (.slice A0 l0.length c0) l0) (hs1 : Kd.V k58 58 w w.heap.size (fun k_ => P1_ k_) (.slice A1 l1.length c1) l1) (h : Ab.f k l0 l1 = some r) (HT0 : r = true := by decide) :
  Calls Try.prog 5 #[.slice A0 l0.length c0, .slice A1 l1.length c1] w fun e w' => e = .returned (.bool r) ∧ Below w.heap.size w w' := by
 have HT := Aa.mk HT0
 clear HT0
 have HO0 := Aa.mk (show Kd.V k58 58 w w.heap.size (fun k_ => ((P0_ k_ ∨ P1_ k_) ∨ w.heap.size ≤ k_)) (.slice A0 l0.length c0) l0 from Kd.V_mono hs0 (fun k_ hk => .inl (.inl hk)))
 have HO1 := Aa.mk (show Kd.V k58 58 w w.heap.size (fun k_ => ((P0_ k_ ∨ P1_ k_) ∨ w.heap.size ≤ k_)) (.slice A1 l1.length c1) l1 from Kd.V_mono hs1 (fun k_ hk => .inl (.inr hk)))
 have HB := Aa.mk (Below.refl w.heap.size w)
 have H : ((Cn.f k).bind fun bw => (if bw = true then ((B0.f k (([l0, l1] : List (List (S58))))).bind fun bx => (if bx = true then ((Cp.f k l0 l1).bind fun aw => ((Cq.f k l0 l1).bind fun ax => ((Cb.f k l0 l1).bind fun ay => ((An.f aw.2).bind fun aJ => ((An.f ax.2).bind fun aK => ((An.f ay.2).bind fun aM => (if (wrap64 ((wrap64 (aJ + aK)) + aM)) = 0 then ((Aj.f k aw.1).bind fun bz => (if bz = true then ((Aj.f k ax.1).bind fun bB => (if bB = true then ((Aj.f k ay.1).bind fun bv => (Ab.j0 k l0 l1 aw.1 ax.1 ay.1 (!bv))) else (Ab.j0 k l0 l1 aw.1 ax.1 ay.1 true))) else (Ab.j0 k l0 l1 aw.1 ax.1 ay.1 true))) else (Ab.j0 k l0 l1 aw.1 ax.1 ay.1 true)))))))) else (some true))) else (some false))) = some r := h
 clear h
 replace H := Option.bind_eq_some_iff.mp H
 obtain ⟨bw, A30, H⟩ := H
 try dsimp only at H
 have A3 := Aa.mk A30
 clear A30
 by_cases c4 : bw = true
 ·subst c4
  have H1 := H
  rw [if_pos rfl] at H1
  clear H
  have H := H1
  clear H1
  obtain ⟨bJ, bC⟩ : ∃ y_ : List (List (S58)), y_ = (([l0, l1] : List (List (S58)))) := ⟨_, rfl⟩
  (try rw [Option.bind_some] at H); try rw [← bC] at H
  have bj := Aa.mk bC
  clear bC
  replace H := Option.bind_eq_some_iff.mp H
  obtain ⟨bx, A50, H⟩ := H
  try dsimp only at H
  have A5 := Aa.mk A50
  clear A50
  by_cases c6 : bx = true
  ·subst c6
   have H1 := H
   rw [if_pos rfl] at H1
   clear H
   have H := H1
   clear H1
   replace H := Option.bind_eq_some_iff.mp H
   obtain ⟨⟨az, aY⟩, A70, H⟩ := H
   try dsimp only at H
   have A7 := Aa.mk A70
   clear A70
   replace H := Option.bind_eq_some_iff.mp H
   obtain ⟨⟨aN, aZ⟩, A80, H⟩ := H
   try dsimp only at H
   have A8 := Aa.mk A80
   clear A80
   replace H := Option.bind_eq_some_iff.mp H
   obtain ⟨⟨aT, a5⟩, A90, H⟩ := H
   try dsimp only at H
   have A9 := Aa.mk A90
   clear A90
   have HC10 := Aa.mk H
   clear H
   go_enter Try.func5, Try.ntmps5
   go_upto_region 8 with (first | ((with_reducible refine Ap (f := 10) rfl ?_); refine Br (some 17) rfl rfl Try.func10 (by kernel_rfl) rfl #[] rfl (by (try simp only [List.map_toArray, List.map_cons, List.map_nil]); first | done | rfl | (simp only [List.length_drop, List.length_take]; rfl)) ?_; (with_reducible refine (Cn.calls k  true _ A3.out).mono ?_); rintro e w11 ⟨rfl, hb⟩; refine ⟨_, rfl, ?_⟩; have n0_ := Aa.mk (Kd.V_below (by (with_reducible repeat (first | apply Kd.V_alloc | apply Kd.V_drewN | apply Kd.V_drew)); exact HO0.out) hb); have n1_ := Aa.mk (Kd.V_below (by (with_reducible repeat (first | apply Kd.V_alloc | apply Kd.V_drewN | apply Kd.V_drew)); exact HO1.out) hb); have n2_ := Aa.mk (Ai (lU HB.out) hb); clear HO0; clear HO1; clear HB; have HO0 := n0_; have HO1 := n1_; have HB := n2_; clear n0_ n1_ n2_; (try clear hb); (try clear hb2); (try clear hk); (try clear hi)) | ((with_reducible refine Bo (N := 21) rfl ?_); refine Kd.N_lit (Kd.slice 58 k58) _ 22 ?hg (N' := 21) ?hd (xs := ([l0, l1] : List (List (S58)))) (inner := [.slice A0 l0.length c0, .slice A1 l1.length c1]) (ok := (fun k_ => ((P0_ k_ ∨ P1_ k_) ∨ w.heap.size ≤ k_))) (okp := (fun k_ => ((P0_ k_ ∨ P1_ k_) ∨ w.heap.size ≤ k_))) ?hr ?hp (fun _ hk => hk) ((show ∀ k_, w11.heap.size ≤ k_ → (fun k_ => ((P0_ k_ ∨ P1_ k_) ∨ w.heap.size ≤ k_)) k_ from fun k_ hk => (.inr (Nat.le_trans (Af (lU HB.out)) hk))) _ (Nat.le_refl _)) (Below.refl _ _) (Nat.le_refl _) (by simp) ?_; (case hd => rfl); (case hg => rfl); (case hr => first | (go_simp; done) | (go_simp; rfl)); (case hp => exact (Reps.one (show Kd.FK (Kd.slice 58 k58) _ _ l0 [.slice A0 l0.length c0] from (Kd.FK_slice_mk (Kd.V_reads' (Kd.V_mono (ok' := (fun k_ => ((P0_ k_ ∨ P1_ k_) ∨ w.heap.size ≤ k_))) (HO0.out) (fun k_ hk => hk))).2.1 (Kd.V_F (Kd.V_mono (ok' := (fun k_ => ((P0_ k_ ∨ P1_ k_) ∨ w.heap.size ≤ k_))) (HO0.out) (fun k_ hk => hk))))) (Reps.one (show Kd.FK (Kd.slice 58 k58) _ _ l1 [.slice A1 l1.length c1] from (Kd.FK_slice_mk (Kd.V_reads' (Kd.V_mono (ok' := (fun k_ => ((P0_ k_ ∨ P1_ k_) ∨ w.heap.size ≤ k_))) (HO1.out) (fun k_ hk => hk))).2.1 (Kd.V_F (Kd.V_mono (ok' := (fun k_ => ((P0_ k_ ∨ P1_ k_) ∨ w.heap.size ≤ k_))) (HO1.out) (fun k_ hk => hk))))) (Reps.none _ _)))); intro v103 w12 ho13 hb hg_ hnew_; clear hg_ hnew_; (first | rw [← bj.out] at ho13 | (simp only [Int.reduceToNat] at ho13; rw [← bj.out] at ho13)); have n0_ := Aa.mk (Kd.V_elder' (by (with_reducible repeat (first | apply Kd.V_alloc | apply Kd.V_drewN | apply Kd.V_drew)); exact HO0.out) (Kd.N_base ho13) hb); have n1_ := Aa.mk (Kd.V_elder' (by (with_reducible repeat (first | apply Kd.V_alloc | apply Kd.V_drewN | apply Kd.V_drew)); exact HO1.out) (Kd.N_base ho13) hb); have n2_ := Aa.mk (Kd.N_lower ho13 (Af (lU HB.out))); have n3_ := Aa.mk (Ai (lU HB.out) hb); clear HO0; clear HO1; clear HB; have HO0 := n0_; have HO1 := n1_; have ak := n2_; have HB := n3_; clear n0_ n1_ n2_ n3_; clear hb ho13; obtain ⟨dg, dh, di⟩ := Kd.N_slice ak.out; subst di) | ((with_reducible refine Ap (f := 29) rfl ?_); refine Br (some 22) rfl rfl Try.func29 (by kernel_rfl) rfl #[.slice dg bJ.length dh] rfl (by (try simp only [List.map_toArray, List.map_cons, List.map_nil]); first | done | rfl | (simp only [List.length_drop, List.length_take]; rfl)) ?_; (with_reducible refine (B0.calls k _ _ bJ true _ ?side1 ?side2 A5.out).mono ?_); (case side1 => repeat (first | exact (Kd.N_reads' ak.out).2.2 | (with_reducible refine Kd.Bh ?_ _) | (with_reducible refine Kd.Bg ?_ _) | (with_reducible refine Kd.Bp ?_))); (case side2 => exact (Kd.N_reads' ak.out).2.1); rintro e w15 ⟨rfl, hb⟩; refine ⟨_, rfl, ?_⟩; have n0_ := Aa.mk (Kd.V_below (by (with_reducible repeat (first | apply Kd.V_alloc | apply Kd.V_drewN | apply Kd.V_drew)); exact HO0.out) hb); have n1_ := Aa.mk (Kd.V_below (by (with_reducible repeat (first | apply Kd.V_alloc | apply Kd.V_drewN | apply Kd.V_drew)); exact HO1.out) hb); have n2_ := Aa.mk (Kd.N_below (by (with_reducible repeat (first | apply Kd.N_alloc | apply Kd.N_drewN | apply Kd.N_drew)); exact ak.out) hb); have n3_ := Aa.mk (Ai (lU HB.out) hb); clear HO0; clear HO1; clear ak; clear HB; have HO0 := n0_; have HO1 := n1_; have ak := n2_; have HB := n3_; clear n0_ n1_ n2_ n3_; (try clear hb); (try clear hb2); (try clear hk); (try clear hi)) | ((with_reducible refine Ap (f := 23) rfl ?_); refine Br (some 27) rfl rfl Try.func23 (by kernel_rfl) rfl #[.slice A0 l0.length c0, .slice A1 l1.length c1] rfl (by (try simp only [List.map_toArray, List.map_cons, List.map_nil]); first | done | rfl | (simp only [List.length_drop, List.length_take]; rfl)) ?_; (with_reducible refine (Cp.calls k _ _ l0 _ _ l1 az aY _ ?side1 ?side2 ?side3 ?side4 A7.out).mono ?_); (case side1 => repeat (first | exact (Kd.V_reads' HO0.out).2.2 | (with_reducible refine Kd.Bh ?_ _) | (with_reducible refine Kd.Bg ?_ _) | (with_reducible refine Kd.Bp ?_))); (case side2 => exact (Kd.V_reads' HO0.out).2.1); (case side3 => repeat (first | exact (Kd.V_reads' HO1.out).2.2 | (with_reducible refine Kd.Bh ?_ _) | (with_reducible refine Kd.Bg ?_ _) | (with_reducible refine Kd.Bp ?_))); (case side4 => exact (Kd.V_reads' HO1.out).2.1); rintro e w16 ⟨v108, rfl, ho0, hb⟩; refine ⟨_, rfl, ?_⟩; have n0_ := Aa.mk (Kd.V_elder' (by (with_reducible repeat (first | apply Kd.V_alloc | apply Kd.V_drewN | apply Kd.V_drew)); exact HO0.out) (Kd.Ao ho0) hb); have n1_ := Aa.mk (Kd.V_elder' (by (with_reducible repeat (first | apply Kd.V_alloc | apply Kd.V_drewN | apply Kd.V_drew)); exact HO1.out) (Kd.Ao ho0) hb); have n2_ := Aa.mk (Kd.N_elder' (by (with_reducible repeat (first | apply Kd.N_alloc | apply Kd.N_drewN | apply Kd.N_drew)); exact ak.out) (Kd.Ao ho0) hb); have n3_ := Aa.mk (Kd.Bv (Kd.Cm (M := fun k_ => (w.heap.size ≤ k_)) ho0 (Af (lU HB.out)) (fun k_ h_ => h_)) (Af (lU HB.out))); have n4_ := Aa.mk (Ai (lU HB.out) hb); clear HO0; clear HO1; clear ak; clear HB; have HO0 := n0_; have HO1 := n1_; have ak := n2_; have al := n3_; have HB := n4_; clear n0_ n1_ n2_ n3_ n4_; (try clear hb); (try clear hb2); (try clear hk); (try clear hi); (try clear ho0)) | ((with_reducible refine Ap (f := 25) rfl ?_); refine Br (some 33) rfl rfl Try.func25 (by kernel_rfl) rfl #[.slice A0 l0.length c0, .slice A1 l1.length c1] rfl (by (try simp only [List.map_toArray, List.map_cons, List.map_nil]); first | done | rfl | (simp only [List.length_drop, List.length_take]; rfl)) ?_; (with_reducible refine (Cq.calls k _ _ l0 _ _ l1 aN aZ _ ?side1 ?side2 ?side3 ?side4 A8.out).mono ?_); (case side1 => repeat (first | exact (Kd.V_reads' HO0.out).2.2 | (with_reducible refine Kd.Bh ?_ _) | (with_reducible refine Kd.Bg ?_ _) | (with_reducible refine Kd.Bp ?_))); (case side2 => exact (Kd.V_reads' HO0.out).2.1); (case side3 => repeat (first | exact (Kd.V_reads' HO1.out).2.2 | (with_reducible refine Kd.Bh ?_ _) | (with_reducible refine Kd.Bg ?_ _) | (with_reducible refine Kd.Bp ?_))); (case side4 => exact (Kd.V_reads' HO1.out).2.1); rintro e w17 ⟨v112, rfl, ho0, hb⟩; refine ⟨_, rfl, ?_⟩; have n0_ := Aa.mk (Kd.V_elder' (by (with_reducible repeat (first | apply Kd.V_alloc | apply Kd.V_drewN | apply Kd.V_drew)); exact HO0.out) (Kd.Ao ho0) hb); have n1_ := Aa.mk (Kd.V_elder' (by (with_reducible repeat (first | apply Kd.V_alloc | apply Kd.V_drewN | apply Kd.V_drew)); exact HO1.out) (Kd.Ao ho0) hb); have n2_ := Aa.mk (Kd.N_elder' (by (with_reducible repeat (first | apply Kd.N_alloc | apply Kd.N_drewN | apply Kd.N_drew)); exact ak.out) (Kd.Ao ho0) hb); have n3_ := Aa.mk (Kd.As (by exact rU <| al.out) (Kd.Ao ho0) hb); have n4_ := Aa.mk (Kd.Bv (Kd.Bf (Kd.Cm (M := fun k_ => (w.heap.size ≤ k_)) ho0 (Af (lU HB.out)) (fun k_ h_ => h_)) (Kd.Bw (by exact rU <| al.out))) (Af (lU HB.out))); have n5_ := Aa.mk (Ai (lU HB.out) hb); clear HO0; clear HO1; clear ak; clear al; clear HB; have HO0 := n0_; have HO1 := n1_; have ak := n2_; have al := n3_; have an := n4_; have HB := n5_; clear n0_ n1_ n2_ n3_ n4_ n5_; (try clear hb); (try clear hb2); (try clear hk); (try clear hi); (try clear ho0)) | ((with_reducible refine Ap (f := 27) rfl ?_); refine Br (some 39) rfl rfl Try.func27 (by kernel_rfl) rfl #[.slice A0 l0.length c0, .slice A1 l1.length c1] rfl (by (try simp only [List.map_toArray, List.map_cons, List.map_nil]); first | done | rfl | (simp only [List.length_drop, List.length_take]; rfl)) ?_; (with_reducible refine (Cb.calls k _ _ l0 _ _ l1 aT a5 _ ?side1 ?side2 ?side3 ?side4 A9.out).mono ?_); (case side1 => repeat (first | exact (Kd.V_reads' HO0.out).2.2 | (with_reducible refine Kd.Bh ?_ _) | (with_reducible refine Kd.Bg ?_ _) | (with_reducible refine Kd.Bp ?_))); (case side2 => exact (Kd.V_reads' HO0.out).2.1); (case side3 => repeat (first | exact (Kd.V_reads' HO1.out).2.2 | (with_reducible refine Kd.Bh ?_ _) | (with_reducible refine Kd.Bg ?_ _) | (with_reducible refine Kd.Bp ?_))); (case side4 => exact (Kd.V_reads' HO1.out).2.1); rintro e w18 ⟨v116, rfl, ho0, hb⟩; refine ⟨_, rfl, ?_⟩; have n0_ := Aa.mk (Kd.V_elder' (by (with_reducible repeat (first | apply Kd.V_alloc | apply Kd.V_drewN | apply Kd.V_drew)); exact HO0.out) (Kd.Ao ho0) hb); have n1_ := Aa.mk (Kd.V_elder' (by (with_reducible repeat (first | apply Kd.V_alloc | apply Kd.V_drewN | apply Kd.V_drew)); exact HO1.out) (Kd.Ao ho0) hb); have n2_ := Aa.mk (Kd.N_elder' (by (with_reducible repeat (first | apply Kd.N_alloc | apply Kd.N_drewN | apply Kd.N_drew)); exact ak.out) (Kd.Ao ho0) hb); have n3_ := Aa.mk (Kd.As (by exact rU <| al.out) (Kd.Ao ho0) hb); have n4_ := Aa.mk (Kd.As (by exact rU <| an.out) (Kd.Ao ho0) hb); have n5_ := Aa.mk (Kd.Bv (Kd.Bf (Kd.Bf (Kd.Cm (M := fun k_ => (w.heap.size ≤ k_)) ho0 (Af (lU HB.out)) (fun k_ h_ => h_)) (Kd.Bw (by exact rU <| al.out))) (Kd.Bw (by exact rU <| an.out))) (Af (lU HB.out))); have n6_ := Aa.mk (Ai (lU HB.out) hb); clear HO0; clear HO1; clear ak; clear al; clear an; clear HB; have HO0 := n0_; have HO1 := n1_; have ak := n2_; have al := n3_; have an := n4_; have ap := n5_; have HB := n6_; clear n0_ n1_ n2_ n3_ n4_ n5_ n6_; (try clear hb); (try clear hb2); (try clear hk); (try clear hi); (try clear ho0)))
   (try simp only [Act.put, sA, sB, sC])
   go_cut [65] (fun v65 wc => ∃ (kq : Nat) (bk : Bool), v65 = .bool bk ∧ Aa (Ab.j0 kq l0 l1 az aN aT bk = some r) ∧ Aa (kq ≤ k) ∧ Aa (Kd.V k58 58 wc w.heap.size (fun k_ => ((P0_ k_ ∨ P1_ k_) ∨ w.heap.size ≤ k_) ∧ some k_ ≠ (v108 : Value).ownBlock ∧ some k_ ≠ (v112 : Value).ownBlock ∧ some k_ ≠ (v116 : Value).ownBlock) (.slice A0 l0.length c0) l0) ∧ Aa (Kd.V k58 58 wc w.heap.size (fun k_ => ((P0_ k_ ∨ P1_ k_) ∨ w.heap.size ≤ k_) ∧ some k_ ≠ (v108 : Value).ownBlock ∧ some k_ ≠ (v112 : Value).ownBlock ∧ some k_ ≠ (v116 : Value).ownBlock) (.slice A1 l1.length c1) l1) ∧ Aa (Kd.R k58 58 wc w.heap.size (fun k_ => (w.heap.size ≤ k_) ∧ some k_ ≠ (v112 : Value).ownBlock ∧ some k_ ≠ (v116 : Value).ownBlock) v108 az) ∧ Aa (Kd.R k58 58 wc w.heap.size (fun k_ => (w.heap.size ≤ k_) ∧ some k_ ≠ (v108 : Value).ownBlock ∧ some k_ ≠ (v116 : Value).ownBlock) v112 aN) ∧ Aa (Kd.R k58 58 wc w.heap.size (fun k_ => (w.heap.size ≤ k_) ∧ some k_ ≠ (v108 : Value).ownBlock ∧ some k_ ≠ (v112 : Value).ownBlock) v116 aT) ∧ Aa (Below w.heap.size w wc))
   case first =>
    have H := HC10.out
    clear HC10
    replace H := Option.bind_eq_some_iff.mp H
    obtain ⟨aJ, A190, H⟩ := H
    try dsimp only at H
    have A19 := Aa.mk A190
    clear A190
    replace H := Option.bind_eq_some_iff.mp H
    obtain ⟨aK, A200, H⟩ := H
    try dsimp only at H
    have A20 := Aa.mk A200
    clear A200
    replace H := Option.bind_eq_some_iff.mp H
    obtain ⟨aM, A210, H⟩ := H
    try dsimp only at H
    have A21 := Aa.mk A210
    clear A210
    by_cases c22 : (wrap64 ((wrap64 (aJ + aK)) + aM)) = 0
    ·rw [if_pos c22] at H
     have aQ : ((wrap64 ((wrap64 (aJ + aK)) + aM)) == 0) = true := beq_iff_eq.mpr c22
     have bl : ((wrap64 ((wrap64 (aJ + aK)) + aM)) != 0) = false := bne_eq_false_iff_eq.mpr c22
     clear c22
     (first | rw [aQ] | (simp only [i64_w, i32_w]; rw [aQ]) | skip)
     replace H := Option.bind_eq_some_iff.mp H
     obtain ⟨bz, A230, H⟩ := H
     try dsimp only at H
     have A23 := Aa.mk A230
     clear A230
     by_cases c24 : bz = true
     ·subst c24
      have H1 := H
      rw [if_pos rfl] at H1
      clear H
      have H := H1
      clear H1
      replace H := Option.bind_eq_some_iff.mp H
      obtain ⟨bB, A250, H⟩ := H
      try dsimp only at H
      have A25 := Aa.mk A250
      clear A250
      by_cases c26 : bB = true
      ·subst c26
       have H1 := H
       rw [if_pos rfl] at H1
       clear H
       have H := H1
       clear H1
       replace H := Option.bind_eq_some_iff.mp H
       obtain ⟨bv, A270, H⟩ := H
       try dsimp only at H
       have A27 := Aa.mk A270
       clear A270
       have H' := Aa.mk H
       clear H
       go_wp2_with (first | ((with_reducible refine Ap (f := 14) rfl ?_); refine Br (some 43) rfl rfl Try.func14 (by kernel_rfl) rfl #[.int .i64 aY] rfl (by (try simp only [List.map_toArray, List.map_cons, List.map_nil]); first | done | rfl | (simp only [List.length_drop, List.length_take]; rfl)) ?_; (with_reducible refine (An.calls aY aJ _ A19.out).mono ?_); rintro e w' ⟨rfl, ⟨nd, rfl⟩⟩; refine ⟨_, rfl, ?_⟩) | ((with_reducible refine Ap (f := 14) rfl ?_); refine Br (some 45) rfl rfl Try.func14 (by kernel_rfl) rfl #[.int .i64 aZ] rfl (by (try simp only [List.map_toArray, List.map_cons, List.map_nil]); first | done | rfl | (simp only [List.length_drop, List.length_take]; rfl)) ?_; (with_reducible refine (An.calls aZ aK _ A20.out).mono ?_); rintro e w' ⟨rfl, ⟨nd, rfl⟩⟩; refine ⟨_, rfl, ?_⟩) | ((with_reducible refine Ap (f := 14) rfl ?_); refine Br (some 48) rfl rfl Try.func14 (by kernel_rfl) rfl #[.int .i64 a5] rfl (by (try simp only [List.map_toArray, List.map_cons, List.map_nil]); first | done | rfl | (simp only [List.length_drop, List.length_take]; rfl)) ?_; (with_reducible refine (An.calls a5 aM _ A21.out).mono ?_); rintro e w' ⟨rfl, ⟨nd, rfl⟩⟩; refine ⟨_, rfl, ?_⟩; obtain ⟨dT, dU, dj⟩ := Kd.Bi al.out; subst dj) | (go_at_call 30; (with_reducible refine (Aj.calls k _ _ az true _ ?side1 ?side2 A23.out).mono ?_); (case side1 => repeat (first | exact (Kd.Aq al.out).2.2 | (with_reducible refine Kd.Bh ?_ _) | (with_reducible refine Kd.Bg ?_ _) | (with_reducible refine Kd.Bp ?_))); (case side2 => exact (Kd.Aq al.out).2.1); rintro e w29 ⟨rfl, hb⟩; have n0_ := Aa.mk (Kd.V_below (by (with_reducible repeat (first | apply Kd.V_alloc | apply Kd.V_drewN | apply Kd.V_drew)); exact HO0.out) hb); have n1_ := Aa.mk (Kd.V_below (by (with_reducible repeat (first | apply Kd.V_alloc | apply Kd.V_drewN | apply Kd.V_drew)); exact HO1.out) hb); have n2_ := Aa.mk (Kd.N_below (by (with_reducible repeat (first | apply Kd.N_alloc | apply Kd.N_drewN | apply Kd.N_drew)); exact ak.out) hb); have n3_ := Aa.mk (Kd.At (by exact rU <| al.out) hb); have n4_ := Aa.mk (Kd.At (by exact rU <| an.out) hb); have n5_ := Aa.mk (Kd.At (by exact rU <| ap.out) hb); have n6_ := Aa.mk (Ai (lU HB.out) hb); clear HO0; clear HO1; clear ak; clear al; clear an; clear ap; clear HB; have HO0 := n0_; have HO1 := n1_; have ak := n2_; have al := n3_; have an := n4_; have ap := n5_; have HB := n6_; clear n0_ n1_ n2_ n3_ n4_ n5_ n6_; (try clear hb); (try clear hb2); (try clear hk); (try clear hi); obtain ⟨dV, dW, dk⟩ := Kd.Bi an.out; subst dk) | (go_at_call 30; (with_reducible refine (Aj.calls k _ _ aN true _ ?side1 ?side2 A25.out).mono ?_); (case side1 => repeat (first | exact (Kd.Aq an.out).2.2 | (with_reducible refine Kd.Bh ?_ _) | (with_reducible refine Kd.Bg ?_ _) | (with_reducible refine Kd.Bp ?_))); (case side2 => exact (Kd.Aq an.out).2.1); rintro e w31 ⟨rfl, hb⟩; have n0_ := Aa.mk (Kd.V_below (by (with_reducible repeat (first | apply Kd.V_alloc | apply Kd.V_drewN | apply Kd.V_drew)); exact HO0.out) hb); have n1_ := Aa.mk (Kd.V_below (by (with_reducible repeat (first | apply Kd.V_alloc | apply Kd.V_drewN | apply Kd.V_drew)); exact HO1.out) hb); have n2_ := Aa.mk (Kd.N_below (by (with_reducible repeat (first | apply Kd.N_alloc | apply Kd.N_drewN | apply Kd.N_drew)); exact ak.out) hb); have n3_ := Aa.mk (Kd.At (by exact rU <| al.out) hb); have n4_ := Aa.mk (Kd.At (by exact rU <| an.out) hb); have n5_ := Aa.mk (Kd.At (by exact rU <| ap.out) hb); have n6_ := Aa.mk (Ai (lU HB.out) hb); clear HO0; clear HO1; clear ak; clear al; clear an; clear ap; clear HB; have HO0 := n0_; have HO1 := n1_; have ak := n2_; have al := n3_; have an := n4_; have ap := n5_; have HB := n6_; clear n0_ n1_ n2_ n3_ n4_ n5_ n6_; (try clear hb); (try clear hb2); (try clear hk); (try clear hi); obtain ⟨dX, dY, dl⟩ := Kd.Bi ap.out; subst dl) | (go_at_call 30; (with_reducible refine (Aj.calls k _ _ aT bv _ ?side1 ?side2 A27.out).mono ?_); (case side1 => repeat (first | exact (Kd.Aq ap.out).2.2 | (with_reducible refine Kd.Bh ?_ _) | (with_reducible refine Kd.Bg ?_ _) | (with_reducible refine Kd.Bp ?_))); (case side2 => exact (Kd.Aq ap.out).2.1); rintro e w33 ⟨rfl, hb⟩; have n0_ := Aa.mk (Kd.V_below (by (with_reducible repeat (first | apply Kd.V_alloc | apply Kd.V_drewN | apply Kd.V_drew)); exact HO0.out) hb); have n1_ := Aa.mk (Kd.V_below (by (with_reducible repeat (first | apply Kd.V_alloc | apply Kd.V_drewN | apply Kd.V_drew)); exact HO1.out) hb); have n2_ := Aa.mk (Kd.N_below (by (with_reducible repeat (first | apply Kd.N_alloc | apply Kd.N_drewN | apply Kd.N_drew)); exact ak.out) hb); have n3_ := Aa.mk (Kd.At (by exact rU <| al.out) hb); have n4_ := Aa.mk (Kd.At (by exact rU <| an.out) hb); have n5_ := Aa.mk (Kd.At (by exact rU <| ap.out) hb); have n6_ := Aa.mk (Ai (lU HB.out) hb); clear HO0; clear HO1; clear ak; clear al; clear an; clear ap; clear HB; have HO0 := n0_; have HO1 := n1_; have ak := n2_; have al := n3_; have an := n4_; have ap := n5_; have HB := n6_; clear n0_ n1_ n2_ n3_ n4_ n5_ n6_; (try clear hb); (try clear hb2); (try clear hk); (try clear hi)))
       go_meet
       case rel => exact ⟨_, (!bv), (by first | rfl | (simp; done) | (simp [*]; done)), H', ⟨by first | omega | exact Nat.le_refl _⟩, ⟨by (with_reducible repeat (first | apply Kd.V_alloc | apply Kd.V_drewN | apply Kd.V_drew)); exact Kd.V_mono HO0.out (fun _ hk => ⟨hk.1.1.1.1, ⟨hk.1.1.2, ⟨hk.1.2, hk.2⟩⟩⟩)⟩, ⟨by (with_reducible repeat (first | apply Kd.V_alloc | apply Kd.V_drewN | apply Kd.V_drew)); exact Kd.V_mono HO1.out (fun _ hk => ⟨hk.1.1.1.1, ⟨hk.1.1.2, ⟨hk.1.2, hk.2⟩⟩⟩)⟩, ⟨by exact rU <| Kd.Bj al.out (fun _ hk => ⟨hk.1.1.1, ⟨hk.1.2, hk.2⟩⟩)⟩, ⟨by exact rU <| Kd.Bj an.out (fun _ hk => ⟨hk.1.1.1, ⟨hk.1.2, hk.2⟩⟩)⟩, ⟨by exact rU <| Kd.Bj ap.out (fun _ hk => ⟨hk.1.1.1, ⟨hk.1.2, hk.2⟩⟩)⟩, ⟨by repeat (first | (with_reducible first | exact HB.out | apply Ae | apply Ac | apply Ad) | exact HB.out)⟩⟩
      ·replace c26 := Bool.eq_false_iff.mpr c26
       subst c26
       have H1 := H
       rw [if_neg (show ¬ (false = true) by decide)] at H1
       clear H
       have H := H1
       clear H1
       have H' := Aa.mk H
       clear H
       go_wp2_with (first | ((with_reducible refine Ap (f := 14) rfl ?_); refine Br (some 43) rfl rfl Try.func14 (by kernel_rfl) rfl #[.int .i64 aY] rfl (by (try simp only [List.map_toArray, List.map_cons, List.map_nil]); first | done | rfl | (simp only [List.length_drop, List.length_take]; rfl)) ?_; (with_reducible refine (An.calls aY aJ _ A19.out).mono ?_); rintro e w' ⟨rfl, ⟨nd, rfl⟩⟩; refine ⟨_, rfl, ?_⟩) | ((with_reducible refine Ap (f := 14) rfl ?_); refine Br (some 45) rfl rfl Try.func14 (by kernel_rfl) rfl #[.int .i64 aZ] rfl (by (try simp only [List.map_toArray, List.map_cons, List.map_nil]); first | done | rfl | (simp only [List.length_drop, List.length_take]; rfl)) ?_; (with_reducible refine (An.calls aZ aK _ A20.out).mono ?_); rintro e w' ⟨rfl, ⟨nd, rfl⟩⟩; refine ⟨_, rfl, ?_⟩) | ((with_reducible refine Ap (f := 14) rfl ?_); refine Br (some 48) rfl rfl Try.func14 (by kernel_rfl) rfl #[.int .i64 a5] rfl (by (try simp only [List.map_toArray, List.map_cons, List.map_nil]); first | done | rfl | (simp only [List.length_drop, List.length_take]; rfl)) ?_; (with_reducible refine (An.calls a5 aM _ A21.out).mono ?_); rintro e w' ⟨rfl, ⟨nd, rfl⟩⟩; refine ⟨_, rfl, ?_⟩; obtain ⟨dZ, d5, dm⟩ := Kd.Bi al.out; subst dm) | (go_at_call 30; (with_reducible refine (Aj.calls k _ _ az true _ ?side1 ?side2 A23.out).mono ?_); (case side1 => repeat (first | exact (Kd.Aq al.out).2.2 | (with_reducible refine Kd.Bh ?_ _) | (with_reducible refine Kd.Bg ?_ _) | (with_reducible refine Kd.Bp ?_))); (case side2 => exact (Kd.Aq al.out).2.1); rintro e w35 ⟨rfl, hb⟩; have n0_ := Aa.mk (Kd.V_below (by (with_reducible repeat (first | apply Kd.V_alloc | apply Kd.V_drewN | apply Kd.V_drew)); exact HO0.out) hb); have n1_ := Aa.mk (Kd.V_below (by (with_reducible repeat (first | apply Kd.V_alloc | apply Kd.V_drewN | apply Kd.V_drew)); exact HO1.out) hb); have n2_ := Aa.mk (Kd.N_below (by (with_reducible repeat (first | apply Kd.N_alloc | apply Kd.N_drewN | apply Kd.N_drew)); exact ak.out) hb); have n3_ := Aa.mk (Kd.At (by exact rU <| al.out) hb); have n4_ := Aa.mk (Kd.At (by exact rU <| an.out) hb); have n5_ := Aa.mk (Kd.At (by exact rU <| ap.out) hb); have n6_ := Aa.mk (Ai (lU HB.out) hb); clear HO0; clear HO1; clear ak; clear al; clear an; clear ap; clear HB; have HO0 := n0_; have HO1 := n1_; have ak := n2_; have al := n3_; have an := n4_; have ap := n5_; have HB := n6_; clear n0_ n1_ n2_ n3_ n4_ n5_ n6_; (try clear hb); (try clear hb2); (try clear hk); (try clear hi); obtain ⟨d6, d7, dn⟩ := Kd.Bi an.out; subst dn) | (go_at_call 30; (with_reducible refine (Aj.calls k _ _ aN false _ ?side1 ?side2 A25.out).mono ?_); (case side1 => repeat (first | exact (Kd.Aq an.out).2.2 | (with_reducible refine Kd.Bh ?_ _) | (with_reducible refine Kd.Bg ?_ _) | (with_reducible refine Kd.Bp ?_))); (case side2 => exact (Kd.Aq an.out).2.1); rintro e w37 ⟨rfl, hb⟩; have n0_ := Aa.mk (Kd.V_below (by (with_reducible repeat (first | apply Kd.V_alloc | apply Kd.V_drewN | apply Kd.V_drew)); exact HO0.out) hb); have n1_ := Aa.mk (Kd.V_below (by (with_reducible repeat (first | apply Kd.V_alloc | apply Kd.V_drewN | apply Kd.V_drew)); exact HO1.out) hb); have n2_ := Aa.mk (Kd.N_below (by (with_reducible repeat (first | apply Kd.N_alloc | apply Kd.N_drewN | apply Kd.N_drew)); exact ak.out) hb); have n3_ := Aa.mk (Kd.At (by exact rU <| al.out) hb); have n4_ := Aa.mk (Kd.At (by exact rU <| an.out) hb); have n5_ := Aa.mk (Kd.At (by exact rU <| ap.out) hb); have n6_ := Aa.mk (Ai (lU HB.out) hb); clear HO0; clear HO1; clear ak; clear al; clear an; clear ap; clear HB; have HO0 := n0_; have HO1 := n1_; have ak := n2_; have al := n3_; have an := n4_; have ap := n5_; have HB := n6_; clear n0_ n1_ n2_ n3_ n4_ n5_ n6_; (try clear hb); (try clear hb2); (try clear hk); (try clear hi)))
       go_meet
       case rel => exact ⟨_, (true), (by first | rfl | (simp; done) | (simp [*]; done)), H', ⟨by first | omega | exact Nat.le_refl _⟩, ⟨by (with_reducible repeat (first | apply Kd.V_alloc | apply Kd.V_drewN | apply Kd.V_drew)); exact Kd.V_mono HO0.out (fun _ hk => ⟨hk.1.1.1.1, ⟨hk.1.1.2, ⟨hk.1.2, hk.2⟩⟩⟩)⟩, ⟨by (with_reducible repeat (first | apply Kd.V_alloc | apply Kd.V_drewN | apply Kd.V_drew)); exact Kd.V_mono HO1.out (fun _ hk => ⟨hk.1.1.1.1, ⟨hk.1.1.2, ⟨hk.1.2, hk.2⟩⟩⟩)⟩, ⟨by exact rU <| Kd.Bj al.out (fun _ hk => ⟨hk.1.1.1, ⟨hk.1.2, hk.2⟩⟩)⟩, ⟨by exact rU <| Kd.Bj an.out (fun _ hk => ⟨hk.1.1.1, ⟨hk.1.2, hk.2⟩⟩)⟩, ⟨by exact rU <| Kd.Bj ap.out (fun _ hk => ⟨hk.1.1.1, ⟨hk.1.2, hk.2⟩⟩)⟩, ⟨by repeat (first | (with_reducible first | exact HB.out | apply Ae | apply Ac | apply Ad) | exact HB.out)⟩⟩
     ·replace c24 := Bool.eq_false_iff.mpr c24
      subst c24
      have H1 := H
      rw [if_neg (show ¬ (false = true) by decide)] at H1
      clear H
      have H := H1
      clear H1
      have H' := Aa.mk H
      clear H
      go_wp2_with (first | ((with_reducible refine Ap (f := 14) rfl ?_); refine Br (some 43) rfl rfl Try.func14 (by kernel_rfl) rfl #[.int .i64 aY] rfl (by (try simp only [List.map_toArray, List.map_cons, List.map_nil]); first | done | rfl | (simp only [List.length_drop, List.length_take]; rfl)) ?_; (with_reducible refine (An.calls aY aJ _ A19.out).mono ?_); rintro e w' ⟨rfl, ⟨nd, rfl⟩⟩; refine ⟨_, rfl, ?_⟩) | ((with_reducible refine Ap (f := 14) rfl ?_); refine Br (some 45) rfl rfl Try.func14 (by kernel_rfl) rfl #[.int .i64 aZ] rfl (by (try simp only [List.map_toArray, List.map_cons, List.map_nil]); first | done | rfl | (simp only [List.length_drop, List.length_take]; rfl)) ?_; (with_reducible refine (An.calls aZ aK _ A20.out).mono ?_); rintro e w' ⟨rfl, ⟨nd, rfl⟩⟩; refine ⟨_, rfl, ?_⟩) | ((with_reducible refine Ap (f := 14) rfl ?_); refine Br (some 48) rfl rfl Try.func14 (by kernel_rfl) rfl #[.int .i64 a5] rfl (by (try simp only [List.map_toArray, List.map_cons, List.map_nil]); first | done | rfl | (simp only [List.length_drop, List.length_take]; rfl)) ?_; (with_reducible refine (An.calls a5 aM _ A21.out).mono ?_); rintro e w' ⟨rfl, ⟨nd, rfl⟩⟩; refine ⟨_, rfl, ?_⟩; obtain ⟨d8, d9, dp⟩ := Kd.Bi al.out; subst dp) | (go_at_call 30; (with_reducible refine (Aj.calls k _ _ az false _ ?side1 ?side2 A23.out).mono ?_); (case side1 => repeat (first | exact (Kd.Aq al.out).2.2 | (with_reducible refine Kd.Bh ?_ _) | (with_reducible refine Kd.Bg ?_ _) | (with_reducible refine Kd.Bp ?_))); (case side2 => exact (Kd.Aq al.out).2.1); rintro e w39 ⟨rfl, hb⟩; have n0_ := Aa.mk (Kd.V_below (by (with_reducible repeat (first | apply Kd.V_alloc | apply Kd.V_drewN | apply Kd.V_drew)); exact HO0.out) hb); have n1_ := Aa.mk (Kd.V_below (by (with_reducible repeat (first | apply Kd.V_alloc | apply Kd.V_drewN | apply Kd.V_drew)); exact HO1.out) hb); have n2_ := Aa.mk (Kd.N_below (by (with_reducible repeat (first | apply Kd.N_alloc | apply Kd.N_drewN | apply Kd.N_drew)); exact ak.out) hb); have n3_ := Aa.mk (Kd.At (by exact rU <| al.out) hb); have n4_ := Aa.mk (Kd.At (by exact rU <| an.out) hb); have n5_ := Aa.mk (Kd.At (by exact rU <| ap.out) hb); have n6_ := Aa.mk (Ai (lU HB.out) hb); clear HO0; clear HO1; clear ak; clear al; clear an; clear ap; clear HB; have HO0 := n0_; have HO1 := n1_; have ak := n2_; have al := n3_; have an := n4_; have ap := n5_; have HB := n6_; clear n0_ n1_ n2_ n3_ n4_ n5_ n6_; (try clear hb); (try clear hb2); (try clear hk); (try clear hi)))
      go_meet
      case rel => exact ⟨_, (true), (by first | rfl | (simp; done) | (simp [*]; done)), H', ⟨by first | omega | exact Nat.le_refl _⟩, ⟨by (with_reducible repeat (first | apply Kd.V_alloc | apply Kd.V_drewN | apply Kd.V_drew)); exact Kd.V_mono HO0.out (fun _ hk => ⟨hk.1.1.1.1, ⟨hk.1.1.2, ⟨hk.1.2, hk.2⟩⟩⟩)⟩, ⟨by (with_reducible repeat (first | apply Kd.V_alloc | apply Kd.V_drewN | apply Kd.V_drew)); exact Kd.V_mono HO1.out (fun _ hk => ⟨hk.1.1.1.1, ⟨hk.1.1.2, ⟨hk.1.2, hk.2⟩⟩⟩)⟩, ⟨by exact rU <| Kd.Bj al.out (fun _ hk => ⟨hk.1.1.1, ⟨hk.1.2, hk.2⟩⟩)⟩, ⟨by exact rU <| Kd.Bj an.out (fun _ hk => ⟨hk.1.1.1, ⟨hk.1.2, hk.2⟩⟩)⟩, ⟨by exact rU <| Kd.Bj ap.out (fun _ hk => ⟨hk.1.1.1, ⟨hk.1.2, hk.2⟩⟩)⟩, ⟨by repeat (first | (with_reducible first | exact HB.out | apply Ae | apply Ac | apply Ad) | exact HB.out)⟩⟩
    ·rw [if_neg c22] at H
     have aQ : ((wrap64 ((wrap64 (aJ + aK)) + aM)) == 0) = false := beq_eq_false_iff_ne.mpr c22
     have bl : ((wrap64 ((wrap64 (aJ + aK)) + aM)) != 0) = true := bne_iff_ne.mpr c22
     (first | rw [aQ] | (simp only [i64_w, i32_w]; rw [aQ]) | skip)
     have H' := Aa.mk H
     clear H
     go_wp2_with (first | ((with_reducible refine Ap (f := 14) rfl ?_); refine Br (some 43) rfl rfl Try.func14 (by kernel_rfl) rfl #[.int .i64 aY] rfl (by (try simp only [List.map_toArray, List.map_cons, List.map_nil]); first | done | rfl | (simp only [List.length_drop, List.length_take]; rfl)) ?_; (with_reducible refine (An.calls aY aJ _ A19.out).mono ?_); rintro e w' ⟨rfl, ⟨nd, rfl⟩⟩; refine ⟨_, rfl, ?_⟩) | ((with_reducible refine Ap (f := 14) rfl ?_); refine Br (some 45) rfl rfl Try.func14 (by kernel_rfl) rfl #[.int .i64 aZ] rfl (by (try simp only [List.map_toArray, List.map_cons, List.map_nil]); first | done | rfl | (simp only [List.length_drop, List.length_take]; rfl)) ?_; (with_reducible refine (An.calls aZ aK _ A20.out).mono ?_); rintro e w' ⟨rfl, ⟨nd, rfl⟩⟩; refine ⟨_, rfl, ?_⟩) | ((with_reducible refine Ap (f := 14) rfl ?_); refine Br (some 48) rfl rfl Try.func14 (by kernel_rfl) rfl #[.int .i64 a5] rfl (by (try simp only [List.map_toArray, List.map_cons, List.map_nil]); first | done | rfl | (simp only [List.length_drop, List.length_take]; rfl)) ?_; (with_reducible refine (An.calls a5 aM _ A21.out).mono ?_); rintro e w' ⟨rfl, ⟨nd, rfl⟩⟩; refine ⟨_, rfl, ?_⟩))
     go_meet
     case rel => exact ⟨_, (true), (by first | rfl | (simp; done) | (simp [*]; done)), H', ⟨by first | omega | exact Nat.le_refl _⟩, ⟨by (with_reducible repeat (first | apply Kd.V_alloc | apply Kd.V_drewN | apply Kd.V_drew)); exact Kd.V_mono HO0.out (fun _ hk => ⟨hk.1.1.1.1, ⟨hk.1.1.2, ⟨hk.1.2, hk.2⟩⟩⟩)⟩, ⟨by (with_reducible repeat (first | apply Kd.V_alloc | apply Kd.V_drewN | apply Kd.V_drew)); exact Kd.V_mono HO1.out (fun _ hk => ⟨hk.1.1.1.1, ⟨hk.1.1.2, ⟨hk.1.2, hk.2⟩⟩⟩)⟩, ⟨by exact rU <| Kd.Bj al.out (fun _ hk => ⟨hk.1.1.1, ⟨hk.1.2, hk.2⟩⟩)⟩, ⟨by exact rU <| Kd.Bj an.out (fun _ hk => ⟨hk.1.1.1, ⟨hk.1.2, hk.2⟩⟩)⟩, ⟨by exact rU <| Kd.Bj ap.out (fun _ hk => ⟨hk.1.1.1, ⟨hk.1.2, hk.2⟩⟩)⟩, ⟨by repeat (first | (with_reducible first | exact HB.out | apply Ae | apply Ac | apply Ad) | exact HB.out)⟩⟩
   case rest =>
    clear HC10
    try clear c1
    try clear c2
    try clear p2
    try clear c4
    try clear c5
    try clear c6
    try clear p6
    try clear c10
    try clear c14
    try clear c22
    try clear aQ
    try clear bl
    try clear c23
    try clear c24
    try clear c25
    try clear c26
    try clear c27
    try clear c29
    obtain ⟨kq, bk, rfl, HA, HJ9, ai, aj, af, ag, ah, HB⟩ := hcut
    cases kq with
    | zero => exact absurd HA.out (by simp [Ab.j0])
    | succ kj9 =>
     have H := HA.out
     clear HA
     simp only [Ab.j0] at H
     by_cases c40 : bk = true
     ·subst c40
      have H1 := H
      rw [if_pos rfl] at H1
      clear H
      have H := H1
      clear H1
      exact absurd (H.trans (congrArg some HT.out)) (by decide)
     ·replace c40 := Bool.eq_false_iff.mpr c40
      subst c40
      have H1 := H
      rw [if_neg (show ¬ (false = true) by decide)] at H1
      clear H
      have H := H1
      clear H1
      obtain ⟨cq, bD⟩ : ∃ y_ : List (List (S58)), y_ = (([l0, l1] : List (List (S58)))) := ⟨_, rfl⟩
      (try rw [Option.bind_some] at H); try rw [← bD] at H
      have bN := Aa.mk bD
      clear bD
      replace H := Option.bind_eq_some_iff.mp H
      obtain ⟨⟨am, ao⟩, A410, H⟩ := H
      try dsimp only at H
      have A41 := Aa.mk A410
      clear A410
      have H' := Aa.mk H
      clear H
      go_wp2_with (first | ((with_reducible refine Bo (N := 69) rfl ?_); refine Kd.N_lit (Kd.slice 58 k58) _ 22 ?hg (N' := 69) ?hd (xs := ([l0, l1] : List (List (S58)))) (inner := [.slice A0 l0.length c0, .slice A1 l1.length c1]) (ok := (fun k_ => ((P0_ k_ ∨ P1_ k_) ∨ w.heap.size ≤ k_) ∧ some k_ ≠ (v108 : Value).ownBlock ∧ some k_ ≠ (v112 : Value).ownBlock ∧ some k_ ≠ (v116 : Value).ownBlock)) (okp := (fun k_ => ((P0_ k_ ∨ P1_ k_) ∨ w.heap.size ≤ k_) ∧ some k_ ≠ (v108 : Value).ownBlock ∧ some k_ ≠ (v112 : Value).ownBlock ∧ some k_ ≠ (v116 : Value).ownBlock)) ?hr ?hp (fun _ hk => hk) ((show ∀ k_, wc.heap.size ≤ k_ → (fun k_ => ((P0_ k_ ∨ P1_ k_) ∨ w.heap.size ≤ k_) ∧ some k_ ≠ (v108 : Value).ownBlock ∧ some k_ ≠ (v112 : Value).ownBlock ∧ some k_ ≠ (v116 : Value).ownBlock) k_ from fun k_ hk => ⟨(.inr (Nat.le_trans (Af (lU HB.out)) hk)), Kd.fresh' (Kd.Bw (by exact rU <| af.out)) k_ hk, Kd.fresh' (Kd.Bw (by exact rU <| ag.out)) k_ hk, Kd.fresh' (Kd.Bw (by exact rU <| ah.out)) k_ hk⟩) _ (Nat.le_refl _)) (Below.refl _ _) (Nat.le_refl _) (by simp) ?_; (case hd => rfl); (case hg => rfl); (case hr => first | (go_simp; done) | (go_simp; rfl)); (case hp => exact (Reps.one (show Kd.FK (Kd.slice 58 k58) _ _ l0 [.slice A0 l0.length c0] from (Kd.FK_slice_mk (Kd.V_reads' (Kd.V_mono (ok' := (fun k_ => ((P0_ k_ ∨ P1_ k_) ∨ w.heap.size ≤ k_) ∧ some k_ ≠ (v108 : Value).ownBlock ∧ some k_ ≠ (v112 : Value).ownBlock ∧ some k_ ≠ (v116 : Value).ownBlock)) (ai.out) (fun k_ hk => ⟨hk.1, ⟨hk.2.1, ⟨hk.2.2.1, hk.2.2.2⟩⟩⟩))).2.1 (Kd.V_F (Kd.V_mono (ok' := (fun k_ => ((P0_ k_ ∨ P1_ k_) ∨ w.heap.size ≤ k_) ∧ some k_ ≠ (v108 : Value).ownBlock ∧ some k_ ≠ (v112 : Value).ownBlock ∧ some k_ ≠ (v116 : Value).ownBlock)) (ai.out) (fun k_ hk => ⟨hk.1, ⟨hk.2.1, ⟨hk.2.2.1, hk.2.2.2⟩⟩⟩))))) (Reps.one (show Kd.FK (Kd.slice 58 k58) _ _ l1 [.slice A1 l1.length c1] from (Kd.FK_slice_mk (Kd.V_reads' (Kd.V_mono (ok' := (fun k_ => ((P0_ k_ ∨ P1_ k_) ∨ w.heap.size ≤ k_) ∧ some k_ ≠ (v108 : Value).ownBlock ∧ some k_ ≠ (v112 : Value).ownBlock ∧ some k_ ≠ (v116 : Value).ownBlock)) (aj.out) (fun k_ hk => ⟨hk.1, ⟨hk.2.1, ⟨hk.2.2.1, hk.2.2.2⟩⟩⟩))).2.1 (Kd.V_F (Kd.V_mono (ok' := (fun k_ => ((P0_ k_ ∨ P1_ k_) ∨ w.heap.size ≤ k_) ∧ some k_ ≠ (v108 : Value).ownBlock ∧ some k_ ≠ (v112 : Value).ownBlock ∧ some k_ ≠ (v116 : Value).ownBlock)) (aj.out) (fun k_ hk => ⟨hk.1, ⟨hk.2.1, ⟨hk.2.2.1, hk.2.2.2⟩⟩⟩))))) (Reps.none _ _)))); intro v125 w42 ho43 hb hg_ hnew_; clear hg_ hnew_; (first | rw [← bN.out] at ho43 | (simp only [Int.reduceToNat] at ho43; rw [← bN.out] at ho43)); have n0_ := Aa.mk (Kd.V_elder' (by (with_reducible repeat (first | apply Kd.V_alloc | apply Kd.V_drewN | apply Kd.V_drew)); exact ai.out) (Kd.N_base ho43) hb); have n1_ := Aa.mk (Kd.V_elder' (by (with_reducible repeat (first | apply Kd.V_alloc | apply Kd.V_drewN | apply Kd.V_drew)); exact aj.out) (Kd.N_base ho43) hb); have n2_ := Aa.mk (Kd.At (by exact rU <| af.out) hb); have n3_ := Aa.mk (Kd.At (by exact rU <| ag.out) hb); have n4_ := Aa.mk (Kd.At (by exact rU <| ah.out) hb); have n5_ := Aa.mk (Kd.N_lower ho43 (Af (lU HB.out))); have n6_ := Aa.mk (Ai (lU HB.out) hb); clear ai; clear aj; clear af; clear ag; clear ah; clear HB; have ai := n0_; have aj := n1_; have af := n2_; have ag := n3_; have ah := n4_; have aX := n5_; have HB := n6_; clear n0_ n1_ n2_ n3_ n4_ n5_ n6_; clear hb ho43; obtain ⟨dq, dr, dt⟩ := Kd.N_slice aX.out; subst dt) | ((with_reducible refine Ap (f := 31) rfl ?_); refine Br (some 70) rfl rfl Try.func31 (by kernel_rfl) rfl #[.slice dq cq.length dr] rfl (by (try simp only [List.map_toArray, List.map_cons, List.map_nil]); first | done | rfl | (simp only [List.length_drop, List.length_take]; rfl)) ?_; (with_reducible refine (Aw.calls kj9 _ _ cq am ao _ ?side1 ?side2 A41.out).mono ?_); (case side1 => repeat (first | exact (Kd.N_reads' aX.out).2.2 | (with_reducible refine Kd.Bh ?_ _) | (with_reducible refine Kd.Bg ?_ _) | (with_reducible refine Kd.Bp ?_))); (case side2 => exact (Kd.N_reads' aX.out).2.1); rintro e w45 ⟨v129, v131, rfl, ho0, ho1, hb⟩; refine ⟨_, rfl, ?_⟩; have n0_ := Aa.mk (Kd.V_mono (Kd.V_told (Kd.V_told (Kd.V_old (by (with_reducible repeat (first | apply Kd.V_alloc | apply Kd.V_drewN | apply Kd.V_drew)); exact ai.out) hb) (Kd.Ao ho0)) (Kd.Ao ho1)) (fun _ h_ => h_.1)); have n1_ := Aa.mk (Kd.V_mono (Kd.V_told (Kd.V_told (Kd.V_old (by (with_reducible repeat (first | apply Kd.V_alloc | apply Kd.V_drewN | apply Kd.V_drew)); exact aj.out) hb) (Kd.Ao ho0)) (Kd.Ao ho1)) (fun _ h_ => h_.1)); have n2_ := Aa.mk (Kd.At (by exact rU <| af.out) hb); have n3_ := Aa.mk (Kd.At (by exact rU <| ag.out) hb); have n4_ := Aa.mk (Kd.At (by exact rU <| ah.out) hb); have n5_ := Aa.mk (Kd.N_mono (Kd.N_told (Kd.N_told (Kd.N_old (by (with_reducible repeat (first | apply Kd.N_alloc | apply Kd.N_drewN | apply Kd.N_drew)); exact aX.out) hb) (Kd.Ao ho0)) (Kd.Ao ho1)) (fun _ h_ => h_.1)); have n6_ := Aa.mk (Kd.Bv (Kd.Cm (M := fun k_ => (w.heap.size ≤ k_)) ho0 (Af (lU HB.out)) (fun k_ h_ => h_)) (Af (lU HB.out))); have n7_ := Aa.mk (Kd.Bv (Kd.Cm (M := fun k_ => (w.heap.size ≤ k_)) ho1 (Af (lU HB.out)) (fun k_ h_ => h_)) (Af (lU HB.out))); have n8_ := Aa.mk (Ai (lU HB.out) hb); clear ai; clear aj; clear af; clear ag; clear ah; clear aX; clear HB; have ai := n0_; have aj := n1_; have af := n2_; have ag := n3_; have ah := n4_; have aX := n5_; have ct := n6_; have cu := n7_; have HB := n8_; clear n0_ n1_ n2_ n3_ n4_ n5_ n6_ n7_ n8_; (try clear hb); (try clear hb2); (try clear hk); (try clear hi); (try clear ho0); (try clear ho1)))
      go_loopg [13] kj9 (fun kq v13 w' => ∃ (aa : Int), v13 = .int .i64 aa ∧ Aa (Ab.l0 kq l0 l1 az aN aT am ao aa = some r) ∧ Aa (kq ≤ kj9) ∧ Aa (Kd.V k58 58 w' w.heap.size (fun k_ => ((P0_ k_ ∨ P1_ k_) ∨ w.heap.size ≤ k_) ∧ some k_ ≠ (v108 : Value).ownBlock ∧ some k_ ≠ (v112 : Value).ownBlock ∧ some k_ ≠ (v116 : Value).ownBlock ∧ some k_ ≠ (v129 : Value).ownBlock ∧ some k_ ≠ (v131 : Value).ownBlock) (.slice A0 l0.length c0) l0) ∧ Aa (Kd.V k58 58 w' w.heap.size (fun k_ => ((P0_ k_ ∨ P1_ k_) ∨ w.heap.size ≤ k_) ∧ some k_ ≠ (v108 : Value).ownBlock ∧ some k_ ≠ (v112 : Value).ownBlock ∧ some k_ ≠ (v116 : Value).ownBlock ∧ some k_ ≠ (v129 : Value).ownBlock ∧ some k_ ≠ (v131 : Value).ownBlock) (.slice A1 l1.length c1) l1) ∧ Aa (Kd.R k58 58 w' w.heap.size (fun k_ => (w.heap.size ≤ k_) ∧ some k_ ≠ (v112 : Value).ownBlock ∧ some k_ ≠ (v116 : Value).ownBlock) v108 az) ∧ Aa (Kd.R k58 58 w' w.heap.size (fun k_ => (w.heap.size ≤ k_) ∧ some k_ ≠ (v108 : Value).ownBlock ∧ some k_ ≠ (v116 : Value).ownBlock) v112 aN) ∧ Aa (Kd.R k58 58 w' w.heap.size (fun k_ => (w.heap.size ≤ k_) ∧ some k_ ≠ (v108 : Value).ownBlock ∧ some k_ ≠ (v112 : Value).ownBlock) v116 aT) ∧ Aa (Kd.R (Kd.int .i64) 3 w' w.heap.size (fun k_ => (w.heap.size ≤ k_) ∧ some k_ ≠ (v131 : Value).ownBlock) v129 am) ∧ Aa (Kd.R (Kd.int .i64) 3 w' w.heap.size (fun k_ => (w.heap.size ≤ k_) ∧ some k_ ≠ (v129 : Value).ownBlock) v131 ao) ∧ Aa (Below w.heap.size w w'))
      case atStart => exact ⟨(0), (by first | rfl | (simp; done) | (simp [*]; done)), H', ⟨Nat.le_refl _⟩, ⟨by (with_reducible repeat (first | apply Kd.V_alloc | apply Kd.V_drewN | apply Kd.V_drew)); exact Kd.V_mono ai.out (fun _ hk => ⟨hk.1.1.1.1, ⟨hk.1.1.1.2.1, ⟨hk.1.1.1.2.2.1, ⟨hk.1.1.1.2.2.2, ⟨hk.1.2, hk.2⟩⟩⟩⟩⟩)⟩, ⟨by (with_reducible repeat (first | apply Kd.V_alloc | apply Kd.V_drewN | apply Kd.V_drew)); exact Kd.V_mono aj.out (fun _ hk => ⟨hk.1.1.1.1, ⟨hk.1.1.1.2.1, ⟨hk.1.1.1.2.2.1, ⟨hk.1.1.1.2.2.2, ⟨hk.1.2, hk.2⟩⟩⟩⟩⟩)⟩, ⟨by exact rU <| af.out⟩, ⟨by exact rU <| ag.out⟩, ⟨by exact rU <| ah.out⟩, ⟨by exact rU <| ct.out⟩, ⟨by exact rU <| cu.out⟩, ⟨by repeat (first | (with_reducible first | exact HB.out | apply Ae | apply Ac | apply Ad) | exact HB.out)⟩⟩
      case round =>
       clear H'
       try clear c1
       try clear c2
       try clear p2
       try clear c3
       try clear c4
       try clear c5
       try clear c6
       try clear p6
       try clear c10
       try clear c14
       try clear c22
       try clear aQ
       try clear bl
       try clear c23
       try clear c24
       try clear c25
       try clear c26
       try clear c27
       try clear c29
       try clear c31
       try clear c40
       try clear p2
       try clear p6
       obtain ⟨aa, rfl, HA, HK2, ai, aj, af, ag, ah, ae, ac, HB⟩ := hrel
       cases gk with
       | zero => exact absurd HA.out (by simp [Ab.l0])
       | succ k2 =>
        have H := HA.out
        clear HA
        simp only [Ab.l0] at H
        by_cases c46 : aa < (am.length : Int)
        ·rw [if_pos c46] at H
         have bO : decide (aa < (am.length : Int)) = true := decide_eq_true c46
         clear c46
         have H' := Aa.mk H
         clear H
         obtain ⟨bK, bL, du⟩ := Kd.Bi ae.out
         subst du
         go_wp2
         go_loopg [14] k2 (fun kq v14 w' => ∃ (ab : Int), v14 = .int .i64 ab ∧ Aa (Ab.l1 kq l0 l1 az aN aT am ao aa ab = some r) ∧ Aa (kq ≤ k2) ∧ Aa (Kd.V k58 58 w' w.heap.size (fun k_ => ((P0_ k_ ∨ P1_ k_) ∨ w.heap.size ≤ k_) ∧ some k_ ≠ (v108 : Value).ownBlock ∧ some k_ ≠ (v112 : Value).ownBlock ∧ some k_ ≠ (v116 : Value).ownBlock ∧ some k_ ≠ ((.slice bK am.length bL) : Value).ownBlock ∧ some k_ ≠ (v131 : Value).ownBlock) (.slice A0 l0.length c0) l0) ∧ Aa (Kd.V k58 58 w' w.heap.size (fun k_ => ((P0_ k_ ∨ P1_ k_) ∨ w.heap.size ≤ k_) ∧ some k_ ≠ (v108 : Value).ownBlock ∧ some k_ ≠ (v112 : Value).ownBlock ∧ some k_ ≠ (v116 : Value).ownBlock ∧ some k_ ≠ ((.slice bK am.length bL) : Value).ownBlock ∧ some k_ ≠ (v131 : Value).ownBlock) (.slice A1 l1.length c1) l1) ∧ Aa (Kd.R k58 58 w' w.heap.size (fun k_ => (w.heap.size ≤ k_) ∧ some k_ ≠ (v112 : Value).ownBlock ∧ some k_ ≠ (v116 : Value).ownBlock) v108 az) ∧ Aa (Kd.R k58 58 w' w.heap.size (fun k_ => (w.heap.size ≤ k_) ∧ some k_ ≠ (v108 : Value).ownBlock ∧ some k_ ≠ (v116 : Value).ownBlock) v112 aN) ∧ Aa (Kd.R k58 58 w' w.heap.size (fun k_ => (w.heap.size ≤ k_) ∧ some k_ ≠ (v108 : Value).ownBlock ∧ some k_ ≠ (v112 : Value).ownBlock) v116 aT) ∧ Aa (Kd.R (Kd.int .i64) 3 w' w.heap.size (fun k_ => (w.heap.size ≤ k_) ∧ some k_ ≠ (v131 : Value).ownBlock) (.slice bK am.length bL) am) ∧ Aa (Kd.R (Kd.int .i64) 3 w' w.heap.size (fun k_ => (w.heap.size ≤ k_) ∧ some k_ ≠ ((.slice bK am.length bL) : Value).ownBlock) v131 ao) ∧ Aa (Below w.heap.size w w'))
         case atStart => exact ⟨(0), (by first | rfl | (simp; done) | (simp [*]; done)), H', ⟨Nat.le_refl _⟩, ⟨by (with_reducible repeat (first | apply Kd.V_alloc | apply Kd.V_drewN | apply Kd.V_drew)); exact ai.out⟩, ⟨by (with_reducible repeat (first | apply Kd.V_alloc | apply Kd.V_drewN | apply Kd.V_drew)); exact aj.out⟩, ⟨by exact rU <| af.out⟩, ⟨by exact rU <| ag.out⟩, ⟨by exact rU <| ah.out⟩, ⟨by exact rU <| ae.out⟩, ⟨by exact rU <| ac.out⟩, ⟨by repeat (first | (with_reducible first | exact HB.out | apply Ae | apply Ac | apply Ad) | exact HB.out)⟩⟩
         case round =>
          clear H'
          try clear c1
          try clear c2
          try clear p2
          try clear c3
          try clear c4
          try clear c5
          try clear c6
          try clear p6
          try clear c10
          try clear c14
          try clear c22
          try clear aQ
          try clear bl
          try clear c23
          try clear c24
          try clear c25
          try clear c26
          try clear c27
          try clear c29
          try clear c31
          try clear c40
          try clear c46
          try clear bO
          try clear p2
          try clear p6
          obtain ⟨ab, rfl, HA, HK3, ai, aj, af, ag, ah, ae, ac, HB⟩ := hrel
          cases gk with
          | zero => exact absurd HA.out (by simp [Ab.l1])
          | succ k3 =>
           have H := HA.out
           clear HA
           simp only [Ab.l1] at H
           by_cases c48 : ab < (ao.length : Int)
           ·rw [if_pos c48] at H
            have cv : decide (ab < (ao.length : Int)) = true := decide_eq_true c48
            clear c48
            by_cases c49 : 0 ≤ aa
            ·rw [if_pos c49] at H
             have dG : decide (0 ≤ aa) = true := decide_eq_true c49
             clear c49
             by_cases c50 : aa < (am.length : Int)
             ·rw [if_pos c50] at H
              have dH : decide (aa < (am.length : Int)) = true := decide_eq_true c50
              clear c50
              by_cases c51 : 0 ≤ ab
              ·rw [if_pos c51] at H
               have dI : decide (0 ≤ ab) = true := decide_eq_true c51
               clear c51
               replace H := Option.bind_eq_some_iff.mp H
               obtain ⟨bS, A520, H⟩ := H
               try dsimp only at H
               have A52 := Aa.mk A520
               clear A520
               replace H := Option.bind_eq_some_iff.mp H
               obtain ⟨aq, A530, H⟩ := H
               try dsimp only at H
               have A53 := Aa.mk A530
               clear A530
               replace H := Option.bind_eq_some_iff.mp H
               obtain ⟨av, A540, H⟩ := H
               try dsimp only at H
               have A54 := Aa.mk A540
               clear A540
               by_cases c55 : bS = true
               ·subst c55
                have H1 := H
                rw [if_pos rfl] at H1
                clear H
                have H := H1
                clear H1
                by_cases c56 : (av != true) = true
                ·rw [if_pos c56] at H
                 have cw : (av != true) = true := c56
                 (try (have cx : decide (av = true) = false := by simpa using c56))
                 (try (have cy : (av == true) = false := by simpa using c56))
                 (try (have dJ : ¬ (av = true) := by simpa using c56))
                 clear c56
                 exact absurd (H.trans (congrArg some HT.out)) (by decide)
                ·rw [if_neg c56] at H
                 have cw : (av != true) = false := by simpa using c56
                 (try (have cx : decide (av = true) = true := by simpa using c56))
                 (try (have cy : (av == true) = true := by simpa using c56))
                 clear c56
                 replace H := Option.bind_eq_some_iff.mp H
                 obtain ⟨aU, A640, H⟩ := H
                 try dsimp only at H
                 have A64 := Aa.mk A640
                 clear A640
                 by_cases c65 : (aU != aq) = true
                 ·rw [if_pos c65] at H
                  have cz : (aU != aq) = true := c65
                  (try (have cA : decide (aU = aq) = false := by simpa using c65))
                  (try (have cB : (aU == aq) = false := by simpa using c65))
                  (try (have dK : ¬ (aU = aq) := by simpa using c65))
                  clear c65
                  exact absurd (H.trans (congrArg some HT.out)) (by decide)
                 ·rw [if_neg c65] at H
                  have cz : (aU != aq) = false := by simpa using c65
                  (try (have cA : decide (aU = aq) = true := by simpa using c65))
                  (try (have cB : (aU == aq) = true := by simpa using c65))
                  clear c65
                  replace H := Option.bind_eq_some_iff.mp H
                  obtain ⟨aI, A750, H⟩ := H
                  try dsimp only at H
                  have A75 := Aa.mk A750
                  clear A750
                  by_cases c76 : (aI != (!aq)) = true
                  ·rw [if_pos c76] at H
                   have bE : (aI != (!aq)) = true := c76
                   have cC : (!(aI == (!aq))) = true := bE
                   (try (have cD : decide (aI = (!aq)) = false := by simpa using c76))
                   (try (have cE : (aI == (!aq)) = false := by simpa using c76))
                   (try (have dL : ¬ (aI = (!aq)) := by simpa using c76))
                   clear c76
                   exact absurd (H.trans (congrArg some HT.out)) (by decide)
                  ·rw [if_neg c76] at H
                   have bE : (aI != (!aq)) = false := by simpa using c76
                   have cC : (!(aI == (!aq))) = false := bE
                   (try (have cD : decide (aI = (!aq)) = true := by simpa using c76))
                   (try (have cE : (aI == (!aq)) = true := by simpa using c76))
                   clear c76
                   have H' := Aa.mk H
                   clear H
                   obtain ⟨ea, eb, dv⟩ := Kd.Bi ac.out
                   subst dv
                   try go_wp2
                   have n0_ := Aa.mk (Kd.V_drew ai.out)
                   have n1_ := Aa.mk (Kd.V_drew aj.out)
                   have n2_ := Aa.mk (Kd.B1 af.out)
                   have n3_ := Aa.mk (Kd.B1 ag.out)
                   have n4_ := Aa.mk (Kd.B1 ah.out)
                   have n5_ := Aa.mk (Kd.B1 ae.out)
                   have n6_ := Aa.mk (Kd.B1 ac.out)
                   have n7_ := Aa.mk (Ad HB.out)
                   clear ai
                   clear aj
                   clear af
                   clear ag
                   clear ah
                   clear ae
                   clear ac
                   clear HB
                   have ai := n0_
                   have aj := n1_
                   have af := n2_
                   have ag := n3_
                   have ah := n4_
                   have ae := n5_
                   have ac := n6_
                   have HB := n7_
                   clear n0_ n1_ n2_ n3_ n4_ n5_ n6_ n7_
                   have a6 : 0 ≤ (aa : Int) := of_decide_eq_true (by with_reducible assumption)
                   have a7 : aa < (am.length : Int) := of_decide_eq_true (by with_reducible assumption)
                   obtain ⟨ar, e133, aA⟩ := Kd.at_int (Kd.Aq ae.out).2.2 aa a6 a7
                   cases e133
                   replace a6 := eq_true a6
                   replace a7 := eq_true a7
                   have a8 : 0 ≤ (ab : Int) := of_decide_eq_true (by with_reducible assumption)
                   have a9 : ab < (ao.length : Int) := of_decide_eq_true (by with_reducible assumption)
                   obtain ⟨au, e134, aC⟩ := Kd.at_int (Kd.Aq ac.out).2.2 ab a8 a9
                   cases e134
                   replace a8 := eq_true a8
                   replace a9 := eq_true a9
                   have ba : 0 ≤ (aa : Int) := of_decide_eq_true (by with_reducible assumption)
                   have bb : aa < (am.length : Int) := of_decide_eq_true (by with_reducible assumption)
                   obtain ⟨bF, e136, aD⟩ := Kd.at_int (Kd.Aq ae.out).2.2 aa ba bb
                   obtain rfl : ar = bF := (by injection e136)
                   replace ba := eq_true ba
                   replace bb := eq_true bb
                   have bc : 0 ≤ (ab : Int) := of_decide_eq_true (by with_reducible assumption)
                   have be : ab < (ao.length : Int) := of_decide_eq_true (by with_reducible assumption)
                   obtain ⟨bG, e137, aE⟩ := Kd.at_int (Kd.Aq ac.out).2.2 ab bc be
                   obtain rfl : au = bG := (by injection e137)
                   replace bc := eq_true bc
                   replace be := eq_true be
                   refine start_ (n := 22) (S := fun w' => w'.cell? (ar.add (aa).toNat) = some (.int .i64 (rd am aa)) ∧ w'.cell? (au.add (ab).toNat) = some (.int .i64 (rd ao ab)) ∧ w'.cell? (ar.add (aa).toNat) = some (.int .i64 (rd am aa)) ∧ w'.cell? (au.add (ab).toNat) = some (.int .i64 (rd ao ab))) (ds := []) #[false, false, false, false, false, false, false, false, false, false, false, false, false, false, false, false, false, false, false, false, false, false] (by kernel_rfl) rfl rfl ⟨aA, aC, aD, aE⟩ (fun hHeld => ?_); refine with_tabW Ab.tab17 Ab.bits17 (fun HT_ HW_ => ?_)
                   generalize wr.drew = w89 at ai aj af ag ah ae ac HB aA aC aD aE hHeld ⊢
                   refine pure_ (i := 0) (N := some 85) (v := ?_) (a' := ?_) (bA 22 1) rfl rfl (any_of HT_.out (by kernel_rfl)) (fun _ _ _ h => h) (Or.inl ⟨by rfl, ?_⟩) ?_ ?_
                   rotate_left; (intro w'; go_simp; with_reducible rfl); rotate_left; (simp only [Act.put, sA, sB, sC, i64_w, i32_w]; rfl)
                   refine pure_ (i := 1) (N := some 86) (v := ?_) (a' := ?_) (bA 22 3) rfl rfl (any_of HT_.out (by kernel_rfl)) (fun _ _ _ h => h) (Or.inl ⟨by rfl, ?_⟩) ?_ ?_
                   rotate_left; (intro w'; go_simp; with_reducible rfl); rotate_left; (simp only [Act.put, sA, sB, sC, i64_w, i32_w]; rfl)
                   refine pure_ (i := 2) (N := some 87) (v := ?_) (a' := ?_) (bA 22 7) rfl rfl (any_of HT_.out (by kernel_rfl)) (fun _ _ _ h => h) (Or.inl ⟨by rfl, ?_⟩) ?_ ?_
                   rotate_left; (intro w'; go_simp; with_reducible rfl); rotate_left; (simp only [Act.put, sA, sB, sC, i64_w, i32_w]; rfl)
                   refine pure_ (i := 3) (N := some 88) (v := ?_) (a' := ?_) (bA 22 15) rfl rfl (any_of HT_.out (by kernel_rfl)) (fun _ _ _ h => h) (Or.inl ⟨by rfl, ?_⟩) ?_ ?_
                   rotate_left; (intro w'; go_simp; with_reducible rfl); rotate_left; (simp only [Act.put, sA, sB, sC, i64_w, i32_w]; rfl)
                   refine pure_ (i := 5) (N := some 90) (v := ?_) (a' := ?_) (bA 22 47) rfl rfl (any_of HT_.out (by kernel_rfl)) (fun _ _ _ h => h) (Or.inl ⟨by rfl, ?_⟩) ?_ ?_
                   rotate_left; (intro w'; go_simp; with_reducible rfl); rotate_left; (simp only [Act.put, sA, sB, sC, i64_w, i32_w]; rfl)
                   refine pure_ (i := 6) (N := some 91) (v := ?_) (a' := ?_) (bA 22 111) rfl rfl (any_of HT_.out (by kernel_rfl)) (fun _ _ _ h => h) (Or.inl ⟨by rfl, ?_⟩) ?_ ?_
                   rotate_left; (intro w'; go_simp; with_reducible rfl); rotate_left; (simp only [Act.put, sA, sB, sC, i64_w, i32_w]; rfl)
                   refine pure_ (i := 7) (N := some 92) (v := ?_) (a' := ?_) (bA 22 239) rfl rfl (any_of HT_.out (by kernel_rfl)) (fun _ _ _ h => h) (Or.inl ⟨by rfl, ?_⟩) ?_ ?_
                   rotate_left; (intro w'; go_simp; with_reducible rfl); rotate_left; (simp only [Act.put, sA, sB, sC, i64_w, i32_w]; rfl)
                   refine pure_ (i := 10) (N := some 95) (v := ?_) (a' := ?_) (bA 22 1263) rfl rfl (any_of HT_.out (by kernel_rfl)) (fun _ _ _ h => h) (Or.inl ⟨by rfl, ?_⟩) ?_ ?_
                   rotate_left; (intro w'; go_simp; with_reducible rfl); rotate_left; (simp only [Act.put, sA, sB, sC, i64_w, i32_w]; rfl)
                   refine pure_ (i := 11) (N := some 96) (v := ?_) (a' := ?_) (bA 22 3311) rfl rfl (any_of HT_.out (by kernel_rfl)) (fun _ _ _ h => h) (Or.inl ⟨by rfl, ?_⟩) ?_ ?_
                   rotate_left; (intro w'; go_simp; with_reducible rfl); rotate_left; (simp only [Act.put, sA, sB, sC, i64_w, i32_w]; rfl)
                   refine pure_ (i := 12) (N := some 97) (v := ?_) (a' := ?_) (bA 22 7407) rfl rfl (any_of HT_.out (by kernel_rfl)) (fun _ _ _ h => h) (Or.inl ⟨by rfl, ?_⟩) ?_ ?_
                   rotate_left; (intro w'; go_simp; with_reducible rfl); rotate_left; (simp only [Act.put, sA, sB, sC, i64_w, i32_w]; rfl)
                   refine pure_ (i := 13) (N := some 98) (v := ?_) (a' := ?_) (bA 22 15599) rfl rfl (any_of HT_.out (by kernel_rfl)) (fun _ _ _ h => h) (Or.inl ⟨by rfl, ?_⟩) ?_ ?_
                   rotate_left; (intro w'; go_simp; with_reducible rfl); rotate_left; (simp only [Act.put, sA, sB, sC, i64_w, i32_w]; rfl)
                   refine pure_ (i := 15) (N := some 100) (v := ?_) (a' := ?_) (bA 22 48367) rfl rfl (any_of HT_.out (by kernel_rfl)) (fun _ _ _ h => h) (Or.inl ⟨by rfl, ?_⟩) ?_ ?_
                   rotate_left; (intro w'; go_simp; with_reducible rfl); rotate_left; (simp only [Act.put, sA, sB, sC, i64_w, i32_w]; rfl)
                   refine pure_ (i := 16) (N := some 101) (v := ?_) (a' := ?_) (bA 22 113903) rfl rfl (any_of HT_.out (by kernel_rfl)) (fun _ _ _ h => h) (Or.inl ⟨by rfl, ?_⟩) ?_ ?_
                   rotate_left; (intro w'; go_simp; with_reducible rfl); rotate_left; (simp only [Act.put, sA, sB, sC, i64_w, i32_w]; rfl)
                   refine pure_ (i := 17) (N := some 102) (v := ?_) (a' := ?_) (bA 22 244975) rfl rfl (any_of HT_.out (by kernel_rfl)) (fun _ _ _ h => h) (Or.inl ⟨by rfl, ?_⟩) ?_ ?_
                   rotate_left; (intro w'; go_simp; with_reducible rfl); rotate_left; (simp only [Act.put, sA, sB, sC, i64_w, i32_w]; rfl)
                   refine take_ (i := 4) (N := some 89) (v := ?_) (a' := ?_) (bA 22 244991) rfl rfl (take_ofW HT_.out HW_.out (by kernel_rfl)) (fun _ _ _ h => h) (Or.inl ⟨by rfl, ?_⟩) hHeld ?_ ?_
                   rotate_left; (rintro w' ⟨s0, s1, s2, s3⟩; go_simp; with_reducible rfl); rotate_left; (simp only [Act.put, sA, sB, sC, i64_w, i32_w]; rfl)
                   refine take_ (i := 8) (N := some 93) (v := ?_) (a' := ?_) (bA 22 245247) rfl rfl (take_ofW HT_.out HW_.out (by kernel_rfl)) (fun _ _ _ h => h) (Or.inl ⟨by rfl, ?_⟩) hHeld ?_ ?_
                   rotate_left; (rintro w' ⟨s0, s1, s2, s3⟩; go_simp; with_reducible rfl); rotate_left; (simp only [Act.put, sA, sB, sC, i64_w, i32_w]; rfl)
                   refine take_ (i := 14) (N := some 99) (v := ?_) (a' := ?_) (bA 22 261631) rfl rfl (take_ofW HT_.out HW_.out (by kernel_rfl)) (fun _ _ _ h => h) (Or.inl ⟨by rfl, ?_⟩) hHeld ?_ ?_
                   rotate_left; (rintro w' ⟨s0, s1, s2, s3⟩; go_simp; with_reducible rfl); rotate_left; (simp only [Act.put, sA, sB, sC, i64_w, i32_w]; rfl)
                   refine take_ (i := 18) (N := some 103) (v := ?_) (a' := ?_) (bA 22 523775) rfl rfl (take_ofW HT_.out HW_.out (by kernel_rfl)) (fun _ _ _ h => h) (Or.inl ⟨by rfl, ?_⟩) hHeld ?_ ?_
                   rotate_left; (rintro w' ⟨s0, s1, s2, s3⟩; go_simp; with_reducible rfl); rotate_left; (simp only [Act.put, sA, sB, sC, i64_w, i32_w]; rfl)
                   refine one_ (i := 9) (N := some 94) (bA 22 524287) rfl rfl (one_of HT_.out (by kernel_rfl)) (by decide) (fun K hK => ?_)
                   refine Cx Try.func32 (by kernel_rfl) rfl #[.slice A0 l0.length c0, .int .i64 (rd am aa), .int .i64 (rd ao ab)] (by rfl) rfl rfl (by (try simp only [List.map_toArray, List.map_cons, List.map_nil]); first | done | rfl | (simp only [List.length_drop, List.length_take]; rfl)) ?_
                   with_reducible refine (Ax.calls k3 _ _ l0 (rd am aa) (rd ao ab) true _ ?side1 ?side2 A52.out).mono ?_
                   (case side1 => repeat (first | exact (Kd.V_reads' ai.out).2.2 | (with_reducible refine Kd.Bh ?_ _) | (with_reducible refine Kd.Bg ?_ _) | (with_reducible refine Kd.Bp ?_)))
                   (case side2 => exact (Kd.V_reads' ai.out).2.1)
                   rintro e w90 ⟨rfl, hb⟩
                   have HS0_ := (hb.cell (World.block_lt_of_cell? _ _ (hHeld.1))).trans (hHeld.1)
                   have HS1_ := (hb.cell (World.block_lt_of_cell? _ _ (hHeld.2.1))).trans (hHeld.2.1)
                   have HS2_ := (hb.cell (World.block_lt_of_cell? _ _ (hHeld.2.2.1))).trans (hHeld.2.2.1)
                   have HS3_ := (hb.cell (World.block_lt_of_cell? _ _ (hHeld.2.2.2))).trans (hHeld.2.2.2)
                   refine ⟨_, rfl, ?_⟩
                   have n0_ := Aa.mk (Kd.V_below (by (with_reducible repeat (first | apply Kd.V_alloc | apply Kd.V_drewN | apply Kd.V_drew)); exact ai.out) hb)
                   have n1_ := Aa.mk (Kd.V_below (by (with_reducible repeat (first | apply Kd.V_alloc | apply Kd.V_drewN | apply Kd.V_drew)); exact aj.out) hb)
                   have n2_ := Aa.mk (Kd.At (by exact rU <| af.out) hb)
                   have n3_ := Aa.mk (Kd.At (by exact rU <| ag.out) hb)
                   have n4_ := Aa.mk (Kd.At (by exact rU <| ah.out) hb)
                   have n5_ := Aa.mk (Kd.At (by exact rU <| ae.out) hb)
                   have n6_ := Aa.mk (Kd.At (by exact rU <| ac.out) hb)
                   have n7_ := Aa.mk (Ai (lU HB.out) hb)
                   clear ai
                   clear aj
                   clear af
                   clear ag
                   clear ah
                   clear ae
                   clear ac
                   clear HB
                   have ai := n0_
                   have aj := n1_
                   have af := n2_
                   have ag := n3_
                   have ah := n4_
                   have ae := n5_
                   have ac := n6_
                   have HB := n7_
                   clear n0_ n1_ n2_ n3_ n4_ n5_ n6_ n7_
                   (try clear hb)
                   (try clear hb2)
                   (try clear hk)
                   (try clear hi)
                   refine hK.out _ _ ⟨HS0_, HS1_, HS2_, HS3_⟩ (fun hHeld => ?_)
                   clear hK K
                   refine norm_ (a' := ?_) ?_ ?_
                   rotate_left
                   ·show Act.put _ (some 94) _ = _
                    simp only [Act.put, sA, sB, sC, i64_w, i32_w]
                    rfl
                   refine one_ (i := 19) (N := some 104) (bA 22 1048575) rfl rfl (one_of HT_.out (by kernel_rfl)) (by decide) (fun K hK => ?_)
                   refine Cx Try.func32 (by kernel_rfl) rfl #[.slice A1 l1.length c1, .int .i64 (rd am aa), .int .i64 (rd ao ab)] (by rfl) rfl rfl (by (try simp only [List.map_toArray, List.map_cons, List.map_nil]); first | done | rfl | (simp only [List.length_drop, List.length_take]; rfl)) ?_
                   with_reducible refine (Ax.calls k3 _ _ l1 (rd am aa) (rd ao ab) aq _ ?side1 ?side2 A53.out).mono ?_
                   (case side1 => repeat (first | exact (Kd.V_reads' aj.out).2.2 | (with_reducible refine Kd.Bh ?_ _) | (with_reducible refine Kd.Bg ?_ _) | (with_reducible refine Kd.Bp ?_)))
                   (case side2 => exact (Kd.V_reads' aj.out).2.1)
                   rintro e w91 ⟨rfl, hb⟩
                   have HS0_ := (hb.cell (World.block_lt_of_cell? _ _ (hHeld.1))).trans (hHeld.1)
                   have HS1_ := (hb.cell (World.block_lt_of_cell? _ _ (hHeld.2.1))).trans (hHeld.2.1)
                   have HS2_ := (hb.cell (World.block_lt_of_cell? _ _ (hHeld.2.2.1))).trans (hHeld.2.2.1)
                   have HS3_ := (hb.cell (World.block_lt_of_cell? _ _ (hHeld.2.2.2))).trans (hHeld.2.2.2)
                   refine ⟨_, rfl, ?_⟩
                   have n0_ := Aa.mk (Kd.V_below (by (with_reducible repeat (first | apply Kd.V_alloc | apply Kd.V_drewN | apply Kd.V_drew)); exact ai.out) hb)
                   have n1_ := Aa.mk (Kd.V_below (by (with_reducible repeat (first | apply Kd.V_alloc | apply Kd.V_drewN | apply Kd.V_drew)); exact aj.out) hb)
                   have n2_ := Aa.mk (Kd.At (by exact rU <| af.out) hb)
                   have n3_ := Aa.mk (Kd.At (by exact rU <| ag.out) hb)
                   have n4_ := Aa.mk (Kd.At (by exact rU <| ah.out) hb)
                   have n5_ := Aa.mk (Kd.At (by exact rU <| ae.out) hb)
                   have n6_ := Aa.mk (Kd.At (by exact rU <| ac.out) hb)
                   have n7_ := Aa.mk (Ai (lU HB.out) hb)
                   clear ai
                   clear aj
                   clear af
                   clear ag
                   clear ah
                   clear ae
                   clear ac
                   clear HB
                   have ai := n0_
                   have aj := n1_
                   have af := n2_
                   have ag := n3_
                   have ah := n4_
                   have ae := n5_
                   have ac := n6_
                   have HB := n7_
                   clear n0_ n1_ n2_ n3_ n4_ n5_ n6_ n7_
                   (try clear hb)
                   (try clear hb2)
                   (try clear hk)
                   (try clear hi)
                   refine hK.out _ _ ⟨HS0_, HS1_, HS2_, HS3_⟩ (fun hHeld => ?_)
                   clear hK K
                   refine norm_ (a' := ?_) ?_ ?_
                   rotate_left
                   ·show Act.put _ (some 104) _ = _
                    simp only [Act.put, sA, sB, sC, i64_w, i32_w]
                    rfl
                   refine pure_ (i := 20) (N := some 15) (v := ?_) (a' := ?_) (bA 22 2097151) rfl rfl (any_of HT_.out (by kernel_rfl)) (fun _ _ _ h => h) (Or.inl ⟨by rfl, ?_⟩) ?_ ?_
                   rotate_left; (intro w'; go_simp; with_reducible rfl); rotate_left; (simp only [Act.put, sA, sB, sC, i64_w, i32_w]; rfl)
                   refine pure_ (i := 21) (N := some 16) (v := ?_) (a' := ?_) (bA 22 4194303) rfl rfl (any_of HT_.out (by kernel_rfl)) (fun _ _ _ h => h) (Or.inl ⟨by rfl, ?_⟩) ?_ ?_
                   rotate_left; (intro w'; go_simp; with_reducible rfl); rotate_left; (simp only [Act.put, sA, sB, sC, i64_w, i32_w]; rfl)
                   refine done_ (done_of HT_.out (by kernel_rfl)) ?_
                   try go_wp2
                   have n0_ := Aa.mk (Kd.V_drew ai.out)
                   have n1_ := Aa.mk (Kd.V_drew aj.out)
                   have n2_ := Aa.mk (Kd.B1 af.out)
                   have n3_ := Aa.mk (Kd.B1 ag.out)
                   have n4_ := Aa.mk (Kd.B1 ah.out)
                   have n5_ := Aa.mk (Kd.B1 ae.out)
                   have n6_ := Aa.mk (Kd.B1 ac.out)
                   have n7_ := Aa.mk (Ad HB.out)
                   clear ai
                   clear aj
                   clear af
                   clear ag
                   clear ah
                   clear ae
                   clear ac
                   clear HB
                   have ai := n0_
                   have aj := n1_
                   have af := n2_
                   have ag := n3_
                   have ah := n4_
                   have ae := n5_
                   have ac := n6_
                   have HB := n7_
                   clear n0_ n1_ n2_ n3_ n4_ n5_ n6_ n7_
                   have bf : 0 ≤ (aa : Int) := of_decide_eq_true (by with_reducible assumption)
                   have bg : aa < (am.length : Int) := of_decide_eq_true (by with_reducible assumption)
                   obtain ⟨bH, e139, aG⟩ := Kd.at_int (Kd.Aq ae.out).2.2 aa bf bg
                   obtain rfl : ar = bH := (by injection e139)
                   replace bf := eq_true bf
                   replace bg := eq_true bg
                   have bh : 0 ≤ (ab : Int) := of_decide_eq_true (by with_reducible assumption)
                   have bi : ab < (ao.length : Int) := of_decide_eq_true (by with_reducible assumption)
                   obtain ⟨bI, e140, aH⟩ := Kd.at_int (Kd.Aq ac.out).2.2 ab bh bi
                   obtain rfl : au = bI := (by injection e140)
                   replace bh := eq_true bh
                   replace bi := eq_true bi
                   obtain ⟨dw, dz, cF⟩ := Kd.Bi af.out
                   (first | subst cF | (injection cF with f1_ f2_ f3_; have f4_ := f1_.symm; have f5_ := f3_.symm; clear f1_ f2_ f3_; subst f4_; subst f5_))
                   have bT : 0 ≤ (aa : Int) := of_decide_eq_true (by with_reducible assumption)
                   have bV : aa < (am.length : Int) := of_decide_eq_true (by with_reducible assumption)
                   obtain ⟨cG, e142, bm⟩ := Kd.at_int (Kd.Aq ae.out).2.2 aa bT bV
                   obtain rfl : ar = cG := (by injection e142)
                   replace bT := eq_true bT
                   replace bV := eq_true bV
                   have bW : 0 ≤ (ab : Int) := of_decide_eq_true (by with_reducible assumption)
                   have bX : ab < (ao.length : Int) := of_decide_eq_true (by with_reducible assumption)
                   obtain ⟨cH, e143, bn⟩ := Kd.at_int (Kd.Aq ac.out).2.2 ab bW bX
                   obtain rfl : au = cH := (by injection e143)
                   replace bW := eq_true bW
                   replace bX := eq_true bX
                   have bY : 0 ≤ (aa : Int) := of_decide_eq_true (by with_reducible assumption)
                   have bZ : aa < (am.length : Int) := of_decide_eq_true (by with_reducible assumption)
                   obtain ⟨cI, e145, bo⟩ := Kd.at_int (Kd.Aq ae.out).2.2 aa bY bZ
                   obtain rfl : ar = cI := (by injection e145)
                   replace bY := eq_true bY
                   replace bZ := eq_true bZ
                   have b3 : 0 ≤ (ab : Int) := of_decide_eq_true (by with_reducible assumption)
                   have b4 : ab < (ao.length : Int) := of_decide_eq_true (by with_reducible assumption)
                   obtain ⟨cJ, e146, bp⟩ := Kd.at_int (Kd.Aq ac.out).2.2 ab b3 b4
                   obtain rfl : au = cJ := (by injection e146)
                   replace b3 := eq_true b3
                   replace b4 := eq_true b4
                   refine start_ (n := 50) (S := fun w' => w'.cell? (ar.add (aa).toNat) = some (.int .i64 (rd am aa)) ∧ w'.cell? (au.add (ab).toNat) = some (.int .i64 (rd ao ab)) ∧ w'.cell? (ar.add (aa).toNat) = some (.int .i64 (rd am aa)) ∧ w'.cell? (au.add (ab).toNat) = some (.int .i64 (rd ao ab)) ∧ w'.cell? (ar.add (aa).toNat) = some (.int .i64 (rd am aa)) ∧ w'.cell? (au.add (ab).toNat) = some (.int .i64 (rd ao ab))) (ds := []) #[false, false, false, false, false, false, false, false, false, false, false, false, false, false, false, false, false, false, false, false, false, false, false, false, false, false, false, false, false, false, false, false, false, false, false, false, false, false, false, false, false, false, false, false, false, false, false, false, false, false] (by kernel_rfl) rfl rfl ⟨aG, aH, bm, bn, bo, bp⟩ (fun hHeld => ?_); refine with_tabW Ab.tab18 Ab.bits18 (fun HT_ HW_ => ?_)
                   generalize w91.drew = w92 at ai aj af ag ah ae ac HB aG aH bm bn bo bp hHeld ⊢
                   refine pure_ (i := 0) (N := some 105) (v := ?_) (a' := ?_) (bA 50 1) rfl rfl (any_of HT_.out (by kernel_rfl)) (fun _ _ _ h => h) (Or.inl ⟨by rfl, ?_⟩) ?_ ?_
                   rotate_left; (intro w'; go_simp; with_reducible rfl); rotate_left; (simp only [Act.put, sA, sB, sC, i64_w, i32_w]; rfl)
                   refine pure_ (i := 1) (N := some 106) (v := ?_) (a' := ?_) (bA 50 3) rfl rfl (any_of HT_.out (by kernel_rfl)) (fun _ _ _ h => h) (Or.inl ⟨by rfl, ?_⟩) ?_ ?_
                   rotate_left; (intro w'; go_simp; with_reducible rfl); rotate_left; (simp only [Act.put, sA, sB, sC, i64_w, i32_w]; rfl)
                   refine pure_ (i := 2) (N := some 107) (v := ?_) (a' := ?_) (bA 50 7) rfl rfl (any_of HT_.out (by kernel_rfl)) (fun _ _ _ h => h) (Or.inl ⟨by rfl, ?_⟩) ?_ ?_
                   rotate_left; (intro w'; go_simp; with_reducible rfl); rotate_left; (simp only [Act.put, sA, sB, sC, i64_w, i32_w]; rfl)
                   refine pure_ (i := 3) (N := some 108) (v := ?_) (a' := ?_) (bA 50 15) rfl rfl (any_of HT_.out (by kernel_rfl)) (fun _ _ _ h => h) (Or.inl ⟨by rfl, ?_⟩) ?_ ?_
                   rotate_left; (intro w'; go_simp; with_reducible rfl); rotate_left; (simp only [Act.put, sA, sB, sC, i64_w, i32_w]; rfl)
                   refine pure_ (i := 5) (N := some 110) (v := ?_) (a' := ?_) (bA 50 47) rfl rfl (any_of HT_.out (by kernel_rfl)) (fun _ _ _ h => h) (Or.inl ⟨by rfl, ?_⟩) ?_ ?_
                   rotate_left; (intro w'; go_simp; with_reducible rfl); rotate_left; (simp only [Act.put, sA, sB, sC, i64_w, i32_w]; rfl)
                   refine pure_ (i := 6) (N := some 111) (v := ?_) (a' := ?_) (bA 50 111) rfl rfl (any_of HT_.out (by kernel_rfl)) (fun _ _ _ h => h) (Or.inl ⟨by rfl, ?_⟩) ?_ ?_
                   rotate_left; (intro w'; go_simp; with_reducible rfl); rotate_left; (simp only [Act.put, sA, sB, sC, i64_w, i32_w]; rfl)
                   refine pure_ (i := 7) (N := some 112) (v := ?_) (a' := ?_) (bA 50 239) rfl rfl (any_of HT_.out (by kernel_rfl)) (fun _ _ _ h => h) (Or.inl ⟨by rfl, ?_⟩) ?_ ?_
                   rotate_left; (intro w'; go_simp; with_reducible rfl); rotate_left; (simp only [Act.put, sA, sB, sC, i64_w, i32_w]; rfl)
                   refine pure_ (i := 10) (N := some 115) (v := ?_) (a' := ?_) (bA 50 1263) rfl rfl (any_of HT_.out (by kernel_rfl)) (fun _ _ _ h => h) (Or.inl ⟨by rfl, ?_⟩) ?_ ?_
                   rotate_left; (intro w'; go_simp; with_reducible rfl); rotate_left; (simp only [Act.put, sA, sB, sC, i64_w, i32_w]; rfl)
                   refine take_ (i := 4) (N := some 109) (v := ?_) (a' := ?_) (bA 50 1279) rfl rfl (take_ofW HT_.out HW_.out (by kernel_rfl)) (fun _ _ _ h => h) (Or.inl ⟨by rfl, ?_⟩) hHeld ?_ ?_
                   rotate_left; (rintro w' ⟨s0, s1, s2, s3, s4, s5⟩; go_simp; with_reducible rfl); rotate_left; (simp only [Act.put, sA, sB, sC, i64_w, i32_w]; rfl)
                   refine take_ (i := 8) (N := some 113) (v := ?_) (a' := ?_) (bA 50 1535) rfl rfl (take_ofW HT_.out HW_.out (by kernel_rfl)) (fun _ _ _ h => h) (Or.inl ⟨by rfl, ?_⟩) hHeld ?_ ?_
                   rotate_left; (rintro w' ⟨s0, s1, s2, s3, s4, s5⟩; go_simp; with_reducible rfl); rotate_left; (simp only [Act.put, sA, sB, sC, i64_w, i32_w]; rfl)
                   refine one_ (i := 9) (N := some 114) (bA 50 2047) rfl rfl (one_of HT_.out (by kernel_rfl)) (by decide) (fun K hK => ?_)
                   refine Cx Try.func32 (by kernel_rfl) rfl #[.slice dw az.length dz, .int .i64 (rd am aa), .int .i64 (rd ao ab)] (by rfl) rfl rfl (by (try simp only [List.map_toArray, List.map_cons, List.map_nil]); first | done | rfl | (simp only [List.length_drop, List.length_take]; rfl)) ?_
                   with_reducible refine (Ax.calls k3 _ _ az (rd am aa) (rd ao ab) av _ ?side1 ?side2 A54.out).mono ?_
                   (case side1 => repeat (first | exact (Kd.Aq af.out).2.2 | (with_reducible refine Kd.Bh ?_ _) | (with_reducible refine Kd.Bg ?_ _) | (with_reducible refine Kd.Bp ?_)))
                   (case side2 => exact (Kd.Aq af.out).2.1)
                   rintro e w94 ⟨rfl, hb⟩
                   have HS0_ := (hb.cell (World.block_lt_of_cell? _ _ (hHeld.1))).trans (hHeld.1)
                   have HS1_ := (hb.cell (World.block_lt_of_cell? _ _ (hHeld.2.1))).trans (hHeld.2.1)
                   have HS2_ := (hb.cell (World.block_lt_of_cell? _ _ (hHeld.2.2.1))).trans (hHeld.2.2.1)
                   have HS3_ := (hb.cell (World.block_lt_of_cell? _ _ (hHeld.2.2.2.1))).trans (hHeld.2.2.2.1)
                   have HS4_ := (hb.cell (World.block_lt_of_cell? _ _ (hHeld.2.2.2.2.1))).trans (hHeld.2.2.2.2.1)
                   have HS5_ := (hb.cell (World.block_lt_of_cell? _ _ (hHeld.2.2.2.2.2))).trans (hHeld.2.2.2.2.2)
                   refine ⟨_, rfl, ?_⟩
                   have n0_ := Aa.mk (Kd.V_below (by (with_reducible repeat (first | apply Kd.V_alloc | apply Kd.V_drewN | apply Kd.V_drew)); exact ai.out) hb)
                   have n1_ := Aa.mk (Kd.V_below (by (with_reducible repeat (first | apply Kd.V_alloc | apply Kd.V_drewN | apply Kd.V_drew)); exact aj.out) hb)
                   have n2_ := Aa.mk (Kd.At (by exact rU <| af.out) hb)
                   have n3_ := Aa.mk (Kd.At (by exact rU <| ag.out) hb)
                   have n4_ := Aa.mk (Kd.At (by exact rU <| ah.out) hb)
                   have n5_ := Aa.mk (Kd.At (by exact rU <| ae.out) hb)
                   have n6_ := Aa.mk (Kd.At (by exact rU <| ac.out) hb)
                   have n7_ := Aa.mk (Ai (lU HB.out) hb)
                   clear ai
                   clear aj
                   clear af
                   clear ag
                   clear ah
                   clear ae
                   clear ac
                   clear HB
                   have ai := n0_
                   have aj := n1_
                   have af := n2_
                   have ag := n3_
                   have ah := n4_
                   have ae := n5_
                   have ac := n6_
                   have HB := n7_
                   clear n0_ n1_ n2_ n3_ n4_ n5_ n6_ n7_
                   (try clear hb)
                   (try clear hb2)
                   (try clear hk)
                   (try clear hi)
                   obtain ⟨dA, dB, cK⟩ := Kd.Bi ag.out
                   (first | subst cK | (injection cK with f1_ f2_ f3_; have f4_ := f1_.symm; have f5_ := f3_.symm; clear f1_ f2_ f3_; subst f4_; subst f5_))
                   refine hK.out _ _ ⟨HS0_, HS1_, HS2_, HS3_, HS4_, HS5_⟩ (fun hHeld => ?_)
                   clear hK K
                   refine norm_ (a' := ?_) ?_ ?_
                   rotate_left
                   ·show Act.put _ (some 114) _ = _
                    simp only [Act.put, sA, sB, sC, i64_w, i32_w]
                    rfl
                   refine pure_ (i := 11) (N := some 116) (v := ?_) (a' := ?_) (bA 50 4095) rfl rfl (any_of HT_.out (by kernel_rfl)) (fun _ _ _ h => h) (Or.inl ⟨by rfl, ?_⟩) ?_ ?_
                   rotate_left; (intro w'; go_simp; with_reducible rfl); rotate_left; (simp only [Act.put, sA, sB, sC, i64_w, i32_w]; rfl)
                   refine pure_ (i := 12) (N := some 117) (v := undef) (a' := ?_) (bA 50 8191) rfl rfl (any_of HT_.out (by kernel_rfl)) (fun _ _ _ h => h) (Or.inr ⟨by rfl, rfl⟩) ?_ ?_
                   rotate_left
                   ·simp only [Act.put, sA, sB, sC, i64_w, i32_w]
                    rfl
                   refine pure_ (i := 13) (N := some 118) (v := ?_) (a' := ?_) (bA 50 16383) rfl rfl (any_of HT_.out (by kernel_rfl)) (fun _ _ _ h => h) (Or.inl ⟨by rfl, ?_⟩) ?_ ?_
                   rotate_left; (intro w'; go_simp; with_reducible rfl); rotate_left; (simp only [Act.put, sA, sB, sC, i64_w, i32_w]; rfl)
                   refine pure_ (i := 14) (N := some 119) (v := ?_) (a' := ?_) (bA 50 32767) rfl rfl (any_of HT_.out (by kernel_rfl)) (fun _ _ _ h => h) (Or.inl ⟨by rfl, ?_⟩) ?_ ?_
                   rotate_left; (intro w'; go_simp; with_reducible rfl); rotate_left; (simp only [Act.put, sA, sB, sC, i64_w, i32_w]; rfl)
                   refine pure_ (i := 15) (N := some 120) (v := ?_) (a' := ?_) (bA 50 65535) rfl rfl (any_of HT_.out (by kernel_rfl)) (fun _ _ _ h => h) (Or.inl ⟨by rfl, ?_⟩) ?_ ?_
                   rotate_left; (intro w'; go_simp; with_reducible rfl); rotate_left; (simp only [Act.put, sA, sB, sC, i64_w, i32_w]; rfl)
                   refine pure_ (i := 16) (N := some 121) (v := ?_) (a' := ?_) (bA 50 131071) rfl rfl (any_of HT_.out (by kernel_rfl)) (fun _ _ _ h => h) (Or.inl ⟨by rfl, ?_⟩) ?_ ?_
                   rotate_left; (intro w'; go_simp; with_reducible rfl); rotate_left; (simp only [Act.put, sA, sB, sC, i64_w, i32_w]; rfl)
                   refine pure_ (i := 17) (N := some 122) (v := ?_) (a' := ?_) (bA 50 262143) rfl rfl (any_of HT_.out (by kernel_rfl)) (fun _ _ _ h => h) (Or.inl ⟨by rfl, ?_⟩) ?_ ?_
                   rotate_left; (intro w'; go_simp; with_reducible rfl); rotate_left; (simp only [Act.put, sA, sB, sC, i64_w, i32_w]; rfl)
                   refine pure_ (i := 18) (N := some 123) (v := ?_) (a' := ?_) (bA 50 524287) rfl rfl (any_of HT_.out (by kernel_rfl)) (fun _ _ _ h => h) (Or.inl ⟨by rfl, ?_⟩) ?_ ?_
                   rotate_left; (intro w'; go_simp; with_reducible rfl); rotate_left; (simp only [Act.put, sA, sB, sC, i64_w, i32_w]; rfl)
                   refine pure_ (i := 19) (N := some 124) (v := ?_) (a' := ?_) (bA 50 1048575) rfl rfl (any_of HT_.out (by kernel_rfl)) (fun _ _ _ h => h) (Or.inl ⟨by rfl, ?_⟩) ?_ ?_
                   rotate_left; (intro w'; go_simp; with_reducible rfl); rotate_left; (simp only [Act.put, sA, sB, sC, i64_w, i32_w]; rfl)
                   refine pure_ (i := 21) (N := some 126) (v := ?_) (a' := ?_) (bA 50 3145727) rfl rfl (any_of HT_.out (by kernel_rfl)) (fun _ _ _ h => h) (Or.inl ⟨by rfl, ?_⟩) ?_ ?_
                   rotate_left; (intro w'; go_simp; with_reducible rfl); rotate_left; (simp only [Act.put, sA, sB, sC, i64_w, i32_w]; rfl)
                   refine pure_ (i := 22) (N := some 127) (v := ?_) (a' := ?_) (bA 50 7340031) rfl rfl (any_of HT_.out (by kernel_rfl)) (fun _ _ _ h => h) (Or.inl ⟨by rfl, ?_⟩) ?_ ?_
                   rotate_left; (intro w'; go_simp; with_reducible rfl); rotate_left; (simp only [Act.put, sA, sB, sC, i64_w, i32_w]; rfl)
                   refine pure_ (i := 23) (N := some 128) (v := ?_) (a' := ?_) (bA 50 15728639) rfl rfl (any_of HT_.out (by kernel_rfl)) (fun _ _ _ h => h) (Or.inl ⟨by rfl, ?_⟩) ?_ ?_
                   rotate_left; (intro w'; go_simp; with_reducible rfl); rotate_left; (simp only [Act.put, sA, sB, sC, i64_w, i32_w]; rfl)
                   refine pure_ (i := 26) (N := some 131) (v := ?_) (a' := ?_) (bA 50 82837503) rfl rfl (any_of HT_.out (by kernel_rfl)) (fun _ _ _ h => h) (Or.inl ⟨by rfl, ?_⟩) ?_ ?_
                   rotate_left; (intro w'; go_simp; with_reducible rfl); rotate_left; (simp only [Act.put, sA, sB, sC, i64_w, i32_w]; rfl)
                   refine take_ (i := 20) (N := some 125) (v := ?_) (a' := ?_) (bA 50 83886079) rfl rfl (take_ofW HT_.out HW_.out (by kernel_rfl)) (fun _ _ _ h => h) (Or.inl ⟨by rfl, ?_⟩) hHeld ?_ ?_
                   rotate_left; (rintro w' ⟨s0, s1, s2, s3, s4, s5⟩; go_simp; with_reducible rfl); rotate_left; (simp only [Act.put, sA, sB, sC, i64_w, i32_w]; rfl)
                   refine take_ (i := 24) (N := some 129) (v := ?_) (a' := ?_) (bA 50 100663295) rfl rfl (take_ofW HT_.out HW_.out (by kernel_rfl)) (fun _ _ _ h => h) (Or.inl ⟨by rfl, ?_⟩) hHeld ?_ ?_
                   rotate_left; (rintro w' ⟨s0, s1, s2, s3, s4, s5⟩; go_simp; with_reducible rfl); rotate_left; (simp only [Act.put, sA, sB, sC, i64_w, i32_w]; rfl)
                   refine one_ (i := 25) (N := some 130) (bA 50 134217727) rfl rfl (one_of HT_.out (by kernel_rfl)) (by decide) (fun K hK => ?_)
                   refine Cx Try.func32 (by kernel_rfl) rfl #[.slice dA aN.length dB, .int .i64 (rd am aa), .int .i64 (rd ao ab)] (by rfl) rfl rfl (by (try simp only [List.map_toArray, List.map_cons, List.map_nil]); first | done | rfl | (simp only [List.length_drop, List.length_take]; rfl)) ?_
                   with_reducible refine (Ax.calls k3 _ _ aN (rd am aa) (rd ao ab) aU _ ?side1 ?side2 A64.out).mono ?_
                   (case side1 => repeat (first | exact (Kd.Aq ag.out).2.2 | (with_reducible refine Kd.Bh ?_ _) | (with_reducible refine Kd.Bg ?_ _) | (with_reducible refine Kd.Bp ?_)))
                   (case side2 => exact (Kd.Aq ag.out).2.1)
                   rintro e w96 ⟨rfl, hb⟩
                   have HS0_ := (hb.cell (World.block_lt_of_cell? _ _ (hHeld.1))).trans (hHeld.1)
                   have HS1_ := (hb.cell (World.block_lt_of_cell? _ _ (hHeld.2.1))).trans (hHeld.2.1)
                   have HS2_ := (hb.cell (World.block_lt_of_cell? _ _ (hHeld.2.2.1))).trans (hHeld.2.2.1)
                   have HS3_ := (hb.cell (World.block_lt_of_cell? _ _ (hHeld.2.2.2.1))).trans (hHeld.2.2.2.1)
                   have HS4_ := (hb.cell (World.block_lt_of_cell? _ _ (hHeld.2.2.2.2.1))).trans (hHeld.2.2.2.2.1)
                   have HS5_ := (hb.cell (World.block_lt_of_cell? _ _ (hHeld.2.2.2.2.2))).trans (hHeld.2.2.2.2.2)
                   refine ⟨_, rfl, ?_⟩
                   have n0_ := Aa.mk (Kd.V_below (by (with_reducible repeat (first | apply Kd.V_alloc | apply Kd.V_drewN | apply Kd.V_drew)); exact ai.out) hb)
                   have n1_ := Aa.mk (Kd.V_below (by (with_reducible repeat (first | apply Kd.V_alloc | apply Kd.V_drewN | apply Kd.V_drew)); exact aj.out) hb)
                   have n2_ := Aa.mk (Kd.At (by exact rU <| af.out) hb)
                   have n3_ := Aa.mk (Kd.At (by exact rU <| ag.out) hb)
                   have n4_ := Aa.mk (Kd.At (by exact rU <| ah.out) hb)
                   have n5_ := Aa.mk (Kd.At (by exact rU <| ae.out) hb)
                   have n6_ := Aa.mk (Kd.At (by exact rU <| ac.out) hb)
                   have n7_ := Aa.mk (Ai (lU HB.out) hb)
                   clear ai
                   clear aj
                   clear af
                   clear ag
                   clear ah
                   clear ae
                   clear ac
                   clear HB
                   have ai := n0_
                   have aj := n1_
                   have af := n2_
                   have ag := n3_
                   have ah := n4_
                   have ae := n5_
                   have ac := n6_
                   have HB := n7_
                   clear n0_ n1_ n2_ n3_ n4_ n5_ n6_ n7_
                   (try clear hb)
                   (try clear hb2)
                   (try clear hk)
                   (try clear hi)
                   obtain ⟨dC, dD, cL⟩ := Kd.Bi ah.out
                   (first | subst cL | (injection cL with f1_ f2_ f3_; have f4_ := f1_.symm; have f5_ := f3_.symm; clear f1_ f2_ f3_; subst f4_; subst f5_))
                   refine hK.out _ _ ⟨HS0_, HS1_, HS2_, HS3_, HS4_, HS5_⟩ (fun hHeld => ?_)
                   clear hK K
                   refine norm_ (a' := ?_) ?_ ?_
                   rotate_left
                   ·show Act.put _ (some 130) _ = _
                    simp only [Act.put, sA, sB, sC, i64_w, i32_w]
                    rfl
                   refine pure_ (i := 27) (N := some 132) (v := ?_) (a' := ?_) (bA 50 268435455) rfl rfl (any_of HT_.out (by kernel_rfl)) (fun _ _ _ h => h) (Or.inl ⟨by rfl, ?_⟩) ?_ ?_
                   rotate_left; (intro w'; go_simp; with_reducible rfl); rotate_left; (simp only [Act.put, sA, sB, sC, i64_w, i32_w]; rfl)
                   refine pure_ (i := 28) (N := some 133) (v := ?_) (a' := ?_) (bA 50 536870911) rfl rfl (any_of HT_.out (by kernel_rfl)) (fun _ _ _ h => h) (Or.inl ⟨by rfl, ?_⟩) ?_ ?_
                   rotate_left; (intro w'; go_simp; with_reducible rfl); rotate_left; (simp only [Act.put, sA, sB, sC, i64_w, i32_w]; rfl)
                   refine pure_ (i := 29) (N := some 134) (v := ?_) (a' := ?_) (bA 50 1073741823) rfl rfl (any_of HT_.out (by kernel_rfl)) (fun _ _ _ h => h) (Or.inl ⟨by rfl, ?_⟩) ?_ ?_
                   rotate_left; (intro w'; go_simp; with_reducible rfl); rotate_left; (simp only [Act.put, sA, sB, sC, i64_w, i32_w]; rfl)
                   refine pure_ (i := 30) (N := some 135) (v := ?_) (a' := ?_) (bA 50 2147483647) rfl rfl (any_of HT_.out (by kernel_rfl)) (fun _ _ _ h => h) (Or.inl ⟨by rfl, ?_⟩) ?_ ?_
                   rotate_left; (intro w'; go_simp; with_reducible rfl); rotate_left; (simp only [Act.put, sA, sB, sC, i64_w, i32_w]; rfl)
                   refine pure_ (i := 31) (N := some 136) (v := ?_) (a' := ?_) (bA 50 4294967295) rfl rfl (any_of HT_.out (by kernel_rfl)) (fun _ _ _ h => h) (Or.inl ⟨by rfl, ?_⟩) ?_ ?_
                   rotate_left; (intro w'; go_simp; with_reducible rfl); rotate_left; (simp only [Act.put, sA, sB, sC, i64_w, i32_w]; rfl)
                   refine pure_ (i := 32) (N := some 137) (v := ?_) (a' := ?_) (bA 50 8589934591) rfl rfl (any_of HT_.out (by kernel_rfl)) (fun _ _ _ h => h) (Or.inl ⟨by rfl, ?_⟩) ?_ ?_
                   rotate_left; (intro w'; go_simp; with_reducible rfl); rotate_left; (simp only [Act.put, sA, sB, sC, i64_w, i32_w]; rfl)
                   refine pure_ (i := 33) (N := some 138) (v := ?_) (a' := ?_) (bA 50 17179869183) rfl rfl (any_of HT_.out (by kernel_rfl)) (fun _ _ _ h => h) (Or.inl ⟨by rfl, ?_⟩) ?_ ?_
                   rotate_left; (intro w'; go_simp; with_reducible rfl); rotate_left; (simp only [Act.put, sA, sB, sC, i64_w, i32_w]; rfl)
                   refine pure_ (i := 34) (N := some 139) (v := ?_) (a' := ?_) (bA 50 34359738367) rfl rfl (any_of HT_.out (by kernel_rfl)) (fun _ _ _ h => h) (Or.inl ⟨by rfl, ?_⟩) ?_ ?_
                   rotate_left; (intro w'; go_simp; with_reducible rfl); rotate_left; (simp only [Act.put, sA, sB, sC, i64_w, i32_w]; rfl)
                   refine pure_ (i := 35) (N := some 140) (v := ?_) (a' := ?_) (bA 50 68719476735) rfl rfl (any_of HT_.out (by kernel_rfl)) (fun _ _ _ h => h) (Or.inl ⟨by rfl, ?_⟩) ?_ ?_
                   rotate_left; (intro w'; go_simp; with_reducible rfl); rotate_left; (simp only [Act.put, sA, sB, sC, i64_w, i32_w]; rfl)
                   refine pure_ (i := 36) (N := some 141) (v := ?_) (a' := ?_) (bA 50 137438953471) rfl rfl (any_of HT_.out (by kernel_rfl)) (fun _ _ _ h => h) (Or.inl ⟨by rfl, ?_⟩) ?_ ?_
                   rotate_left; (intro w'; go_simp; with_reducible rfl); rotate_left; (simp only [Act.put, sA, sB, sC, i64_w, i32_w]; rfl)
                   refine pure_ (i := 38) (N := some 143) (v := ?_) (a' := ?_) (bA 50 412316860415) rfl rfl (any_of HT_.out (by kernel_rfl)) (fun _ _ _ h => h) (Or.inl ⟨by rfl, ?_⟩) ?_ ?_
                   rotate_left; (intro w'; go_simp; with_reducible rfl); rotate_left; (simp only [Act.put, sA, sB, sC, i64_w, i32_w]; rfl)
                   refine pure_ (i := 39) (N := some 144) (v := ?_) (a' := ?_) (bA 50 962072674303) rfl rfl (any_of HT_.out (by kernel_rfl)) (fun _ _ _ h => h) (Or.inl ⟨by rfl, ?_⟩) ?_ ?_
                   rotate_left; (intro w'; go_simp; with_reducible rfl); rotate_left; (simp only [Act.put, sA, sB, sC, i64_w, i32_w]; rfl)
                   refine pure_ (i := 40) (N := some 145) (v := ?_) (a' := ?_) (bA 50 2061584302079) rfl rfl (any_of HT_.out (by kernel_rfl)) (fun _ _ _ h => h) (Or.inl ⟨by rfl, ?_⟩) ?_ ?_
                   rotate_left; (intro w'; go_simp; with_reducible rfl); rotate_left; (simp only [Act.put, sA, sB, sC, i64_w, i32_w]; rfl)
                   refine pure_ (i := 43) (N := some 148) (v := ?_) (a' := ?_) (bA 50 10857677324287) rfl rfl (any_of HT_.out (by kernel_rfl)) (fun _ _ _ h => h) (Or.inl ⟨by rfl, ?_⟩) ?_ ?_
                   rotate_left; (intro w'; go_simp; with_reducible rfl); rotate_left; (simp only [Act.put, sA, sB, sC, i64_w, i32_w]; rfl)
                   refine take_ (i := 37) (N := some 142) (v := ?_) (a' := ?_) (bA 50 10995116277759) rfl rfl (take_ofW HT_.out HW_.out (by kernel_rfl)) (fun _ _ _ h => h) (Or.inl ⟨by rfl, ?_⟩) hHeld ?_ ?_
                   rotate_left; (rintro w' ⟨s0, s1, s2, s3, s4, s5⟩; go_simp; with_reducible rfl); rotate_left; (simp only [Act.put, sA, sB, sC, i64_w, i32_w]; rfl)
                   refine take_ (i := 41) (N := some 146) (v := ?_) (a' := ?_) (bA 50 13194139533311) rfl rfl (take_ofW HT_.out HW_.out (by kernel_rfl)) (fun _ _ _ h => h) (Or.inl ⟨by rfl, ?_⟩) hHeld ?_ ?_
                   rotate_left; (rintro w' ⟨s0, s1, s2, s3, s4, s5⟩; go_simp; with_reducible rfl); rotate_left; (simp only [Act.put, sA, sB, sC, i64_w, i32_w]; rfl)
                   refine one_ (i := 42) (N := some 147) (bA 50 17592186044415) rfl rfl (one_of HT_.out (by kernel_rfl)) (by decide) (fun K hK => ?_)
                   refine Cx Try.func32 (by kernel_rfl) rfl #[.slice dC aT.length dD, .int .i64 (rd am aa), .int .i64 (rd ao ab)] (by rfl) rfl rfl (by (try simp only [List.map_toArray, List.map_cons, List.map_nil]); first | done | rfl | (simp only [List.length_drop, List.length_take]; rfl)) ?_
                   with_reducible refine (Ax.calls k3 _ _ aT (rd am aa) (rd ao ab) aI _ ?side1 ?side2 A75.out).mono ?_
                   (case side1 => repeat (first | exact (Kd.Aq ah.out).2.2 | (with_reducible refine Kd.Bh ?_ _) | (with_reducible refine Kd.Bg ?_ _) | (with_reducible refine Kd.Bp ?_)))
                   (case side2 => exact (Kd.Aq ah.out).2.1)
                   rintro e w98 ⟨rfl, hb⟩
                   have HS0_ := (hb.cell (World.block_lt_of_cell? _ _ (hHeld.1))).trans (hHeld.1)
                   have HS1_ := (hb.cell (World.block_lt_of_cell? _ _ (hHeld.2.1))).trans (hHeld.2.1)
                   have HS2_ := (hb.cell (World.block_lt_of_cell? _ _ (hHeld.2.2.1))).trans (hHeld.2.2.1)
                   have HS3_ := (hb.cell (World.block_lt_of_cell? _ _ (hHeld.2.2.2.1))).trans (hHeld.2.2.2.1)
                   have HS4_ := (hb.cell (World.block_lt_of_cell? _ _ (hHeld.2.2.2.2.1))).trans (hHeld.2.2.2.2.1)
                   have HS5_ := (hb.cell (World.block_lt_of_cell? _ _ (hHeld.2.2.2.2.2))).trans (hHeld.2.2.2.2.2)
                   refine ⟨_, rfl, ?_⟩
                   have n0_ := Aa.mk (Kd.V_below (by (with_reducible repeat (first | apply Kd.V_alloc | apply Kd.V_drewN | apply Kd.V_drew)); exact ai.out) hb)
                   have n1_ := Aa.mk (Kd.V_below (by (with_reducible repeat (first | apply Kd.V_alloc | apply Kd.V_drewN | apply Kd.V_drew)); exact aj.out) hb)
                   have n2_ := Aa.mk (Kd.At (by exact rU <| af.out) hb)
                   have n3_ := Aa.mk (Kd.At (by exact rU <| ag.out) hb)
                   have n4_ := Aa.mk (Kd.At (by exact rU <| ah.out) hb)
                   have n5_ := Aa.mk (Kd.At (by exact rU <| ae.out) hb)
                   have n6_ := Aa.mk (Kd.At (by exact rU <| ac.out) hb)
                   have n7_ := Aa.mk (Ai (lU HB.out) hb)
                   clear ai
                   clear aj
                   clear af
                   clear ag
                   clear ah
                   clear ae
                   clear ac
                   clear HB
                   have ai := n0_
                   have aj := n1_
                   have af := n2_
                   have ag := n3_
                   have ah := n4_
                   have ae := n5_
                   have ac := n6_
                   have HB := n7_
                   clear n0_ n1_ n2_ n3_ n4_ n5_ n6_ n7_
                   (try clear hb)
                   (try clear hb2)
                   (try clear hk)
                   (try clear hi)
                   refine hK.out _ _ ⟨HS0_, HS1_, HS2_, HS3_, HS4_, HS5_⟩ (fun hHeld => ?_)
                   clear hK K
                   refine norm_ (a' := ?_) ?_ ?_
                   rotate_left
                   ·show Act.put _ (some 147) _ = _
                    simp only [Act.put, sA, sB, sC, i64_w, i32_w]
                    rfl
                   refine pure_ (i := 44) (N := some 149) (v := ?_) (a' := ?_) (bA 50 35184372088831) rfl rfl (any_of HT_.out (by kernel_rfl)) (fun _ _ _ h => h) (Or.inl ⟨by rfl, ?_⟩) ?_ ?_
                   rotate_left; (intro w'; go_simp; with_reducible rfl); rotate_left; (simp only [Act.put, sA, sB, sC, i64_w, i32_w]; rfl)
                   refine pure_ (i := 45) (N := some 150) (v := ?_) (a' := ?_) (bA 50 70368744177663) rfl rfl (any_of HT_.out (by kernel_rfl)) (fun _ _ _ h => h) (Or.inl ⟨by rfl, ?_⟩) ?_ ?_
                   rotate_left; (intro w'; go_simp; with_reducible rfl); rotate_left; (simp only [Act.put, sA, sB, sC, i64_w, i32_w]; rfl)
                   refine pure_ (i := 46) (N := some 151) (v := ?_) (a' := ?_) (bA 50 140737488355327) rfl rfl (any_of HT_.out (by kernel_rfl)) (fun _ _ _ h => h) (Or.inl ⟨by rfl, ?_⟩) ?_ ?_
                   rotate_left; (intro w'; go_simp; with_reducible rfl); rotate_left; (simp only [Act.put, sA, sB, sC, i64_w, i32_w]; rfl)
                   refine pure_ (i := 47) (N := some 152) (v := ?_) (a' := ?_) (bA 50 281474976710655) rfl rfl (any_of HT_.out (by kernel_rfl)) (fun _ _ _ h => h) (Or.inl ⟨by rfl, ?_⟩) ?_ ?_
                   rotate_left; (intro w'; go_simp; with_reducible rfl); rotate_left; (simp only [Act.put, sA, sB, sC, i64_w, i32_w]; rfl)
                   refine pure_ (i := 48) (N := some 153) (v := ?_) (a' := ?_) (bA 50 562949953421311) rfl rfl (any_of HT_.out (by kernel_rfl)) (fun _ _ _ h => h) (Or.inl ⟨by rfl, ?_⟩) ?_ ?_
                   rotate_left; (intro w'; go_simp; with_reducible rfl); rotate_left; (simp only [Act.put, sA, sB, sC, i64_w, i32_w]; rfl)
                   refine pure_ (i := 49) (N := some 154) (v := ?_) (a' := ?_) (bA 50 1125899906842623) rfl rfl (any_of HT_.out (by kernel_rfl)) (fun _ _ _ h => h) (Or.inl ⟨by rfl, ?_⟩) ?_ ?_
                   rotate_left; (intro w'; go_simp; with_reducible rfl); rotate_left; (simp only [Act.put, sA, sB, sC, i64_w, i32_w]; rfl)
                   refine done_ (done_of HT_.out (by kernel_rfl)) ?_
                   try go_wp2
                   go_roundg k3
                   case measure => have := HJ9.out; have := HK2.out; have := HK3.out; omega
                   case rel => exact ⟨(wrap64 (ab + 1)), (by first | rfl | (simp; done) | (simp [*]; done)), H', ⟨by have := HJ9.out; have := HK2.out; have := HK3.out; omega⟩, ⟨by (with_reducible repeat (first | apply Kd.V_alloc | apply Kd.V_drewN | apply Kd.V_drew)); exact ai.out⟩, ⟨by (with_reducible repeat (first | apply Kd.V_alloc | apply Kd.V_drewN | apply Kd.V_drew)); exact aj.out⟩, ⟨by exact rU <| af.out⟩, ⟨by exact rU <| ag.out⟩, ⟨by exact rU <| ah.out⟩, ⟨by exact rU <| ae.out⟩, ⟨by exact rU <| ac.out⟩, ⟨by repeat (first | (with_reducible first | exact HB.out | apply Ae | apply Ac | apply Ad) | exact HB.out)⟩⟩
               ·replace c55 := Bool.eq_false_iff.mpr c55
                subst c55
                have H1 := H
                rw [if_neg (show ¬ (false = true) by decide)] at H1
                clear H
                have H := H1
                clear H1
                by_cases c99 : (av != aq) = true
                ·rw [if_pos c99] at H
                 have cM : (av != aq) = true := c99
                 (try (have cN : decide (av = aq) = false := by simpa using c99))
                 (try (have cO : (av == aq) = false := by simpa using c99))
                 (try (have dM : ¬ (av = aq) := by simpa using c99))
                 clear c99
                 exact absurd (H.trans (congrArg some HT.out)) (by decide)
                ·rw [if_neg c99] at H
                 have cM : (av != aq) = false := by simpa using c99
                 (try (have cN : decide (av = aq) = true := by simpa using c99))
                 (try (have cO : (av == aq) = true := by simpa using c99))
                 clear c99
                 replace H := Option.bind_eq_some_iff.mp H
                 obtain ⟨aV, A1070, H⟩ := H
                 try dsimp only at H
                 have A107 := Aa.mk A1070
                 clear A1070
                 by_cases c108 : (aV != false) = true
                 ·rw [if_pos c108] at H
                  have b5 : (aV != false) = true := c108
                  (try (have b6 : decide (aV = false) = false := by simpa using c108))
                  (try (have b7 : (aV == false) = false := by simpa using c108))
                  (try (have dE : ¬ (aV = false) := by simpa using c108))
                  clear c108
                  exact absurd (H.trans (congrArg some HT.out)) (by decide)
                 ·rw [if_neg c108] at H
                  have b5 : (aV != false) = false := by simpa using c108
                  (try (have b6 : decide (aV = false) = true := by simpa using c108))
                  (try (have b7 : (aV == false) = true := by simpa using c108))
                  clear c108
                  replace H := Option.bind_eq_some_iff.mp H
                  obtain ⟨aW, A1180, H⟩ := H
                  try dsimp only at H
                  have A118 := Aa.mk A1180
                  clear A1180
                  by_cases c119 : (aW != false) = true
                  ·rw [if_pos c119] at H
                   have b8 : (aW != false) = true := c119
                   (try (have b9 : decide (aW = false) = false := by simpa using c119))
                   (try (have cd : (aW == false) = false := by simpa using c119))
                   (try (have dF : ¬ (aW = false) := by simpa using c119))
                   clear c119
                   exact absurd (H.trans (congrArg some HT.out)) (by decide)
                  ·rw [if_neg c119] at H
                   have b8 : (aW != false) = false := by simpa using c119
                   (try (have b9 : decide (aW = false) = true := by simpa using c119))
                   (try (have cd : (aW == false) = true := by simpa using c119))
                   clear c119
                   have H' := Aa.mk H
                   clear H
                   obtain ⟨dN, dO, cP⟩ := Kd.Bi ac.out
                   subst cP
                   try go_wp2
                   have n0_ := Aa.mk (Kd.V_drew ai.out)
                   have n1_ := Aa.mk (Kd.V_drew aj.out)
                   have n2_ := Aa.mk (Kd.B1 af.out)
                   have n3_ := Aa.mk (Kd.B1 ag.out)
                   have n4_ := Aa.mk (Kd.B1 ah.out)
                   have n5_ := Aa.mk (Kd.B1 ae.out)
                   have n6_ := Aa.mk (Kd.B1 ac.out)
                   have n7_ := Aa.mk (Ad HB.out)
                   clear ai
                   clear aj
                   clear af
                   clear ag
                   clear ah
                   clear ae
                   clear ac
                   clear HB
                   have ai := n0_
                   have aj := n1_
                   have af := n2_
                   have ag := n3_
                   have ah := n4_
                   have ae := n5_
                   have ac := n6_
                   have HB := n7_
                   clear n0_ n1_ n2_ n3_ n4_ n5_ n6_ n7_
                   have a6 : 0 ≤ (aa : Int) := of_decide_eq_true (by with_reducible assumption)
                   have a7 : aa < (am.length : Int) := of_decide_eq_true (by with_reducible assumption)
                   obtain ⟨ar, e133, aA⟩ := Kd.at_int (Kd.Aq ae.out).2.2 aa a6 a7
                   cases e133
                   replace a6 := eq_true a6
                   replace a7 := eq_true a7
                   have a8 : 0 ≤ (ab : Int) := of_decide_eq_true (by with_reducible assumption)
                   have a9 : ab < (ao.length : Int) := of_decide_eq_true (by with_reducible assumption)
                   obtain ⟨au, e134, aC⟩ := Kd.at_int (Kd.Aq ac.out).2.2 ab a8 a9
                   cases e134
                   replace a8 := eq_true a8
                   replace a9 := eq_true a9
                   have ba : 0 ≤ (aa : Int) := of_decide_eq_true (by with_reducible assumption)
                   have bb : aa < (am.length : Int) := of_decide_eq_true (by with_reducible assumption)
                   obtain ⟨bF, e136, aD⟩ := Kd.at_int (Kd.Aq ae.out).2.2 aa ba bb
                   obtain rfl : ar = bF := (by injection e136)
                   replace ba := eq_true ba
                   replace bb := eq_true bb
                   have bc : 0 ≤ (ab : Int) := of_decide_eq_true (by with_reducible assumption)
                   have be : ab < (ao.length : Int) := of_decide_eq_true (by with_reducible assumption)
                   obtain ⟨bG, e137, aE⟩ := Kd.at_int (Kd.Aq ac.out).2.2 ab bc be
                   obtain rfl : au = bG := (by injection e137)
                   replace bc := eq_true bc
                   replace be := eq_true be
                   refine start_ (n := 22) (S := fun w' => w'.cell? (ar.add (aa).toNat) = some (.int .i64 (rd am aa)) ∧ w'.cell? (au.add (ab).toNat) = some (.int .i64 (rd ao ab)) ∧ w'.cell? (ar.add (aa).toNat) = some (.int .i64 (rd am aa)) ∧ w'.cell? (au.add (ab).toNat) = some (.int .i64 (rd ao ab))) (ds := []) #[false, false, false, false, false, false, false, false, false, false, false, false, false, false, false, false, false, false, false, false, false, false] (by kernel_rfl) rfl rfl ⟨aA, aC, aD, aE⟩ (fun hHeld => ?_); refine with_tabW Ab.tab17 Ab.bits17 (fun HT_ HW_ => ?_)
                   generalize wr.drew = w132 at ai aj af ag ah ae ac HB aA aC aD aE hHeld ⊢
                   refine pure_ (i := 0) (N := some 85) (v := ?_) (a' := ?_) (bA 22 1) rfl rfl (any_of HT_.out (by kernel_rfl)) (fun _ _ _ h => h) (Or.inl ⟨by rfl, ?_⟩) ?_ ?_
                   rotate_left; (intro w'; go_simp; with_reducible rfl); rotate_left; (simp only [Act.put, sA, sB, sC, i64_w, i32_w]; rfl)
                   refine pure_ (i := 1) (N := some 86) (v := ?_) (a' := ?_) (bA 22 3) rfl rfl (any_of HT_.out (by kernel_rfl)) (fun _ _ _ h => h) (Or.inl ⟨by rfl, ?_⟩) ?_ ?_
                   rotate_left; (intro w'; go_simp; with_reducible rfl); rotate_left; (simp only [Act.put, sA, sB, sC, i64_w, i32_w]; rfl)
                   refine pure_ (i := 2) (N := some 87) (v := ?_) (a' := ?_) (bA 22 7) rfl rfl (any_of HT_.out (by kernel_rfl)) (fun _ _ _ h => h) (Or.inl ⟨by rfl, ?_⟩) ?_ ?_
                   rotate_left; (intro w'; go_simp; with_reducible rfl); rotate_left; (simp only [Act.put, sA, sB, sC, i64_w, i32_w]; rfl)
                   refine pure_ (i := 3) (N := some 88) (v := ?_) (a' := ?_) (bA 22 15) rfl rfl (any_of HT_.out (by kernel_rfl)) (fun _ _ _ h => h) (Or.inl ⟨by rfl, ?_⟩) ?_ ?_
                   rotate_left; (intro w'; go_simp; with_reducible rfl); rotate_left; (simp only [Act.put, sA, sB, sC, i64_w, i32_w]; rfl)
                   refine pure_ (i := 5) (N := some 90) (v := ?_) (a' := ?_) (bA 22 47) rfl rfl (any_of HT_.out (by kernel_rfl)) (fun _ _ _ h => h) (Or.inl ⟨by rfl, ?_⟩) ?_ ?_
                   rotate_left; (intro w'; go_simp; with_reducible rfl); rotate_left; (simp only [Act.put, sA, sB, sC, i64_w, i32_w]; rfl)
                   refine pure_ (i := 6) (N := some 91) (v := ?_) (a' := ?_) (bA 22 111) rfl rfl (any_of HT_.out (by kernel_rfl)) (fun _ _ _ h => h) (Or.inl ⟨by rfl, ?_⟩) ?_ ?_
                   rotate_left; (intro w'; go_simp; with_reducible rfl); rotate_left; (simp only [Act.put, sA, sB, sC, i64_w, i32_w]; rfl)
                   refine pure_ (i := 7) (N := some 92) (v := ?_) (a' := ?_) (bA 22 239) rfl rfl (any_of HT_.out (by kernel_rfl)) (fun _ _ _ h => h) (Or.inl ⟨by rfl, ?_⟩) ?_ ?_
                   rotate_left; (intro w'; go_simp; with_reducible rfl); rotate_left; (simp only [Act.put, sA, sB, sC, i64_w, i32_w]; rfl)
                   refine pure_ (i := 10) (N := some 95) (v := ?_) (a' := ?_) (bA 22 1263) rfl rfl (any_of HT_.out (by kernel_rfl)) (fun _ _ _ h => h) (Or.inl ⟨by rfl, ?_⟩) ?_ ?_
                   rotate_left; (intro w'; go_simp; with_reducible rfl); rotate_left; (simp only [Act.put, sA, sB, sC, i64_w, i32_w]; rfl)
                   refine pure_ (i := 11) (N := some 96) (v := ?_) (a' := ?_) (bA 22 3311) rfl rfl (any_of HT_.out (by kernel_rfl)) (fun _ _ _ h => h) (Or.inl ⟨by rfl, ?_⟩) ?_ ?_
                   rotate_left; (intro w'; go_simp; with_reducible rfl); rotate_left; (simp only [Act.put, sA, sB, sC, i64_w, i32_w]; rfl)
                   refine pure_ (i := 12) (N := some 97) (v := ?_) (a' := ?_) (bA 22 7407) rfl rfl (any_of HT_.out (by kernel_rfl)) (fun _ _ _ h => h) (Or.inl ⟨by rfl, ?_⟩) ?_ ?_
                   rotate_left; (intro w'; go_simp; with_reducible rfl); rotate_left; (simp only [Act.put, sA, sB, sC, i64_w, i32_w]; rfl)
                   refine pure_ (i := 13) (N := some 98) (v := ?_) (a' := ?_) (bA 22 15599) rfl rfl (any_of HT_.out (by kernel_rfl)) (fun _ _ _ h => h) (Or.inl ⟨by rfl, ?_⟩) ?_ ?_
                   rotate_left; (intro w'; go_simp; with_reducible rfl); rotate_left; (simp only [Act.put, sA, sB, sC, i64_w, i32_w]; rfl)
                   refine pure_ (i := 15) (N := some 100) (v := ?_) (a' := ?_) (bA 22 48367) rfl rfl (any_of HT_.out (by kernel_rfl)) (fun _ _ _ h => h) (Or.inl ⟨by rfl, ?_⟩) ?_ ?_
                   rotate_left; (intro w'; go_simp; with_reducible rfl); rotate_left; (simp only [Act.put, sA, sB, sC, i64_w, i32_w]; rfl)
                   refine pure_ (i := 16) (N := some 101) (v := ?_) (a' := ?_) (bA 22 113903) rfl rfl (any_of HT_.out (by kernel_rfl)) (fun _ _ _ h => h) (Or.inl ⟨by rfl, ?_⟩) ?_ ?_
                   rotate_left; (intro w'; go_simp; with_reducible rfl); rotate_left; (simp only [Act.put, sA, sB, sC, i64_w, i32_w]; rfl)
                   refine pure_ (i := 17) (N := some 102) (v := ?_) (a' := ?_) (bA 22 244975) rfl rfl (any_of HT_.out (by kernel_rfl)) (fun _ _ _ h => h) (Or.inl ⟨by rfl, ?_⟩) ?_ ?_
                   rotate_left; (intro w'; go_simp; with_reducible rfl); rotate_left; (simp only [Act.put, sA, sB, sC, i64_w, i32_w]; rfl)
                   refine take_ (i := 4) (N := some 89) (v := ?_) (a' := ?_) (bA 22 244991) rfl rfl (take_ofW HT_.out HW_.out (by kernel_rfl)) (fun _ _ _ h => h) (Or.inl ⟨by rfl, ?_⟩) hHeld ?_ ?_
                   rotate_left; (rintro w' ⟨s0, s1, s2, s3⟩; go_simp; with_reducible rfl); rotate_left; (simp only [Act.put, sA, sB, sC, i64_w, i32_w]; rfl)
                   refine take_ (i := 8) (N := some 93) (v := ?_) (a' := ?_) (bA 22 245247) rfl rfl (take_ofW HT_.out HW_.out (by kernel_rfl)) (fun _ _ _ h => h) (Or.inl ⟨by rfl, ?_⟩) hHeld ?_ ?_
                   rotate_left; (rintro w' ⟨s0, s1, s2, s3⟩; go_simp; with_reducible rfl); rotate_left; (simp only [Act.put, sA, sB, sC, i64_w, i32_w]; rfl)
                   refine take_ (i := 14) (N := some 99) (v := ?_) (a' := ?_) (bA 22 261631) rfl rfl (take_ofW HT_.out HW_.out (by kernel_rfl)) (fun _ _ _ h => h) (Or.inl ⟨by rfl, ?_⟩) hHeld ?_ ?_
                   rotate_left; (rintro w' ⟨s0, s1, s2, s3⟩; go_simp; with_reducible rfl); rotate_left; (simp only [Act.put, sA, sB, sC, i64_w, i32_w]; rfl)
                   refine take_ (i := 18) (N := some 103) (v := ?_) (a' := ?_) (bA 22 523775) rfl rfl (take_ofW HT_.out HW_.out (by kernel_rfl)) (fun _ _ _ h => h) (Or.inl ⟨by rfl, ?_⟩) hHeld ?_ ?_
                   rotate_left; (rintro w' ⟨s0, s1, s2, s3⟩; go_simp; with_reducible rfl); rotate_left; (simp only [Act.put, sA, sB, sC, i64_w, i32_w]; rfl)
                   refine one_ (i := 9) (N := some 94) (bA 22 524287) rfl rfl (one_of HT_.out (by kernel_rfl)) (by decide) (fun K hK => ?_)
                   refine Cx Try.func32 (by kernel_rfl) rfl #[.slice A0 l0.length c0, .int .i64 (rd am aa), .int .i64 (rd ao ab)] (by rfl) rfl rfl (by (try simp only [List.map_toArray, List.map_cons, List.map_nil]); first | done | rfl | (simp only [List.length_drop, List.length_take]; rfl)) ?_
                   with_reducible refine (Ax.calls k3 _ _ l0 (rd am aa) (rd ao ab) false _ ?side1 ?side2 A52.out).mono ?_
                   (case side1 => repeat (first | exact (Kd.V_reads' ai.out).2.2 | (with_reducible refine Kd.Bh ?_ _) | (with_reducible refine Kd.Bg ?_ _) | (with_reducible refine Kd.Bp ?_)))
                   (case side2 => exact (Kd.V_reads' ai.out).2.1)
                   rintro e w133 ⟨rfl, hb⟩
                   have HS0_ := (hb.cell (World.block_lt_of_cell? _ _ (hHeld.1))).trans (hHeld.1)
                   have HS1_ := (hb.cell (World.block_lt_of_cell? _ _ (hHeld.2.1))).trans (hHeld.2.1)
                   have HS2_ := (hb.cell (World.block_lt_of_cell? _ _ (hHeld.2.2.1))).trans (hHeld.2.2.1)
                   have HS3_ := (hb.cell (World.block_lt_of_cell? _ _ (hHeld.2.2.2))).trans (hHeld.2.2.2)
                   refine ⟨_, rfl, ?_⟩
                   have n0_ := Aa.mk (Kd.V_below (by (with_reducible repeat (first | apply Kd.V_alloc | apply Kd.V_drewN | apply Kd.V_drew)); exact ai.out) hb)
                   have n1_ := Aa.mk (Kd.V_below (by (with_reducible repeat (first | apply Kd.V_alloc | apply Kd.V_drewN | apply Kd.V_drew)); exact aj.out) hb)
                   have n2_ := Aa.mk (Kd.At (by exact rU <| af.out) hb)
                   have n3_ := Aa.mk (Kd.At (by exact rU <| ag.out) hb)
                   have n4_ := Aa.mk (Kd.At (by exact rU <| ah.out) hb)
                   have n5_ := Aa.mk (Kd.At (by exact rU <| ae.out) hb)
                   have n6_ := Aa.mk (Kd.At (by exact rU <| ac.out) hb)
                   have n7_ := Aa.mk (Ai (lU HB.out) hb)
                   clear ai
                   clear aj
                   clear af
                   clear ag
                   clear ah
                   clear ae
                   clear ac
                   clear HB
                   have ai := n0_
                   have aj := n1_
                   have af := n2_
                   have ag := n3_
                   have ah := n4_
                   have ae := n5_
                   have ac := n6_
                   have HB := n7_
                   clear n0_ n1_ n2_ n3_ n4_ n5_ n6_ n7_
                   (try clear hb)
                   (try clear hb2)
                   (try clear hk)
                   (try clear hi)
                   refine hK.out _ _ ⟨HS0_, HS1_, HS2_, HS3_⟩ (fun hHeld => ?_)
                   clear hK K
                   refine norm_ (a' := ?_) ?_ ?_
                   rotate_left
                   ·show Act.put _ (some 94) _ = _
                    simp only [Act.put, sA, sB, sC, i64_w, i32_w]
                    rfl
                   refine one_ (i := 19) (N := some 104) (bA 22 1048575) rfl rfl (one_of HT_.out (by kernel_rfl)) (by decide) (fun K hK => ?_)
                   refine Cx Try.func32 (by kernel_rfl) rfl #[.slice A1 l1.length c1, .int .i64 (rd am aa), .int .i64 (rd ao ab)] (by rfl) rfl rfl (by (try simp only [List.map_toArray, List.map_cons, List.map_nil]); first | done | rfl | (simp only [List.length_drop, List.length_take]; rfl)) ?_
                   with_reducible refine (Ax.calls k3 _ _ l1 (rd am aa) (rd ao ab) aq _ ?side1 ?side2 A53.out).mono ?_
                   (case side1 => repeat (first | exact (Kd.V_reads' aj.out).2.2 | (with_reducible refine Kd.Bh ?_ _) | (with_reducible refine Kd.Bg ?_ _) | (with_reducible refine Kd.Bp ?_)))
                   (case side2 => exact (Kd.V_reads' aj.out).2.1)
                   rintro e w134 ⟨rfl, hb⟩
                   have HS0_ := (hb.cell (World.block_lt_of_cell? _ _ (hHeld.1))).trans (hHeld.1)
                   have HS1_ := (hb.cell (World.block_lt_of_cell? _ _ (hHeld.2.1))).trans (hHeld.2.1)
                   have HS2_ := (hb.cell (World.block_lt_of_cell? _ _ (hHeld.2.2.1))).trans (hHeld.2.2.1)
                   have HS3_ := (hb.cell (World.block_lt_of_cell? _ _ (hHeld.2.2.2))).trans (hHeld.2.2.2)
                   refine ⟨_, rfl, ?_⟩
                   have n0_ := Aa.mk (Kd.V_below (by (with_reducible repeat (first | apply Kd.V_alloc | apply Kd.V_drewN | apply Kd.V_drew)); exact ai.out) hb)
                   have n1_ := Aa.mk (Kd.V_below (by (with_reducible repeat (first | apply Kd.V_alloc | apply Kd.V_drewN | apply Kd.V_drew)); exact aj.out) hb)
                   have n2_ := Aa.mk (Kd.At (by exact rU <| af.out) hb)
                   have n3_ := Aa.mk (Kd.At (by exact rU <| ag.out) hb)
                   have n4_ := Aa.mk (Kd.At (by exact rU <| ah.out) hb)
                   have n5_ := Aa.mk (Kd.At (by exact rU <| ae.out) hb)
                   have n6_ := Aa.mk (Kd.At (by exact rU <| ac.out) hb)
                   have n7_ := Aa.mk (Ai (lU HB.out) hb)
                   clear ai
                   clear aj
                   clear af
                   clear ag
                   clear ah
                   clear ae
                   clear ac
                   clear HB
                   have ai := n0_
                   have aj := n1_
                   have af := n2_
                   have ag := n3_
                   have ah := n4_
                   have ae := n5_
                   have ac := n6_
                   have HB := n7_
                   clear n0_ n1_ n2_ n3_ n4_ n5_ n6_ n7_
                   (try clear hb)
                   (try clear hb2)
                   (try clear hk)
                   (try clear hi)
                   refine hK.out _ _ ⟨HS0_, HS1_, HS2_, HS3_⟩ (fun hHeld => ?_)
                   clear hK K
                   refine norm_ (a' := ?_) ?_ ?_
                   rotate_left
                   ·show Act.put _ (some 104) _ = _
                    simp only [Act.put, sA, sB, sC, i64_w, i32_w]
                    rfl
                   refine pure_ (i := 20) (N := some 15) (v := ?_) (a' := ?_) (bA 22 2097151) rfl rfl (any_of HT_.out (by kernel_rfl)) (fun _ _ _ h => h) (Or.inl ⟨by rfl, ?_⟩) ?_ ?_
                   rotate_left; (intro w'; go_simp; with_reducible rfl); rotate_left; (simp only [Act.put, sA, sB, sC, i64_w, i32_w]; rfl)
                   refine pure_ (i := 21) (N := some 16) (v := ?_) (a' := ?_) (bA 22 4194303) rfl rfl (any_of HT_.out (by kernel_rfl)) (fun _ _ _ h => h) (Or.inl ⟨by rfl, ?_⟩) ?_ ?_
                   rotate_left; (intro w'; go_simp; with_reducible rfl); rotate_left; (simp only [Act.put, sA, sB, sC, i64_w, i32_w]; rfl)
                   refine done_ (done_of HT_.out (by kernel_rfl)) ?_
                   try go_wp2
                   have n0_ := Aa.mk (Kd.V_drew ai.out)
                   have n1_ := Aa.mk (Kd.V_drew aj.out)
                   have n2_ := Aa.mk (Kd.B1 af.out)
                   have n3_ := Aa.mk (Kd.B1 ag.out)
                   have n4_ := Aa.mk (Kd.B1 ah.out)
                   have n5_ := Aa.mk (Kd.B1 ae.out)
                   have n6_ := Aa.mk (Kd.B1 ac.out)
                   have n7_ := Aa.mk (Ad HB.out)
                   clear ai
                   clear aj
                   clear af
                   clear ag
                   clear ah
                   clear ae
                   clear ac
                   clear HB
                   have ai := n0_
                   have aj := n1_
                   have af := n2_
                   have ag := n3_
                   have ah := n4_
                   have ae := n5_
                   have ac := n6_
                   have HB := n7_
                   clear n0_ n1_ n2_ n3_ n4_ n5_ n6_ n7_
                   have bf : 0 ≤ (aa : Int) := of_decide_eq_true (by with_reducible assumption)
                   have bg : aa < (am.length : Int) := of_decide_eq_true (by with_reducible assumption)
                   obtain ⟨bH, e139, aG⟩ := Kd.at_int (Kd.Aq ae.out).2.2 aa bf bg
                   obtain rfl : ar = bH := (by injection e139)
                   replace bf := eq_true bf
                   replace bg := eq_true bg
                   have bh : 0 ≤ (ab : Int) := of_decide_eq_true (by with_reducible assumption)
                   have bi : ab < (ao.length : Int) := of_decide_eq_true (by with_reducible assumption)
                   obtain ⟨bI, e140, aH⟩ := Kd.at_int (Kd.Aq ac.out).2.2 ab bh bi
                   obtain rfl : au = bI := (by injection e140)
                   replace bh := eq_true bh
                   replace bi := eq_true bi
                   obtain ⟨cQ, cR, bP⟩ := Kd.Bi af.out
                   (first | subst bP | (injection bP with f1_ f2_ f3_; have f4_ := f1_.symm; have f5_ := f3_.symm; clear f1_ f2_ f3_; subst f4_; subst f5_))
                   have cg : 0 ≤ (aa : Int) := of_decide_eq_true (by with_reducible assumption)
                   have ch : aa < (am.length : Int) := of_decide_eq_true (by with_reducible assumption)
                   obtain ⟨cS, e148, bq⟩ := Kd.at_int (Kd.Aq ae.out).2.2 aa cg ch
                   obtain rfl : ar = cS := (by injection e148)
                   replace cg := eq_true cg
                   replace ch := eq_true ch
                   have ci : 0 ≤ (ab : Int) := of_decide_eq_true (by with_reducible assumption)
                   have cj : ab < (ao.length : Int) := of_decide_eq_true (by with_reducible assumption)
                   obtain ⟨cT, e149, br⟩ := Kd.at_int (Kd.Aq ac.out).2.2 ab ci cj
                   obtain rfl : au = cT := (by injection e149)
                   replace ci := eq_true ci
                   replace cj := eq_true cj
                   have cl : 0 ≤ (aa : Int) := of_decide_eq_true (by with_reducible assumption)
                   have cn : aa < (am.length : Int) := of_decide_eq_true (by with_reducible assumption)
                   obtain ⟨cU, e151, bs⟩ := Kd.at_int (Kd.Aq ae.out).2.2 aa cl cn
                   obtain rfl : ar = cU := (by injection e151)
                   replace cl := eq_true cl
                   replace cn := eq_true cn
                   have co : 0 ≤ (ab : Int) := of_decide_eq_true (by with_reducible assumption)
                   have cp : ab < (ao.length : Int) := of_decide_eq_true (by with_reducible assumption)
                   obtain ⟨cV, e152, bu⟩ := Kd.at_int (Kd.Aq ac.out).2.2 ab co cp
                   obtain rfl : au = cV := (by injection e152)
                   replace co := eq_true co
                   replace cp := eq_true cp
                   refine start_ (n := 50) (S := fun w' => w'.cell? (ar.add (aa).toNat) = some (.int .i64 (rd am aa)) ∧ w'.cell? (au.add (ab).toNat) = some (.int .i64 (rd ao ab)) ∧ w'.cell? (ar.add (aa).toNat) = some (.int .i64 (rd am aa)) ∧ w'.cell? (au.add (ab).toNat) = some (.int .i64 (rd ao ab)) ∧ w'.cell? (ar.add (aa).toNat) = some (.int .i64 (rd am aa)) ∧ w'.cell? (au.add (ab).toNat) = some (.int .i64 (rd ao ab))) (ds := []) #[false, false, false, false, false, false, false, false, false, false, false, false, false, false, false, false, false, false, false, false, false, false, false, false, false, false, false, false, false, false, false, false, false, false, false, false, false, false, false, false, false, false, false, false, false, false, false, false, false, false] (by kernel_rfl) rfl rfl ⟨aG, aH, bq, br, bs, bu⟩ (fun hHeld => ?_); refine with_tabW Ab.tab18 Ab.bits18 (fun HT_ HW_ => ?_)
                   generalize w134.drew = w135 at ai aj af ag ah ae ac HB aG aH bq br bs bu hHeld ⊢
                   refine pure_ (i := 0) (N := some 105) (v := ?_) (a' := ?_) (bA 50 1) rfl rfl (any_of HT_.out (by kernel_rfl)) (fun _ _ _ h => h) (Or.inl ⟨by rfl, ?_⟩) ?_ ?_
                   rotate_left; (intro w'; go_simp; with_reducible rfl); rotate_left; (simp only [Act.put, sA, sB, sC, i64_w, i32_w]; rfl)
                   refine pure_ (i := 1) (N := some 106) (v := ?_) (a' := ?_) (bA 50 3) rfl rfl (any_of HT_.out (by kernel_rfl)) (fun _ _ _ h => h) (Or.inl ⟨by rfl, ?_⟩) ?_ ?_
                   rotate_left; (intro w'; go_simp; with_reducible rfl); rotate_left; (simp only [Act.put, sA, sB, sC, i64_w, i32_w]; rfl)
                   refine pure_ (i := 2) (N := some 107) (v := ?_) (a' := ?_) (bA 50 7) rfl rfl (any_of HT_.out (by kernel_rfl)) (fun _ _ _ h => h) (Or.inl ⟨by rfl, ?_⟩) ?_ ?_
                   rotate_left; (intro w'; go_simp; with_reducible rfl); rotate_left; (simp only [Act.put, sA, sB, sC, i64_w, i32_w]; rfl)
                   refine pure_ (i := 3) (N := some 108) (v := ?_) (a' := ?_) (bA 50 15) rfl rfl (any_of HT_.out (by kernel_rfl)) (fun _ _ _ h => h) (Or.inl ⟨by rfl, ?_⟩) ?_ ?_
                   rotate_left; (intro w'; go_simp; with_reducible rfl); rotate_left; (simp only [Act.put, sA, sB, sC, i64_w, i32_w]; rfl)
                   refine pure_ (i := 5) (N := some 110) (v := ?_) (a' := ?_) (bA 50 47) rfl rfl (any_of HT_.out (by kernel_rfl)) (fun _ _ _ h => h) (Or.inl ⟨by rfl, ?_⟩) ?_ ?_
                   rotate_left; (intro w'; go_simp; with_reducible rfl); rotate_left; (simp only [Act.put, sA, sB, sC, i64_w, i32_w]; rfl)
                   refine pure_ (i := 6) (N := some 111) (v := ?_) (a' := ?_) (bA 50 111) rfl rfl (any_of HT_.out (by kernel_rfl)) (fun _ _ _ h => h) (Or.inl ⟨by rfl, ?_⟩) ?_ ?_
                   rotate_left; (intro w'; go_simp; with_reducible rfl); rotate_left; (simp only [Act.put, sA, sB, sC, i64_w, i32_w]; rfl)
                   refine pure_ (i := 7) (N := some 112) (v := ?_) (a' := ?_) (bA 50 239) rfl rfl (any_of HT_.out (by kernel_rfl)) (fun _ _ _ h => h) (Or.inl ⟨by rfl, ?_⟩) ?_ ?_
                   rotate_left; (intro w'; go_simp; with_reducible rfl); rotate_left; (simp only [Act.put, sA, sB, sC, i64_w, i32_w]; rfl)
                   refine pure_ (i := 10) (N := some 115) (v := ?_) (a' := ?_) (bA 50 1263) rfl rfl (any_of HT_.out (by kernel_rfl)) (fun _ _ _ h => h) (Or.inl ⟨by rfl, ?_⟩) ?_ ?_
                   rotate_left; (intro w'; go_simp; with_reducible rfl); rotate_left; (simp only [Act.put, sA, sB, sC, i64_w, i32_w]; rfl)
                   refine take_ (i := 4) (N := some 109) (v := ?_) (a' := ?_) (bA 50 1279) rfl rfl (take_ofW HT_.out HW_.out (by kernel_rfl)) (fun _ _ _ h => h) (Or.inl ⟨by rfl, ?_⟩) hHeld ?_ ?_
                   rotate_left; (rintro w' ⟨s0, s1, s2, s3, s4, s5⟩; go_simp; with_reducible rfl); rotate_left; (simp only [Act.put, sA, sB, sC, i64_w, i32_w]; rfl)
                   refine take_ (i := 8) (N := some 113) (v := ?_) (a' := ?_) (bA 50 1535) rfl rfl (take_ofW HT_.out HW_.out (by kernel_rfl)) (fun _ _ _ h => h) (Or.inl ⟨by rfl, ?_⟩) hHeld ?_ ?_
                   rotate_left; (rintro w' ⟨s0, s1, s2, s3, s4, s5⟩; go_simp; with_reducible rfl); rotate_left; (simp only [Act.put, sA, sB, sC, i64_w, i32_w]; rfl)
                   refine one_ (i := 9) (N := some 114) (bA 50 2047) rfl rfl (one_of HT_.out (by kernel_rfl)) (by decide) (fun K hK => ?_)
                   refine Cx Try.func32 (by kernel_rfl) rfl #[.slice cQ az.length cR, .int .i64 (rd am aa), .int .i64 (rd ao ab)] (by rfl) rfl rfl (by (try simp only [List.map_toArray, List.map_cons, List.map_nil]); first | done | rfl | (simp only [List.length_drop, List.length_take]; rfl)) ?_
                   with_reducible refine (Ax.calls k3 _ _ az (rd am aa) (rd ao ab) av _ ?side1 ?side2 A54.out).mono ?_
                   (case side1 => repeat (first | exact (Kd.Aq af.out).2.2 | (with_reducible refine Kd.Bh ?_ _) | (with_reducible refine Kd.Bg ?_ _) | (with_reducible refine Kd.Bp ?_)))
                   (case side2 => exact (Kd.Aq af.out).2.1)
                   rintro e w137 ⟨rfl, hb⟩
                   have HS0_ := (hb.cell (World.block_lt_of_cell? _ _ (hHeld.1))).trans (hHeld.1)
                   have HS1_ := (hb.cell (World.block_lt_of_cell? _ _ (hHeld.2.1))).trans (hHeld.2.1)
                   have HS2_ := (hb.cell (World.block_lt_of_cell? _ _ (hHeld.2.2.1))).trans (hHeld.2.2.1)
                   have HS3_ := (hb.cell (World.block_lt_of_cell? _ _ (hHeld.2.2.2.1))).trans (hHeld.2.2.2.1)
                   have HS4_ := (hb.cell (World.block_lt_of_cell? _ _ (hHeld.2.2.2.2.1))).trans (hHeld.2.2.2.2.1)
                   have HS5_ := (hb.cell (World.block_lt_of_cell? _ _ (hHeld.2.2.2.2.2))).trans (hHeld.2.2.2.2.2)
                   refine ⟨_, rfl, ?_⟩
                   have n0_ := Aa.mk (Kd.V_below (by (with_reducible repeat (first | apply Kd.V_alloc | apply Kd.V_drewN | apply Kd.V_drew)); exact ai.out) hb)
                   have n1_ := Aa.mk (Kd.V_below (by (with_reducible repeat (first | apply Kd.V_alloc | apply Kd.V_drewN | apply Kd.V_drew)); exact aj.out) hb)
                   have n2_ := Aa.mk (Kd.At (by exact rU <| af.out) hb)
                   have n3_ := Aa.mk (Kd.At (by exact rU <| ag.out) hb)
                   have n4_ := Aa.mk (Kd.At (by exact rU <| ah.out) hb)
                   have n5_ := Aa.mk (Kd.At (by exact rU <| ae.out) hb)
                   have n6_ := Aa.mk (Kd.At (by exact rU <| ac.out) hb)
                   have n7_ := Aa.mk (Ai (lU HB.out) hb)
                   clear ai
                   clear aj
                   clear af
                   clear ag
                   clear ah
                   clear ae
                   clear ac
                   clear HB
                   have ai := n0_
                   have aj := n1_
                   have af := n2_
                   have ag := n3_
                   have ah := n4_
                   have ae := n5_
                   have ac := n6_
                   have HB := n7_
                   clear n0_ n1_ n2_ n3_ n4_ n5_ n6_ n7_
                   (try clear hb)
                   (try clear hb2)
                   (try clear hk)
                   (try clear hi)
                   obtain ⟨cW, cX, bQ⟩ := Kd.Bi ag.out
                   (first | subst bQ | (injection bQ with f1_ f2_ f3_; have f4_ := f1_.symm; have f5_ := f3_.symm; clear f1_ f2_ f3_; subst f4_; subst f5_))
                   refine hK.out _ _ ⟨HS0_, HS1_, HS2_, HS3_, HS4_, HS5_⟩ (fun hHeld => ?_)
                   clear hK K
                   refine norm_ (a' := ?_) ?_ ?_
                   rotate_left
                   ·show Act.put _ (some 114) _ = _
                    simp only [Act.put, sA, sB, sC, i64_w, i32_w]
                    rfl
                   refine pure_ (i := 11) (N := some 116) (v := ?_) (a' := ?_) (bA 50 4095) rfl rfl (any_of HT_.out (by kernel_rfl)) (fun _ _ _ h => h) (Or.inl ⟨by rfl, ?_⟩) ?_ ?_
                   rotate_left; (intro w'; go_simp; with_reducible rfl); rotate_left; (simp only [Act.put, sA, sB, sC, i64_w, i32_w]; rfl)
                   refine pure_ (i := 12) (N := some 117) (v := ?_) (a' := ?_) (bA 50 8191) rfl rfl (any_of HT_.out (by kernel_rfl)) (fun _ _ _ h => h) (Or.inl ⟨by rfl, ?_⟩) ?_ ?_
                   rotate_left; (intro w'; go_simp; with_reducible rfl); rotate_left; (simp only [Act.put, sA, sB, sC, i64_w, i32_w]; rfl)
                   refine pure_ (i := 13) (N := some 118) (v := ?_) (a' := ?_) (bA 50 16383) rfl rfl (any_of HT_.out (by kernel_rfl)) (fun _ _ _ h => h) (Or.inl ⟨by rfl, ?_⟩) ?_ ?_
                   rotate_left; (intro w'; go_simp; with_reducible rfl); rotate_left; (simp only [Act.put, sA, sB, sC, i64_w, i32_w]; rfl)
                   refine pure_ (i := 14) (N := some 119) (v := ?_) (a' := ?_) (bA 50 32767) rfl rfl (any_of HT_.out (by kernel_rfl)) (fun _ _ _ h => h) (Or.inl ⟨by rfl, ?_⟩) ?_ ?_
                   rotate_left; (intro w'; go_simp; with_reducible rfl); rotate_left; (simp only [Act.put, sA, sB, sC, i64_w, i32_w]; rfl)
                   refine pure_ (i := 15) (N := some 120) (v := ?_) (a' := ?_) (bA 50 65535) rfl rfl (any_of HT_.out (by kernel_rfl)) (fun _ _ _ h => h) (Or.inl ⟨by rfl, ?_⟩) ?_ ?_
                   rotate_left; (intro w'; go_simp; with_reducible rfl); rotate_left; (simp only [Act.put, sA, sB, sC, i64_w, i32_w]; rfl)
                   refine pure_ (i := 16) (N := some 121) (v := ?_) (a' := ?_) (bA 50 131071) rfl rfl (any_of HT_.out (by kernel_rfl)) (fun _ _ _ h => h) (Or.inl ⟨by rfl, ?_⟩) ?_ ?_
                   rotate_left; (intro w'; go_simp; with_reducible rfl); rotate_left; (simp only [Act.put, sA, sB, sC, i64_w, i32_w]; rfl)
                   refine pure_ (i := 17) (N := some 122) (v := ?_) (a' := ?_) (bA 50 262143) rfl rfl (any_of HT_.out (by kernel_rfl)) (fun _ _ _ h => h) (Or.inl ⟨by rfl, ?_⟩) ?_ ?_
                   rotate_left; (intro w'; go_simp; with_reducible rfl); rotate_left; (simp only [Act.put, sA, sB, sC, i64_w, i32_w]; rfl)
                   refine pure_ (i := 18) (N := some 123) (v := ?_) (a' := ?_) (bA 50 524287) rfl rfl (any_of HT_.out (by kernel_rfl)) (fun _ _ _ h => h) (Or.inl ⟨by rfl, ?_⟩) ?_ ?_
                   rotate_left; (intro w'; go_simp; with_reducible rfl); rotate_left; (simp only [Act.put, sA, sB, sC, i64_w, i32_w]; rfl)
                   refine pure_ (i := 19) (N := some 124) (v := ?_) (a' := ?_) (bA 50 1048575) rfl rfl (any_of HT_.out (by kernel_rfl)) (fun _ _ _ h => h) (Or.inl ⟨by rfl, ?_⟩) ?_ ?_
                   rotate_left; (intro w'; go_simp; with_reducible rfl); rotate_left; (simp only [Act.put, sA, sB, sC, i64_w, i32_w]; rfl)
                   refine pure_ (i := 21) (N := some 126) (v := ?_) (a' := ?_) (bA 50 3145727) rfl rfl (any_of HT_.out (by kernel_rfl)) (fun _ _ _ h => h) (Or.inl ⟨by rfl, ?_⟩) ?_ ?_
                   rotate_left; (intro w'; go_simp; with_reducible rfl); rotate_left; (simp only [Act.put, sA, sB, sC, i64_w, i32_w]; rfl)
                   refine pure_ (i := 22) (N := some 127) (v := ?_) (a' := ?_) (bA 50 7340031) rfl rfl (any_of HT_.out (by kernel_rfl)) (fun _ _ _ h => h) (Or.inl ⟨by rfl, ?_⟩) ?_ ?_
                   rotate_left; (intro w'; go_simp; with_reducible rfl); rotate_left; (simp only [Act.put, sA, sB, sC, i64_w, i32_w]; rfl)
                   refine pure_ (i := 23) (N := some 128) (v := ?_) (a' := ?_) (bA 50 15728639) rfl rfl (any_of HT_.out (by kernel_rfl)) (fun _ _ _ h => h) (Or.inl ⟨by rfl, ?_⟩) ?_ ?_
                   rotate_left; (intro w'; go_simp; with_reducible rfl); rotate_left; (simp only [Act.put, sA, sB, sC, i64_w, i32_w]; rfl)
                   refine pure_ (i := 26) (N := some 131) (v := ?_) (a' := ?_) (bA 50 82837503) rfl rfl (any_of HT_.out (by kernel_rfl)) (fun _ _ _ h => h) (Or.inl ⟨by rfl, ?_⟩) ?_ ?_
                   rotate_left; (intro w'; go_simp; with_reducible rfl); rotate_left; (simp only [Act.put, sA, sB, sC, i64_w, i32_w]; rfl)
                   refine take_ (i := 20) (N := some 125) (v := ?_) (a' := ?_) (bA 50 83886079) rfl rfl (take_ofW HT_.out HW_.out (by kernel_rfl)) (fun _ _ _ h => h) (Or.inl ⟨by rfl, ?_⟩) hHeld ?_ ?_
                   rotate_left; (rintro w' ⟨s0, s1, s2, s3, s4, s5⟩; go_simp; with_reducible rfl); rotate_left; (simp only [Act.put, sA, sB, sC, i64_w, i32_w]; rfl)
                   refine take_ (i := 24) (N := some 129) (v := ?_) (a' := ?_) (bA 50 100663295) rfl rfl (take_ofW HT_.out HW_.out (by kernel_rfl)) (fun _ _ _ h => h) (Or.inl ⟨by rfl, ?_⟩) hHeld ?_ ?_
                   rotate_left; (rintro w' ⟨s0, s1, s2, s3, s4, s5⟩; go_simp; with_reducible rfl); rotate_left; (simp only [Act.put, sA, sB, sC, i64_w, i32_w]; rfl)
                   refine one_ (i := 25) (N := some 130) (bA 50 134217727) rfl rfl (one_of HT_.out (by kernel_rfl)) (by decide) (fun K hK => ?_)
                   refine Cx Try.func32 (by kernel_rfl) rfl #[.slice cW aN.length cX, .int .i64 (rd am aa), .int .i64 (rd ao ab)] (by rfl) rfl rfl (by (try simp only [List.map_toArray, List.map_cons, List.map_nil]); first | done | rfl | (simp only [List.length_drop, List.length_take]; rfl)) ?_
                   with_reducible refine (Ax.calls k3 _ _ aN (rd am aa) (rd ao ab) aV _ ?side1 ?side2 A107.out).mono ?_
                   (case side1 => repeat (first | exact (Kd.Aq ag.out).2.2 | (with_reducible refine Kd.Bh ?_ _) | (with_reducible refine Kd.Bg ?_ _) | (with_reducible refine Kd.Bp ?_)))
                   (case side2 => exact (Kd.Aq ag.out).2.1)
                   rintro e w139 ⟨rfl, hb⟩
                   have HS0_ := (hb.cell (World.block_lt_of_cell? _ _ (hHeld.1))).trans (hHeld.1)
                   have HS1_ := (hb.cell (World.block_lt_of_cell? _ _ (hHeld.2.1))).trans (hHeld.2.1)
                   have HS2_ := (hb.cell (World.block_lt_of_cell? _ _ (hHeld.2.2.1))).trans (hHeld.2.2.1)
                   have HS3_ := (hb.cell (World.block_lt_of_cell? _ _ (hHeld.2.2.2.1))).trans (hHeld.2.2.2.1)
                   have HS4_ := (hb.cell (World.block_lt_of_cell? _ _ (hHeld.2.2.2.2.1))).trans (hHeld.2.2.2.2.1)
                   have HS5_ := (hb.cell (World.block_lt_of_cell? _ _ (hHeld.2.2.2.2.2))).trans (hHeld.2.2.2.2.2)
                   refine ⟨_, rfl, ?_⟩
                   have n0_ := Aa.mk (Kd.V_below (by (with_reducible repeat (first | apply Kd.V_alloc | apply Kd.V_drewN | apply Kd.V_drew)); exact ai.out) hb)
                   have n1_ := Aa.mk (Kd.V_below (by (with_reducible repeat (first | apply Kd.V_alloc | apply Kd.V_drewN | apply Kd.V_drew)); exact aj.out) hb)
                   have n2_ := Aa.mk (Kd.At (by exact rU <| af.out) hb)
                   have n3_ := Aa.mk (Kd.At (by exact rU <| ag.out) hb)
                   have n4_ := Aa.mk (Kd.At (by exact rU <| ah.out) hb)
                   have n5_ := Aa.mk (Kd.At (by exact rU <| ae.out) hb)
                   have n6_ := Aa.mk (Kd.At (by exact rU <| ac.out) hb)
                   have n7_ := Aa.mk (Ai (lU HB.out) hb)
                   clear ai
                   clear aj
                   clear af
                   clear ag
                   clear ah
                   clear ae
                   clear ac
                   clear HB
                   have ai := n0_
                   have aj := n1_
                   have af := n2_
                   have ag := n3_
                   have ah := n4_
                   have ae := n5_
                   have ac := n6_
                   have HB := n7_
                   clear n0_ n1_ n2_ n3_ n4_ n5_ n6_ n7_
                   (try clear hb)
                   (try clear hb2)
                   (try clear hk)
                   (try clear hi)
                   obtain ⟨cY, cZ, bR⟩ := Kd.Bi ah.out
                   (first | subst bR | (injection bR with f1_ f2_ f3_; have f4_ := f1_.symm; have f5_ := f3_.symm; clear f1_ f2_ f3_; subst f4_; subst f5_))
                   refine hK.out _ _ ⟨HS0_, HS1_, HS2_, HS3_, HS4_, HS5_⟩ (fun hHeld => ?_)
                   clear hK K
                   refine norm_ (a' := ?_) ?_ ?_
                   rotate_left
                   ·show Act.put _ (some 130) _ = _
                    simp only [Act.put, sA, sB, sC, i64_w, i32_w]
                    rfl
                   refine pure_ (i := 27) (N := some 132) (v := ?_) (a' := ?_) (bA 50 268435455) rfl rfl (any_of HT_.out (by kernel_rfl)) (fun _ _ _ h => h) (Or.inl ⟨by rfl, ?_⟩) ?_ ?_
                   rotate_left; (intro w'; go_simp; with_reducible rfl); rotate_left; (simp only [Act.put, sA, sB, sC, i64_w, i32_w]; rfl)
                   refine pure_ (i := 28) (N := some 133) (v := undef) (a' := ?_) (bA 50 536870911) rfl rfl (any_of HT_.out (by kernel_rfl)) (fun _ _ _ h => h) (Or.inr ⟨by rfl, rfl⟩) ?_ ?_
                   rotate_left
                   ·simp only [Act.put, sA, sB, sC, i64_w, i32_w]
                    rfl
                   refine pure_ (i := 29) (N := some 134) (v := ?_) (a' := ?_) (bA 50 1073741823) rfl rfl (any_of HT_.out (by kernel_rfl)) (fun _ _ _ h => h) (Or.inl ⟨by rfl, ?_⟩) ?_ ?_
                   rotate_left; (intro w'; go_simp; with_reducible rfl); rotate_left; (simp only [Act.put, sA, sB, sC, i64_w, i32_w]; rfl)
                   refine pure_ (i := 30) (N := some 135) (v := ?_) (a' := ?_) (bA 50 2147483647) rfl rfl (any_of HT_.out (by kernel_rfl)) (fun _ _ _ h => h) (Or.inl ⟨by rfl, ?_⟩) ?_ ?_
                   rotate_left; (intro w'; go_simp; with_reducible rfl); rotate_left; (simp only [Act.put, sA, sB, sC, i64_w, i32_w]; rfl)
                   refine pure_ (i := 31) (N := some 136) (v := ?_) (a' := ?_) (bA 50 4294967295) rfl rfl (any_of HT_.out (by kernel_rfl)) (fun _ _ _ h => h) (Or.inl ⟨by rfl, ?_⟩) ?_ ?_
                   rotate_left; (intro w'; go_simp; with_reducible rfl); rotate_left; (simp only [Act.put, sA, sB, sC, i64_w, i32_w]; rfl)
                   refine pure_ (i := 32) (N := some 137) (v := ?_) (a' := ?_) (bA 50 8589934591) rfl rfl (any_of HT_.out (by kernel_rfl)) (fun _ _ _ h => h) (Or.inl ⟨by rfl, ?_⟩) ?_ ?_
                   rotate_left; (intro w'; go_simp; with_reducible rfl); rotate_left; (simp only [Act.put, sA, sB, sC, i64_w, i32_w]; rfl)
                   refine pure_ (i := 33) (N := some 138) (v := ?_) (a' := ?_) (bA 50 17179869183) rfl rfl (any_of HT_.out (by kernel_rfl)) (fun _ _ _ h => h) (Or.inl ⟨by rfl, ?_⟩) ?_ ?_
                   rotate_left; (intro w'; go_simp; with_reducible rfl); rotate_left; (simp only [Act.put, sA, sB, sC, i64_w, i32_w]; rfl)
                   refine pure_ (i := 34) (N := some 139) (v := ?_) (a' := ?_) (bA 50 34359738367) rfl rfl (any_of HT_.out (by kernel_rfl)) (fun _ _ _ h => h) (Or.inl ⟨by rfl, ?_⟩) ?_ ?_
                   rotate_left; (intro w'; go_simp; with_reducible rfl); rotate_left; (simp only [Act.put, sA, sB, sC, i64_w, i32_w]; rfl)
                   refine pure_ (i := 35) (N := some 140) (v := ?_) (a' := ?_) (bA 50 68719476735) rfl rfl (any_of HT_.out (by kernel_rfl)) (fun _ _ _ h => h) (Or.inl ⟨by rfl, ?_⟩) ?_ ?_
                   rotate_left; (intro w'; go_simp; with_reducible rfl); rotate_left; (simp only [Act.put, sA, sB, sC, i64_w, i32_w]; rfl)
                   refine pure_ (i := 36) (N := some 141) (v := ?_) (a' := ?_) (bA 50 137438953471) rfl rfl (any_of HT_.out (by kernel_rfl)) (fun _ _ _ h => h) (Or.inl ⟨by rfl, ?_⟩) ?_ ?_
                   rotate_left; (intro w'; go_simp; with_reducible rfl); rotate_left; (simp only [Act.put, sA, sB, sC, i64_w, i32_w]; rfl)
                   refine pure_ (i := 38) (N := some 143) (v := ?_) (a' := ?_) (bA 50 412316860415) rfl rfl (any_of HT_.out (by kernel_rfl)) (fun _ _ _ h => h) (Or.inl ⟨by rfl, ?_⟩) ?_ ?_
                   rotate_left; (intro w'; go_simp; with_reducible rfl); rotate_left; (simp only [Act.put, sA, sB, sC, i64_w, i32_w]; rfl)
                   refine pure_ (i := 39) (N := some 144) (v := ?_) (a' := ?_) (bA 50 962072674303) rfl rfl (any_of HT_.out (by kernel_rfl)) (fun _ _ _ h => h) (Or.inl ⟨by rfl, ?_⟩) ?_ ?_
                   rotate_left; (intro w'; go_simp; with_reducible rfl); rotate_left; (simp only [Act.put, sA, sB, sC, i64_w, i32_w]; rfl)
                   refine pure_ (i := 40) (N := some 145) (v := ?_) (a' := ?_) (bA 50 2061584302079) rfl rfl (any_of HT_.out (by kernel_rfl)) (fun _ _ _ h => h) (Or.inl ⟨by rfl, ?_⟩) ?_ ?_
                   rotate_left; (intro w'; go_simp; with_reducible rfl); rotate_left; (simp only [Act.put, sA, sB, sC, i64_w, i32_w]; rfl)
                   refine pure_ (i := 43) (N := some 148) (v := ?_) (a' := ?_) (bA 50 10857677324287) rfl rfl (any_of HT_.out (by kernel_rfl)) (fun _ _ _ h => h) (Or.inl ⟨by rfl, ?_⟩) ?_ ?_
                   rotate_left; (intro w'; go_simp; with_reducible rfl); rotate_left; (simp only [Act.put, sA, sB, sC, i64_w, i32_w]; rfl)
                   refine take_ (i := 37) (N := some 142) (v := ?_) (a' := ?_) (bA 50 10995116277759) rfl rfl (take_ofW HT_.out HW_.out (by kernel_rfl)) (fun _ _ _ h => h) (Or.inl ⟨by rfl, ?_⟩) hHeld ?_ ?_
                   rotate_left; (rintro w' ⟨s0, s1, s2, s3, s4, s5⟩; go_simp; with_reducible rfl); rotate_left; (simp only [Act.put, sA, sB, sC, i64_w, i32_w]; rfl)
                   refine take_ (i := 41) (N := some 146) (v := ?_) (a' := ?_) (bA 50 13194139533311) rfl rfl (take_ofW HT_.out HW_.out (by kernel_rfl)) (fun _ _ _ h => h) (Or.inl ⟨by rfl, ?_⟩) hHeld ?_ ?_
                   rotate_left; (rintro w' ⟨s0, s1, s2, s3, s4, s5⟩; go_simp; with_reducible rfl); rotate_left; (simp only [Act.put, sA, sB, sC, i64_w, i32_w]; rfl)
                   refine one_ (i := 42) (N := some 147) (bA 50 17592186044415) rfl rfl (one_of HT_.out (by kernel_rfl)) (by decide) (fun K hK => ?_)
                   refine Cx Try.func32 (by kernel_rfl) rfl #[.slice cY aT.length cZ, .int .i64 (rd am aa), .int .i64 (rd ao ab)] (by rfl) rfl rfl (by (try simp only [List.map_toArray, List.map_cons, List.map_nil]); first | done | rfl | (simp only [List.length_drop, List.length_take]; rfl)) ?_
                   with_reducible refine (Ax.calls k3 _ _ aT (rd am aa) (rd ao ab) aW _ ?side1 ?side2 A118.out).mono ?_
                   (case side1 => repeat (first | exact (Kd.Aq ah.out).2.2 | (with_reducible refine Kd.Bh ?_ _) | (with_reducible refine Kd.Bg ?_ _) | (with_reducible refine Kd.Bp ?_)))
                   (case side2 => exact (Kd.Aq ah.out).2.1)
                   rintro e w141 ⟨rfl, hb⟩
                   have HS0_ := (hb.cell (World.block_lt_of_cell? _ _ (hHeld.1))).trans (hHeld.1)
                   have HS1_ := (hb.cell (World.block_lt_of_cell? _ _ (hHeld.2.1))).trans (hHeld.2.1)
                   have HS2_ := (hb.cell (World.block_lt_of_cell? _ _ (hHeld.2.2.1))).trans (hHeld.2.2.1)
                   have HS3_ := (hb.cell (World.block_lt_of_cell? _ _ (hHeld.2.2.2.1))).trans (hHeld.2.2.2.1)
                   have HS4_ := (hb.cell (World.block_lt_of_cell? _ _ (hHeld.2.2.2.2.1))).trans (hHeld.2.2.2.2.1)
                   have HS5_ := (hb.cell (World.block_lt_of_cell? _ _ (hHeld.2.2.2.2.2))).trans (hHeld.2.2.2.2.2)
                   refine ⟨_, rfl, ?_⟩
                   have n0_ := Aa.mk (Kd.V_below (by (with_reducible repeat (first | apply Kd.V_alloc | apply Kd.V_drewN | apply Kd.V_drew)); exact ai.out) hb)
                   have n1_ := Aa.mk (Kd.V_below (by (with_reducible repeat (first | apply Kd.V_alloc | apply Kd.V_drewN | apply Kd.V_drew)); exact aj.out) hb)
                   have n2_ := Aa.mk (Kd.At (by exact rU <| af.out) hb)
                   have n3_ := Aa.mk (Kd.At (by exact rU <| ag.out) hb)
                   have n4_ := Aa.mk (Kd.At (by exact rU <| ah.out) hb)
                   have n5_ := Aa.mk (Kd.At (by exact rU <| ae.out) hb)
                   have n6_ := Aa.mk (Kd.At (by exact rU <| ac.out) hb)
                   have n7_ := Aa.mk (Ai (lU HB.out) hb)
                   clear ai
                   clear aj
                   clear af
                   clear ag
                   clear ah
                   clear ae
                   clear ac
                   clear HB
                   have ai := n0_
                   have aj := n1_
                   have af := n2_
                   have ag := n3_
                   have ah := n4_
                   have ae := n5_
                   have ac := n6_
                   have HB := n7_
                   clear n0_ n1_ n2_ n3_ n4_ n5_ n6_ n7_
                   (try clear hb)
                   (try clear hb2)
                   (try clear hk)
                   (try clear hi)
                   refine hK.out _ _ ⟨HS0_, HS1_, HS2_, HS3_, HS4_, HS5_⟩ (fun hHeld => ?_)
                   clear hK K
                   refine norm_ (a' := ?_) ?_ ?_
                   rotate_left
                   ·show Act.put _ (some 147) _ = _
                    simp only [Act.put, sA, sB, sC, i64_w, i32_w]
                    rfl
                   refine pure_ (i := 44) (N := some 149) (v := ?_) (a' := ?_) (bA 50 35184372088831) rfl rfl (any_of HT_.out (by kernel_rfl)) (fun _ _ _ h => h) (Or.inl ⟨by rfl, ?_⟩) ?_ ?_
                   rotate_left; (intro w'; go_simp; with_reducible rfl); rotate_left; (simp only [Act.put, sA, sB, sC, i64_w, i32_w]; rfl)
                   refine pure_ (i := 45) (N := some 150) (v := undef) (a' := ?_) (bA 50 70368744177663) rfl rfl (any_of HT_.out (by kernel_rfl)) (fun _ _ _ h => h) (Or.inr ⟨by rfl, rfl⟩) ?_ ?_
                   rotate_left
                   ·simp only [Act.put, sA, sB, sC, i64_w, i32_w]
                    rfl
                   refine pure_ (i := 46) (N := some 151) (v := undef) (a' := ?_) (bA 50 140737488355327) rfl rfl (any_of HT_.out (by kernel_rfl)) (fun _ _ _ h => h) (Or.inr ⟨by rfl, rfl⟩) ?_ ?_
                   rotate_left
                   ·simp only [Act.put, sA, sB, sC, i64_w, i32_w]
                    rfl
                   refine pure_ (i := 47) (N := some 152) (v := ?_) (a' := ?_) (bA 50 281474976710655) rfl rfl (any_of HT_.out (by kernel_rfl)) (fun _ _ _ h => h) (Or.inl ⟨by rfl, ?_⟩) ?_ ?_
                   rotate_left; (intro w'; go_simp; with_reducible rfl); rotate_left; (simp only [Act.put, sA, sB, sC, i64_w, i32_w]; rfl)
                   refine pure_ (i := 48) (N := some 153) (v := ?_) (a' := ?_) (bA 50 562949953421311) rfl rfl (any_of HT_.out (by kernel_rfl)) (fun _ _ _ h => h) (Or.inl ⟨by rfl, ?_⟩) ?_ ?_
                   rotate_left; (intro w'; go_simp; with_reducible rfl); rotate_left; (simp only [Act.put, sA, sB, sC, i64_w, i32_w]; rfl)
                   refine pure_ (i := 49) (N := some 154) (v := ?_) (a' := ?_) (bA 50 1125899906842623) rfl rfl (any_of HT_.out (by kernel_rfl)) (fun _ _ _ h => h) (Or.inl ⟨by rfl, ?_⟩) ?_ ?_
                   rotate_left; (intro w'; go_simp; with_reducible rfl); rotate_left; (simp only [Act.put, sA, sB, sC, i64_w, i32_w]; rfl)
                   refine done_ (done_of HT_.out (by kernel_rfl)) ?_
                   try go_wp2
                   go_roundg k3
                   case measure => have := HJ9.out; have := HK2.out; have := HK3.out; omega
                   case rel => exact ⟨(wrap64 (ab + 1)), (by first | rfl | (simp; done) | (simp [*]; done)), H', ⟨by have := HJ9.out; have := HK2.out; have := HK3.out; omega⟩, ⟨by (with_reducible repeat (first | apply Kd.V_alloc | apply Kd.V_drewN | apply Kd.V_drew)); exact ai.out⟩, ⟨by (with_reducible repeat (first | apply Kd.V_alloc | apply Kd.V_drewN | apply Kd.V_drew)); exact aj.out⟩, ⟨by exact rU <| af.out⟩, ⟨by exact rU <| ag.out⟩, ⟨by exact rU <| ah.out⟩, ⟨by exact rU <| ae.out⟩, ⟨by exact rU <| ac.out⟩, ⟨by repeat (first | (with_reducible first | exact HB.out | apply Ae | apply Ac | apply Ad) | exact HB.out)⟩⟩
              ·rw [if_neg c51] at H
               exact absurd H (by simp)
             ·rw [if_neg c50] at H
              exact absurd H (by simp)
            ·rw [if_neg c49] at H
             exact absurd H (by simp)
           ·rw [if_neg c48] at H
            have cv : decide (ab < (ao.length : Int)) = false := decide_eq_false c48
            clear c48
            have H' := Aa.mk H
            clear H
            obtain ⟨dP, dQ, da⟩ := Kd.Bi ac.out
            subst da
            go_wp2
            go_roundg k3
            case measure => have := HJ9.out; have := HK2.out; have := HK3.out; omega
            case rel => exact ⟨(wrap64 (aa + 1)), (by first | rfl | (simp; done) | (simp [*]; done)), H', ⟨by have := HJ9.out; have := HK2.out; have := HK3.out; omega⟩, ⟨by (with_reducible repeat (first | apply Kd.V_alloc | apply Kd.V_drewN | apply Kd.V_drew)); exact ai.out⟩, ⟨by (with_reducible repeat (first | apply Kd.V_alloc | apply Kd.V_drewN | apply Kd.V_drew)); exact aj.out⟩, ⟨by exact rU <| af.out⟩, ⟨by exact rU <| ag.out⟩, ⟨by exact rU <| ah.out⟩, ⟨by exact rU <| ae.out⟩, ⟨by exact rU <| ac.out⟩, ⟨by repeat (first | (with_reducible first | exact HB.out | apply Ae | apply Ac | apply Ad) | exact HB.out)⟩⟩
        ·rw [if_neg c46] at H
         have bO : decide (aa < (am.length : Int)) = false := decide_eq_false c46
         clear c46
         obtain rfl := Option.some.inj H
         obtain ⟨dR, dS, dc⟩ := Kd.Bi ae.out
         subst dc
         go_wp2
         go_ret
         exact ⟨by first | rfl | (simp [Av, Au] <;> rfl) | (simp [*, Av, Au] <;> rfl), by repeat (first | (with_reducible first | exact HB.out | apply Ae | apply Ac | apply Ad) | exact HB.out)⟩
  ·replace c6 := Bool.eq_false_iff.mpr c6
   subst c6
   have H1 := H
   rw [if_neg (show ¬ (false = true) by decide)] at H1
   clear H
   have H := H1
   clear H1
   obtain rfl := Option.some.inj H
   go_enter Try.func5, Try.ntmps5
   go_wp2_with (first | ((with_reducible refine Ap (f := 10) rfl ?_); refine Br (some 17) rfl rfl Try.func10 (by kernel_rfl) rfl #[] rfl (by (try simp only [List.map_toArray, List.map_cons, List.map_nil]); first | done | rfl | (simp only [List.length_drop, List.length_take]; rfl)) ?_; (with_reducible refine (Cn.calls k  true _ A3.out).mono ?_); rintro e w144 ⟨rfl, hb⟩; refine ⟨_, rfl, ?_⟩; have n0_ := Aa.mk (Kd.V_below (by (with_reducible repeat (first | apply Kd.V_alloc | apply Kd.V_drewN | apply Kd.V_drew)); exact HO0.out) hb); have n1_ := Aa.mk (Kd.V_below (by (with_reducible repeat (first | apply Kd.V_alloc | apply Kd.V_drewN | apply Kd.V_drew)); exact HO1.out) hb); have n2_ := Aa.mk (Ai (lU HB.out) hb); clear HO0; clear HO1; clear HB; have HO0 := n0_; have HO1 := n1_; have HB := n2_; clear n0_ n1_ n2_; (try clear hb); (try clear hb2); (try clear hk); (try clear hi)) | ((with_reducible refine Bo (N := 21) rfl ?_); refine Kd.N_lit (Kd.slice 58 k58) _ 22 ?hg (N' := 21) ?hd (xs := ([l0, l1] : List (List (S58)))) (inner := [.slice A0 l0.length c0, .slice A1 l1.length c1]) (ok := (fun k_ => ((P0_ k_ ∨ P1_ k_) ∨ w.heap.size ≤ k_))) (okp := (fun k_ => ((P0_ k_ ∨ P1_ k_) ∨ w.heap.size ≤ k_))) ?hr ?hp (fun _ hk => hk) ((show ∀ k_, w144.heap.size ≤ k_ → (fun k_ => ((P0_ k_ ∨ P1_ k_) ∨ w.heap.size ≤ k_)) k_ from fun k_ hk => (.inr (Nat.le_trans (Af (lU HB.out)) hk))) _ (Nat.le_refl _)) (Below.refl _ _) (Nat.le_refl _) (by simp) ?_; (case hd => rfl); (case hg => rfl); (case hr => first | (go_simp; done) | (go_simp; rfl)); (case hp => exact (Reps.one (show Kd.FK (Kd.slice 58 k58) _ _ l0 [.slice A0 l0.length c0] from (Kd.FK_slice_mk (Kd.V_reads' (Kd.V_mono (ok' := (fun k_ => ((P0_ k_ ∨ P1_ k_) ∨ w.heap.size ≤ k_))) (HO0.out) (fun k_ hk => hk))).2.1 (Kd.V_F (Kd.V_mono (ok' := (fun k_ => ((P0_ k_ ∨ P1_ k_) ∨ w.heap.size ≤ k_))) (HO0.out) (fun k_ hk => hk))))) (Reps.one (show Kd.FK (Kd.slice 58 k58) _ _ l1 [.slice A1 l1.length c1] from (Kd.FK_slice_mk (Kd.V_reads' (Kd.V_mono (ok' := (fun k_ => ((P0_ k_ ∨ P1_ k_) ∨ w.heap.size ≤ k_))) (HO1.out) (fun k_ hk => hk))).2.1 (Kd.V_F (Kd.V_mono (ok' := (fun k_ => ((P0_ k_ ∨ P1_ k_) ∨ w.heap.size ≤ k_))) (HO1.out) (fun k_ hk => hk))))) (Reps.none _ _)))); intro v103 w145 ho146 hb hg_ hnew_; clear hg_ hnew_; (first | rw [← bj.out] at ho146 | (simp only [Int.reduceToNat] at ho146; rw [← bj.out] at ho146)); have n0_ := Aa.mk (Kd.V_elder' (by (with_reducible repeat (first | apply Kd.V_alloc | apply Kd.V_drewN | apply Kd.V_drew)); exact HO0.out) (Kd.N_base ho146) hb); have n1_ := Aa.mk (Kd.V_elder' (by (with_reducible repeat (first | apply Kd.V_alloc | apply Kd.V_drewN | apply Kd.V_drew)); exact HO1.out) (Kd.N_base ho146) hb); have n2_ := Aa.mk (Kd.N_lower ho146 (Af (lU HB.out))); have n3_ := Aa.mk (Ai (lU HB.out) hb); clear HO0; clear HO1; clear HB; have HO0 := n0_; have HO1 := n1_; have ak := n2_; have HB := n3_; clear n0_ n1_ n2_ n3_; clear hb ho146; obtain ⟨dd, de, df⟩ := Kd.N_slice ak.out; subst df) | ((with_reducible refine Ap (f := 29) rfl ?_); refine Br (some 22) rfl rfl Try.func29 (by kernel_rfl) rfl #[.slice dd bJ.length de] rfl (by (try simp only [List.map_toArray, List.map_cons, List.map_nil]); first | done | rfl | (simp only [List.length_drop, List.length_take]; rfl)) ?_; (with_reducible refine (B0.calls k _ _ bJ false _ ?side1 ?side2 A5.out).mono ?_); (case side1 => repeat (first | exact (Kd.N_reads' ak.out).2.2 | (with_reducible refine Kd.Bh ?_ _) | (with_reducible refine Kd.Bg ?_ _) | (with_reducible refine Kd.Bp ?_))); (case side2 => exact (Kd.N_reads' ak.out).2.1); rintro e w148 ⟨rfl, hb⟩; refine ⟨_, rfl, ?_⟩; have n0_ := Aa.mk (Kd.V_below (by (with_reducible repeat (first | apply Kd.V_alloc | apply Kd.V_drewN | apply Kd.V_drew)); exact HO0.out) hb); have n1_ := Aa.mk (Kd.V_below (by (with_reducible repeat (first | apply Kd.V_alloc | apply Kd.V_drewN | apply Kd.V_drew)); exact HO1.out) hb); have n2_ := Aa.mk (Kd.N_below (by (with_reducible repeat (first | apply Kd.N_alloc | apply Kd.N_drewN | apply Kd.N_drew)); exact ak.out) hb); have n3_ := Aa.mk (Ai (lU HB.out) hb); clear HO0; clear HO1; clear ak; clear HB; have HO0 := n0_; have HO1 := n1_; have ak := n2_; have HB := n3_; clear n0_ n1_ n2_ n3_; (try clear hb); (try clear hb2); (try clear hk); (try clear hi)))
   go_ret
   exact ⟨by first | rfl | (simp [Av, Au] <;> rfl) | (simp [*, Av, Au] <;> rfl), by repeat (first | (with_reducible first | exact HB.out | apply Ae | apply Ac | apply Ad) | exact HB.out)⟩
 ·replace c4 := Bool.eq_false_iff.mpr c4
  subst c4
  have H1 := H
  rw [if_neg (show ¬ (false = true) by decide)] at H1
  clear H
  have H := H1
  clear H1
  exact absurd (H.trans (congrArg some HT.out)) (by decide)

end Go.Proofs.Ytobdfiglgdbecaa.PGP

