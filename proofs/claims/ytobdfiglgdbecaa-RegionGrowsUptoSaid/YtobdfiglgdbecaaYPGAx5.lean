import Derived.Test.YtobdfiglgdbecaaYPGAx0
import Derived.Test.YtobdfiglgdbecaaYPGAx2
import Derived.Test.YtobdfiglgdbecaaYPGAx3
import Derived.Test.YtobdfiglgdbecaaYPGAx4
namespace Go.Proofs.Ytobdfiglgdbecaa.PGA
open Go.Proofs.Ytobdfiglgdbecaa.PGB
open Go.RowKit Go.Proofs.YtobdfiglgdbecaaW.PrintWords Go.Proofs.YtobdfiglgdbecaaW.PrintLast Go.Proofs.YtobdfiglgdbecaaW.PrintMore
attribute [local go_sem] max2_int min2_int max_two min_two max_three min_three max_four min_four
set_option linter.unusedVariables false
set_option linter.unusedSimpArgs false

def Aq.l0 : Nat → List (S58) → List (S58) → Int → List Int → List (S91) → Int → Option ((List (S91)))
 | 0, _, _, _, _, _, _ => none
 | k + 1, x0, x1, x2, x7, x8, x9 => if (wrap64 (x9 + 1)) < (x7.length : Int) then (if 0 ≤ x9 then (if x9 < (x7.length : Int) then ((Ba.f k x0 (rd x7 x9)).bind fun ap => ((Ba.f k x1 (rd x7 x9)).bind fun aq => ((Ay.f k ap aq x2).bind fun an => (if (an.length : Int) = 0 then (Aq.l0 k x0 x1 x2 x7 x8 (wrap64 (x9 + 1))) else (if (x8.length : Int) > 0 then (if 0 ≤ (wrap64 ((x8.length : Int) - 1)) then (if (wrap64 ((x8.length : Int) - 1)) < (x8.length : Int) then (if ((rd_T91 x8 (wrap64 ((x8.length : Int) - 1))).f1) = (rd x7 x9) then ((Bz.f k ((rd_T91 x8 (wrap64 ((x8.length : Int) - 1))).f2) an).bind fun b6 => (if b6 = true then (if 0 ≤ (wrap64 (x9 + 1)) then (Aq.l0 k x0 x1 x2 x7 (x8.set ((wrap64 ((x8.length : Int) - 1)) : Int).toNat (⟨(rd_T91 x8 (wrap64 ((x8.length : Int) - 1))).f0, rd x7 (wrap64 (x9 + 1)), (rd_T91 x8 (wrap64 ((x8.length : Int) - 1))).f2⟩ : S91)) (wrap64 (x9 + 1))) else (none)) else (if 0 ≤ (wrap64 (x9 + 1)) then (if x8.length < 3518437208883 then (Aq.l0 k x0 x1 x2 x7 (x8 ++ [(⟨rd x7 x9, rd x7 (wrap64 (x9 + 1)), an⟩ : S91)]) (wrap64 (x9 + 1))) else (none)) else (none)))) else (if 0 ≤ (wrap64 (x9 + 1)) then (if x8.length < 3518437208883 then (Aq.l0 k x0 x1 x2 x7 (x8 ++ [(⟨rd x7 x9, rd x7 (wrap64 (x9 + 1)), an⟩ : S91)]) (wrap64 (x9 + 1))) else (none)) else (none))) else (none)) else (none)) else (if 0 ≤ (wrap64 (x9 + 1)) then (if x8.length < 3518437208883 then (Aq.l0 k x0 x1 x2 x7 (x8 ++ [(⟨rd x7 x9, rd x7 (wrap64 (x9 + 1)), an⟩ : S91)]) (wrap64 (x9 + 1))) else (none)) else (none))))))) else (none)) else (none)) else (some x8)
def Aq.f (k : Nat) (l0 : List (S58)) (l1 : List (S58)) (a2 : Int) : Option ((List (S91))) := (Bp.f k (([l0, l1] : List (List (S58))))).bind fun ac => (Aq.l0 k l0 l1 a2 ac ([] : List (S91)) 0)
def Aq.T6 : Bool × List (List Nat × List Nat) := (true, [([], []), ([], []), ([], []), ([1, 2], [1, 2]), ([3], [3]), ([0, 4], [0, 4]), ([], []), ([], []), ([], []), ([7, 8], [7, 8]), ([9], [9]), ([6, 10, 5], [6, 10]), ([], []), ([5, 11, 12, 11], [5, 11, 12]), ([13, 13, 0, 1, 2, 3, 4, 5, 6, 7, 8, 9, 10, 11, 12, 13], [13])])
def Aq.B6 : List Nat := [0, 0, 0, 6, 14, 31, 0, 0, 0, 384, 896, 2047, 0, 8191, 16383]
theorem Aq.tab6 : rtab .any (opsOf Try.f47 6) = Aq.T6 := by kernel_rfl
theorem Aq.bits6 : waitsOk Aq.T6.2 Aq.B6 = true := by kernel_rfl
def Aq.T9 : Bool × List (List Nat × List Nat) := (true, [([], []), ([0], [0]), ([1], [1]), ([2], [2]), ([2], [2]), ([4, 2], [2, 4]), ([3, 5, 2], [2, 3, 5]), ([6, 2], [2, 6]), ([7, 2], [2, 7]), ([2], [2]), ([2], [2]), ([9, 10, 2], [2, 9, 10]), ([11, 2], [2, 11]), ([8, 12, 2], [2, 8, 12]), ([2, 13], [2, 13]), ([14, 2], [14]), ([15], [15]), ([15], [15]), ([17, 15], [15, 17]), ([16, 18, 15], [15, 16, 18]), ([19, 15], [15, 19]), ([20, 15], [15, 20]), ([15], [15]), ([21, 22, 15, 15], [15, 21, 22]), ([15, 23], [15, 23])])
def Aq.B9 : List Nat := [0, 1, 3, 7, 7, 23, 63, 127, 255, 7, 7, 1543, 3591, 8191, 16383, 32767, 65535, 65535, 196607, 524287, 1048575, 2097151, 65535, 8388607, 16777215]
theorem Aq.tab9 : rtab .any (opsOf Try.f47 9) = Aq.T9 := by kernel_rfl
theorem Aq.bits9 : waitsOk Aq.T9.2 Aq.B9 = true := by kernel_rfl
def Aq.T11 : Bool × List (List Nat × List Nat) := (true, [([], []), ([], []), ([], []), ([1, 2], [1, 2]), ([3], [3]), ([], []), ([], []), ([6], [6]), ([5, 7], [5, 7]), ([8], [8]), ([], []), ([4, 9, 10], [4, 9, 10]), ([11], [11]), ([0, 12], [0, 12]), ([13, 13, 0, 1, 2, 3, 4, 5, 6, 7, 8, 9, 10, 11, 12, 13], [0, 13])])
def Aq.B11 : List Nat := [0, 0, 0, 6, 14, 0, 0, 64, 224, 480, 0, 2046, 4094, 8191, 16383]
theorem Aq.tab11 : rtab .any (opsOf Try.f47 11) = Aq.T11 := by kernel_rfl
theorem Aq.bits11 : waitsOk Aq.T11.2 Aq.B11 = true := by kernel_rfl
set_option maxHeartbeats 8000000 in
set_option maxRecDepth 100000 in
theorem Aq.calls (k : Nat) (P0_ : Nat → Prop) (A0 : Option Addr) (c0 : Nat) (l0 : List (S58)) (P1_ : Nat → Prop) (A1 : Option Addr) (c1 : Nat) (l1 : List (S58)) (a2 : Int) (r : List (S91)) (w : World) (hs0 : Kd.V k58 58 w w.heap.size (fun k_ => P0_ k_) (.slice A0 l0.length c0) l0) (hs1 : Kd.V k58 58 w w.heap.size (fun k_ => P1_ k_) (.slice A1 l1.length c1) l1) (h : Aq.f k l0 l1 a2 = some r) (hk_ : Aa (IsKeep a2) := by first | assumption | exact ⟨by decide⟩) :
  Calls Try.prog 47 #[.slice A0 l0.length c0, .slice A1 l1.length c1, .func (.func a2.toNat) #[] #[]] w fun e w' => ∃ v0_ : Value, e = .returned (v0_) ∧ Kd.N k91 91 w' w.heap.size (fun k_ => ((P0_ k_ ∨ P1_ k_) ∨ w.heap.size ≤ k_)) v0_ r ∧ Below w.heap.size w w' := by
 have hu91 := Try.underlying91
 have HO0 := Aa.mk (show Kd.V k58 58 w w.heap.size (fun k_ => ((P0_ k_ ∨ P1_ k_) ∨ w.heap.size ≤ k_)) (.slice A0 l0.length c0) l0 from Kd.V_mono hs0 (fun k_ hk => .inl (.inl hk)))
 have HO1 := Aa.mk (show Kd.V k58 58 w w.heap.size (fun k_ => ((P0_ k_ ∨ P1_ k_) ∨ w.heap.size ≤ k_)) (.slice A1 l1.length c1) l1 from Kd.V_mono hs1 (fun k_ hk => .inl (.inr hk)))
 have HB := Aa.mk (Below.refl w.heap.size w)
 have H : ((Bp.f k (([l0, l1] : List (List (S58))))).bind fun ac => (Aq.l0 k l0 l1 a2 ac ([] : List (S91)) 0)) = some r := h
 clear h
 obtain ⟨cQ, b7⟩ : ∃ y_ : List (List (S58)), y_ = (([l0, l1] : List (List (S58)))) := ⟨_, rfl⟩
 (try rw [Option.bind_some] at H); try rw [← b7] at H
 have cu := Aa.mk b7
 clear b7
 replace H := Option.bind_eq_some_iff.mp H
 obtain ⟨ac, A40, H⟩ := H
 try dsimp only at H
 have A4 := Aa.mk A40
 clear A40
 have H' := Aa.mk H
 clear H
 go_enter Try.func47, Try.ntmps47
 go_wp2_with (first | ((with_reducible refine Bj (N := 14) rfl ?_); refine Kd.N_lit (Kd.slice 58 k58) _ 22 ?hg (N' := 14) ?hd (xs := ([l0, l1] : List (List (S58)))) (inner := [.slice A0 l0.length c0, .slice A1 l1.length c1]) (ok := (fun k_ => ((P0_ k_ ∨ P1_ k_) ∨ w.heap.size ≤ k_))) (okp := (fun k_ => ((P0_ k_ ∨ P1_ k_) ∨ w.heap.size ≤ k_))) ?hr ?hp (fun _ hk => hk) ((show ∀ k_, w.heap.size ≤ k_ → (fun k_ => ((P0_ k_ ∨ P1_ k_) ∨ w.heap.size ≤ k_)) k_ from fun k_ hk => (.inr (Nat.le_trans (Ag (lU HB.out)) hk))) _ (Nat.le_refl _)) (Below.refl _ _) (Nat.le_refl _) (by simp) ?_; (case hd => rfl); (case hg => rfl); (case hr => first | (go_simp; done) | (go_simp; rfl)); (case hp => exact (Reps.one (show Kd.FK (Kd.slice 58 k58) _ _ l0 [.slice A0 l0.length c0] from (Kd.FK_slice_mk (Kd.V_reads' (Kd.V_mono (ok' := (fun k_ => ((P0_ k_ ∨ P1_ k_) ∨ w.heap.size ≤ k_))) (HO0.out) (fun k_ hk => hk))).2.1 (Kd.V_F (Kd.V_mono (ok' := (fun k_ => ((P0_ k_ ∨ P1_ k_) ∨ w.heap.size ≤ k_))) (HO0.out) (fun k_ hk => hk))))) (Reps.one (show Kd.FK (Kd.slice 58 k58) _ _ l1 [.slice A1 l1.length c1] from (Kd.FK_slice_mk (Kd.V_reads' (Kd.V_mono (ok' := (fun k_ => ((P0_ k_ ∨ P1_ k_) ∨ w.heap.size ≤ k_))) (HO1.out) (fun k_ hk => hk))).2.1 (Kd.V_F (Kd.V_mono (ok' := (fun k_ => ((P0_ k_ ∨ P1_ k_) ∨ w.heap.size ≤ k_))) (HO1.out) (fun k_ hk => hk))))) (Reps.none _ _)))); intro v192 w5 ho6 hb hg_ hnew_; clear hg_ hnew_; (first | rw [← cu.out] at ho6 | (simp only [Int.reduceToNat] at ho6; rw [← cu.out] at ho6)); have n0_ := Aa.mk (Kd.V_elder' (by (with_reducible repeat (first | apply Kd.V_alloc | apply Kd.V_drewN | apply Kd.V_drew)); exact HO0.out) (Kd.N_base ho6) hb); have n1_ := Aa.mk (Kd.V_elder' (by (with_reducible repeat (first | apply Kd.V_alloc | apply Kd.V_drewN | apply Kd.V_drew)); exact HO1.out) (Kd.N_base ho6) hb); have n2_ := Aa.mk (Kd.N_lower ho6 (Ag (lU HB.out))); have n3_ := Aa.mk (Ak (lU HB.out) hb); clear HO0; clear HO1; clear HB; have HO0 := n0_; have HO1 := n1_; have br := n2_; have HB := n3_; clear n0_ n1_ n2_ n3_; clear hb ho6; obtain ⟨Ao7, co7, eo7⟩ := Kd.N_slice br.out; subst eo7) | ((with_reducible refine As (f := 43) rfl ?_); refine Br (some 15) rfl rfl Try.func43 (by kernel_rfl) rfl #[.slice Ao7 cQ.length co7] rfl (by (try simp only [List.map_toArray, List.map_cons, List.map_nil]); first | done | rfl | (simp only [List.length_drop, List.length_take]; rfl)) ?_; (with_reducible refine (Bp.calls k _ _ cQ ac _ ?side1 ?side2 A4.out).mono ?_); (case side1 => repeat (first | exact (Kd.N_reads' br.out).2.2 | (with_reducible refine Kd.Bi ?_ _) | (with_reducible refine Kd.Bh ?_ _) | (with_reducible refine Kd.Bm ?_))); (case side2 => exact (Kd.N_reads' br.out).2.1); rintro e w8 ⟨v195, rfl, ho0, hb⟩; refine ⟨_, rfl, ?_⟩; have n0_ := Aa.mk (Kd.V_elder' (by (with_reducible repeat (first | apply Kd.V_alloc | apply Kd.V_drewN | apply Kd.V_drew)); exact HO0.out) (Kd.Ao ho0) hb); have n1_ := Aa.mk (Kd.V_elder' (by (with_reducible repeat (first | apply Kd.V_alloc | apply Kd.V_drewN | apply Kd.V_drew)); exact HO1.out) (Kd.Ao ho0) hb); have n2_ := Aa.mk (Kd.N_elder' (by (with_reducible repeat (first | apply Kd.N_alloc | apply Kd.N_drewN | apply Kd.N_drew)); exact br.out) (Kd.Ao ho0) hb); have n3_ := Aa.mk (Kd.Bx (Kd.Cf (M := fun k_ => (w.heap.size ≤ k_)) ho0 (Ag (lU HB.out)) (fun k_ h_ => h_)) (Ag (lU HB.out))); have n4_ := Aa.mk (Ak (lU HB.out) hb); clear HO0; clear HO1; clear br; clear HB; have HO0 := n0_; have HO1 := n1_; have br := n2_; have cR := n3_; have HB := n4_; clear n0_ n1_ n2_ n3_ n4_; (try clear hb); (try clear hb2); (try clear hk); (try clear hi); (try clear ho0)))
 go_loopg [8, 9] k (fun kq v8 v9 w' => ∃ (ag : List (S91)) (af : Int), v9 = .int .i64 af ∧ Aa (Aq.l0 kq l0 l1 a2 ac ag af = some r) ∧ Aa (kq ≤ k) ∧ Aa (Kd.V k58 58 w' w.heap.size (fun k_ => ((P0_ k_ ∨ P1_ k_) ∨ w.heap.size ≤ k_) ∧ some k_ ≠ (v195 : Value).ownBlock ∧ some k_ ≠ (v8 : Value).ownBlock) (.slice A0 l0.length c0) l0) ∧ Aa (Kd.V k58 58 w' w.heap.size (fun k_ => ((P0_ k_ ∨ P1_ k_) ∨ w.heap.size ≤ k_) ∧ some k_ ≠ (v195 : Value).ownBlock ∧ some k_ ≠ (v8 : Value).ownBlock) (.slice A1 l1.length c1) l1) ∧ Aa (Kd.R (Kd.int .i64) 3 w' w.heap.size (fun k_ => (w.heap.size ≤ k_)) v195 ac) ∧ Aa (Kd.N k91 91 w' w.heap.size (fun k_ => ((P0_ k_ ∨ P1_ k_) ∨ w.heap.size ≤ k_) ∧ some k_ ≠ (v195 : Value).ownBlock) v8 ag) ∧ Aa (Below w.heap.size w w'))
 case atStart => exact ⟨(([] : List (S91))), (0), (by first | rfl | (simp; done) | (simp [*]; done)), H', ⟨Nat.le_refl _⟩, ⟨by (with_reducible repeat (first | apply Kd.V_alloc | apply Kd.V_drewN | apply Kd.V_drew)); exact Kd.V_mono HO0.out (fun _ hk => by first | exact ⟨hk.1.1, ⟨hk.2, (by simp [Value.ownBlock])⟩⟩ | (simp [hk]; done))⟩, ⟨by (with_reducible repeat (first | apply Kd.V_alloc | apply Kd.V_drewN | apply Kd.V_drew)); exact Kd.V_mono HO1.out (fun _ hk => by first | exact ⟨hk.1.1, ⟨hk.2, (by simp [Value.ownBlock])⟩⟩ | (simp [hk]; done))⟩, ⟨by exact rU <| Kd.Bs cR.out (fun _ hk => hk.1)⟩, ⟨by first | exact Kd.S_nil _ _ _ _ _ | exact Kd.N_nil _ _ _ _ _ | exact Kd.V_nil _ _ _ _ _ | exact Kd.Q_nil _ _ _ _ _ | exact Kd.Cy _ _ _ _ _⟩, ⟨by repeat (first | (with_reducible first | exact HB.out | apply Ad | apply Ab | apply Ac) | exact HB.out)⟩⟩
 case round =>
  clear H'
  try clear c1
  try clear p2
  try clear c4
  obtain ⟨ag, af, rfl, HA, HK1, ah, ai, ab, aa, HB⟩ := hrel
  cases gk with
  | zero => exact absurd HA.out (by simp [Aq.l0])
  | succ k1 =>
   have H := HA.out
   clear HA
   simp only [Aq.l0] at H
   by_cases c9 : (wrap64 (af + 1)) < (ac.length : Int)
   ·rw [if_pos c9] at H
    have b8 : decide ((wrap64 (af + 1)) < (ac.length : Int)) = true := decide_eq_true c9
    clear c9
    by_cases c10 : 0 ≤ af
    ·rw [if_pos c10] at H
     have ed : decide (0 ≤ af) = true := decide_eq_true c10
     clear c10
     by_cases c11 : af < (ac.length : Int)
     ·rw [if_pos c11] at H
      have ef : decide (af < (ac.length : Int)) = true := decide_eq_true c11
      clear c11
      replace H := Option.bind_eq_some_iff.mp H
      obtain ⟨ap, A120, H⟩ := H
      try dsimp only at H
      have A12 := Aa.mk A120
      clear A120
      replace H := Option.bind_eq_some_iff.mp H
      obtain ⟨aq, A130, H⟩ := H
      try dsimp only at H
      have A13 := Aa.mk A130
      clear A130
      replace H := Option.bind_eq_some_iff.mp H
      obtain ⟨an, A140, H⟩ := H
      try dsimp only at H
      have A14 := Aa.mk A140
      clear A140
      by_cases c15 : (an.length : Int) = 0
      ·rw [if_pos c15] at H
       have cS : ((an.length : Int) == 0) = true := beq_iff_eq.mpr c15
       have cT : ((an.length : Int) != 0) = false := bne_eq_false_iff_eq.mpr c15
       clear c15
       have H' := Aa.mk H
       clear H
       obtain ⟨eo, ep, dI⟩ := Kd.Bn ab.out
       subst dI
       try go_wp2
       have n0_ := Aa.mk (Kd.V_drew ah.out)
       have n1_ := Aa.mk (Kd.V_drew ai.out)
       have n2_ := Aa.mk (Kd.Cd ab.out)
       have n3_ := Aa.mk (Kd.N_drew aa.out)
       have n4_ := Aa.mk (Ac HB.out)
       clear ah
       clear ai
       clear ab
       clear aa
       clear HB
       have ah := n0_
       have ai := n1_
       have ab := n2_
       have aa := n3_
       have HB := n4_
       clear n0_ n1_ n2_ n3_ n4_
       have aJ : 0 ≤ (af : Int) := of_decide_eq_true (by with_reducible assumption)
       have aK : af < (ac.length : Int) := of_decide_eq_true (by with_reducible assumption)
       obtain ⟨al, e197, aw⟩ := Kd.at_int (Kd.At ab.out).2.2 af aJ aK
       cases e197
       replace aJ := eq_true aJ
       replace aK := eq_true aK
       have aM : 0 ≤ (af : Int) := of_decide_eq_true (by with_reducible assumption)
       have aN : af < (ac.length : Int) := of_decide_eq_true (by with_reducible assumption)
       obtain ⟨a8, e201, ax⟩ := Kd.at_int (Kd.At ab.out).2.2 af aM aN
       obtain rfl : al = a8 := (by injection e201)
       replace aM := eq_true aM
       replace aN := eq_true aN
       refine start_ (n := 15) (S := fun w' => w'.cell? (al.add (af).toNat) = some (.int .i64 (rd ac af)) ∧ w'.cell? (al.add (af).toNat) = some (.int .i64 (rd ac af))) (ds := []) #[false, false, false, false, false, false, false, false, false, false, false, false, false, false, false] (by kernel_rfl) rfl rfl ⟨aw, ax⟩ (fun hHeld => ?_); refine with_tabW Aq.tab6 Aq.bits6 (fun HT_ HW_ => ?_)
       generalize wr.drew = w17 at ah ai ab aa HB aw ax hHeld ⊢
       refine pure_ (i := 0) (N := some 23) (v := ?_) (a' := ?_) (bA 15 1) rfl rfl (any_of HT_.out (by kernel_rfl)) (fun _ _ _ h => h) (Or.inl ⟨by rfl, ?_⟩) ?_ ?_
       rotate_left; (intro w'; go_simp; with_reducible rfl); rotate_left; (simp only [Act.put, sA, sB, sC, i64_w, i32_w]; rfl)
       refine pure_ (i := 1) (N := some 24) (v := ?_) (a' := ?_) (bA 15 3) rfl rfl (any_of HT_.out (by kernel_rfl)) (fun _ _ _ h => h) (Or.inl ⟨by rfl, ?_⟩) ?_ ?_
       rotate_left; (intro w'; go_simp; with_reducible rfl); rotate_left; (simp only [Act.put, sA, sB, sC, i64_w, i32_w]; rfl)
       refine pure_ (i := 2) (N := some 25) (v := ?_) (a' := ?_) (bA 15 7) rfl rfl (any_of HT_.out (by kernel_rfl)) (fun _ _ _ h => h) (Or.inl ⟨by rfl, ?_⟩) ?_ ?_
       rotate_left; (intro w'; go_simp; with_reducible rfl); rotate_left; (simp only [Act.put, sA, sB, sC, i64_w, i32_w]; rfl)
       refine pure_ (i := 3) (N := some 26) (v := ?_) (a' := ?_) (bA 15 15) rfl rfl (any_of HT_.out (by kernel_rfl)) (fun _ _ _ h => h) (Or.inl ⟨by rfl, ?_⟩) ?_ ?_
       rotate_left; (intro w'; go_simp; with_reducible rfl); rotate_left; (simp only [Act.put, sA, sB, sC, i64_w, i32_w]; rfl)
       refine pure_ (i := 6) (N := some 29) (v := ?_) (a' := ?_) (bA 15 79) rfl rfl (any_of HT_.out (by kernel_rfl)) (fun _ _ _ h => h) (Or.inl ⟨by rfl, ?_⟩) ?_ ?_
       rotate_left; (intro w'; go_simp; with_reducible rfl); rotate_left; (simp only [Act.put, sA, sB, sC, i64_w, i32_w]; rfl)
       refine pure_ (i := 7) (N := some 30) (v := ?_) (a' := ?_) (bA 15 207) rfl rfl (any_of HT_.out (by kernel_rfl)) (fun _ _ _ h => h) (Or.inl ⟨by rfl, ?_⟩) ?_ ?_
       rotate_left; (intro w'; go_simp; with_reducible rfl); rotate_left; (simp only [Act.put, sA, sB, sC, i64_w, i32_w]; rfl)
       refine pure_ (i := 8) (N := some 31) (v := ?_) (a' := ?_) (bA 15 463) rfl rfl (any_of HT_.out (by kernel_rfl)) (fun _ _ _ h => h) (Or.inl ⟨by rfl, ?_⟩) ?_ ?_
       rotate_left; (intro w'; go_simp; with_reducible rfl); rotate_left; (simp only [Act.put, sA, sB, sC, i64_w, i32_w]; rfl)
       refine pure_ (i := 9) (N := some 32) (v := ?_) (a' := ?_) (bA 15 975) rfl rfl (any_of HT_.out (by kernel_rfl)) (fun _ _ _ h => h) (Or.inl ⟨by rfl, ?_⟩) ?_ ?_
       rotate_left; (intro w'; go_simp; with_reducible rfl); rotate_left; (simp only [Act.put, sA, sB, sC, i64_w, i32_w]; rfl)
       refine pure_ (i := 12) (N := some 35) (v := ?_) (a' := ?_) (bA 15 5071) rfl rfl (any_of HT_.out (by kernel_rfl)) (fun _ _ _ h => h) (Or.inl ⟨by rfl, ?_⟩) ?_ ?_
       rotate_left; (intro w'; go_simp; with_reducible rfl); rotate_left; (simp only [Act.put, sA, sB, sC, i64_w, i32_w]; rfl)
       refine take_ (i := 4) (N := some 27) (v := ?_) (a' := ?_) (bA 15 5087) rfl rfl (take_ofW HT_.out HW_.out (by kernel_rfl)) (fun _ _ _ h => h) (Or.inl ⟨by rfl, ?_⟩) hHeld ?_ ?_
       rotate_left; (rintro w' ⟨s0, s1⟩; go_simp; with_reducible rfl); rotate_left; (simp only [Act.put, sA, sB, sC, i64_w, i32_w]; rfl)
       refine take_ (i := 10) (N := some 33) (v := ?_) (a' := ?_) (bA 15 6111) rfl rfl (take_ofW HT_.out HW_.out (by kernel_rfl)) (fun _ _ _ h => h) (Or.inl ⟨by rfl, ?_⟩) hHeld ?_ ?_
       rotate_left; (rintro w' ⟨s0, s1⟩; go_simp; with_reducible rfl); rotate_left; (simp only [Act.put, sA, sB, sC, i64_w, i32_w]; rfl)
       refine one_ (i := 5) (N := some 28) (bA 15 6143) rfl rfl (one_of HT_.out (by kernel_rfl)) (by decide) (fun K hK => ?_)
       refine goes_ Try.func74 (by kernel_rfl) rfl #[.slice A0 l0.length c0, .int .i64 (rd ac af)] (by rfl) rfl rfl (by (try simp only [List.map_toArray, List.map_cons, List.map_nil]); first | done | rfl | (simp only [List.length_drop, List.length_take]; rfl)) ?_
       with_reducible refine (Ba.calls k1 _ _ l0 (rd ac af) ap _ ?side1 ?side2 A12.out).mono ?_
       (case side1 => repeat (first | exact (Kd.V_reads' ah.out).2.2 | (with_reducible refine Kd.Bi ?_ _) | (with_reducible refine Kd.Bh ?_ _) | (with_reducible refine Kd.Bm ?_)))
       (case side2 => exact (Kd.V_reads' ah.out).2.1)
       rintro e w18 ⟨v199, rfl, ho0, hb⟩
       have HS0_ := (hb.cell (World.block_lt_of_cell? _ _ (hHeld.1))).trans (hHeld.1)
       have HS1_ := (hb.cell (World.block_lt_of_cell? _ _ (hHeld.2))).trans (hHeld.2)
       refine ⟨_, rfl, ?_⟩
       have n0_ := Aa.mk (Kd.V_elder' (by (with_reducible repeat (first | apply Kd.V_alloc | apply Kd.V_drewN | apply Kd.V_drew)); exact ah.out) (Kd.Ao ho0) hb)
       have n1_ := Aa.mk (Kd.V_elder' (by (with_reducible repeat (first | apply Kd.V_alloc | apply Kd.V_drewN | apply Kd.V_drew)); exact ai.out) (Kd.Ao ho0) hb)
       have n2_ := Aa.mk (Kd.Be (by exact rU <| ab.out) hb)
       have n3_ := Aa.mk (Kd.N_elder' (by (with_reducible repeat (first | apply Kd.N_alloc | apply Kd.N_drewN | apply Kd.N_drew)); exact aa.out) (Kd.Ao ho0) hb)
       have n4_ := Aa.mk (Kd.Bx (Kd.Cf (M := fun k_ => (w.heap.size ≤ k_)) ho0 (Ag (lU HB.out)) (fun k_ h_ => h_)) (Ag (lU HB.out)))
       have n5_ := Aa.mk (Ak (lU HB.out) hb)
       clear ah
       clear ai
       clear ab
       clear aa
       clear HB
       have ah := n0_
       have ai := n1_
       have ab := n2_
       have aa := n3_
       have ae := n4_
       have HB := n5_
       clear n0_ n1_ n2_ n3_ n4_ n5_
       (try clear hb)
       (try clear hb2)
       (try clear hk)
       (try clear hi)
       (try clear ho0)
       refine hK.out _ _ ⟨HS0_, HS1_⟩ (fun hHeld => ?_)
       clear hK K
       refine norm_ (a' := ?_) ?_ ?_
       rotate_left
       ·show Act.put _ (some 28) _ = _
        simp only [Act.put, sA, sB, sC, i64_w, i32_w]
        rfl
       refine one_ (i := 11) (N := some 34) (bA 15 8191) rfl rfl (one_of HT_.out (by kernel_rfl)) (by decide) (fun K hK => ?_)
       refine goes_ Try.func74 (by kernel_rfl) rfl #[.slice A1 l1.length c1, .int .i64 (rd ac af)] (by rfl) rfl rfl (by (try simp only [List.map_toArray, List.map_cons, List.map_nil]); first | done | rfl | (simp only [List.length_drop, List.length_take]; rfl)) ?_
       with_reducible refine (Ba.calls k1 _ _ l1 (rd ac af) aq _ ?side1 ?side2 A13.out).mono ?_
       (case side1 => repeat (first | exact (Kd.V_reads' ai.out).2.2 | (with_reducible refine Kd.Bi ?_ _) | (with_reducible refine Kd.Bh ?_ _) | (with_reducible refine Kd.Bm ?_)))
       (case side2 => exact (Kd.V_reads' ai.out).2.1)
       rintro e w19 ⟨v203, rfl, ho0, hb⟩
       have HS0_ := (hb.cell (World.block_lt_of_cell? _ _ (hHeld.1))).trans (hHeld.1)
       have HS1_ := (hb.cell (World.block_lt_of_cell? _ _ (hHeld.2))).trans (hHeld.2)
       refine ⟨_, rfl, ?_⟩
       have n0_ := Aa.mk (Kd.V_elder' (by (with_reducible repeat (first | apply Kd.V_alloc | apply Kd.V_drewN | apply Kd.V_drew)); exact ah.out) (Kd.Ao ho0) hb)
       have n1_ := Aa.mk (Kd.V_elder' (by (with_reducible repeat (first | apply Kd.V_alloc | apply Kd.V_drewN | apply Kd.V_drew)); exact ai.out) (Kd.Ao ho0) hb)
       have n2_ := Aa.mk (Kd.Be (by exact rU <| ab.out) hb)
       have n3_ := Aa.mk (Kd.N_elder' (by (with_reducible repeat (first | apply Kd.N_alloc | apply Kd.N_drewN | apply Kd.N_drew)); exact aa.out) (Kd.Ao ho0) hb)
       have n4_ := Aa.mk (Kd.Ap (by exact rU <| ae.out) (Kd.Ao ho0) hb)
       have n5_ := Aa.mk (Kd.Bx (Kd.Au (Kd.Cf (M := fun k_ => (w.heap.size ≤ k_)) ho0 (Ag (lU HB.out)) (fun k_ h_ => h_)) (Kd.Bq (by exact rU <| ae.out))) (Ag (lU HB.out)))
       have n6_ := Aa.mk (Ak (lU HB.out) hb)
       clear ah
       clear ai
       clear ab
       clear aa
       clear ae
       clear HB
       have ah := n0_
       have ai := n1_
       have ab := n2_
       have aa := n3_
       have ae := n4_
       have aj := n5_
       have HB := n6_
       clear n0_ n1_ n2_ n3_ n4_ n5_ n6_
       (try clear hb)
       (try clear hb2)
       (try clear hk)
       (try clear hi)
       (try clear ho0)
       obtain ⟨cU, cV, cW⟩ := Kd.Bn ae.out
       (first | subst cW | (injection cW with f1_ f2_ f3_; have f4_ := f1_.symm; have f5_ := f3_.symm; clear f1_ f2_ f3_; subst f4_; subst f5_))
       obtain ⟨cX, cY, cZ⟩ := Kd.Bn aj.out
       (first | subst cZ | (injection cZ with f1_ f2_ f3_; have f4_ := f1_.symm; have f5_ := f3_.symm; clear f1_ f2_ f3_; subst f4_; subst f5_))
       refine hK.out _ _ ⟨HS0_, HS1_⟩ (fun hHeld => ?_)
       clear hK K
       refine norm_ (a' := ?_) ?_ ?_
       rotate_left
       ·show Act.put _ (some 34) _ = _
        simp only [Act.put, sA, sB, sC, i64_w, i32_w]
        rfl
       refine one_ (i := 13) (N := some 36) (bA 15 16383) rfl rfl (one_of HT_.out (by kernel_rfl)) (by decide) (fun K hK => ?_)
       refine goes_ Try.func73 (by kernel_rfl) rfl #[.slice cU ap.length cV, .slice cX aq.length cY, .func (.func a2.toNat) #[] #[]] (by rfl) rfl rfl (by (try simp only [List.map_toArray, List.map_cons, List.map_nil]); first | done | rfl | (simp only [List.length_drop, List.length_take]; rfl)) ?_
       with_reducible refine (Ay.calls k1 (fun k_ => some k_ = (.slice cU ap.length cV : Value).ownBlock) _ _ ap (fun k_ => some k_ = (.slice cX aq.length cY : Value).ownBlock) _ _ aq a2 an _ ?side1 ?side2 A14.out).mono ?_
       (case side1 => exact Kd.R_V (Kd.Cs rfl (Kd.B5 (Kd.B5 (ae.out) (Kd.Ck ab.out) (by decide)) (Kd.N_typed aa.out) (by decide))))
       (case side2 => exact Kd.R_V (Kd.Cs rfl (Kd.B5 (Kd.B5 (aj.out) (Kd.Ck ab.out) (by decide)) (Kd.N_typed aa.out) (by decide))))
       rintro e w22 ⟨v206, rfl, ho0, hb⟩
       have HS0_ := (hb.cell (World.block_lt_of_cell? _ _ (hHeld.1))).trans (hHeld.1)
       have HS1_ := (hb.cell (World.block_lt_of_cell? _ _ (hHeld.2))).trans (hHeld.2)
       refine ⟨_, rfl, ?_⟩
       have n0_ := Aa.mk (Kd.V_elder' (by (with_reducible repeat (first | apply Kd.V_alloc | apply Kd.V_drewN | apply Kd.V_drew)); exact ah.out) (Kd.Ao ho0) hb)
       have n1_ := Aa.mk (Kd.V_elder' (by (with_reducible repeat (first | apply Kd.V_alloc | apply Kd.V_drewN | apply Kd.V_drew)); exact ai.out) (Kd.Ao ho0) hb)
       have n2_ := Aa.mk (Kd.Be (by exact rU <| ab.out) hb)
       have n3_ := Aa.mk (Kd.N_elder' (by (with_reducible repeat (first | apply Kd.N_alloc | apply Kd.N_drewN | apply Kd.N_drew)); exact aa.out) (Kd.Ao ho0) hb)
       have n4_ := Aa.mk (Kd.Ap (by exact rU <| ae.out) (Kd.Ao ho0) hb)
       have n5_ := Aa.mk (Kd.Ap (by exact rU <| aj.out) (Kd.Ao ho0) hb)
       have n6_ := Aa.mk (Kd.Bx (Kd.Au (Kd.Au (Kd.Cf (M := fun k_ => (w.heap.size ≤ k_)) (Kd.Bs (ok' := fun k_ => True) ho0 (fun _ hk_ => trivial)) (Ag (lU HB.out)) (fun k_ h_ => h_)) (Kd.Bq (by exact rU <| ae.out))) (Kd.Bq (by exact rU <| aj.out))) (Ag (lU HB.out)))
       have n7_ := Aa.mk (Ak (lU HB.out) hb)
       clear ah
       clear ai
       clear ab
       clear aa
       clear ae
       clear aj
       clear HB
       have ah := n0_
       have ai := n1_
       have ab := n2_
       have aa := n3_
       have ae := n4_
       have aj := n5_
       have am := n6_
       have HB := n7_
       clear n0_ n1_ n2_ n3_ n4_ n5_ n6_ n7_
       (try clear hb)
       (try clear hb2)
       (try clear hk)
       (try clear hi)
       (try clear ho0)
       refine hK.out _ _ ⟨HS0_, HS1_⟩ (fun hHeld => ?_)
       clear hK K
       refine norm_ (a' := ?_) ?_ ?_
       rotate_left
       ·show Act.put _ (some 36) _ = _
        simp only [Act.put, sA, sB, sC, i64_w, i32_w]
        rfl
       refine pure_ (i := 14) (N := some 10) (v := ?_) (a' := ?_) (bA 15 32767) rfl rfl (any_of HT_.out (by kernel_rfl)) (fun _ _ _ h => h) (Or.inl ⟨by rfl, ?_⟩) ?_ ?_
       rotate_left; (intro w'; go_simp; with_reducible rfl); rotate_left; (simp only [Act.put, sA, sB, sC, i64_w, i32_w]; rfl)
       refine done_ (done_of HT_.out (by kernel_rfl)) ?_
       obtain ⟨eq, er, dJ⟩ := Kd.Bn am.out
       subst dJ
       try go_wp2
       go_roundg k1
       case measure => have := HK1.out; omega
       case rel => exact ⟨(ag), (wrap64 (af + 1)), (by first | rfl | (simp; done) | (simp [*]; done)), H', ⟨by have := HK1.out; omega⟩, ⟨by (with_reducible repeat (first | apply Kd.V_alloc | apply Kd.V_drewN | apply Kd.V_drew)); exact Kd.V_mono ah.out (fun _ hk => by first | exact ⟨hk.1.1.1.1, ⟨hk.1.1.1.2.1, hk.1.1.1.2.2⟩⟩ | (simp [hk]; done))⟩, ⟨by (with_reducible repeat (first | apply Kd.V_alloc | apply Kd.V_drewN | apply Kd.V_drew)); exact Kd.V_mono ai.out (fun _ hk => by first | exact ⟨hk.1.1.1.1, ⟨hk.1.1.1.2.1, hk.1.1.1.2.2⟩⟩ | (simp [hk]; done))⟩, ⟨by exact rU <| ab.out⟩, ⟨by (with_reducible repeat (first | apply Kd.N_alloc | apply Kd.N_drewN | apply Kd.N_drew)); exact Kd.N_mono aa.out (fun _ hk => by first | exact ⟨hk.1.1.1.1, hk.1.1.1.2⟩ | (simp [hk]; done))⟩, ⟨by repeat (first | (with_reducible first | exact HB.out | apply Ad | apply Ab | apply Ac) | exact HB.out)⟩⟩
      ·rw [if_neg c15] at H
       have cS : ((an.length : Int) == 0) = false := beq_eq_false_iff_ne.mpr c15
       have cT : ((an.length : Int) != 0) = true := bne_iff_ne.mpr c15
       have eh : ¬ (an = []) := fun h_ => c15 (by rw [h_]; rfl)
       by_cases c24 : (ag.length : Int) > 0
       ·rw [if_pos c24] at H
        have da : decide (0 < (ag.length : Int)) = true := decide_eq_true c24
        have dc : decide (0 < ag.length) = true := decide_eq_true (by omega)
        clear c24
        obtain ⟨ak, bm⟩ : ∃ j_ : Int, (wrap64 ((ag.length : Int) - 1)) = j_ := ⟨_, rfl⟩
        replace H : (if 0 ≤ (ak) then (if (ak) < (ag.length : Int) then (if ((rd_T91 ag (ak)).f1) = (rd ac af) then ((Bz.f k1 ((rd_T91 ag (ak)).f2) an).bind fun b6 => (if b6 = true then (if 0 ≤ (wrap64 (af + 1)) then (Aq.l0 k1 l0 l1 a2 ac (ag.set ((ak) : Int).toNat (⟨(rd_T91 ag (ak)).f0, rd ac (wrap64 (af + 1)), (rd_T91 ag (ak)).f2⟩ : S91)) (wrap64 (af + 1))) else (none)) else (if 0 ≤ (wrap64 (af + 1)) then (if ag.length < 3518437208883 then (Aq.l0 k1 l0 l1 a2 ac (ag ++ [(⟨rd ac af, rd ac (wrap64 (af + 1)), an⟩ : S91)]) (wrap64 (af + 1))) else (none)) else (none)))) else (if 0 ≤ (wrap64 (af + 1)) then (if ag.length < 3518437208883 then (Aq.l0 k1 l0 l1 a2 ac (ag ++ [(⟨rd ac af, rd ac (wrap64 (af + 1)), an⟩ : S91)]) (wrap64 (af + 1))) else (none)) else (none))) else (none)) else (none)) = some r := by first | (rw [bm] at H; exact H) | (simp only [bm] at H ⊢; exact H)
        (try rw [bm] at A12)
        (try rw [bm] at A13)
        (try rw [bm] at A14)
        have hji25w : (IntKind.i64.wrap ((ag.length : Int) - 1)) = ak := (i64_w _).trans bm
        by_cases c26 : 0 ≤ (ak)
        ·rw [if_pos c26] at H
         have ei : decide (0 ≤ (ak)) = true := decide_eq_true c26
         clear c26
         by_cases c27 : (ak) < (ag.length : Int)
         ·rw [if_pos c27] at H
          have ej : decide ((ak) < (ag.length : Int)) = true := decide_eq_true c27
          clear c27
          by_cases c28 : ((rd_T91 ag (ak)).f1) = (rd ac af)
          ·rw [if_pos c28] at H
           have dd : (((rd_T91 ag (ak)).f1) == (rd ac af)) = true := beq_iff_eq.mpr c28
           have de : (((rd_T91 ag (ak)).f1) != (rd ac af)) = false := bne_eq_false_iff_eq.mpr c28
           clear c28
           replace H := Option.bind_eq_some_iff.mp H
           obtain ⟨b6, A290, H⟩ := H
           try dsimp only at H
           have A29 := Aa.mk A290
           clear A290
           by_cases c30 : b6 = true
           ·subst c30
            have H1 := H
            rw [if_pos rfl] at H1
            clear H
            have H := H1
            clear H1
            obtain ⟨aZ, a9⟩ : ∃ j_ : Int, (wrap64 (af + 1)) = j_ := ⟨_, rfl⟩
            replace H : (if 0 ≤ (aZ) then (Aq.l0 k1 l0 l1 a2 ac (ag.set ((ak) : Int).toNat (⟨(rd_T91 ag (ak)).f0, rd ac (aZ), (rd_T91 ag (ak)).f2⟩ : S91)) aZ) else (none)) = some r := by first | (rw [a9] at H; exact H) | (simp only [a9] at H ⊢; exact H)
            (try rw [a9] at b8)
            (try rw [a9] at A12)
            (try rw [a9] at A13)
            (try rw [a9] at A14)
            (try rw [a9] at A29)
            have hji31w : (IntKind.i64.wrap (af + 1)) = aZ := (i64_w _).trans a9
            by_cases c32 : 0 ≤ (aZ)
            ·rw [if_pos c32] at H
             have ek : decide (0 ≤ (aZ)) = true := decide_eq_true c32
             clear c32
             obtain ⟨df, b9⟩ : ∃ y_ : List (S91), y_ = (ag.set ((ak) : Int).toNat (⟨(rd_T91 ag (ak)).f0, rd ac (aZ), (rd_T91 ag (ak)).f2⟩ : S91)) := ⟨_, rfl⟩
             (try rw [Option.bind_some] at H); try rw [← b9] at H
             have dg := Aa.mk b9
             clear b9
             have H' := Aa.mk H
             clear H
             obtain ⟨es, bP, dK⟩ := Kd.Bn ab.out
             subst dK
             try go_wp2
             have n0_ := Aa.mk (Kd.V_drew ah.out)
             have n1_ := Aa.mk (Kd.V_drew ai.out)
             have n2_ := Aa.mk (Kd.Cd ab.out)
             have n3_ := Aa.mk (Kd.N_drew aa.out)
             have n4_ := Aa.mk (Ac HB.out)
             clear ah
             clear ai
             clear ab
             clear aa
             clear HB
             have ah := n0_
             have ai := n1_
             have ab := n2_
             have aa := n3_
             have HB := n4_
             clear n0_ n1_ n2_ n3_ n4_
             have aJ : 0 ≤ (af : Int) := of_decide_eq_true (by with_reducible assumption)
             have aK : af < (ac.length : Int) := of_decide_eq_true (by with_reducible assumption)
             obtain ⟨al, e197, aw⟩ := Kd.at_int (Kd.At ab.out).2.2 af aJ aK
             cases e197
             replace aJ := eq_true aJ
             replace aK := eq_true aK
             have aM : 0 ≤ (af : Int) := of_decide_eq_true (by with_reducible assumption)
             have aN : af < (ac.length : Int) := of_decide_eq_true (by with_reducible assumption)
             obtain ⟨a8, e201, ax⟩ := Kd.at_int (Kd.At ab.out).2.2 af aM aN
             obtain rfl : al = a8 := (by injection e201)
             replace aM := eq_true aM
             replace aN := eq_true aN
             refine start_ (n := 15) (S := fun w' => w'.cell? (al.add (af).toNat) = some (.int .i64 (rd ac af)) ∧ w'.cell? (al.add (af).toNat) = some (.int .i64 (rd ac af))) (ds := []) #[false, false, false, false, false, false, false, false, false, false, false, false, false, false, false] (by kernel_rfl) rfl rfl ⟨aw, ax⟩ (fun hHeld => ?_); refine with_tabW Aq.tab6 Aq.bits6 (fun HT_ HW_ => ?_)
             generalize wr.drew = w35 at ah ai ab aa HB aw ax hHeld ⊢
             refine pure_ (i := 0) (N := some 23) (v := ?_) (a' := ?_) (bA 15 1) rfl rfl (any_of HT_.out (by kernel_rfl)) (fun _ _ _ h => h) (Or.inl ⟨by rfl, ?_⟩) ?_ ?_
             rotate_left; (intro w'; go_simp; with_reducible rfl); rotate_left; (simp only [Act.put, sA, sB, sC, i64_w, i32_w]; rfl)
             refine pure_ (i := 1) (N := some 24) (v := ?_) (a' := ?_) (bA 15 3) rfl rfl (any_of HT_.out (by kernel_rfl)) (fun _ _ _ h => h) (Or.inl ⟨by rfl, ?_⟩) ?_ ?_
             rotate_left; (intro w'; go_simp; with_reducible rfl); rotate_left; (simp only [Act.put, sA, sB, sC, i64_w, i32_w]; rfl)
             refine pure_ (i := 2) (N := some 25) (v := ?_) (a' := ?_) (bA 15 7) rfl rfl (any_of HT_.out (by kernel_rfl)) (fun _ _ _ h => h) (Or.inl ⟨by rfl, ?_⟩) ?_ ?_
             rotate_left; (intro w'; go_simp; with_reducible rfl); rotate_left; (simp only [Act.put, sA, sB, sC, i64_w, i32_w]; rfl)
             refine pure_ (i := 3) (N := some 26) (v := ?_) (a' := ?_) (bA 15 15) rfl rfl (any_of HT_.out (by kernel_rfl)) (fun _ _ _ h => h) (Or.inl ⟨by rfl, ?_⟩) ?_ ?_
             rotate_left; (intro w'; go_simp; with_reducible rfl); rotate_left; (simp only [Act.put, sA, sB, sC, i64_w, i32_w]; rfl)
             refine pure_ (i := 6) (N := some 29) (v := ?_) (a' := ?_) (bA 15 79) rfl rfl (any_of HT_.out (by kernel_rfl)) (fun _ _ _ h => h) (Or.inl ⟨by rfl, ?_⟩) ?_ ?_
             rotate_left; (intro w'; go_simp; with_reducible rfl); rotate_left; (simp only [Act.put, sA, sB, sC, i64_w, i32_w]; rfl)
             refine pure_ (i := 7) (N := some 30) (v := ?_) (a' := ?_) (bA 15 207) rfl rfl (any_of HT_.out (by kernel_rfl)) (fun _ _ _ h => h) (Or.inl ⟨by rfl, ?_⟩) ?_ ?_
             rotate_left; (intro w'; go_simp; with_reducible rfl); rotate_left; (simp only [Act.put, sA, sB, sC, i64_w, i32_w]; rfl)
             refine pure_ (i := 8) (N := some 31) (v := ?_) (a' := ?_) (bA 15 463) rfl rfl (any_of HT_.out (by kernel_rfl)) (fun _ _ _ h => h) (Or.inl ⟨by rfl, ?_⟩) ?_ ?_
             rotate_left; (intro w'; go_simp; with_reducible rfl); rotate_left; (simp only [Act.put, sA, sB, sC, i64_w, i32_w]; rfl)
             refine pure_ (i := 9) (N := some 32) (v := ?_) (a' := ?_) (bA 15 975) rfl rfl (any_of HT_.out (by kernel_rfl)) (fun _ _ _ h => h) (Or.inl ⟨by rfl, ?_⟩) ?_ ?_
             rotate_left; (intro w'; go_simp; with_reducible rfl); rotate_left; (simp only [Act.put, sA, sB, sC, i64_w, i32_w]; rfl)
             refine pure_ (i := 12) (N := some 35) (v := ?_) (a' := ?_) (bA 15 5071) rfl rfl (any_of HT_.out (by kernel_rfl)) (fun _ _ _ h => h) (Or.inl ⟨by rfl, ?_⟩) ?_ ?_
             rotate_left; (intro w'; go_simp; with_reducible rfl); rotate_left; (simp only [Act.put, sA, sB, sC, i64_w, i32_w]; rfl)
             refine take_ (i := 4) (N := some 27) (v := ?_) (a' := ?_) (bA 15 5087) rfl rfl (take_ofW HT_.out HW_.out (by kernel_rfl)) (fun _ _ _ h => h) (Or.inl ⟨by rfl, ?_⟩) hHeld ?_ ?_
             rotate_left; (rintro w' ⟨s0, s1⟩; go_simp; with_reducible rfl); rotate_left; (simp only [Act.put, sA, sB, sC, i64_w, i32_w]; rfl)
             refine take_ (i := 10) (N := some 33) (v := ?_) (a' := ?_) (bA 15 6111) rfl rfl (take_ofW HT_.out HW_.out (by kernel_rfl)) (fun _ _ _ h => h) (Or.inl ⟨by rfl, ?_⟩) hHeld ?_ ?_
             rotate_left; (rintro w' ⟨s0, s1⟩; go_simp; with_reducible rfl); rotate_left; (simp only [Act.put, sA, sB, sC, i64_w, i32_w]; rfl)
             refine one_ (i := 5) (N := some 28) (bA 15 6143) rfl rfl (one_of HT_.out (by kernel_rfl)) (by decide) (fun K hK => ?_)
             refine goes_ Try.func74 (by kernel_rfl) rfl #[.slice A0 l0.length c0, .int .i64 (rd ac af)] (by rfl) rfl rfl (by (try simp only [List.map_toArray, List.map_cons, List.map_nil]); first | done | rfl | (simp only [List.length_drop, List.length_take]; rfl)) ?_
             with_reducible refine (Ba.calls k1 _ _ l0 (rd ac af) ap _ ?side1 ?side2 A12.out).mono ?_
             (case side1 => repeat (first | exact (Kd.V_reads' ah.out).2.2 | (with_reducible refine Kd.Bi ?_ _) | (with_reducible refine Kd.Bh ?_ _) | (with_reducible refine Kd.Bm ?_)))
             (case side2 => exact (Kd.V_reads' ah.out).2.1)
             rintro e w36 ⟨v199, rfl, ho0, hb⟩
             have HS0_ := (hb.cell (World.block_lt_of_cell? _ _ (hHeld.1))).trans (hHeld.1)
             have HS1_ := (hb.cell (World.block_lt_of_cell? _ _ (hHeld.2))).trans (hHeld.2)
             refine ⟨_, rfl, ?_⟩
             have n0_ := Aa.mk (Kd.V_elder' (by (with_reducible repeat (first | apply Kd.V_alloc | apply Kd.V_drewN | apply Kd.V_drew)); exact ah.out) (Kd.Ao ho0) hb)
             have n1_ := Aa.mk (Kd.V_elder' (by (with_reducible repeat (first | apply Kd.V_alloc | apply Kd.V_drewN | apply Kd.V_drew)); exact ai.out) (Kd.Ao ho0) hb)
             have n2_ := Aa.mk (Kd.Be (by exact rU <| ab.out) hb)
             have n3_ := Aa.mk (Kd.N_elder' (by (with_reducible repeat (first | apply Kd.N_alloc | apply Kd.N_drewN | apply Kd.N_drew)); exact aa.out) (Kd.Ao ho0) hb)
             have n4_ := Aa.mk (Kd.Bx (Kd.Cf (M := fun k_ => (w.heap.size ≤ k_)) ho0 (Ag (lU HB.out)) (fun k_ h_ => h_)) (Ag (lU HB.out)))
             have n5_ := Aa.mk (Ak (lU HB.out) hb)
             clear ah
             clear ai
             clear ab
             clear aa
             clear HB
             have ah := n0_
             have ai := n1_
             have ab := n2_
             have aa := n3_
             have ae := n4_
             have HB := n5_
             clear n0_ n1_ n2_ n3_ n4_ n5_
             (try clear hb)
             (try clear hb2)
             (try clear hk)
             (try clear hi)
             (try clear ho0)
             refine hK.out _ _ ⟨HS0_, HS1_⟩ (fun hHeld => ?_)
             clear hK K
             refine norm_ (a' := ?_) ?_ ?_
             rotate_left
             ·show Act.put _ (some 28) _ = _
              simp only [Act.put, sA, sB, sC, i64_w, i32_w]
              rfl
             refine one_ (i := 11) (N := some 34) (bA 15 8191) rfl rfl (one_of HT_.out (by kernel_rfl)) (by decide) (fun K hK => ?_)
             refine goes_ Try.func74 (by kernel_rfl) rfl #[.slice A1 l1.length c1, .int .i64 (rd ac af)] (by rfl) rfl rfl (by (try simp only [List.map_toArray, List.map_cons, List.map_nil]); first | done | rfl | (simp only [List.length_drop, List.length_take]; rfl)) ?_
             with_reducible refine (Ba.calls k1 _ _ l1 (rd ac af) aq _ ?side1 ?side2 A13.out).mono ?_
             (case side1 => repeat (first | exact (Kd.V_reads' ai.out).2.2 | (with_reducible refine Kd.Bi ?_ _) | (with_reducible refine Kd.Bh ?_ _) | (with_reducible refine Kd.Bm ?_)))
             (case side2 => exact (Kd.V_reads' ai.out).2.1)
             rintro e w37 ⟨v203, rfl, ho0, hb⟩
             have HS0_ := (hb.cell (World.block_lt_of_cell? _ _ (hHeld.1))).trans (hHeld.1)
             have HS1_ := (hb.cell (World.block_lt_of_cell? _ _ (hHeld.2))).trans (hHeld.2)
             refine ⟨_, rfl, ?_⟩
             have n0_ := Aa.mk (Kd.V_elder' (by (with_reducible repeat (first | apply Kd.V_alloc | apply Kd.V_drewN | apply Kd.V_drew)); exact ah.out) (Kd.Ao ho0) hb)
             have n1_ := Aa.mk (Kd.V_elder' (by (with_reducible repeat (first | apply Kd.V_alloc | apply Kd.V_drewN | apply Kd.V_drew)); exact ai.out) (Kd.Ao ho0) hb)
             have n2_ := Aa.mk (Kd.Be (by exact rU <| ab.out) hb)
             have n3_ := Aa.mk (Kd.N_elder' (by (with_reducible repeat (first | apply Kd.N_alloc | apply Kd.N_drewN | apply Kd.N_drew)); exact aa.out) (Kd.Ao ho0) hb)
             have n4_ := Aa.mk (Kd.Ap (by exact rU <| ae.out) (Kd.Ao ho0) hb)
             have n5_ := Aa.mk (Kd.Bx (Kd.Au (Kd.Cf (M := fun k_ => (w.heap.size ≤ k_)) ho0 (Ag (lU HB.out)) (fun k_ h_ => h_)) (Kd.Bq (by exact rU <| ae.out))) (Ag (lU HB.out)))
             have n6_ := Aa.mk (Ak (lU HB.out) hb)
             clear ah
             clear ai
             clear ab
             clear aa
             clear ae
             clear HB
             have ah := n0_
             have ai := n1_
             have ab := n2_
             have aa := n3_
             have ae := n4_
             have aj := n5_
             have HB := n6_
             clear n0_ n1_ n2_ n3_ n4_ n5_ n6_
             (try clear hb)
             (try clear hb2)
             (try clear hk)
             (try clear hi)
             (try clear ho0)
             obtain ⟨bs, bu, dh⟩ := Kd.Bn ae.out
             (first | subst dh | (injection dh with f1_ f2_ f3_; have f4_ := f1_.symm; have f5_ := f3_.symm; clear f1_ f2_ f3_; subst f4_; subst f5_))
             obtain ⟨bv, bw, di⟩ := Kd.Bn aj.out
             (first | subst di | (injection di with f1_ f2_ f3_; have f4_ := f1_.symm; have f5_ := f3_.symm; clear f1_ f2_ f3_; subst f4_; subst f5_))
             refine hK.out _ _ ⟨HS0_, HS1_⟩ (fun hHeld => ?_)
             clear hK K
             refine norm_ (a' := ?_) ?_ ?_
             rotate_left
             ·show Act.put _ (some 34) _ = _
              simp only [Act.put, sA, sB, sC, i64_w, i32_w]
              rfl
             refine one_ (i := 13) (N := some 36) (bA 15 16383) rfl rfl (one_of HT_.out (by kernel_rfl)) (by decide) (fun K hK => ?_)
             refine goes_ Try.func73 (by kernel_rfl) rfl #[.slice bs ap.length bu, .slice bv aq.length bw, .func (.func a2.toNat) #[] #[]] (by rfl) rfl rfl (by (try simp only [List.map_toArray, List.map_cons, List.map_nil]); first | done | rfl | (simp only [List.length_drop, List.length_take]; rfl)) ?_
             with_reducible refine (Ay.calls k1 (fun k_ => some k_ = (.slice bs ap.length bu : Value).ownBlock) _ _ ap (fun k_ => some k_ = (.slice bv aq.length bw : Value).ownBlock) _ _ aq a2 an _ ?side1 ?side2 A14.out).mono ?_
             (case side1 => exact Kd.R_V (Kd.Cs rfl (Kd.B5 (Kd.B5 (ae.out) (Kd.Ck ab.out) (by decide)) (Kd.N_typed aa.out) (by decide))))
             (case side2 => exact Kd.R_V (Kd.Cs rfl (Kd.B5 (Kd.B5 (aj.out) (Kd.Ck ab.out) (by decide)) (Kd.N_typed aa.out) (by decide))))
             rintro e w40 ⟨v206, rfl, ho0, hb⟩
             have HS0_ := (hb.cell (World.block_lt_of_cell? _ _ (hHeld.1))).trans (hHeld.1)
             have HS1_ := (hb.cell (World.block_lt_of_cell? _ _ (hHeld.2))).trans (hHeld.2)
             refine ⟨_, rfl, ?_⟩
             have n0_ := Aa.mk (Kd.V_elder' (by (with_reducible repeat (first | apply Kd.V_alloc | apply Kd.V_drewN | apply Kd.V_drew)); exact ah.out) (Kd.Ao ho0) hb)
             have n1_ := Aa.mk (Kd.V_elder' (by (with_reducible repeat (first | apply Kd.V_alloc | apply Kd.V_drewN | apply Kd.V_drew)); exact ai.out) (Kd.Ao ho0) hb)
             have n2_ := Aa.mk (Kd.Be (by exact rU <| ab.out) hb)
             have n3_ := Aa.mk (Kd.N_elder' (by (with_reducible repeat (first | apply Kd.N_alloc | apply Kd.N_drewN | apply Kd.N_drew)); exact aa.out) (Kd.Ao ho0) hb)
             have n4_ := Aa.mk (Kd.Ap (by exact rU <| ae.out) (Kd.Ao ho0) hb)
             have n5_ := Aa.mk (Kd.Ap (by exact rU <| aj.out) (Kd.Ao ho0) hb)
             have n6_ := Aa.mk (Kd.Bx (Kd.Au (Kd.Au (Kd.Cf (M := fun k_ => (w.heap.size ≤ k_)) (Kd.Bs (ok' := fun k_ => True) ho0 (fun _ hk_ => trivial)) (Ag (lU HB.out)) (fun k_ h_ => h_)) (Kd.Bq (by exact rU <| ae.out))) (Kd.Bq (by exact rU <| aj.out))) (Ag (lU HB.out)))
             have n7_ := Aa.mk (Ak (lU HB.out) hb)
             clear ah
             clear ai
             clear ab
             clear aa
             clear ae
             clear aj
             clear HB
             have ah := n0_
             have ai := n1_
             have ab := n2_
             have aa := n3_
             have ae := n4_
             have aj := n5_
             have am := n6_
             have HB := n7_
             clear n0_ n1_ n2_ n3_ n4_ n5_ n6_ n7_
             (try clear hb)
             (try clear hb2)
             (try clear hk)
             (try clear hi)
             (try clear ho0)
             refine hK.out _ _ ⟨HS0_, HS1_⟩ (fun hHeld => ?_)
             clear hK K
             refine norm_ (a' := ?_) ?_ ?_
             rotate_left
             ·show Act.put _ (some 36) _ = _
              simp only [Act.put, sA, sB, sC, i64_w, i32_w]
              rfl
             refine pure_ (i := 14) (N := some 10) (v := ?_) (a' := ?_) (bA 15 32767) rfl rfl (any_of HT_.out (by kernel_rfl)) (fun _ _ _ h => h) (Or.inl ⟨by rfl, ?_⟩) ?_ ?_
             rotate_left; (intro w'; go_simp; with_reducible rfl); rotate_left; (simp only [Act.put, sA, sB, sC, i64_w, i32_w]; rfl)
             refine done_ (done_of HT_.out (by kernel_rfl)) ?_
             obtain ⟨bI, bJ, dL⟩ := Kd.Bn am.out
             subst dL
             obtain ⟨et, bc, dM⟩ := Kd.N_slice aa.out
             subst dM
             try go_wp2
             have n0_ := Aa.mk (Kd.V_drew ah.out)
             have n1_ := Aa.mk (Kd.V_drew ai.out)
             have n2_ := Aa.mk (Kd.Cd ab.out)
             have n3_ := Aa.mk (Kd.N_drew aa.out)
             have n4_ := Aa.mk (Kd.Cd ae.out)
             have n5_ := Aa.mk (Kd.Cd aj.out)
             have n6_ := Aa.mk (Kd.Cd am.out)
             have n7_ := Aa.mk (Ac HB.out)
             clear ah
             clear ai
             clear ab
             clear aa
             clear ae
             clear aj
             clear am
             clear HB
             have ah := n0_
             have ai := n1_
             have ab := n2_
             have aa := n3_
             have ae := n4_
             have aj := n5_
             have am := n6_
             have HB := n7_
             clear n0_ n1_ n2_ n3_ n4_ n5_ n6_ n7_
             have be : 0 ≤ ((ak) : Int) := of_decide_eq_true (by with_reducible assumption)
             have bf : (ak) < (ag.length : Int) := of_decide_eq_true (by with_reducible assumption)
             obtain ⟨ao, aD, aH, e208, az, aA, ar, aI, hi208_2⟩ := at_T91 (Kd.N_reads' aa.out).2.2 (ak) be bf
             cases e208
             obtain ⟨ce208, hce208, hMe208, hcc208⟩ := Kd.N_get aa.out z91 (ak) be (by first | exact bf | exact of_decide_eq_true (by with_reducible assumption) | (have e_ := (Kd.N_reads' aa.out).1; omega))
             obtain ⟨ua208_2, uc208_2, rfl, ul208_2, ge208_2⟩ := k91_openF hMe208
             have hv208_2 := hcc208 2 _ rfl
             rw [add_field _ _ 2 (by omega)] at hv208_2
             replace hv208_2 := Option.some.inj (hv208_2.symm.trans ar)
             injection hv208_2 with hva_ hvn_ hvc_
             rw [hva_] at ge208_2
             rw [hvc_] at ul208_2
             have HL208_2 := Aa.mk (show Kd.V k93 93 _ w.heap.size _ _ ((rd_T91 ag (ak)).f2) from Kd.V_mk ul208_2 ge208_2)
             clear hva_ hvn_ hvc_ ge208_2 ul208_2
             clear hcc208 hce208
             have au := Aa.mk hi208_2
             have bV := Aa.mk aI
             clear hi208_2 aI
             replace be := eq_true be
             replace bf := eq_true bf
             have bp : 0 ≤ (af : Int) := of_decide_eq_true (by with_reducible assumption)
             have bq : af < (ac.length : Int) := of_decide_eq_true (by with_reducible assumption)
             obtain ⟨bK, e209, aC⟩ := Kd.at_int (Kd.At ab.out).2.2 af bp bq
             obtain rfl : al = bK := (by injection e209)
             replace bp := eq_true bp
             replace bq := eq_true bq
             have bx : 0 ≤ ((ak) : Int) := of_decide_eq_true (by with_reducible assumption)
             have bz : (ak) < (ag.length : Int) := of_decide_eq_true (by with_reducible assumption)
             obtain ⟨cd, cv, cw, e210, aE, aG, ay, bg, hi210_2⟩ := at_T91 (Kd.N_reads' aa.out).2.2 (ak) bx bz
             obtain rfl : ao = cd := (by injection e210)
             obtain ⟨ce210, hce210, hMe210, hcc210⟩ := Kd.N_get aa.out z91 (ak) bx (by first | exact bz | exact of_decide_eq_true (by with_reducible assumption) | (have e_ := (Kd.N_reads' aa.out).1; omega))
             obtain ⟨ua210_2, uc210_2, rfl, ul210_2, ge210_2⟩ := k91_openF hMe210
             have hv210_2 := hcc210 2 _ rfl
             rw [add_field _ _ 2 (by omega)] at hv210_2
             replace hv210_2 := Option.some.inj (hv210_2.symm.trans ay)
             injection hv210_2 with hva_ hvn_ hvc_
             rw [hva_] at ge210_2
             rw [hvc_] at ul210_2
             have HL210_2 := Aa.mk (show Kd.V k93 93 _ w.heap.size _ _ ((rd_T91 ag (ak)).f2) from Kd.V_mk ul210_2 ge210_2)
             clear hva_ hvn_ hvc_ ge210_2 ul210_2
             clear hcc210 hce210
             have av := Aa.mk hi210_2
             have bB := Aa.mk bg
             clear hi210_2 bg
             replace bx := eq_true bx
             replace bz := eq_true bz
             have ea_ := Option.some.inj (ar.symm.trans ay)
             injection ea_ with ea_ en_ ec_
             subst ea_
             subst ec_
             clear en_
             refine start_ (n := 25) (S := fun w' => w'.cell? (ao.add (((ak)).toNat * 3)) = some (.int .i64 ((rd_T91 ag (ak)).f0)) ∧ w'.cell? ⟨(ao.add (((ak)).toNat * 3)).block, (ao.add (((ak)).toNat * 3)).off + 1, none⟩ = some (.int .i64 ((rd_T91 ag (ak)).f1)) ∧ w'.cell? ⟨(ao.add (((ak)).toNat * 3)).block, (ao.add (((ak)).toNat * 3)).off + 2, none⟩ = some (.slice aD ((rd_T91 ag (ak)).f2).length aH) ∧ w'.cell? (al.add (af).toNat) = some (.int .i64 (rd ac af)) ∧ w'.cell? (ao.add (((ak)).toNat * 3)) = some (.int .i64 ((rd_T91 ag (ak)).f0)) ∧ w'.cell? ⟨(ao.add (((ak)).toNat * 3)).block, (ao.add (((ak)).toNat * 3)).off + 1, none⟩ = some (.int .i64 ((rd_T91 ag (ak)).f1)) ∧ w'.cell? ⟨(ao.add (((ak)).toNat * 3)).block, (ao.add (((ak)).toNat * 3)).off + 2, none⟩ = some (.slice aD ((rd_T91 ag (ak)).f2).length aH)) (ds := []) #[false, false, false, false, false, false, false, false, false, false, false, false, false, false, false, false, false, false, false, false, false, false, false, false, false] (by kernel_rfl) rfl rfl ⟨az, aA, ar, aC, aE, aG, ay⟩ (fun hHeld => ?_); refine with_tabW Aq.tab9 Aq.bits9 (fun HT_ HW_ => ?_)
             generalize w40.drew = w43 at ah ai ab aa ae aj am HB HL208_2 HL210_2 au av az aA ar aC aE aG ay hHeld ⊢
             refine pure_ (i := 0) (N := some 42) (v := ?_) (a' := ?_) (bA 25 1) rfl rfl (any_of HT_.out (by kernel_rfl)) (fun _ _ _ h => h) (Or.inl ⟨by rfl, ?_⟩) ?_ ?_
             rotate_left; (intro w'; go_simp; with_reducible rfl); rotate_left; (simp only [Act.put, sA, sB, sC, i64_w, i32_w]; rfl)
             refine pure_ (i := 1) (N := some 43) (v := ?_) (a' := ?_) (bA 25 3) rfl rfl (any_of HT_.out (by kernel_rfl)) (fun _ _ _ h => h) (Or.inl ⟨by rfl, ?_⟩) ?_ ?_
             rotate_left; (intro w'; go_simp; with_reducible rfl); rotate_left; (simp only [Act.put, sA, sB, sC, i64_w, i32_w]; rfl)
             refine pure_ (i := 2) (N := some 44) (v := ?_) (a' := ?_) (bA 25 7) rfl rfl (any_of HT_.out (by kernel_rfl)) (fun _ _ _ h => h) (Or.inl ⟨by rfl, ?_⟩) ?_ ?_
             rotate_left; (intro w'; go_simp; with_reducible rfl); rotate_left; (simp only [Act.put, sA, sB, sC, i64_w, i32_w]; rfl)
             refine pure_ (i := 3) (N := some 45) (v := ?_) (a' := ?_) (bA 25 15) rfl rfl (any_of HT_.out (by kernel_rfl)) (fun _ _ _ h => h) (Or.inl ⟨by rfl, ?_⟩) ?_ ?_
             rotate_left; (intro w'; go_simp; with_reducible rfl); rotate_left; (simp only [Act.put, sA, sB, sC, i64_w, i32_w]; rfl)
             refine pure_ (i := 4) (N := some 46) (v := ?_) (a' := ?_) (bA 25 31) rfl rfl (any_of HT_.out (by kernel_rfl)) (fun _ _ _ h => h) (Or.inl ⟨by rfl, ?_⟩) ?_ ?_
             rotate_left; (intro w'; go_simp; with_reducible rfl); rotate_left; (simp only [Act.put, sA, sB, sC, i64_w, i32_w]; rfl)
             refine pure_ (i := 5) (N := some 47) (v := ?_) (a' := ?_) (bA 25 63) rfl rfl (any_of HT_.out (by kernel_rfl)) (fun _ _ _ h => h) (Or.inl ⟨by rfl, ?_⟩) ?_ ?_
             rotate_left; (intro w'; go_simp; with_reducible rfl); rotate_left; (simp only [Act.put, sA, sB, sC, i64_w, i32_w]; rfl)
             refine pure_ (i := 6) (N := some 48) (v := ?_) (a' := ?_) (bA 25 127) rfl rfl (any_of HT_.out (by kernel_rfl)) (fun _ _ _ h => h) (Or.inl ⟨by rfl, ?_⟩) ?_ ?_
             rotate_left; (intro w'; go_simp; with_reducible rfl); rotate_left; (simp only [Act.put, sA, sB, sC, i64_w, i32_w]; rfl)
             refine pure_ (i := 7) (N := some 49) (v := ?_) (a' := ?_) (bA 25 255) rfl rfl (any_of HT_.out (by kernel_rfl)) (fun _ _ _ h => h) (Or.inl ⟨by rfl, ?_⟩) ?_ ?_
             rotate_left; (intro w'; go_simp; with_reducible rfl); rotate_left; (simp only [Act.put, sA, sB, sC, i64_w, i32_w]; rfl)
             refine pure_ (i := 9) (N := some 51) (v := ?_) (a' := ?_) (bA 25 767) rfl rfl (any_of HT_.out (by kernel_rfl)) (fun _ _ _ h => h) (Or.inl ⟨by rfl, ?_⟩) ?_ ?_
             rotate_left; (intro w'; go_simp; with_reducible rfl); rotate_left; (simp only [Act.put, sA, sB, sC, i64_w, i32_w]; rfl)
             refine pure_ (i := 10) (N := some 52) (v := ?_) (a' := ?_) (bA 25 1791) rfl rfl (any_of HT_.out (by kernel_rfl)) (fun _ _ _ h => h) (Or.inl ⟨by rfl, ?_⟩) ?_ ?_
             rotate_left; (intro w'; go_simp; with_reducible rfl); rotate_left; (simp only [Act.put, sA, sB, sC, i64_w, i32_w]; rfl)
             refine pure_ (i := 11) (N := some 53) (v := ?_) (a' := ?_) (bA 25 3839) rfl rfl (any_of HT_.out (by kernel_rfl)) (fun _ _ _ h => h) (Or.inl ⟨by rfl, ?_⟩) ?_ ?_
             rotate_left; (intro w'; go_simp; with_reducible rfl); rotate_left; (simp only [Act.put, sA, sB, sC, i64_w, i32_w]; rfl)
             refine take_ (i := 8) (N := some 50) (v := ?_) (a' := ?_) (bA 25 4095) rfl rfl (take_ofW HT_.out HW_.out (by kernel_rfl)) (fun _ _ _ h => h) (Or.inl ⟨by rfl, ?_⟩) hHeld ?_ ?_
             rotate_left; (rintro w' ⟨s0, s1, s2, s3, s4, s5, s6⟩; go_simp; with_reducible rfl); rotate_left; (simp only [Act.put, sA, sB, sC, i64_w, i32_w]; rfl)
             refine take_ (i := 12) (N := some 54) (v := ?_) (a' := ?_) (bA 25 8191) rfl rfl (take_ofW HT_.out HW_.out (by kernel_rfl)) (fun _ _ _ h => h) (Or.inl ⟨by rfl, ?_⟩) hHeld ?_ ?_
             rotate_left; (rintro w' ⟨s0, s1, s2, s3, s4, s5, s6⟩; go_simp; with_reducible rfl); rotate_left; (simp only [Act.put, sA, sB, sC, i64_w, i32_w]; rfl)
             refine pure_ (i := 13) (N := some 55) (v := ?_) (a' := ?_) (bA 25 16383) rfl rfl (any_of HT_.out (by kernel_rfl)) (fun _ _ _ h => h) (Or.inl ⟨by rfl, ?_⟩) ?_ ?_
             rotate_left; (intro w'; go_simp; with_reducible rfl); rotate_left; (simp only [Act.put, sA, sB, sC, i64_w, i32_w]; rfl)
             refine pure_ (i := 14) (N := some 56) (v := ?_) (a' := ?_) (bA 25 32767) rfl rfl (any_of HT_.out (by kernel_rfl)) (fun _ _ _ h => h) (Or.inl ⟨by rfl, ?_⟩) ?_ ?_
             rotate_left; (intro w'; go_simp; with_reducible rfl); rotate_left; (simp only [Act.put, sA, sB, sC, i64_w, i32_w]; rfl)
             refine pure_ (i := 15) (N := some 57) (v := ?_) (a' := ?_) (bA 25 65535) rfl rfl (any_of HT_.out (by kernel_rfl)) (fun _ _ _ h => h) (Or.inl ⟨by rfl, ?_⟩) ?_ ?_
             rotate_left; (intro w'; go_simp; with_reducible rfl); rotate_left; (simp only [Act.put, sA, sB, sC, i64_w, i32_w]; rfl)
             refine pure_ (i := 16) (N := some 58) (v := ?_) (a' := ?_) (bA 25 131071) rfl rfl (any_of HT_.out (by kernel_rfl)) (fun _ _ _ h => h) (Or.inl ⟨by rfl, ?_⟩) ?_ ?_
             rotate_left; (intro w'; go_simp; with_reducible rfl); rotate_left; (simp only [Act.put, sA, sB, sC, i64_w, i32_w]; rfl)
             refine pure_ (i := 17) (N := some 59) (v := ?_) (a' := ?_) (bA 25 262143) rfl rfl (any_of HT_.out (by kernel_rfl)) (fun _ _ _ h => h) (Or.inl ⟨by rfl, ?_⟩) ?_ ?_
             rotate_left; (intro w'; go_simp; with_reducible rfl); rotate_left; (simp only [Act.put, sA, sB, sC, i64_w, i32_w]; rfl)
             refine pure_ (i := 18) (N := some 60) (v := ?_) (a' := ?_) (bA 25 524287) rfl rfl (any_of HT_.out (by kernel_rfl)) (fun _ _ _ h => h) (Or.inl ⟨by rfl, ?_⟩) ?_ ?_
             rotate_left; (intro w'; go_simp; with_reducible rfl); rotate_left; (simp only [Act.put, sA, sB, sC, i64_w, i32_w]; rfl)
             refine pure_ (i := 19) (N := some 61) (v := ?_) (a' := ?_) (bA 25 1048575) rfl rfl (any_of HT_.out (by kernel_rfl)) (fun _ _ _ h => h) (Or.inl ⟨by rfl, ?_⟩) ?_ ?_
             rotate_left; (intro w'; go_simp; with_reducible rfl); rotate_left; (simp only [Act.put, sA, sB, sC, i64_w, i32_w]; rfl)
             refine pure_ (i := 20) (N := some 62) (v := ?_) (a' := ?_) (bA 25 2097151) rfl rfl (any_of HT_.out (by kernel_rfl)) (fun _ _ _ h => h) (Or.inl ⟨by rfl, ?_⟩) ?_ ?_
             rotate_left; (intro w'; go_simp; with_reducible rfl); rotate_left; (simp only [Act.put, sA, sB, sC, i64_w, i32_w]; rfl)
             refine pure_ (i := 22) (N := some 64) (v := ?_) (a' := ?_) (bA 25 6291455) rfl rfl (any_of HT_.out (by kernel_rfl)) (fun _ _ _ h => h) (Or.inl ⟨by rfl, ?_⟩) ?_ ?_
             rotate_left; (intro w'; go_simp; with_reducible rfl); rotate_left; (simp only [Act.put, sA, sB, sC, i64_w, i32_w]; rfl)
             refine take_ (i := 21) (N := some 63) (v := ?_) (a' := ?_) (bA 25 8388607) rfl rfl (take_ofW HT_.out HW_.out (by kernel_rfl)) (fun _ _ _ h => h) (Or.inl ⟨by rfl, ?_⟩) hHeld ?_ ?_
             rotate_left; (rintro w' ⟨s0, s1, s2, s3, s4, s5, s6⟩; go_simp; with_reducible rfl); rotate_left; (simp only [Act.put, sA, sB, sC, i64_w, i32_w]; rfl)
             refine one_ (i := 23) (N := some 65) (bA 25 16777215) rfl rfl (one_of HT_.out (by kernel_rfl)) (by decide) (fun K hK => ?_)
             refine goes_ Try.func75 (by kernel_rfl) rfl #[.slice aD ((rd_T91 ag (ak)).f2).length aH, .slice bI an.length bJ] (by rfl) rfl rfl (by (try simp only [List.map_toArray, List.map_cons, List.map_nil]); first | done | (simp only [bm]; rfl) | rfl | (simp only [List.length_drop, List.length_take]; rfl)) ?_
             with_reducible refine (Bz.calls k1 _ _ ((rd_T91 ag (ak)).f2) _ _ an true _ ?side1 ?side2 ?side3 ?side4 A29.out).mono ?_
             (case side1 => repeat (first | exact (by repeat (first | (with_reducible exact av.out) | (with_reducible refine Kd.Bi ?_ _) | (with_reducible refine Kd.Bh ?_ _) | (with_reducible refine Kd.Bm ?_) | exact av.out)) | (with_reducible refine Kd.Bi ?_ _) | (with_reducible refine Kd.Bh ?_ _) | (with_reducible refine Kd.Bm ?_)))
             (case side2 => exact bB.out)
             (case side3 => repeat (first | exact (Kd.At am.out).2.2 | (with_reducible refine Kd.Bi ?_ _) | (with_reducible refine Kd.Bh ?_ _) | (with_reducible refine Kd.Bm ?_)))
             (case side4 => exact (Kd.At am.out).2.1)
             rintro e w' ⟨rfl, ⟨nd, rfl⟩⟩
             refine ⟨_, rfl, ?_⟩
             refine hK.out _ _ ⟨hHeld.1, hHeld.2.1, hHeld.2.2.1, hHeld.2.2.2.1, hHeld.2.2.2.2.1, hHeld.2.2.2.2.2.1, hHeld.2.2.2.2.2.2⟩ (fun hHeld => ?_)
             clear hK K
             refine norm_ (a' := ?_) ?_ ?_
             rotate_left
             ·show Act.put _ (some 65) _ = _
              simp only [Act.put, sA, sB, sC, i64_w, i32_w]
              rfl
             refine pure_ (i := 24) (N := some 66) (v := ?_) (a' := ?_) (bA 25 33554431) rfl rfl (any_of HT_.out (by kernel_rfl)) (fun _ _ _ h => h) (Or.inl ⟨by rfl, ?_⟩) ?_ ?_
             rotate_left; (intro w'; go_simp; with_reducible rfl); rotate_left; (simp only [Act.put, sA, sB, sC, i64_w, i32_w]; rfl)
             refine done_ (done_of HT_.out (by kernel_rfl)) ?_
             have cx : 0 ≤ ((aZ) : Int) := of_decide_eq_true (by with_reducible assumption)
             have cy : (aZ) < (ac.length : Int) := of_decide_eq_true (by with_reducible assumption)
             obtain ⟨dj, e212, bC⟩ := Kd.at_int (Kd.At ab.out).2.2 (aZ) cx cy
             obtain rfl : al = dj := (by injection e212)
             replace cx := eq_true cx
             replace cy := eq_true cy
             have p33 : 0 ≤ ((ak) : Int) := of_decide_eq_true (by with_reducible assumption)
             have q33 : ((ak) : Int) < ((ag.length : Int) : Int) := of_decide_eq_true (by with_reducible assumption)
             obtain ⟨go33, eu, dk, dl, gl33, cl33, HG33⟩ := Kd.N_form aa.out (by omega)
             (first | cases dk | (injection dk with ea_ en_ ec_; (first | subst ea_ | (injection ea_ with ea_; subst ea_)); subst ec_; clear en_))
             have GB33 := Aa.mk dl
             have GG33 := Aa.mk HG33
             clear dl gl33 HG33
             (first | simp only [add_plain] at az | skip)
             (first | simp only [add_plain] at aA | skip)
             (first | simp only [add_plain] at ar | skip)
             (first | simp only [add_plain] at aE | skip)
             (first | simp only [add_plain] at aG | skip)
             (first | simp only [add_plain] at ay | skip)
             obtain ⟨ce33, hcl33, hM33, hcc33, hfr33⟩ := Kd.N_elem aa.out z91 ((ak) : Int) p33 q33
             obtain ⟨ua33_2, uc33_2, rfl, ul33_2, ge33_2⟩ := k91_openF hM33
             have bQ : w43.cell? ⟨go33, ((ak) : Int).toNat * 3, none⟩ = some (.int .i64 ((rd_T91 ag (ak)).f0)) := hcc33 0 _ rfl
             have bR : w43.cell? ⟨go33, ((ak) : Int).toNat * 3 + 1, none⟩ = some (.int .i64 ((rd_T91 ag (ak)).f1)) := hcc33 1 _ rfl
             have bS : w43.cell? ⟨go33, ((ak) : Int).toNat * 3 + 2, none⟩ = some (.slice ua33_2 ((rd_T91 ag (ak)).f2).length uc33_2) := hcc33 2 _ rfl
             have dN : w43.frozen? ⟨go33, ((ak) : Int).toNat * 3, none⟩ = false := hfr33 0
             have dO : w43.frozen? ⟨go33, ((ak) : Int).toNat * 3 + 1, none⟩ = false := hfr33 1
             have dP : w43.frozen? ⟨go33, ((ak) : Int).toNat * 3 + 2, none⟩ = false := hfr33 2
             clear hcl33 hcc33 hfr33 hM33
             replace p33 := eq_true p33
             replace q33 := eq_true q33
             have n_ := Aa.mk (Kd.N_mono (ok' := (fun k_ => ((P0_ k_ ∨ P1_ k_) ∨ w.heap.size ≤ k_) ∧ some k_ ≠ (.slice (some al) ac.length bP : Value).ownBlock ∧ some k_ ≠ (.slice bs ap.length bu : Value).ownBlock ∧ some k_ ≠ (.slice bv aq.length bw : Value).ownBlock ∧ some k_ ≠ (.slice bI an.length bJ : Value).ownBlock)) aa.out (fun k_ hk => by first | exact ⟨hk.1.1.1.1, ⟨hk.1.1.1.2, ⟨hk.1.1.2, ⟨hk.1.2, hk.2⟩⟩⟩⟩ | (simp [hk]; done)))
             clear aa
             have aa := n_
             clear n_
             obtain ⟨w43, hD_⟩ : ∃ x_, w43.drewN nd = x_ := ⟨_, rfl⟩
             rw [hD_]
             have q0_ := Aa.mk (Kd.V_drewN ah.out nd)
             rw [hD_] at q0_
             have q1_ := Aa.mk (Kd.V_drewN ai.out nd)
             rw [hD_] at q1_
             have q2_ := Aa.mk (Kd.V_drewN HL208_2.out nd)
             rw [hD_] at q2_
             have q3_ := Aa.mk (Kd.V_drewN HL210_2.out nd)
             rw [hD_] at q3_
             have q4_ := Aa.mk (Kd.R_drewN ab.out nd)
             rw [hD_] at q4_
             have q5_ := Aa.mk (Kd.R_drewN ae.out nd)
             rw [hD_] at q5_
             have q6_ := Aa.mk (Kd.R_drewN aj.out nd)
             rw [hD_] at q6_
             have q7_ := Aa.mk (Kd.R_drewN am.out nd)
             rw [hD_] at q7_
             have q8_ := Aa.mk (Kd.N_drewN aa.out nd)
             rw [hD_] at q8_
             have q9_ := Aa.mk (Ab HB.out nd)
             rw [hD_] at q9_
             clear ah; have ah := q0_; clear q0_
             clear ai; have ai := q1_; clear q1_
             clear HL208_2; have HL208_2 := q2_; clear q2_
             clear HL210_2; have HL210_2 := q3_; clear q3_
             clear ab; have ab := q4_; clear q4_
             clear ae; have ae := q5_; clear q5_
             clear aj; have aj := q6_; clear q6_
             clear am; have am := q7_; clear q7_
             clear aa; have aa := q8_; clear q8_
             clear HB; have HB := q9_; clear q9_
             (try (have q_ := (show World.cell? (World.drewN _ nd) _ = _ from aE); rw [hD_] at q_; clear aE; have aE := q_; clear q_))
             (try (have q_ := (show World.cell? (World.drewN _ nd) _ = _ from aG); rw [hD_] at q_; clear aG; have aG := q_; clear q_))
             (try (have q_ := (show World.cell? (World.drewN _ nd) _ = _ from ay); rw [hD_] at q_; clear ay; have ay := q_; clear q_))
             (try (have q_ := (show World.cell? (World.drewN _ nd) _ = _ from ar); rw [hD_] at q_; clear ar; have ar := q_; clear q_))
             (try (have q_ := (show World.cell? (World.drewN _ nd) _ = _ from az); rw [hD_] at q_; clear az; have az := q_; clear q_))
             (try (have q_ := (show World.cell? (World.drewN _ nd) _ = _ from aA); rw [hD_] at q_; clear aA; have aA := q_; clear q_))
             (try (have q_ := (show World.cell? (World.drewN _ nd) _ = _ from aC); rw [hD_] at q_; clear aC; have aC := q_; clear q_))
             (try (have q_ := (show World.cell? (World.drewN _ nd) _ = _ from bC); rw [hD_] at q_; clear bC; have bC := q_; clear q_))
             (try (have q_ := (show World.cell? (World.drewN _ nd) _ = _ from bQ); rw [hD_] at q_; clear bQ; have bQ := q_; clear q_))
             (try (have q_ := (show World.cell? (World.drewN _ nd) _ = _ from bR); rw [hD_] at q_; clear bR; have bR := q_; clear q_))
             (try (have q_ := (show World.cell? (World.drewN _ nd) _ = _ from bS); rw [hD_] at q_; clear bS; have bS := q_; clear q_))
             have HX44 := Aa.mk (show Kd.N k91 91 w43 w.heap.size (fun k_ => ((P0_ k_ ∨ P1_ k_) ∨ w.heap.size ≤ k_) ∧ some k_ ≠ (.slice (some al) ac.length bP : Value).ownBlock ∧ some k_ ≠ (.slice bs ap.length bu : Value).ownBlock ∧ some k_ ≠ (.slice bv aq.length bw : Value).ownBlock ∧ some k_ ≠ (.slice bI an.length bJ : Value).ownBlock) (.slice (some ⟨go33, 0, none⟩) ag.length bc) ag from (by (with_reducible repeat (first | apply Kd.N_alloc | apply Kd.N_drewN | apply Kd.N_drew)); exact aa.out))
             obtain ⟨ce44, hcl44, hM44, hcc44, hfr44⟩ := Kd.N_elem HX44.out z91 ((ak) : Int) (of_decide_eq_true (by with_reducible assumption)) (by have h_ : ((ak) : Int) < ((ag.length : Int) : Int) := of_decide_eq_true (by with_reducible assumption); first | exact h_ | (have e_ := (Kd.N_reads' aa.out).1; omega) | simpa using h_)
             obtain ⟨ua44_2, uc44_2, rfl, ul44_2, ge44_2⟩ := k91_openF hM44
             have cz := Kd.N_seg HX44.out ((ak) : Int) (of_decide_eq_true (by with_reducible assumption)) (by have h_ : ((ak) : Int) < ((ag.length : Int) : Int) := of_decide_eq_true (by with_reducible assumption); first | exact h_ | (have e_ := (Kd.N_reads' aa.out).1; omega) | simpa using h_) (seg := [.int .i64 (rd ac (aZ))]) (j := 1) hcl44 hcc44 (show 2 ≤ 3 from by decide) (x' := (⟨(rd_T91 ag (ak)).f0, rd ac (aZ), (rd_T91 ag (ak)).f2⟩ : S91)) (k91_mkF _ _ (⟨(rd_T91 ag (ak)).f0, rd ac (aZ), (rd_T91 ag (ak)).f2⟩ : S91) ul44_2 ge44_2) (fun _ hk => hk)
             have cA := hcc44 1 _ rfl
             (try simp only [show (k91).sz = 3 from rfl, Nat.mul_one, Nat.add_zero] at cA)
             have cB := hfr44 1
             (try simp only [show (k91).sz = 3 from rfl, Nat.mul_one, Nat.add_zero] at cB)
             clear hcl44 hcc44 hfr44 hM44
             try go_wp2_with (first | ((with_reducible refine gate_store (t := 3) (p := 76) rfl ?_); refine store_event (t := 3) (p := 76) (v := ?vo_w45) (w1 := (w43.setCell ⟨go33, ((ak) : Int).toNat * 3 + 1, none⟩ (.int .i64 (rd ac (aZ))))) ?hg ?ho ?hn ?hr ?_; (case ho => rfl); (case hg => rfl); (case hn => rfl); (case hr => first | (go_simp; done) | (go_simp; rfl)); intro w45 hw; have hg : w43.grownBy w45 (some go33) := (by rw [hw]; exact cz.2); have hp_ : Kd.N k91 91 w45 w.heap.size (fun k_ => ((P0_ k_ ∨ P1_ k_) ∨ w.heap.size ≤ k_) ∧ some k_ ≠ (.slice (some al) ac.length bP : Value).ownBlock ∧ some k_ ≠ (.slice bs ap.length bu : Value).ownBlock ∧ some k_ ≠ (.slice bv aq.length bw : Value).ownBlock ∧ some k_ ≠ (.slice bI an.length bJ : Value).ownBlock) (.slice (some ⟨go33, 0, none⟩) ag.length bc) df := (by rw [hw, dg.out]; exact cz.1); clear cz; have n0_ := Aa.mk (Kd.V_afterv (v := (.slice (some ⟨go33, 0, none⟩) ag.length bc)) (v1 := (.slice (some ⟨go33, 0, none⟩) ag.length bc)) (ok := (fun k_ => ((P0_ k_ ∨ P1_ k_) ∨ w.heap.size ≤ k_) ∧ some k_ ≠ (.slice (some al) ac.length bP : Value).ownBlock ∧ some k_ ≠ (.slice bs ap.length bu : Value).ownBlock ∧ some k_ ≠ (.slice bv aq.length bw : Value).ownBlock ∧ some k_ ≠ (.slice bI an.length bJ : Value).ownBlock)) (by (with_reducible repeat (first | apply Kd.V_alloc | apply Kd.V_drewN | apply Kd.V_drew)); exact Kd.V_mono ah.out (fun _ hk => by first | exact ⟨⟨hk.1.1.1.1, ⟨hk.1.1.1.2.1, ⟨hk.1.1.2, ⟨hk.1.2, hk.2⟩⟩⟩⟩, hk.1.1.1.2.2⟩ | (simp [hk]; done))) hg (.inl rfl)); have n1_ := Aa.mk (Kd.V_afterv (v := (.slice (some ⟨go33, 0, none⟩) ag.length bc)) (v1 := (.slice (some ⟨go33, 0, none⟩) ag.length bc)) (ok := (fun k_ => ((P0_ k_ ∨ P1_ k_) ∨ w.heap.size ≤ k_) ∧ some k_ ≠ (.slice (some al) ac.length bP : Value).ownBlock ∧ some k_ ≠ (.slice bs ap.length bu : Value).ownBlock ∧ some k_ ≠ (.slice bv aq.length bw : Value).ownBlock ∧ some k_ ≠ (.slice bI an.length bJ : Value).ownBlock)) (by (with_reducible repeat (first | apply Kd.V_alloc | apply Kd.V_drewN | apply Kd.V_drew)); exact Kd.V_mono ai.out (fun _ hk => by first | exact ⟨⟨hk.1.1.1.1, ⟨hk.1.1.1.2.1, ⟨hk.1.1.2, ⟨hk.1.2, hk.2⟩⟩⟩⟩, hk.1.1.1.2.2⟩ | (simp [hk]; done))) hg (.inl rfl)); have n2_ := Aa.mk (Kd.Ct (v := (.slice (some ⟨go33, 0, none⟩) ag.length bc)) (by exact rU <| ab.out) (Kd.N_typed aa.out) (by decide) hg); have n3_ := Aa.mk (hp_); have n4_ := Aa.mk (Kd.Ct (v := (.slice (some ⟨go33, 0, none⟩) ag.length bc)) (by exact rU <| ae.out) (Kd.N_typed aa.out) (by decide) hg); have n5_ := Aa.mk (Kd.Ct (v := (.slice (some ⟨go33, 0, none⟩) ag.length bc)) (by exact rU <| aj.out) (Kd.N_typed aa.out) (by decide) hg); have n6_ := Aa.mk (Kd.Ct (v := (.slice (some ⟨go33, 0, none⟩) ag.length bc)) (by exact rU <| am.out) (Kd.N_typed aa.out) (by decide) hg); have n7_ := Aa.mk (Kd.V_afterv (v := (.slice (some ⟨go33, 0, none⟩) ag.length bc)) (v1 := (.slice (some ⟨go33, 0, none⟩) ag.length bc)) (ok := (fun k_ => ((P0_ k_ ∨ P1_ k_) ∨ w.heap.size ≤ k_) ∧ some k_ ≠ (.slice (some al) ac.length bP : Value).ownBlock ∧ some k_ ≠ (.slice bs ap.length bu : Value).ownBlock ∧ some k_ ≠ (.slice bv aq.length bw : Value).ownBlock ∧ some k_ ≠ (.slice bI an.length bJ : Value).ownBlock)) (by (with_reducible repeat (first | apply Kd.V_alloc | apply Kd.V_drewN | apply Kd.V_drew)); exact Kd.V_mono HL208_2.out (fun _ hk => by first | exact ⟨⟨hk.1.1.1.1.1, ⟨hk.1.1.1.1.2, ⟨hk.1.1.1.2, ⟨hk.1.1.2, hk.1.2⟩⟩⟩⟩, hk.2⟩ | (simp [hk]; done))) hg (.inl rfl)); have n8_ := Aa.mk (Kd.V_afterv (v := (.slice (some ⟨go33, 0, none⟩) ag.length bc)) (v1 := (.slice (some ⟨go33, 0, none⟩) ag.length bc)) (ok := (fun k_ => ((P0_ k_ ∨ P1_ k_) ∨ w.heap.size ≤ k_) ∧ some k_ ≠ (.slice (some al) ac.length bP : Value).ownBlock ∧ some k_ ≠ (.slice bs ap.length bu : Value).ownBlock ∧ some k_ ≠ (.slice bv aq.length bw : Value).ownBlock ∧ some k_ ≠ (.slice bI an.length bJ : Value).ownBlock)) (by (with_reducible repeat (first | apply Kd.V_alloc | apply Kd.V_drewN | apply Kd.V_drew)); exact Kd.V_mono HL210_2.out (fun _ hk => by first | exact ⟨⟨hk.1.1.1.1.1, ⟨hk.1.1.1.1.2, ⟨hk.1.1.1.2, ⟨hk.1.1.2, hk.1.2⟩⟩⟩⟩, hk.2⟩ | (simp [hk]; done))) hg (.inl rfl)); have n9_ := Aa.mk ((by rw [hw]; exact Ai (HB.out) GB33.out : Below w.heap.size w w45)); clear ah; clear ai; clear ab; clear aa; clear ae; clear aj; clear am; clear HL208_2; clear HL210_2; clear HB; have ah := n0_; have ai := n1_; have ab := n2_; have aa := n3_; have ae := n4_; have aj := n5_; have am := n6_; have HL208_2 := n7_; have HL210_2 := n8_; have HB := n9_; clear n0_ n1_ n2_ n3_ n4_ n5_ n6_ n7_ n8_ n9_; clear hg hw hp_))
             go_roundg k1
             case measure => have := HK1.out; omega
             case rel => exact ⟨(df), (aZ), (by first | rfl | (simp; done) | (simp only [← a9] <;> (first | rfl | simp)) | (simp [*]; done)), H', ⟨by have := HK1.out; omega⟩, ⟨by (with_reducible repeat (first | apply Kd.V_alloc | apply Kd.V_drewN | apply Kd.V_drew)); exact Kd.V_mono ah.out (fun _ hk => by first | exact ⟨hk.1.1, ⟨hk.1.2.1, hk.2⟩⟩ | (simp [hk]; done))⟩, ⟨by (with_reducible repeat (first | apply Kd.V_alloc | apply Kd.V_drewN | apply Kd.V_drew)); exact Kd.V_mono ai.out (fun _ hk => by first | exact ⟨hk.1.1, ⟨hk.1.2.1, hk.2⟩⟩ | (simp [hk]; done))⟩, ⟨by exact rU <| ab.out⟩, ⟨by (with_reducible repeat (first | apply Kd.N_alloc | apply Kd.N_drewN | apply Kd.N_drew)); exact Kd.N_mono aa.out (fun _ hk => by first | exact ⟨hk.1, hk.2.1⟩ | (simp [hk]; done))⟩, ⟨by repeat (first | (with_reducible first | exact HB.out | apply Ad | apply Ab | apply Ac) | exact HB.out)⟩⟩
            ·rw [if_neg c32] at H
             exact absurd H (by simp)
           ·replace c30 := Bool.eq_false_iff.mpr c30
            subst c30
            have H1 := H
            rw [if_neg (show ¬ (false = true) by decide)] at H1
            clear H
            have H := H1
            clear H1
            obtain ⟨aW, bh⟩ : ∃ j_ : Int, (wrap64 (af + 1)) = j_ := ⟨_, rfl⟩
            replace H : (if 0 ≤ (aW) then (if ag.length < 3518437208883 then (Aq.l0 k1 l0 l1 a2 ac (ag ++ [(⟨rd ac af, rd ac (aW), an⟩ : S91)]) aW) else (none)) else (none)) = some r := by first | (rw [bh] at H; exact H) | (simp only [bh] at H ⊢; exact H)
            (try rw [bh] at b8)
            (try rw [bh] at A12)
            (try rw [bh] at A13)
            (try rw [bh] at A14)
            (try rw [bh] at A29)
            have hji46w : (IntKind.i64.wrap (af + 1)) = aW := (i64_w _).trans bh
            by_cases c47 : 0 ≤ (aW)
            ·rw [if_pos c47] at H
             have el : decide (0 ≤ (aW)) = true := decide_eq_true c47
             clear c47
             by_cases c48 : ag.length < 3518437208883
             ·rw [if_pos c48] at H
              have LMc48 := Aa.mk c48
              clear c48
              obtain ⟨dQ, cg⟩ : ∃ y_ : List (S91), y_ = (ag ++ [(⟨rd ac af, rd ac (aW), an⟩ : S91)]) := ⟨_, rfl⟩
              (try rw [Option.bind_some] at H); try rw [← cg] at H
              have dm := Aa.mk cg
              clear cg
              have H' := Aa.mk H
              clear H
              obtain ⟨ew, bi, dR⟩ := Kd.Bn ab.out
              subst dR
              try go_wp2
              have n0_ := Aa.mk (Kd.V_drew ah.out)
              have n1_ := Aa.mk (Kd.V_drew ai.out)
              have n2_ := Aa.mk (Kd.Cd ab.out)
              have n3_ := Aa.mk (Kd.N_drew aa.out)
              have n4_ := Aa.mk (Ac HB.out)
              clear ah
              clear ai
              clear ab
              clear aa
              clear HB
              have ah := n0_
              have ai := n1_
              have ab := n2_
              have aa := n3_
              have HB := n4_
              clear n0_ n1_ n2_ n3_ n4_
              have aJ : 0 ≤ (af : Int) := of_decide_eq_true (by with_reducible assumption)
              have aK : af < (ac.length : Int) := of_decide_eq_true (by with_reducible assumption)
              obtain ⟨al, e197, aw⟩ := Kd.at_int (Kd.At ab.out).2.2 af aJ aK
              cases e197
              replace aJ := eq_true aJ
              replace aK := eq_true aK
              have aM : 0 ≤ (af : Int) := of_decide_eq_true (by with_reducible assumption)
              have aN : af < (ac.length : Int) := of_decide_eq_true (by with_reducible assumption)
              obtain ⟨a8, e201, ax⟩ := Kd.at_int (Kd.At ab.out).2.2 af aM aN
              obtain rfl : al = a8 := (by injection e201)
              replace aM := eq_true aM
              replace aN := eq_true aN
              refine start_ (n := 15) (S := fun w' => w'.cell? (al.add (af).toNat) = some (.int .i64 (rd ac af)) ∧ w'.cell? (al.add (af).toNat) = some (.int .i64 (rd ac af))) (ds := []) #[false, false, false, false, false, false, false, false, false, false, false, false, false, false, false] (by kernel_rfl) rfl rfl ⟨aw, ax⟩ (fun hHeld => ?_); refine with_tabW Aq.tab6 Aq.bits6 (fun HT_ HW_ => ?_)
              generalize wr.drew = w50 at ah ai ab aa HB aw ax hHeld ⊢
              refine pure_ (i := 0) (N := some 23) (v := ?_) (a' := ?_) (bA 15 1) rfl rfl (any_of HT_.out (by kernel_rfl)) (fun _ _ _ h => h) (Or.inl ⟨by rfl, ?_⟩) ?_ ?_
              rotate_left; (intro w'; go_simp; with_reducible rfl); rotate_left; (simp only [Act.put, sA, sB, sC, i64_w, i32_w]; rfl)
              refine pure_ (i := 1) (N := some 24) (v := ?_) (a' := ?_) (bA 15 3) rfl rfl (any_of HT_.out (by kernel_rfl)) (fun _ _ _ h => h) (Or.inl ⟨by rfl, ?_⟩) ?_ ?_
              rotate_left; (intro w'; go_simp; with_reducible rfl); rotate_left; (simp only [Act.put, sA, sB, sC, i64_w, i32_w]; rfl)
              refine pure_ (i := 2) (N := some 25) (v := ?_) (a' := ?_) (bA 15 7) rfl rfl (any_of HT_.out (by kernel_rfl)) (fun _ _ _ h => h) (Or.inl ⟨by rfl, ?_⟩) ?_ ?_
              rotate_left; (intro w'; go_simp; with_reducible rfl); rotate_left; (simp only [Act.put, sA, sB, sC, i64_w, i32_w]; rfl)
              refine pure_ (i := 3) (N := some 26) (v := ?_) (a' := ?_) (bA 15 15) rfl rfl (any_of HT_.out (by kernel_rfl)) (fun _ _ _ h => h) (Or.inl ⟨by rfl, ?_⟩) ?_ ?_
              rotate_left; (intro w'; go_simp; with_reducible rfl); rotate_left; (simp only [Act.put, sA, sB, sC, i64_w, i32_w]; rfl)
              refine pure_ (i := 6) (N := some 29) (v := ?_) (a' := ?_) (bA 15 79) rfl rfl (any_of HT_.out (by kernel_rfl)) (fun _ _ _ h => h) (Or.inl ⟨by rfl, ?_⟩) ?_ ?_
              rotate_left; (intro w'; go_simp; with_reducible rfl); rotate_left; (simp only [Act.put, sA, sB, sC, i64_w, i32_w]; rfl)
              refine pure_ (i := 7) (N := some 30) (v := ?_) (a' := ?_) (bA 15 207) rfl rfl (any_of HT_.out (by kernel_rfl)) (fun _ _ _ h => h) (Or.inl ⟨by rfl, ?_⟩) ?_ ?_
              rotate_left; (intro w'; go_simp; with_reducible rfl); rotate_left; (simp only [Act.put, sA, sB, sC, i64_w, i32_w]; rfl)
              refine pure_ (i := 8) (N := some 31) (v := ?_) (a' := ?_) (bA 15 463) rfl rfl (any_of HT_.out (by kernel_rfl)) (fun _ _ _ h => h) (Or.inl ⟨by rfl, ?_⟩) ?_ ?_
              rotate_left; (intro w'; go_simp; with_reducible rfl); rotate_left; (simp only [Act.put, sA, sB, sC, i64_w, i32_w]; rfl)
              refine pure_ (i := 9) (N := some 32) (v := ?_) (a' := ?_) (bA 15 975) rfl rfl (any_of HT_.out (by kernel_rfl)) (fun _ _ _ h => h) (Or.inl ⟨by rfl, ?_⟩) ?_ ?_
              rotate_left; (intro w'; go_simp; with_reducible rfl); rotate_left; (simp only [Act.put, sA, sB, sC, i64_w, i32_w]; rfl)
              refine pure_ (i := 12) (N := some 35) (v := ?_) (a' := ?_) (bA 15 5071) rfl rfl (any_of HT_.out (by kernel_rfl)) (fun _ _ _ h => h) (Or.inl ⟨by rfl, ?_⟩) ?_ ?_
              rotate_left; (intro w'; go_simp; with_reducible rfl); rotate_left; (simp only [Act.put, sA, sB, sC, i64_w, i32_w]; rfl)
              refine take_ (i := 4) (N := some 27) (v := ?_) (a' := ?_) (bA 15 5087) rfl rfl (take_ofW HT_.out HW_.out (by kernel_rfl)) (fun _ _ _ h => h) (Or.inl ⟨by rfl, ?_⟩) hHeld ?_ ?_
              rotate_left; (rintro w' ⟨s0, s1⟩; go_simp; with_reducible rfl); rotate_left; (simp only [Act.put, sA, sB, sC, i64_w, i32_w]; rfl)
              refine take_ (i := 10) (N := some 33) (v := ?_) (a' := ?_) (bA 15 6111) rfl rfl (take_ofW HT_.out HW_.out (by kernel_rfl)) (fun _ _ _ h => h) (Or.inl ⟨by rfl, ?_⟩) hHeld ?_ ?_
              rotate_left; (rintro w' ⟨s0, s1⟩; go_simp; with_reducible rfl); rotate_left; (simp only [Act.put, sA, sB, sC, i64_w, i32_w]; rfl)
              refine one_ (i := 5) (N := some 28) (bA 15 6143) rfl rfl (one_of HT_.out (by kernel_rfl)) (by decide) (fun K hK => ?_)
              refine goes_ Try.func74 (by kernel_rfl) rfl #[.slice A0 l0.length c0, .int .i64 (rd ac af)] (by rfl) rfl rfl (by (try simp only [List.map_toArray, List.map_cons, List.map_nil]); first | done | rfl | (simp only [List.length_drop, List.length_take]; rfl)) ?_
              with_reducible refine (Ba.calls k1 _ _ l0 (rd ac af) ap _ ?side1 ?side2 A12.out).mono ?_
              (case side1 => repeat (first | exact (Kd.V_reads' ah.out).2.2 | (with_reducible refine Kd.Bi ?_ _) | (with_reducible refine Kd.Bh ?_ _) | (with_reducible refine Kd.Bm ?_)))
              (case side2 => exact (Kd.V_reads' ah.out).2.1)
              rintro e w51 ⟨v199, rfl, ho0, hb⟩
              have HS0_ := (hb.cell (World.block_lt_of_cell? _ _ (hHeld.1))).trans (hHeld.1)
              have HS1_ := (hb.cell (World.block_lt_of_cell? _ _ (hHeld.2))).trans (hHeld.2)
              refine ⟨_, rfl, ?_⟩
              have n0_ := Aa.mk (Kd.V_elder' (by (with_reducible repeat (first | apply Kd.V_alloc | apply Kd.V_drewN | apply Kd.V_drew)); exact ah.out) (Kd.Ao ho0) hb)
              have n1_ := Aa.mk (Kd.V_elder' (by (with_reducible repeat (first | apply Kd.V_alloc | apply Kd.V_drewN | apply Kd.V_drew)); exact ai.out) (Kd.Ao ho0) hb)
              have n2_ := Aa.mk (Kd.Be (by exact rU <| ab.out) hb)
              have n3_ := Aa.mk (Kd.N_elder' (by (with_reducible repeat (first | apply Kd.N_alloc | apply Kd.N_drewN | apply Kd.N_drew)); exact aa.out) (Kd.Ao ho0) hb)
              have n4_ := Aa.mk (Kd.Bx (Kd.Cf (M := fun k_ => (w.heap.size ≤ k_)) ho0 (Ag (lU HB.out)) (fun k_ h_ => h_)) (Ag (lU HB.out)))
              have n5_ := Aa.mk (Ak (lU HB.out) hb)
              clear ah
              clear ai
              clear ab
              clear aa
              clear HB
              have ah := n0_
              have ai := n1_
              have ab := n2_
              have aa := n3_
              have ae := n4_
              have HB := n5_
              clear n0_ n1_ n2_ n3_ n4_ n5_
              (try clear hb)
              (try clear hb2)
              (try clear hk)
              (try clear hi)
              (try clear ho0)
              refine hK.out _ _ ⟨HS0_, HS1_⟩ (fun hHeld => ?_)
              clear hK K
              refine norm_ (a' := ?_) ?_ ?_
              rotate_left
              ·show Act.put _ (some 28) _ = _
               simp only [Act.put, sA, sB, sC, i64_w, i32_w]
               rfl
              refine one_ (i := 11) (N := some 34) (bA 15 8191) rfl rfl (one_of HT_.out (by kernel_rfl)) (by decide) (fun K hK => ?_)
              refine goes_ Try.func74 (by kernel_rfl) rfl #[.slice A1 l1.length c1, .int .i64 (rd ac af)] (by rfl) rfl rfl (by (try simp only [List.map_toArray, List.map_cons, List.map_nil]); first | done | rfl | (simp only [List.length_drop, List.length_take]; rfl)) ?_
              with_reducible refine (Ba.calls k1 _ _ l1 (rd ac af) aq _ ?side1 ?side2 A13.out).mono ?_
              (case side1 => repeat (first | exact (Kd.V_reads' ai.out).2.2 | (with_reducible refine Kd.Bi ?_ _) | (with_reducible refine Kd.Bh ?_ _) | (with_reducible refine Kd.Bm ?_)))
              (case side2 => exact (Kd.V_reads' ai.out).2.1)
              rintro e w52 ⟨v203, rfl, ho0, hb⟩
              have HS0_ := (hb.cell (World.block_lt_of_cell? _ _ (hHeld.1))).trans (hHeld.1)
              have HS1_ := (hb.cell (World.block_lt_of_cell? _ _ (hHeld.2))).trans (hHeld.2)
              refine ⟨_, rfl, ?_⟩
              have n0_ := Aa.mk (Kd.V_elder' (by (with_reducible repeat (first | apply Kd.V_alloc | apply Kd.V_drewN | apply Kd.V_drew)); exact ah.out) (Kd.Ao ho0) hb)
              have n1_ := Aa.mk (Kd.V_elder' (by (with_reducible repeat (first | apply Kd.V_alloc | apply Kd.V_drewN | apply Kd.V_drew)); exact ai.out) (Kd.Ao ho0) hb)
              have n2_ := Aa.mk (Kd.Be (by exact rU <| ab.out) hb)
              have n3_ := Aa.mk (Kd.N_elder' (by (with_reducible repeat (first | apply Kd.N_alloc | apply Kd.N_drewN | apply Kd.N_drew)); exact aa.out) (Kd.Ao ho0) hb)
              have n4_ := Aa.mk (Kd.Ap (by exact rU <| ae.out) (Kd.Ao ho0) hb)
              have n5_ := Aa.mk (Kd.Bx (Kd.Au (Kd.Cf (M := fun k_ => (w.heap.size ≤ k_)) ho0 (Ag (lU HB.out)) (fun k_ h_ => h_)) (Kd.Bq (by exact rU <| ae.out))) (Ag (lU HB.out)))
              have n6_ := Aa.mk (Ak (lU HB.out) hb)
              clear ah
              clear ai
              clear ab
              clear aa
              clear ae
              clear HB
              have ah := n0_
              have ai := n1_
              have ab := n2_
              have aa := n3_
              have ae := n4_
              have aj := n5_
              have HB := n6_
              clear n0_ n1_ n2_ n3_ n4_ n5_ n6_
              (try clear hb)
              (try clear hb2)
              (try clear hk)
              (try clear hi)
              (try clear ho0)
              obtain ⟨aQ, aT, dn⟩ := Kd.Bn ae.out
              (first | subst dn | (injection dn with f1_ f2_ f3_; have f4_ := f1_.symm; have f5_ := f3_.symm; clear f1_ f2_ f3_; subst f4_; subst f5_))
              obtain ⟨aU, aV, dp⟩ := Kd.Bn aj.out
              (first | subst dp | (injection dp with f1_ f2_ f3_; have f4_ := f1_.symm; have f5_ := f3_.symm; clear f1_ f2_ f3_; subst f4_; subst f5_))
              refine hK.out _ _ ⟨HS0_, HS1_⟩ (fun hHeld => ?_)
              clear hK K
              refine norm_ (a' := ?_) ?_ ?_
              rotate_left
              ·show Act.put _ (some 34) _ = _
               simp only [Act.put, sA, sB, sC, i64_w, i32_w]
               rfl
              refine one_ (i := 13) (N := some 36) (bA 15 16383) rfl rfl (one_of HT_.out (by kernel_rfl)) (by decide) (fun K hK => ?_)
              refine goes_ Try.func73 (by kernel_rfl) rfl #[.slice aQ ap.length aT, .slice aU aq.length aV, .func (.func a2.toNat) #[] #[]] (by rfl) rfl rfl (by (try simp only [List.map_toArray, List.map_cons, List.map_nil]); first | done | rfl | (simp only [List.length_drop, List.length_take]; rfl)) ?_
              with_reducible refine (Ay.calls k1 (fun k_ => some k_ = (.slice aQ ap.length aT : Value).ownBlock) _ _ ap (fun k_ => some k_ = (.slice aU aq.length aV : Value).ownBlock) _ _ aq a2 an _ ?side1 ?side2 A14.out).mono ?_
              (case side1 => exact Kd.R_V (Kd.Cs rfl (Kd.B5 (Kd.B5 (ae.out) (Kd.Ck ab.out) (by decide)) (Kd.N_typed aa.out) (by decide))))
              (case side2 => exact Kd.R_V (Kd.Cs rfl (Kd.B5 (Kd.B5 (aj.out) (Kd.Ck ab.out) (by decide)) (Kd.N_typed aa.out) (by decide))))
              rintro e w55 ⟨v206, rfl, ho0, hb⟩
              have HS0_ := (hb.cell (World.block_lt_of_cell? _ _ (hHeld.1))).trans (hHeld.1)
              have HS1_ := (hb.cell (World.block_lt_of_cell? _ _ (hHeld.2))).trans (hHeld.2)
              refine ⟨_, rfl, ?_⟩
              have n0_ := Aa.mk (Kd.V_elder' (by (with_reducible repeat (first | apply Kd.V_alloc | apply Kd.V_drewN | apply Kd.V_drew)); exact ah.out) (Kd.Ao ho0) hb)
              have n1_ := Aa.mk (Kd.V_elder' (by (with_reducible repeat (first | apply Kd.V_alloc | apply Kd.V_drewN | apply Kd.V_drew)); exact ai.out) (Kd.Ao ho0) hb)
              have n2_ := Aa.mk (Kd.Be (by exact rU <| ab.out) hb)
              have n3_ := Aa.mk (Kd.N_elder' (by (with_reducible repeat (first | apply Kd.N_alloc | apply Kd.N_drewN | apply Kd.N_drew)); exact aa.out) (Kd.Ao ho0) hb)
              have n4_ := Aa.mk (Kd.Ap (by exact rU <| ae.out) (Kd.Ao ho0) hb)
              have n5_ := Aa.mk (Kd.Ap (by exact rU <| aj.out) (Kd.Ao ho0) hb)
              have n6_ := Aa.mk (Kd.Bx (Kd.Au (Kd.Au (Kd.Cf (M := fun k_ => (w.heap.size ≤ k_)) (Kd.Bs (ok' := fun k_ => True) ho0 (fun _ hk_ => trivial)) (Ag (lU HB.out)) (fun k_ h_ => h_)) (Kd.Bq (by exact rU <| ae.out))) (Kd.Bq (by exact rU <| aj.out))) (Ag (lU HB.out)))
              have n7_ := Aa.mk (Ak (lU HB.out) hb)
              clear ah
              clear ai
              clear ab
              clear aa
              clear ae
              clear aj
              clear HB
              have ah := n0_
              have ai := n1_
              have ab := n2_
              have aa := n3_
              have ae := n4_
              have aj := n5_
              have am := n6_
              have HB := n7_
              clear n0_ n1_ n2_ n3_ n4_ n5_ n6_ n7_
              (try clear hb)
              (try clear hb2)
              (try clear hk)
              (try clear hi)
              (try clear ho0)
              refine hK.out _ _ ⟨HS0_, HS1_⟩ (fun hHeld => ?_)
              clear hK K
              refine norm_ (a' := ?_) ?_ ?_
              rotate_left
              ·show Act.put _ (some 36) _ = _
               simp only [Act.put, sA, sB, sC, i64_w, i32_w]
               rfl
              refine pure_ (i := 14) (N := some 10) (v := ?_) (a' := ?_) (bA 15 32767) rfl rfl (any_of HT_.out (by kernel_rfl)) (fun _ _ _ h => h) (Or.inl ⟨by rfl, ?_⟩) ?_ ?_
              rotate_left; (intro w'; go_simp; with_reducible rfl); rotate_left; (simp only [Act.put, sA, sB, sC, i64_w, i32_w]; rfl)
              refine done_ (done_of HT_.out (by kernel_rfl)) ?_
              obtain ⟨bj, bl, dS⟩ := Kd.Bn am.out
              subst dS
              obtain ⟨ex, bD, dT⟩ := Kd.N_slice aa.out
              subst dT
              try go_wp2
              have n0_ := Aa.mk (Kd.V_drew ah.out)
              have n1_ := Aa.mk (Kd.V_drew ai.out)
              have n2_ := Aa.mk (Kd.Cd ab.out)
              have n3_ := Aa.mk (Kd.N_drew aa.out)
              have n4_ := Aa.mk (Kd.Cd ae.out)
              have n5_ := Aa.mk (Kd.Cd aj.out)
              have n6_ := Aa.mk (Kd.Cd am.out)
              have n7_ := Aa.mk (Ac HB.out)
              clear ah
              clear ai
              clear ab
              clear aa
              clear ae
              clear aj
              clear am
              clear HB
              have ah := n0_
              have ai := n1_
              have ab := n2_
              have aa := n3_
              have ae := n4_
              have aj := n5_
              have am := n6_
              have HB := n7_
              clear n0_ n1_ n2_ n3_ n4_ n5_ n6_ n7_
              have be : 0 ≤ ((ak) : Int) := of_decide_eq_true (by with_reducible assumption)
              have bf : (ak) < (ag.length : Int) := of_decide_eq_true (by with_reducible assumption)
              obtain ⟨ao, aD, aH, e208, az, aA, ar, aI, hi208_2⟩ := at_T91 (Kd.N_reads' aa.out).2.2 (ak) be bf
              cases e208
              obtain ⟨ce208, hce208, hMe208, hcc208⟩ := Kd.N_get aa.out z91 (ak) be (by first | exact bf | exact of_decide_eq_true (by with_reducible assumption) | (have e_ := (Kd.N_reads' aa.out).1; omega))
              obtain ⟨ua208_2, uc208_2, rfl, ul208_2, ge208_2⟩ := k91_openF hMe208
              have hv208_2 := hcc208 2 _ rfl
              rw [add_field _ _ 2 (by omega)] at hv208_2
              replace hv208_2 := Option.some.inj (hv208_2.symm.trans ar)
              injection hv208_2 with hva_ hvn_ hvc_
              rw [hva_] at ge208_2
              rw [hvc_] at ul208_2
              have HL208_2 := Aa.mk (show Kd.V k93 93 _ w.heap.size _ _ ((rd_T91 ag (ak)).f2) from Kd.V_mk ul208_2 ge208_2)
              clear hva_ hvn_ hvc_ ge208_2 ul208_2
              clear hcc208 hce208
              have au := Aa.mk hi208_2
              have bV := Aa.mk aI
              clear hi208_2 aI
              replace be := eq_true be
              replace bf := eq_true bf
              have bp : 0 ≤ (af : Int) := of_decide_eq_true (by with_reducible assumption)
              have bq : af < (ac.length : Int) := of_decide_eq_true (by with_reducible assumption)
              obtain ⟨bK, e209, aC⟩ := Kd.at_int (Kd.At ab.out).2.2 af bp bq
              obtain rfl : al = bK := (by injection e209)
              replace bp := eq_true bp
              replace bq := eq_true bq
              have bx : 0 ≤ ((ak) : Int) := of_decide_eq_true (by with_reducible assumption)
              have bz : (ak) < (ag.length : Int) := of_decide_eq_true (by with_reducible assumption)
              obtain ⟨cd, cv, cw, e210, aE, aG, ay, bg, hi210_2⟩ := at_T91 (Kd.N_reads' aa.out).2.2 (ak) bx bz
              obtain rfl : ao = cd := (by injection e210)
              obtain ⟨ce210, hce210, hMe210, hcc210⟩ := Kd.N_get aa.out z91 (ak) bx (by first | exact bz | exact of_decide_eq_true (by with_reducible assumption) | (have e_ := (Kd.N_reads' aa.out).1; omega))
              obtain ⟨ua210_2, uc210_2, rfl, ul210_2, ge210_2⟩ := k91_openF hMe210
              have hv210_2 := hcc210 2 _ rfl
              rw [add_field _ _ 2 (by omega)] at hv210_2
              replace hv210_2 := Option.some.inj (hv210_2.symm.trans ay)
              injection hv210_2 with hva_ hvn_ hvc_
              rw [hva_] at ge210_2
              rw [hvc_] at ul210_2
              have HL210_2 := Aa.mk (show Kd.V k93 93 _ w.heap.size _ _ ((rd_T91 ag (ak)).f2) from Kd.V_mk ul210_2 ge210_2)
              clear hva_ hvn_ hvc_ ge210_2 ul210_2
              clear hcc210 hce210
              have av := Aa.mk hi210_2
              have bB := Aa.mk bg
              clear hi210_2 bg
              replace bx := eq_true bx
              replace bz := eq_true bz
              have ea_ := Option.some.inj (ar.symm.trans ay)
              injection ea_ with ea_ en_ ec_
              subst ea_
              subst ec_
              clear en_
              refine start_ (n := 25) (S := fun w' => w'.cell? (ao.add (((ak)).toNat * 3)) = some (.int .i64 ((rd_T91 ag (ak)).f0)) ∧ w'.cell? ⟨(ao.add (((ak)).toNat * 3)).block, (ao.add (((ak)).toNat * 3)).off + 1, none⟩ = some (.int .i64 ((rd_T91 ag (ak)).f1)) ∧ w'.cell? ⟨(ao.add (((ak)).toNat * 3)).block, (ao.add (((ak)).toNat * 3)).off + 2, none⟩ = some (.slice aD ((rd_T91 ag (ak)).f2).length aH) ∧ w'.cell? (al.add (af).toNat) = some (.int .i64 (rd ac af)) ∧ w'.cell? (ao.add (((ak)).toNat * 3)) = some (.int .i64 ((rd_T91 ag (ak)).f0)) ∧ w'.cell? ⟨(ao.add (((ak)).toNat * 3)).block, (ao.add (((ak)).toNat * 3)).off + 1, none⟩ = some (.int .i64 ((rd_T91 ag (ak)).f1)) ∧ w'.cell? ⟨(ao.add (((ak)).toNat * 3)).block, (ao.add (((ak)).toNat * 3)).off + 2, none⟩ = some (.slice aD ((rd_T91 ag (ak)).f2).length aH)) (ds := []) #[false, false, false, false, false, false, false, false, false, false, false, false, false, false, false, false, false, false, false, false, false, false, false, false, false] (by kernel_rfl) rfl rfl ⟨az, aA, ar, aC, aE, aG, ay⟩ (fun hHeld => ?_); refine with_tabW Aq.tab9 Aq.bits9 (fun HT_ HW_ => ?_)
              generalize w55.drew = w58 at ah ai ab aa ae aj am HB HL208_2 HL210_2 au av az aA ar aC aE aG ay hHeld ⊢
              refine pure_ (i := 0) (N := some 42) (v := ?_) (a' := ?_) (bA 25 1) rfl rfl (any_of HT_.out (by kernel_rfl)) (fun _ _ _ h => h) (Or.inl ⟨by rfl, ?_⟩) ?_ ?_
              rotate_left; (intro w'; go_simp; with_reducible rfl); rotate_left; (simp only [Act.put, sA, sB, sC, i64_w, i32_w]; rfl)
              refine pure_ (i := 1) (N := some 43) (v := ?_) (a' := ?_) (bA 25 3) rfl rfl (any_of HT_.out (by kernel_rfl)) (fun _ _ _ h => h) (Or.inl ⟨by rfl, ?_⟩) ?_ ?_
              rotate_left; (intro w'; go_simp; with_reducible rfl); rotate_left; (simp only [Act.put, sA, sB, sC, i64_w, i32_w]; rfl)
              refine pure_ (i := 2) (N := some 44) (v := ?_) (a' := ?_) (bA 25 7) rfl rfl (any_of HT_.out (by kernel_rfl)) (fun _ _ _ h => h) (Or.inl ⟨by rfl, ?_⟩) ?_ ?_
              rotate_left; (intro w'; go_simp; with_reducible rfl); rotate_left; (simp only [Act.put, sA, sB, sC, i64_w, i32_w]; rfl)
              refine pure_ (i := 3) (N := some 45) (v := ?_) (a' := ?_) (bA 25 15) rfl rfl (any_of HT_.out (by kernel_rfl)) (fun _ _ _ h => h) (Or.inl ⟨by rfl, ?_⟩) ?_ ?_
              rotate_left; (intro w'; go_simp; with_reducible rfl); rotate_left; (simp only [Act.put, sA, sB, sC, i64_w, i32_w]; rfl)
              refine pure_ (i := 4) (N := some 46) (v := ?_) (a' := ?_) (bA 25 31) rfl rfl (any_of HT_.out (by kernel_rfl)) (fun _ _ _ h => h) (Or.inl ⟨by rfl, ?_⟩) ?_ ?_
              rotate_left; (intro w'; go_simp; with_reducible rfl); rotate_left; (simp only [Act.put, sA, sB, sC, i64_w, i32_w]; rfl)
              refine pure_ (i := 5) (N := some 47) (v := ?_) (a' := ?_) (bA 25 63) rfl rfl (any_of HT_.out (by kernel_rfl)) (fun _ _ _ h => h) (Or.inl ⟨by rfl, ?_⟩) ?_ ?_
              rotate_left; (intro w'; go_simp; with_reducible rfl); rotate_left; (simp only [Act.put, sA, sB, sC, i64_w, i32_w]; rfl)
              refine pure_ (i := 6) (N := some 48) (v := ?_) (a' := ?_) (bA 25 127) rfl rfl (any_of HT_.out (by kernel_rfl)) (fun _ _ _ h => h) (Or.inl ⟨by rfl, ?_⟩) ?_ ?_
              rotate_left; (intro w'; go_simp; with_reducible rfl); rotate_left; (simp only [Act.put, sA, sB, sC, i64_w, i32_w]; rfl)
              refine pure_ (i := 7) (N := some 49) (v := ?_) (a' := ?_) (bA 25 255) rfl rfl (any_of HT_.out (by kernel_rfl)) (fun _ _ _ h => h) (Or.inl ⟨by rfl, ?_⟩) ?_ ?_
              rotate_left; (intro w'; go_simp; with_reducible rfl); rotate_left; (simp only [Act.put, sA, sB, sC, i64_w, i32_w]; rfl)
              refine pure_ (i := 9) (N := some 51) (v := ?_) (a' := ?_) (bA 25 767) rfl rfl (any_of HT_.out (by kernel_rfl)) (fun _ _ _ h => h) (Or.inl ⟨by rfl, ?_⟩) ?_ ?_
              rotate_left; (intro w'; go_simp; with_reducible rfl); rotate_left; (simp only [Act.put, sA, sB, sC, i64_w, i32_w]; rfl)
              refine pure_ (i := 10) (N := some 52) (v := ?_) (a' := ?_) (bA 25 1791) rfl rfl (any_of HT_.out (by kernel_rfl)) (fun _ _ _ h => h) (Or.inl ⟨by rfl, ?_⟩) ?_ ?_
              rotate_left; (intro w'; go_simp; with_reducible rfl); rotate_left; (simp only [Act.put, sA, sB, sC, i64_w, i32_w]; rfl)
              refine pure_ (i := 11) (N := some 53) (v := ?_) (a' := ?_) (bA 25 3839) rfl rfl (any_of HT_.out (by kernel_rfl)) (fun _ _ _ h => h) (Or.inl ⟨by rfl, ?_⟩) ?_ ?_
              rotate_left; (intro w'; go_simp; with_reducible rfl); rotate_left; (simp only [Act.put, sA, sB, sC, i64_w, i32_w]; rfl)
              refine take_ (i := 8) (N := some 50) (v := ?_) (a' := ?_) (bA 25 4095) rfl rfl (take_ofW HT_.out HW_.out (by kernel_rfl)) (fun _ _ _ h => h) (Or.inl ⟨by rfl, ?_⟩) hHeld ?_ ?_
              rotate_left; (rintro w' ⟨s0, s1, s2, s3, s4, s5, s6⟩; go_simp; with_reducible rfl); rotate_left; (simp only [Act.put, sA, sB, sC, i64_w, i32_w]; rfl)
              refine take_ (i := 12) (N := some 54) (v := ?_) (a' := ?_) (bA 25 8191) rfl rfl (take_ofW HT_.out HW_.out (by kernel_rfl)) (fun _ _ _ h => h) (Or.inl ⟨by rfl, ?_⟩) hHeld ?_ ?_
              rotate_left; (rintro w' ⟨s0, s1, s2, s3, s4, s5, s6⟩; go_simp; with_reducible rfl); rotate_left; (simp only [Act.put, sA, sB, sC, i64_w, i32_w]; rfl)
              refine pure_ (i := 13) (N := some 55) (v := ?_) (a' := ?_) (bA 25 16383) rfl rfl (any_of HT_.out (by kernel_rfl)) (fun _ _ _ h => h) (Or.inl ⟨by rfl, ?_⟩) ?_ ?_
              rotate_left; (intro w'; go_simp; with_reducible rfl); rotate_left; (simp only [Act.put, sA, sB, sC, i64_w, i32_w]; rfl)
              refine pure_ (i := 14) (N := some 56) (v := ?_) (a' := ?_) (bA 25 32767) rfl rfl (any_of HT_.out (by kernel_rfl)) (fun _ _ _ h => h) (Or.inl ⟨by rfl, ?_⟩) ?_ ?_
              rotate_left; (intro w'; go_simp; with_reducible rfl); rotate_left; (simp only [Act.put, sA, sB, sC, i64_w, i32_w]; rfl)
              refine pure_ (i := 15) (N := some 57) (v := ?_) (a' := ?_) (bA 25 65535) rfl rfl (any_of HT_.out (by kernel_rfl)) (fun _ _ _ h => h) (Or.inl ⟨by rfl, ?_⟩) ?_ ?_
              rotate_left; (intro w'; go_simp; with_reducible rfl); rotate_left; (simp only [Act.put, sA, sB, sC, i64_w, i32_w]; rfl)
              refine pure_ (i := 16) (N := some 58) (v := ?_) (a' := ?_) (bA 25 131071) rfl rfl (any_of HT_.out (by kernel_rfl)) (fun _ _ _ h => h) (Or.inl ⟨by rfl, ?_⟩) ?_ ?_
              rotate_left; (intro w'; go_simp; with_reducible rfl); rotate_left; (simp only [Act.put, sA, sB, sC, i64_w, i32_w]; rfl)
              refine pure_ (i := 17) (N := some 59) (v := ?_) (a' := ?_) (bA 25 262143) rfl rfl (any_of HT_.out (by kernel_rfl)) (fun _ _ _ h => h) (Or.inl ⟨by rfl, ?_⟩) ?_ ?_
              rotate_left; (intro w'; go_simp; with_reducible rfl); rotate_left; (simp only [Act.put, sA, sB, sC, i64_w, i32_w]; rfl)
              refine pure_ (i := 18) (N := some 60) (v := ?_) (a' := ?_) (bA 25 524287) rfl rfl (any_of HT_.out (by kernel_rfl)) (fun _ _ _ h => h) (Or.inl ⟨by rfl, ?_⟩) ?_ ?_
              rotate_left; (intro w'; go_simp; with_reducible rfl); rotate_left; (simp only [Act.put, sA, sB, sC, i64_w, i32_w]; rfl)
              refine pure_ (i := 19) (N := some 61) (v := ?_) (a' := ?_) (bA 25 1048575) rfl rfl (any_of HT_.out (by kernel_rfl)) (fun _ _ _ h => h) (Or.inl ⟨by rfl, ?_⟩) ?_ ?_
              rotate_left; (intro w'; go_simp; with_reducible rfl); rotate_left; (simp only [Act.put, sA, sB, sC, i64_w, i32_w]; rfl)
              refine pure_ (i := 20) (N := some 62) (v := ?_) (a' := ?_) (bA 25 2097151) rfl rfl (any_of HT_.out (by kernel_rfl)) (fun _ _ _ h => h) (Or.inl ⟨by rfl, ?_⟩) ?_ ?_
              rotate_left; (intro w'; go_simp; with_reducible rfl); rotate_left; (simp only [Act.put, sA, sB, sC, i64_w, i32_w]; rfl)
              refine pure_ (i := 22) (N := some 64) (v := ?_) (a' := ?_) (bA 25 6291455) rfl rfl (any_of HT_.out (by kernel_rfl)) (fun _ _ _ h => h) (Or.inl ⟨by rfl, ?_⟩) ?_ ?_
              rotate_left; (intro w'; go_simp; with_reducible rfl); rotate_left; (simp only [Act.put, sA, sB, sC, i64_w, i32_w]; rfl)
              refine take_ (i := 21) (N := some 63) (v := ?_) (a' := ?_) (bA 25 8388607) rfl rfl (take_ofW HT_.out HW_.out (by kernel_rfl)) (fun _ _ _ h => h) (Or.inl ⟨by rfl, ?_⟩) hHeld ?_ ?_
              rotate_left; (rintro w' ⟨s0, s1, s2, s3, s4, s5, s6⟩; go_simp; with_reducible rfl); rotate_left; (simp only [Act.put, sA, sB, sC, i64_w, i32_w]; rfl)
              refine one_ (i := 23) (N := some 65) (bA 25 16777215) rfl rfl (one_of HT_.out (by kernel_rfl)) (by decide) (fun K hK => ?_)
              refine goes_ Try.func75 (by kernel_rfl) rfl #[.slice aD ((rd_T91 ag (ak)).f2).length aH, .slice bj an.length bl] (by rfl) rfl rfl (by (try simp only [List.map_toArray, List.map_cons, List.map_nil]); first | done | (simp only [bm]; rfl) | rfl | (simp only [List.length_drop, List.length_take]; rfl)) ?_
              with_reducible refine (Bz.calls k1 _ _ ((rd_T91 ag (ak)).f2) _ _ an false _ ?side1 ?side2 ?side3 ?side4 A29.out).mono ?_
              (case side1 => repeat (first | exact (by repeat (first | (with_reducible exact av.out) | (with_reducible refine Kd.Bi ?_ _) | (with_reducible refine Kd.Bh ?_ _) | (with_reducible refine Kd.Bm ?_) | exact av.out)) | (with_reducible refine Kd.Bi ?_ _) | (with_reducible refine Kd.Bh ?_ _) | (with_reducible refine Kd.Bm ?_)))
              (case side2 => exact bB.out)
              (case side3 => repeat (first | exact (Kd.At am.out).2.2 | (with_reducible refine Kd.Bi ?_ _) | (with_reducible refine Kd.Bh ?_ _) | (with_reducible refine Kd.Bm ?_)))
              (case side4 => exact (Kd.At am.out).2.1)
              rintro e w' ⟨rfl, ⟨nd, rfl⟩⟩
              refine ⟨_, rfl, ?_⟩
              refine hK.out _ _ ⟨hHeld.1, hHeld.2.1, hHeld.2.2.1, hHeld.2.2.2.1, hHeld.2.2.2.2.1, hHeld.2.2.2.2.2.1, hHeld.2.2.2.2.2.2⟩ (fun hHeld => ?_)
              clear hK K
              refine norm_ (a' := ?_) ?_ ?_
              rotate_left
              ·show Act.put _ (some 65) _ = _
               simp only [Act.put, sA, sB, sC, i64_w, i32_w]
               rfl
              refine pure_ (i := 24) (N := some 66) (v := ?_) (a' := ?_) (bA 25 33554431) rfl rfl (any_of HT_.out (by kernel_rfl)) (fun _ _ _ h => h) (Or.inl ⟨by rfl, ?_⟩) ?_ ?_
              rotate_left; (intro w'; go_simp; with_reducible rfl); rotate_left; (simp only [Act.put, sA, sB, sC, i64_w, i32_w]; rfl)
              refine done_ (done_of HT_.out (by kernel_rfl)) ?_
              try go_wp2
              (try (rw [drewN_self w58]; generalize hq_ : World.drewN w58 _ = w58; have n0_ : Aa (Kd.V k93 93 w58 w.heap.size (fun k_ => ((P0_ k_ ∨ P1_ k_) ∨ w.heap.size ≤ k_) ∧ some k_ ≠ (.slice aQ ap.length aT : Value).ownBlock ∧ some k_ ≠ (.slice aU aq.length aV : Value).ownBlock ∧ some k_ ≠ (.slice bj an.length bl : Value).ownBlock ∧ some k_ ≠ (.slice (some al) ac.length bi : Value).ownBlock ∧ some k_ ≠ (.slice (some ao) ag.length bD : Value).ownBlock) (.slice aD ((rd_T91 ag (ak)).f2).length aH) ((rd_T91 ag (ak)).f2)) := ⟨by rw [← hq_]; exact (by (with_reducible repeat (first | apply Kd.V_alloc | apply Kd.V_drewN | apply Kd.V_drew)); exact Kd.V_mono HL208_2.out (fun _ hk => by first | exact ⟨hk.1.1.1.1.1, ⟨hk.1.1.1.2, ⟨hk.1.1.2, ⟨hk.1.2, ⟨hk.1.1.1.1.2, hk.2⟩⟩⟩⟩⟩ | (simp [hk]; done)))⟩; have n1_ : Aa (Kd.V k93 93 w58 w.heap.size (fun k_ => ((P0_ k_ ∨ P1_ k_) ∨ w.heap.size ≤ k_) ∧ some k_ ≠ (.slice aQ ap.length aT : Value).ownBlock ∧ some k_ ≠ (.slice aU aq.length aV : Value).ownBlock ∧ some k_ ≠ (.slice bj an.length bl : Value).ownBlock ∧ some k_ ≠ (.slice (some al) ac.length bi : Value).ownBlock ∧ some k_ ≠ (.slice (some ao) ag.length bD : Value).ownBlock) (.slice aD ((rd_T91 ag (ak)).f2).length aH) ((rd_T91 ag (ak)).f2)) := ⟨by rw [← hq_]; exact (by (with_reducible repeat (first | apply Kd.V_alloc | apply Kd.V_drewN | apply Kd.V_drew)); exact Kd.V_mono HL210_2.out (fun _ hk => by first | exact ⟨hk.1.1.1.1.1, ⟨hk.1.1.1.2, ⟨hk.1.1.2, ⟨hk.1.2, ⟨hk.1.1.1.1.2, hk.2⟩⟩⟩⟩⟩ | (simp [hk]; done)))⟩; have n2_ : Aa (Kd.R k93 93 w58 w.heap.size (fun k_ => (w.heap.size ≤ k_) ∧ some k_ ≠ (.slice aU aq.length aV : Value).ownBlock ∧ some k_ ≠ (.slice bj an.length bl : Value).ownBlock) (.slice aQ ap.length aT) ap) := ⟨by rw [← hq_]; exact (by exact rU <| Kd.Bs ae.out (fun _ hk => by first | exact ⟨hk.1.1.1, ⟨hk.1.2, hk.2⟩⟩ | (simp [hk]; done)))⟩; have n3_ : Aa (Kd.R k93 93 w58 w.heap.size (fun k_ => (w.heap.size ≤ k_) ∧ some k_ ≠ (.slice aQ ap.length aT : Value).ownBlock ∧ some k_ ≠ (.slice bj an.length bl : Value).ownBlock) (.slice aU aq.length aV) aq) := ⟨by rw [← hq_]; exact (by exact rU <| Kd.Bs aj.out (fun _ hk => by first | exact ⟨hk.1.1.1, ⟨hk.1.2, hk.2⟩⟩ | (simp [hk]; done)))⟩; have n4_ : Aa (Kd.R k93 93 w58 w.heap.size (fun k_ => (w.heap.size ≤ k_) ∧ some k_ ≠ (.slice aQ ap.length aT : Value).ownBlock ∧ some k_ ≠ (.slice aU aq.length aV : Value).ownBlock) (.slice bj an.length bl) an) := ⟨by rw [← hq_]; exact (by exact rU <| Kd.Bs am.out (fun _ hk => by first | exact ⟨hk.1.1.1, ⟨hk.1.2, hk.2⟩⟩ | (simp [hk]; done)))⟩; have n5_ : Aa (Kd.V k58 58 w58 w.heap.size (fun k_ => ((P0_ k_ ∨ P1_ k_) ∨ w.heap.size ≤ k_) ∧ some k_ ≠ (.slice aQ ap.length aT : Value).ownBlock ∧ some k_ ≠ (.slice aU aq.length aV : Value).ownBlock ∧ some k_ ≠ (.slice bj an.length bl : Value).ownBlock ∧ some k_ ≠ (.slice (some al) ac.length bi : Value).ownBlock ∧ some k_ ≠ (.slice (some ao) ag.length bD : Value).ownBlock) (.slice A0 l0.length c0) l0) := ⟨by rw [← hq_]; exact (by (with_reducible repeat (first | apply Kd.V_alloc | apply Kd.V_drewN | apply Kd.V_drew)); exact Kd.V_mono ah.out (fun _ hk => by first | exact ⟨hk.1.1.1.1, ⟨hk.1.1.2, ⟨hk.1.2, ⟨hk.2, ⟨hk.1.1.1.2.1, hk.1.1.1.2.2⟩⟩⟩⟩⟩ | (simp [hk]; done)))⟩; have n6_ : Aa (Kd.V k58 58 w58 w.heap.size (fun k_ => ((P0_ k_ ∨ P1_ k_) ∨ w.heap.size ≤ k_) ∧ some k_ ≠ (.slice aQ ap.length aT : Value).ownBlock ∧ some k_ ≠ (.slice aU aq.length aV : Value).ownBlock ∧ some k_ ≠ (.slice bj an.length bl : Value).ownBlock ∧ some k_ ≠ (.slice (some al) ac.length bi : Value).ownBlock ∧ some k_ ≠ (.slice (some ao) ag.length bD : Value).ownBlock) (.slice A1 l1.length c1) l1) := ⟨by rw [← hq_]; exact (by (with_reducible repeat (first | apply Kd.V_alloc | apply Kd.V_drewN | apply Kd.V_drew)); exact Kd.V_mono ai.out (fun _ hk => by first | exact ⟨hk.1.1.1.1, ⟨hk.1.1.2, ⟨hk.1.2, ⟨hk.2, ⟨hk.1.1.1.2.1, hk.1.1.1.2.2⟩⟩⟩⟩⟩ | (simp [hk]; done)))⟩; have n7_ : Aa (Kd.R (Kd.int .i64) 3 w58 w.heap.size (fun k_ => (w.heap.size ≤ k_)) (.slice (some al) ac.length bi) ac) := ⟨by rw [← hq_]; exact (by exact rU <| ab.out)⟩; have n8_ : Aa (Kd.N k91 91 w58 w.heap.size (fun k_ => ((P0_ k_ ∨ P1_ k_) ∨ w.heap.size ≤ k_) ∧ some k_ ≠ (.slice aQ ap.length aT : Value).ownBlock ∧ some k_ ≠ (.slice aU aq.length aV : Value).ownBlock ∧ some k_ ≠ (.slice bj an.length bl : Value).ownBlock ∧ some k_ ≠ (.slice (some al) ac.length bi : Value).ownBlock) (.slice (some ao) ag.length bD) ag) := ⟨by rw [← hq_]; exact (by (with_reducible repeat (first | apply Kd.N_alloc | apply Kd.N_drewN | apply Kd.N_drew)); exact Kd.N_mono aa.out (fun _ hk => by first | exact ⟨hk.1.1.1.1, ⟨hk.1.1.2, ⟨hk.1.2, ⟨hk.2, hk.1.1.1.2⟩⟩⟩⟩ | (simp [hk]; done)))⟩; have n9_ : Aa (Below w.heap.size w w58) := ⟨by rw [← hq_]; exact (lU HB.out)⟩; have ch : Aa (Kd.C k93 w58 aD ((rd_T91 ag (ak)).f2).length ((rd_T91 ag (ak)).f2)) := ⟨by rw [← hq_]; exact (by repeat (first | (with_reducible exact au.out) | (with_reducible refine Kd.Bi ?_ _) | (with_reducible refine Kd.Bh ?_ _) | (with_reducible refine Kd.Bm ?_) | exact au.out))⟩; have ci : Aa (Kd.C k93 w58 aD ((rd_T91 ag (ak)).f2).length ((rd_T91 ag (ak)).f2)) := ⟨by rw [← hq_]; exact (by repeat (first | (with_reducible exact av.out) | (with_reducible refine Kd.Bi ?_ _) | (with_reducible refine Kd.Bh ?_ _) | (with_reducible refine Kd.Bm ?_) | exact av.out))⟩; clear HL208_2 HL210_2 ae aj am ah ai ab aa HB au av hq_; have HL208_2 := n0_; have HL210_2 := n1_; have ae := n2_; have aj := n3_; have am := n4_; have ah := n5_; have ai := n6_; have ab := n7_; have aa := n8_; have HB := n9_; have au := ch; have av := ci; clear n0_ n1_ n2_ n3_ n4_ n5_ n6_ n7_ n8_ n9_ ch ci))
              have n0_ := Aa.mk (Kd.V_drew ah.out)
              have n1_ := Aa.mk (Kd.V_drew ai.out)
              have n2_ := Aa.mk (Kd.Cd ab.out)
              have n3_ := Aa.mk (Kd.N_drew aa.out)
              have n4_ := Aa.mk (Kd.Cd ae.out)
              have n5_ := Aa.mk (Kd.Cd aj.out)
              have n6_ := Aa.mk (Kd.Cd am.out)
              have n7_ := Aa.mk (Kd.V_drew HL208_2.out)
              have n8_ := Aa.mk (Kd.V_drew HL210_2.out)
              have n9_ := Aa.mk (Kd.Bm au.out)
              have ch := Aa.mk (Kd.Bm av.out)
              have ci := Aa.mk (Ac HB.out)
              clear ah
              clear ai
              clear ab
              clear aa
              clear ae
              clear aj
              clear am
              clear HL208_2
              clear HL210_2
              clear au
              clear av
              clear HB
              have ah := n0_
              have ai := n1_
              have ab := n2_
              have aa := n3_
              have ae := n4_
              have aj := n5_
              have am := n6_
              have HL208_2 := n7_
              have HL210_2 := n8_
              have au := n9_
              have av := ch
              have HB := ci
              clear n0_ n1_ n2_ n3_ n4_ n5_ n6_ n7_ n8_ n9_ ch ci
              have cC : 0 ≤ (af : Int) := of_decide_eq_true (by with_reducible assumption)
              have cD : af < (ac.length : Int) := of_decide_eq_true (by with_reducible assumption)
              obtain ⟨dq, e214, bW⟩ := Kd.at_int (Kd.At ab.out).2.2 af cC cD
              obtain rfl : al = dq := (by injection e214)
              replace cC := eq_true cC
              replace cD := eq_true cD
              have cE : 0 ≤ ((aW) : Int) := of_decide_eq_true (by with_reducible assumption)
              have cF : (aW) < (ac.length : Int) := of_decide_eq_true (by with_reducible assumption)
              obtain ⟨dr, e215, bX⟩ := Kd.at_int (Kd.At ab.out).2.2 (aW) cE cF
              obtain rfl : al = dr := (by injection e215)
              replace cE := eq_true cE
              replace cF := eq_true cF
              refine start_ (n := 15) (S := fun w' => w'.cell? (al.add (af).toNat) = some (.int .i64 (rd ac af)) ∧ w'.cell? (al.add ((aW)).toNat) = some (.int .i64 (rd ac (aW)))) (ds := [12, 13]) #[false, false, false, false, false, false, false, false, false, false, false, false, false, false, false] (by kernel_rfl) rfl rfl ⟨bW, bX⟩ (fun hHeld => ?_); refine with_tabW Aq.tab11 Aq.bits11 (fun HT_ HW_ => ?_)
              generalize w58.drew = w59 at ah ai ab aa ae aj am HL208_2 HL210_2 au av HB bW bX hHeld ⊢
              refine pure_ (i := 0) (N := some 77) (v := ?_) (a' := ?_) (bA 15 1) rfl rfl (any_of HT_.out (by kernel_rfl)) (fun _ _ _ h => h) (Or.inl ⟨by rfl, ?_⟩) ?_ ?_
              rotate_left; (intro w'; go_simp; with_reducible rfl); rotate_left; (simp only [Act.put, sA, sB, sC, i64_w, i32_w]; rfl)
              refine pure_ (i := 1) (N := some 78) (v := ?_) (a' := ?_) (bA 15 3) rfl rfl (any_of HT_.out (by kernel_rfl)) (fun _ _ _ h => h) (Or.inl ⟨by rfl, ?_⟩) ?_ ?_
              rotate_left; (intro w'; go_simp; with_reducible rfl); rotate_left; (simp only [Act.put, sA, sB, sC, i64_w, i32_w]; rfl)
              refine pure_ (i := 2) (N := some 79) (v := ?_) (a' := ?_) (bA 15 7) rfl rfl (any_of HT_.out (by kernel_rfl)) (fun _ _ _ h => h) (Or.inl ⟨by rfl, ?_⟩) ?_ ?_
              rotate_left; (intro w'; go_simp; with_reducible rfl); rotate_left; (simp only [Act.put, sA, sB, sC, i64_w, i32_w]; rfl)
              refine pure_ (i := 3) (N := some 80) (v := ?_) (a' := ?_) (bA 15 15) rfl rfl (any_of HT_.out (by kernel_rfl)) (fun _ _ _ h => h) (Or.inl ⟨by rfl, ?_⟩) ?_ ?_
              rotate_left; (intro w'; go_simp; with_reducible rfl); rotate_left; (simp only [Act.put, sA, sB, sC, i64_w, i32_w]; rfl)
              refine pure_ (i := 5) (N := some 82) (v := ?_) (a' := ?_) (bA 15 47) rfl rfl (any_of HT_.out (by kernel_rfl)) (fun _ _ _ h => h) (Or.inl ⟨by rfl, ?_⟩) ?_ ?_
              rotate_left; (intro w'; go_simp; with_reducible rfl); rotate_left; (simp only [Act.put, sA, sB, sC, i64_w, i32_w]; rfl)
              refine pure_ (i := 6) (N := some 83) (v := ?_) (a' := ?_) (bA 15 111) rfl rfl (any_of HT_.out (by kernel_rfl)) (fun _ _ _ h => h) (Or.inl ⟨by rfl, ?_⟩) ?_ ?_
              rotate_left; (intro w'; go_simp; with_reducible rfl); rotate_left; (simp only [Act.put, sA, sB, sC, i64_w, i32_w]; rfl)
              refine pure_ (i := 7) (N := some 84) (v := ?_) (a' := ?_) (bA 15 239) rfl rfl (any_of HT_.out (by kernel_rfl)) (fun _ _ _ h => h) (Or.inl ⟨by rfl, ?_⟩) ?_ ?_
              rotate_left; (intro w'; go_simp; with_reducible rfl); rotate_left; (simp only [Act.put, sA, sB, sC, i64_w, i32_w]; rfl)
              refine pure_ (i := 8) (N := some 85) (v := ?_) (a' := ?_) (bA 15 495) rfl rfl (any_of HT_.out (by kernel_rfl)) (fun _ _ _ h => h) (Or.inl ⟨by rfl, ?_⟩) ?_ ?_
              rotate_left; (intro w'; go_simp; with_reducible rfl); rotate_left; (simp only [Act.put, sA, sB, sC, i64_w, i32_w]; rfl)
              refine pure_ (i := 10) (N := some 87) (v := ?_) (a' := ?_) (bA 15 1519) rfl rfl (any_of HT_.out (by kernel_rfl)) (fun _ _ _ h => h) (Or.inl ⟨by rfl, ?_⟩) ?_ ?_
              rotate_left; (intro w'; go_simp; with_reducible rfl); rotate_left; (simp only [Act.put, sA, sB, sC, i64_w, i32_w]; rfl)
              refine take_ (i := 4) (N := some 81) (v := ?_) (a' := ?_) (bA 15 1535) rfl rfl (take_ofW HT_.out HW_.out (by kernel_rfl)) (fun _ _ _ h => h) (Or.inl ⟨by rfl, ?_⟩) hHeld ?_ ?_
              rotate_left; (rintro w' ⟨s0, s1⟩; go_simp; with_reducible rfl); rotate_left; (simp only [Act.put, sA, sB, sC, i64_w, i32_w]; rfl)
              refine take_ (i := 9) (N := some 86) (v := ?_) (a' := ?_) (bA 15 2047) rfl rfl (take_ofW HT_.out HW_.out (by kernel_rfl)) (fun _ _ _ h => h) (Or.inl ⟨by rfl, ?_⟩) hHeld ?_ ?_
              rotate_left; (rintro w' ⟨s0, s1⟩; go_simp; with_reducible rfl); rotate_left; (simp only [Act.put, sA, sB, sC, i64_w, i32_w]; rfl)
              refine pure_ (i := 11) (N := some 88) (v := ?_) (a' := ?_) (bA 15 4095) rfl rfl (any_of HT_.out (by kernel_rfl)) (fun _ _ _ h => h) (Or.inl ⟨by rfl, ?_⟩) ?_ ?_
              rotate_left; (intro w'; go_simp; with_reducible rfl); rotate_left; (simp only [Act.put, sA, sB, sC, i64_w, i32_w]; rfl)
              refine last_ (i := 12) (N := some 89) (bA 15 8191) rfl rfl (one_of HT_.out (by kernel_rfl)) (by decide) (fun K hK => ?_)
              refine value_ (w1 := ?_) (v := ?_) (by rfl) rfl ?_ ?_
              rotate_left 2
              ·go_simp
               constructor
               ·rfl
               ·rfl
              refine hK.out _ _ ?_
              clear hK K
              refine norm_ (a' := ?_) ?_ ?_
              rotate_left
              ·show Act.put _ (some 89) _ = _
               simp only [Act.put, sA, sB, sC, i64_w, i32_w]
               rfl
              refine last_ (i := 13) (N := some 90) (bA 15 16383) rfl rfl (one_of HT_.out (by kernel_rfl)) (by decide) (fun K hK => ?_)
              refine Kd.N_append_step k91 (w0 := w) w.heap.size (by rfl) (.tmp 77) (.tmp 89) 77 91 (.agg #[(.int .i64 0), (.int .i64 0), (.slice none 0 0)]) 40 rfl Try.underlying77 info91 rfl (by decide) (by omega) (.slice (some ao) ag.length bD) ag (⟨rd ac af, rd ac (aW), an⟩ : S91) [.int .i64 (rd ac af), .int .i64 (rd ac (aW)), .slice bj an.length bl] (fun k_ => ((P0_ k_ ∨ P1_ k_) ∨ w.heap.size ≤ k_) ∧ some k_ ≠ (.slice (some al) ac.length bi : Value).ownBlock ∧ some k_ ≠ (.slice aQ ap.length aT : Value).ownBlock ∧ some k_ ≠ (.slice aU aq.length aV : Value).ownBlock) (fun k_ => ((fun k_ => ((P0_ k_ ∨ P1_ k_) ∨ w.heap.size ≤ k_) ∧ some k_ ≠ (.slice (some al) ac.length bi : Value).ownBlock ∧ some k_ ≠ (.slice aQ ap.length aT : Value).ownBlock ∧ some k_ ≠ (.slice aU aq.length aV : Value).ownBlock)) k_ ∧ some k_ ≠ (.slice (some ao) ag.length bD : Value).ownBlock) rfl rfl ?aP (fun _ hk => hk) ?aF ?aO ?aB ?aS ?aL ?_
              (case aP => exact (k91_mkF _ _ (⟨rd ac af, rd ac (aW), an⟩ : S91) (Kd.At (Kd.Bs (ok' := (fun k_ => ((fun k_ => ((P0_ k_ ∨ P1_ k_) ∨ w.heap.size ≤ k_) ∧ some k_ ≠ (.slice (some al) ac.length bi : Value).ownBlock ∧ some k_ ≠ (.slice aQ ap.length aT : Value).ownBlock ∧ some k_ ≠ (.slice aU aq.length aV : Value).ownBlock)) k_ ∧ some k_ ≠ (.slice (some ao) ag.length bD : Value).ownBlock)) (Kd.B5 (Kd.B5 (am.out) (Kd.Ck ab.out) (by decide)) (Kd.N_typed aa.out) (by decide)) (fun k_ hk => by first | exact ⟨⟨(.inr (hk.1.1.1.1.1)), ⟨hk.1.2, ⟨hk.1.1.1.2, hk.1.1.2⟩⟩⟩, hk.2⟩ | (simp [hk]; done)))).2.1 (Kd.R_F (Kd.Bs (ok' := (fun k_ => ((fun k_ => ((P0_ k_ ∨ P1_ k_) ∨ w.heap.size ≤ k_) ∧ some k_ ≠ (.slice (some al) ac.length bi : Value).ownBlock ∧ some k_ ≠ (.slice aQ ap.length aT : Value).ownBlock ∧ some k_ ≠ (.slice aU aq.length aV : Value).ownBlock)) k_ ∧ some k_ ≠ (.slice (some ao) ag.length bD : Value).ownBlock)) (Kd.B5 (Kd.B5 (am.out) (Kd.Ck ab.out) (by decide)) (Kd.N_typed aa.out) (by decide)) (fun k_ hk => by first | exact ⟨⟨(.inr (hk.1.1.1.1.1)), ⟨hk.1.2, ⟨hk.1.1.1.2, hk.1.1.2⟩⟩⟩, hk.2⟩ | (simp [hk]; done))))))
              (case aB => exact (lU HB.out))
              (case aF => exact (fun k_ hk => by first | exact ⟨(.inr (Nat.le_trans (Ag (lU HB.out)) hk)), Kd.fresh' (Kd.Bq (by exact rU <| ab.out)) k_ hk, Kd.fresh' (Kd.Bq (by exact rU <| ae.out)) k_ hk, Kd.fresh' (Kd.Bq (by exact rU <| aj.out)) k_ hk⟩ | (simp [hk]; done)))
              (case aO => exact (by (with_reducible repeat (first | apply Kd.N_alloc | apply Kd.N_drewN | apply Kd.N_drew)); exact Kd.N_mono aa.out (fun _ hk => by first | exact ⟨hk.1.1.1.1, ⟨hk.1.1.1.2, ⟨hk.1.1.2, hk.1.2⟩⟩⟩ | (simp [hk]; done))))
              (case aS => exact (Ag (lU HB.out)))
              (case aL => have := LMc48.out; omega)
              intro v217 w60 ho hb hg hat
              rw [← dm.out] at ho
              have n0_ := Aa.mk (Kd.V_afterv (ok := (fun k_ => ((P0_ k_ ∨ P1_ k_) ∨ w.heap.size ≤ k_) ∧ some k_ ≠ (.slice (some al) ac.length bi : Value).ownBlock ∧ some k_ ≠ (.slice aQ ap.length aT : Value).ownBlock ∧ some k_ ≠ (.slice aU aq.length aV : Value).ownBlock ∧ some k_ ≠ (.slice bj an.length bl : Value).ownBlock)) (by (with_reducible repeat (first | apply Kd.V_alloc | apply Kd.V_drewN | apply Kd.V_drew)); exact Kd.V_mono ah.out (fun _ hk => by first | exact ⟨⟨hk.1.1.1.1, ⟨hk.1.1.1.2.1, ⟨hk.1.1.2, ⟨hk.1.2, hk.2⟩⟩⟩⟩, hk.1.1.1.2.2⟩ | (simp [hk]; done))) hg hat)
              have n1_ := Aa.mk (Kd.V_afterv (ok := (fun k_ => ((P0_ k_ ∨ P1_ k_) ∨ w.heap.size ≤ k_) ∧ some k_ ≠ (.slice (some al) ac.length bi : Value).ownBlock ∧ some k_ ≠ (.slice aQ ap.length aT : Value).ownBlock ∧ some k_ ≠ (.slice aU aq.length aV : Value).ownBlock ∧ some k_ ≠ (.slice bj an.length bl : Value).ownBlock)) (by (with_reducible repeat (first | apply Kd.V_alloc | apply Kd.V_drewN | apply Kd.V_drew)); exact Kd.V_mono ai.out (fun _ hk => by first | exact ⟨⟨hk.1.1.1.1, ⟨hk.1.1.1.2.1, ⟨hk.1.1.2, ⟨hk.1.2, hk.2⟩⟩⟩⟩, hk.1.1.1.2.2⟩ | (simp [hk]; done))) hg hat)
              have n2_ := Aa.mk (Kd.Ct (by exact rU <| ab.out) (Kd.N_typed (by (with_reducible repeat (first | apply Kd.N_alloc | apply Kd.N_drewN | apply Kd.N_drew)); exact aa.out)) (by decide) hg)
              have n3_ := Aa.mk (Kd.Ct (by exact rU <| ae.out) (Kd.N_typed (by (with_reducible repeat (first | apply Kd.N_alloc | apply Kd.N_drewN | apply Kd.N_drew)); exact aa.out)) (by decide) hg)
              have n4_ := Aa.mk (Kd.Ct (by exact rU <| aj.out) (Kd.N_typed (by (with_reducible repeat (first | apply Kd.N_alloc | apply Kd.N_drewN | apply Kd.N_drew)); exact aa.out)) (by decide) hg)
              have n5_ := Aa.mk (Kd.V_afterv (ok := (fun k_ => ((P0_ k_ ∨ P1_ k_) ∨ w.heap.size ≤ k_) ∧ some k_ ≠ (.slice (some al) ac.length bi : Value).ownBlock ∧ some k_ ≠ (.slice aQ ap.length aT : Value).ownBlock ∧ some k_ ≠ (.slice aU aq.length aV : Value).ownBlock ∧ some k_ ≠ (.slice bj an.length bl : Value).ownBlock)) (by (with_reducible repeat (first | apply Kd.V_alloc | apply Kd.V_drewN | apply Kd.V_drew)); exact Kd.V_mono HL208_2.out (fun _ hk => by first | exact ⟨⟨hk.1.1.1.1.1, ⟨hk.1.1.1.1.2, ⟨hk.1.1.1.2, ⟨hk.1.1.2, hk.1.2⟩⟩⟩⟩, hk.2⟩ | (simp [hk]; done))) hg hat)
              have n6_ := Aa.mk (Kd.V_afterv (ok := (fun k_ => ((P0_ k_ ∨ P1_ k_) ∨ w.heap.size ≤ k_) ∧ some k_ ≠ (.slice (some al) ac.length bi : Value).ownBlock ∧ some k_ ≠ (.slice aQ ap.length aT : Value).ownBlock ∧ some k_ ≠ (.slice aU aq.length aV : Value).ownBlock ∧ some k_ ≠ (.slice bj an.length bl : Value).ownBlock)) (by (with_reducible repeat (first | apply Kd.V_alloc | apply Kd.V_drewN | apply Kd.V_drew)); exact Kd.V_mono HL210_2.out (fun _ hk => by first | exact ⟨⟨hk.1.1.1.1.1, ⟨hk.1.1.1.1.2, ⟨hk.1.1.1.2, ⟨hk.1.1.2, hk.1.2⟩⟩⟩⟩, hk.2⟩ | (simp [hk]; done))) hg hat)
              have n7_ := Aa.mk (hb)
              have n8_ := Aa.mk (ho)
              clear ah
              clear ai
              clear ab
              clear ae
              clear aj
              clear HL208_2
              clear HL210_2
              clear HB
              clear aa
              clear am
              have ah := n0_
              have ai := n1_
              have ab := n2_
              have ae := n3_
              have aj := n4_
              have HL208_2 := n5_
              have HL210_2 := n6_
              have HB := n7_
              have dt := n8_
              clear n0_ n1_ n2_ n3_ n4_ n5_ n6_ n7_ n8_
              clear ho hb hg hat
              refine hK.out _ _ ?_
              clear hK K
              refine norm_ (a' := ?_) ?_ ?_
              rotate_left
              ·show Act.put _ (some 90) _ = _
               simp only [Act.put, sA, sB, sC, i64_w, i32_w]
               rfl
              refine pure_ (i := 14) (N := some 8) (v := ?_) (a' := ?_) (bA 15 32767) rfl rfl (any_of HT_.out (by kernel_rfl)) (fun _ _ _ h => h) (Or.inl ⟨by rfl, ?_⟩) ?_ ?_
              rotate_left; (intro w'; go_simp; with_reducible rfl); rotate_left; (simp only [Act.put, sA, sB, sC, i64_w, i32_w]; rfl)
              refine done_ (done_of HT_.out (by kernel_rfl)) ?_
              try go_wp2
              go_roundg k1
              case measure => have := HK1.out; omega
              case rel => exact ⟨(dQ), (aW), (by first | rfl | (simp; done) | (simp only [← bh] <;> (first | rfl | simp)) | (simp [*]; done)), H', ⟨by have := HK1.out; omega⟩, ⟨by (with_reducible repeat (first | apply Kd.V_alloc | apply Kd.V_drewN | apply Kd.V_drew)); exact Kd.V_mono ah.out (fun _ hk => by first | exact ⟨hk.1.1, ⟨hk.1.2.1, hk.2⟩⟩ | (simp [hk]; done))⟩, ⟨by (with_reducible repeat (first | apply Kd.V_alloc | apply Kd.V_drewN | apply Kd.V_drew)); exact Kd.V_mono ai.out (fun _ hk => by first | exact ⟨hk.1.1, ⟨hk.1.2.1, hk.2⟩⟩ | (simp [hk]; done))⟩, ⟨by exact rU <| ab.out⟩, ⟨by (with_reducible repeat (first | apply Kd.N_alloc | apply Kd.N_drewN | apply Kd.N_drew)); exact Kd.N_mono dt.out (fun _ hk => by first | exact ⟨hk.1, hk.2.1⟩ | (simp [hk]; done))⟩, ⟨by repeat (first | (with_reducible first | exact HB.out | apply Ad | apply Ab | apply Ac) | exact HB.out)⟩⟩
             ·rw [if_neg c48] at H
              exact absurd H (by simp)
            ·rw [if_neg c47] at H
             exact absurd H (by simp)
          ·rw [if_neg c28] at H
           have dd : (((rd_T91 ag (ak)).f1) == (rd ac af)) = false := beq_eq_false_iff_ne.mpr c28
           have de : (((rd_T91 ag (ak)).f1) != (rd ac af)) = true := bne_iff_ne.mpr c28
           obtain ⟨aX, bn⟩ : ∃ j_ : Int, (wrap64 (af + 1)) = j_ := ⟨_, rfl⟩
           replace H : (if 0 ≤ (aX) then (if ag.length < 3518437208883 then (Aq.l0 k1 l0 l1 a2 ac (ag ++ [(⟨rd ac af, rd ac (aX), an⟩ : S91)]) aX) else (none)) else (none)) = some r := by first | (rw [bn] at H; exact H) | (simp only [bn] at H ⊢; exact H)
           (try rw [bn] at b8)
           (try rw [bn] at A12)
           (try rw [bn] at A13)
           (try rw [bn] at A14)
           have hji61w : (IntKind.i64.wrap (af + 1)) = aX := (i64_w _).trans bn
           by_cases c62 : 0 ≤ (aX)
           ·rw [if_pos c62] at H
            have em : decide (0 ≤ (aX)) = true := decide_eq_true c62
            clear c62
            by_cases c63 : ag.length < 3518437208883
            ·rw [if_pos c63] at H
             have LMc63 := Aa.mk c63
             clear c63
             obtain ⟨dU, cj⟩ : ∃ y_ : List (S91), y_ = (ag ++ [(⟨rd ac af, rd ac (aX), an⟩ : S91)]) := ⟨_, rfl⟩
             (try rw [Option.bind_some] at H); try rw [← cj] at H
             have du := Aa.mk cj
             clear cj
             have H' := Aa.mk H
             clear H
             obtain ⟨ey, bT, dV⟩ := Kd.Bn ab.out
             subst dV
             try go_wp2
             have n0_ := Aa.mk (Kd.V_drew ah.out)
             have n1_ := Aa.mk (Kd.V_drew ai.out)
             have n2_ := Aa.mk (Kd.Cd ab.out)
             have n3_ := Aa.mk (Kd.N_drew aa.out)
             have n4_ := Aa.mk (Ac HB.out)
             clear ah
             clear ai
             clear ab
             clear aa
             clear HB
             have ah := n0_
             have ai := n1_
             have ab := n2_
             have aa := n3_
             have HB := n4_
             clear n0_ n1_ n2_ n3_ n4_
             have aJ : 0 ≤ (af : Int) := of_decide_eq_true (by with_reducible assumption)
             have aK : af < (ac.length : Int) := of_decide_eq_true (by with_reducible assumption)
             obtain ⟨al, e197, aw⟩ := Kd.at_int (Kd.At ab.out).2.2 af aJ aK
             cases e197
             replace aJ := eq_true aJ
             replace aK := eq_true aK
             have aM : 0 ≤ (af : Int) := of_decide_eq_true (by with_reducible assumption)
             have aN : af < (ac.length : Int) := of_decide_eq_true (by with_reducible assumption)
             obtain ⟨a8, e201, ax⟩ := Kd.at_int (Kd.At ab.out).2.2 af aM aN
             obtain rfl : al = a8 := (by injection e201)
             replace aM := eq_true aM
             replace aN := eq_true aN
             refine start_ (n := 15) (S := fun w' => w'.cell? (al.add (af).toNat) = some (.int .i64 (rd ac af)) ∧ w'.cell? (al.add (af).toNat) = some (.int .i64 (rd ac af))) (ds := []) #[false, false, false, false, false, false, false, false, false, false, false, false, false, false, false] (by kernel_rfl) rfl rfl ⟨aw, ax⟩ (fun hHeld => ?_); refine with_tabW Aq.tab6 Aq.bits6 (fun HT_ HW_ => ?_)
             generalize wr.drew = w65 at ah ai ab aa HB aw ax hHeld ⊢
             refine pure_ (i := 0) (N := some 23) (v := ?_) (a' := ?_) (bA 15 1) rfl rfl (any_of HT_.out (by kernel_rfl)) (fun _ _ _ h => h) (Or.inl ⟨by rfl, ?_⟩) ?_ ?_
             rotate_left; (intro w'; go_simp; with_reducible rfl); rotate_left; (simp only [Act.put, sA, sB, sC, i64_w, i32_w]; rfl)
             refine pure_ (i := 1) (N := some 24) (v := ?_) (a' := ?_) (bA 15 3) rfl rfl (any_of HT_.out (by kernel_rfl)) (fun _ _ _ h => h) (Or.inl ⟨by rfl, ?_⟩) ?_ ?_
             rotate_left; (intro w'; go_simp; with_reducible rfl); rotate_left; (simp only [Act.put, sA, sB, sC, i64_w, i32_w]; rfl)
             refine pure_ (i := 2) (N := some 25) (v := ?_) (a' := ?_) (bA 15 7) rfl rfl (any_of HT_.out (by kernel_rfl)) (fun _ _ _ h => h) (Or.inl ⟨by rfl, ?_⟩) ?_ ?_
             rotate_left; (intro w'; go_simp; with_reducible rfl); rotate_left; (simp only [Act.put, sA, sB, sC, i64_w, i32_w]; rfl)
             refine pure_ (i := 3) (N := some 26) (v := ?_) (a' := ?_) (bA 15 15) rfl rfl (any_of HT_.out (by kernel_rfl)) (fun _ _ _ h => h) (Or.inl ⟨by rfl, ?_⟩) ?_ ?_
             rotate_left; (intro w'; go_simp; with_reducible rfl); rotate_left; (simp only [Act.put, sA, sB, sC, i64_w, i32_w]; rfl)
             refine pure_ (i := 6) (N := some 29) (v := ?_) (a' := ?_) (bA 15 79) rfl rfl (any_of HT_.out (by kernel_rfl)) (fun _ _ _ h => h) (Or.inl ⟨by rfl, ?_⟩) ?_ ?_
             rotate_left; (intro w'; go_simp; with_reducible rfl); rotate_left; (simp only [Act.put, sA, sB, sC, i64_w, i32_w]; rfl)
             refine pure_ (i := 7) (N := some 30) (v := ?_) (a' := ?_) (bA 15 207) rfl rfl (any_of HT_.out (by kernel_rfl)) (fun _ _ _ h => h) (Or.inl ⟨by rfl, ?_⟩) ?_ ?_
             rotate_left; (intro w'; go_simp; with_reducible rfl); rotate_left; (simp only [Act.put, sA, sB, sC, i64_w, i32_w]; rfl)
             refine pure_ (i := 8) (N := some 31) (v := ?_) (a' := ?_) (bA 15 463) rfl rfl (any_of HT_.out (by kernel_rfl)) (fun _ _ _ h => h) (Or.inl ⟨by rfl, ?_⟩) ?_ ?_
             rotate_left; (intro w'; go_simp; with_reducible rfl); rotate_left; (simp only [Act.put, sA, sB, sC, i64_w, i32_w]; rfl)
             refine pure_ (i := 9) (N := some 32) (v := ?_) (a' := ?_) (bA 15 975) rfl rfl (any_of HT_.out (by kernel_rfl)) (fun _ _ _ h => h) (Or.inl ⟨by rfl, ?_⟩) ?_ ?_
             rotate_left; (intro w'; go_simp; with_reducible rfl); rotate_left; (simp only [Act.put, sA, sB, sC, i64_w, i32_w]; rfl)
             refine pure_ (i := 12) (N := some 35) (v := ?_) (a' := ?_) (bA 15 5071) rfl rfl (any_of HT_.out (by kernel_rfl)) (fun _ _ _ h => h) (Or.inl ⟨by rfl, ?_⟩) ?_ ?_
             rotate_left; (intro w'; go_simp; with_reducible rfl); rotate_left; (simp only [Act.put, sA, sB, sC, i64_w, i32_w]; rfl)
             refine take_ (i := 4) (N := some 27) (v := ?_) (a' := ?_) (bA 15 5087) rfl rfl (take_ofW HT_.out HW_.out (by kernel_rfl)) (fun _ _ _ h => h) (Or.inl ⟨by rfl, ?_⟩) hHeld ?_ ?_
             rotate_left; (rintro w' ⟨s0, s1⟩; go_simp; with_reducible rfl); rotate_left; (simp only [Act.put, sA, sB, sC, i64_w, i32_w]; rfl)
             refine take_ (i := 10) (N := some 33) (v := ?_) (a' := ?_) (bA 15 6111) rfl rfl (take_ofW HT_.out HW_.out (by kernel_rfl)) (fun _ _ _ h => h) (Or.inl ⟨by rfl, ?_⟩) hHeld ?_ ?_
             rotate_left; (rintro w' ⟨s0, s1⟩; go_simp; with_reducible rfl); rotate_left; (simp only [Act.put, sA, sB, sC, i64_w, i32_w]; rfl)
             refine one_ (i := 5) (N := some 28) (bA 15 6143) rfl rfl (one_of HT_.out (by kernel_rfl)) (by decide) (fun K hK => ?_)
             refine goes_ Try.func74 (by kernel_rfl) rfl #[.slice A0 l0.length c0, .int .i64 (rd ac af)] (by rfl) rfl rfl (by (try simp only [List.map_toArray, List.map_cons, List.map_nil]); first | done | rfl | (simp only [List.length_drop, List.length_take]; rfl)) ?_
             with_reducible refine (Ba.calls k1 _ _ l0 (rd ac af) ap _ ?side1 ?side2 A12.out).mono ?_
             (case side1 => repeat (first | exact (Kd.V_reads' ah.out).2.2 | (with_reducible refine Kd.Bi ?_ _) | (with_reducible refine Kd.Bh ?_ _) | (with_reducible refine Kd.Bm ?_)))
             (case side2 => exact (Kd.V_reads' ah.out).2.1)
             rintro e w66 ⟨v199, rfl, ho0, hb⟩
             have HS0_ := (hb.cell (World.block_lt_of_cell? _ _ (hHeld.1))).trans (hHeld.1)
             have HS1_ := (hb.cell (World.block_lt_of_cell? _ _ (hHeld.2))).trans (hHeld.2)
             refine ⟨_, rfl, ?_⟩
             have n0_ := Aa.mk (Kd.V_elder' (by (with_reducible repeat (first | apply Kd.V_alloc | apply Kd.V_drewN | apply Kd.V_drew)); exact ah.out) (Kd.Ao ho0) hb)
             have n1_ := Aa.mk (Kd.V_elder' (by (with_reducible repeat (first | apply Kd.V_alloc | apply Kd.V_drewN | apply Kd.V_drew)); exact ai.out) (Kd.Ao ho0) hb)
             have n2_ := Aa.mk (Kd.Be (by exact rU <| ab.out) hb)
             have n3_ := Aa.mk (Kd.N_elder' (by (with_reducible repeat (first | apply Kd.N_alloc | apply Kd.N_drewN | apply Kd.N_drew)); exact aa.out) (Kd.Ao ho0) hb)
             have n4_ := Aa.mk (Kd.Bx (Kd.Cf (M := fun k_ => (w.heap.size ≤ k_)) ho0 (Ag (lU HB.out)) (fun k_ h_ => h_)) (Ag (lU HB.out)))
             have n5_ := Aa.mk (Ak (lU HB.out) hb)
             clear ah
             clear ai
             clear ab
             clear aa
             clear HB
             have ah := n0_
             have ai := n1_
             have ab := n2_
             have aa := n3_
             have ae := n4_
             have HB := n5_
             clear n0_ n1_ n2_ n3_ n4_ n5_
             (try clear hb)
             (try clear hb2)
             (try clear hk)
             (try clear hi)
             (try clear ho0)
             refine hK.out _ _ ⟨HS0_, HS1_⟩ (fun hHeld => ?_)
             clear hK K
             refine norm_ (a' := ?_) ?_ ?_
             rotate_left
             ·show Act.put _ (some 28) _ = _
              simp only [Act.put, sA, sB, sC, i64_w, i32_w]
              rfl
             refine one_ (i := 11) (N := some 34) (bA 15 8191) rfl rfl (one_of HT_.out (by kernel_rfl)) (by decide) (fun K hK => ?_)
             refine goes_ Try.func74 (by kernel_rfl) rfl #[.slice A1 l1.length c1, .int .i64 (rd ac af)] (by rfl) rfl rfl (by (try simp only [List.map_toArray, List.map_cons, List.map_nil]); first | done | rfl | (simp only [List.length_drop, List.length_take]; rfl)) ?_
             with_reducible refine (Ba.calls k1 _ _ l1 (rd ac af) aq _ ?side1 ?side2 A13.out).mono ?_
             (case side1 => repeat (first | exact (Kd.V_reads' ai.out).2.2 | (with_reducible refine Kd.Bi ?_ _) | (with_reducible refine Kd.Bh ?_ _) | (with_reducible refine Kd.Bm ?_)))
             (case side2 => exact (Kd.V_reads' ai.out).2.1)
             rintro e w67 ⟨v203, rfl, ho0, hb⟩
             have HS0_ := (hb.cell (World.block_lt_of_cell? _ _ (hHeld.1))).trans (hHeld.1)
             have HS1_ := (hb.cell (World.block_lt_of_cell? _ _ (hHeld.2))).trans (hHeld.2)
             refine ⟨_, rfl, ?_⟩
             have n0_ := Aa.mk (Kd.V_elder' (by (with_reducible repeat (first | apply Kd.V_alloc | apply Kd.V_drewN | apply Kd.V_drew)); exact ah.out) (Kd.Ao ho0) hb)
             have n1_ := Aa.mk (Kd.V_elder' (by (with_reducible repeat (first | apply Kd.V_alloc | apply Kd.V_drewN | apply Kd.V_drew)); exact ai.out) (Kd.Ao ho0) hb)
             have n2_ := Aa.mk (Kd.Be (by exact rU <| ab.out) hb)
             have n3_ := Aa.mk (Kd.N_elder' (by (with_reducible repeat (first | apply Kd.N_alloc | apply Kd.N_drewN | apply Kd.N_drew)); exact aa.out) (Kd.Ao ho0) hb)
             have n4_ := Aa.mk (Kd.Ap (by exact rU <| ae.out) (Kd.Ao ho0) hb)
             have n5_ := Aa.mk (Kd.Bx (Kd.Au (Kd.Cf (M := fun k_ => (w.heap.size ≤ k_)) ho0 (Ag (lU HB.out)) (fun k_ h_ => h_)) (Kd.Bq (by exact rU <| ae.out))) (Ag (lU HB.out)))
             have n6_ := Aa.mk (Ak (lU HB.out) hb)
             clear ah
             clear ai
             clear ab
             clear aa
             clear ae
             clear HB
             have ah := n0_
             have ai := n1_
             have ab := n2_
             have aa := n3_
             have ae := n4_
             have aj := n5_
             have HB := n6_
             clear n0_ n1_ n2_ n3_ n4_ n5_ n6_
             (try clear hb)
             (try clear hb2)
             (try clear hk)
             (try clear hi)
             (try clear ho0)
             obtain ⟨bE, bF, dv⟩ := Kd.Bn ae.out
             (first | subst dv | (injection dv with f1_ f2_ f3_; have f4_ := f1_.symm; have f5_ := f3_.symm; clear f1_ f2_ f3_; subst f4_; subst f5_))
             obtain ⟨bG, bH, dw⟩ := Kd.Bn aj.out
             (first | subst dw | (injection dw with f1_ f2_ f3_; have f4_ := f1_.symm; have f5_ := f3_.symm; clear f1_ f2_ f3_; subst f4_; subst f5_))
             refine hK.out _ _ ⟨HS0_, HS1_⟩ (fun hHeld => ?_)
             clear hK K
             refine norm_ (a' := ?_) ?_ ?_
             rotate_left
             ·show Act.put _ (some 34) _ = _
              simp only [Act.put, sA, sB, sC, i64_w, i32_w]
              rfl
             refine one_ (i := 13) (N := some 36) (bA 15 16383) rfl rfl (one_of HT_.out (by kernel_rfl)) (by decide) (fun K hK => ?_)
             refine goes_ Try.func73 (by kernel_rfl) rfl #[.slice bE ap.length bF, .slice bG aq.length bH, .func (.func a2.toNat) #[] #[]] (by rfl) rfl rfl (by (try simp only [List.map_toArray, List.map_cons, List.map_nil]); first | done | rfl | (simp only [List.length_drop, List.length_take]; rfl)) ?_
             with_reducible refine (Ay.calls k1 (fun k_ => some k_ = (.slice bE ap.length bF : Value).ownBlock) _ _ ap (fun k_ => some k_ = (.slice bG aq.length bH : Value).ownBlock) _ _ aq a2 an _ ?side1 ?side2 A14.out).mono ?_
             (case side1 => exact Kd.R_V (Kd.Cs rfl (Kd.B5 (Kd.B5 (ae.out) (Kd.Ck ab.out) (by decide)) (Kd.N_typed aa.out) (by decide))))
             (case side2 => exact Kd.R_V (Kd.Cs rfl (Kd.B5 (Kd.B5 (aj.out) (Kd.Ck ab.out) (by decide)) (Kd.N_typed aa.out) (by decide))))
             rintro e w70 ⟨v206, rfl, ho0, hb⟩
             have HS0_ := (hb.cell (World.block_lt_of_cell? _ _ (hHeld.1))).trans (hHeld.1)
             have HS1_ := (hb.cell (World.block_lt_of_cell? _ _ (hHeld.2))).trans (hHeld.2)
             refine ⟨_, rfl, ?_⟩
             have n0_ := Aa.mk (Kd.V_elder' (by (with_reducible repeat (first | apply Kd.V_alloc | apply Kd.V_drewN | apply Kd.V_drew)); exact ah.out) (Kd.Ao ho0) hb)
             have n1_ := Aa.mk (Kd.V_elder' (by (with_reducible repeat (first | apply Kd.V_alloc | apply Kd.V_drewN | apply Kd.V_drew)); exact ai.out) (Kd.Ao ho0) hb)
             have n2_ := Aa.mk (Kd.Be (by exact rU <| ab.out) hb)
             have n3_ := Aa.mk (Kd.N_elder' (by (with_reducible repeat (first | apply Kd.N_alloc | apply Kd.N_drewN | apply Kd.N_drew)); exact aa.out) (Kd.Ao ho0) hb)
             have n4_ := Aa.mk (Kd.Ap (by exact rU <| ae.out) (Kd.Ao ho0) hb)
             have n5_ := Aa.mk (Kd.Ap (by exact rU <| aj.out) (Kd.Ao ho0) hb)
             have n6_ := Aa.mk (Kd.Bx (Kd.Au (Kd.Au (Kd.Cf (M := fun k_ => (w.heap.size ≤ k_)) (Kd.Bs (ok' := fun k_ => True) ho0 (fun _ hk_ => trivial)) (Ag (lU HB.out)) (fun k_ h_ => h_)) (Kd.Bq (by exact rU <| ae.out))) (Kd.Bq (by exact rU <| aj.out))) (Ag (lU HB.out)))
             have n7_ := Aa.mk (Ak (lU HB.out) hb)
             clear ah
             clear ai
             clear ab
             clear aa
             clear ae
             clear aj
             clear HB
             have ah := n0_
             have ai := n1_
             have ab := n2_
             have aa := n3_
             have ae := n4_
             have aj := n5_
             have am := n6_
             have HB := n7_
             clear n0_ n1_ n2_ n3_ n4_ n5_ n6_ n7_
             (try clear hb)
             (try clear hb2)
             (try clear hk)
             (try clear hi)
             (try clear ho0)
             refine hK.out _ _ ⟨HS0_, HS1_⟩ (fun hHeld => ?_)
             clear hK K
             refine norm_ (a' := ?_) ?_ ?_
             rotate_left
             ·show Act.put _ (some 36) _ = _
              simp only [Act.put, sA, sB, sC, i64_w, i32_w]
              rfl
             refine pure_ (i := 14) (N := some 10) (v := ?_) (a' := ?_) (bA 15 32767) rfl rfl (any_of HT_.out (by kernel_rfl)) (fun _ _ _ h => h) (Or.inl ⟨by rfl, ?_⟩) ?_ ?_
             rotate_left; (intro w'; go_simp; with_reducible rfl); rotate_left; (simp only [Act.put, sA, sB, sC, i64_w, i32_w]; rfl)
             refine done_ (done_of HT_.out (by kernel_rfl)) ?_
             obtain ⟨cn, co, dW⟩ := Kd.Bn am.out
             subst dW
             obtain ⟨ez, cp, dX⟩ := Kd.N_slice aa.out
             subst dX
             try go_wp2
             have n0_ := Aa.mk (Kd.V_drew ah.out)
             have n1_ := Aa.mk (Kd.V_drew ai.out)
             have n2_ := Aa.mk (Kd.Cd ab.out)
             have n3_ := Aa.mk (Kd.N_drew aa.out)
             have n4_ := Aa.mk (Kd.Cd ae.out)
             have n5_ := Aa.mk (Kd.Cd aj.out)
             have n6_ := Aa.mk (Kd.Cd am.out)
             have n7_ := Aa.mk (Ac HB.out)
             clear ah
             clear ai
             clear ab
             clear aa
             clear ae
             clear aj
             clear am
             clear HB
             have ah := n0_
             have ai := n1_
             have ab := n2_
             have aa := n3_
             have ae := n4_
             have aj := n5_
             have am := n6_
             have HB := n7_
             clear n0_ n1_ n2_ n3_ n4_ n5_ n6_ n7_
             have be : 0 ≤ ((ak) : Int) := of_decide_eq_true (by with_reducible assumption)
             have bf : (ak) < (ag.length : Int) := of_decide_eq_true (by with_reducible assumption)
             obtain ⟨ao, aD, aH, e208, az, aA, ar, aI, hi208_2⟩ := at_T91 (Kd.N_reads' aa.out).2.2 (ak) be bf
             cases e208
             obtain ⟨ce208, hce208, hMe208, hcc208⟩ := Kd.N_get aa.out z91 (ak) be (by first | exact bf | exact of_decide_eq_true (by with_reducible assumption) | (have e_ := (Kd.N_reads' aa.out).1; omega))
             obtain ⟨ua208_2, uc208_2, rfl, ul208_2, ge208_2⟩ := k91_openF hMe208
             have hv208_2 := hcc208 2 _ rfl
             rw [add_field _ _ 2 (by omega)] at hv208_2
             replace hv208_2 := Option.some.inj (hv208_2.symm.trans ar)
             injection hv208_2 with hva_ hvn_ hvc_
             rw [hva_] at ge208_2
             rw [hvc_] at ul208_2
             have HL208_2 := Aa.mk (show Kd.V k93 93 _ w.heap.size _ _ ((rd_T91 ag (ak)).f2) from Kd.V_mk ul208_2 ge208_2)
             clear hva_ hvn_ hvc_ ge208_2 ul208_2
             clear hcc208 hce208
             have au := Aa.mk hi208_2
             have bV := Aa.mk aI
             clear hi208_2 aI
             replace be := eq_true be
             replace bf := eq_true bf
             have bp : 0 ≤ (af : Int) := of_decide_eq_true (by with_reducible assumption)
             have bq : af < (ac.length : Int) := of_decide_eq_true (by with_reducible assumption)
             obtain ⟨bK, e209, aC⟩ := Kd.at_int (Kd.At ab.out).2.2 af bp bq
             obtain rfl : al = bK := (by injection e209)
             replace bp := eq_true bp
             replace bq := eq_true bq
             refine start_ (n := 25) (S := fun w' => w'.cell? (ao.add (((ak)).toNat * 3)) = some (.int .i64 ((rd_T91 ag (ak)).f0)) ∧ w'.cell? ⟨(ao.add (((ak)).toNat * 3)).block, (ao.add (((ak)).toNat * 3)).off + 1, none⟩ = some (.int .i64 ((rd_T91 ag (ak)).f1)) ∧ w'.cell? ⟨(ao.add (((ak)).toNat * 3)).block, (ao.add (((ak)).toNat * 3)).off + 2, none⟩ = some (.slice aD ((rd_T91 ag (ak)).f2).length aH) ∧ w'.cell? (al.add (af).toNat) = some (.int .i64 (rd ac af))) (ds := []) #[false, false, false, false, false, false, false, false, false, false, false, false, false, false, false, false, false, false, false, false, false, false, false, false, false] (by kernel_rfl) rfl rfl ⟨az, aA, ar, aC⟩ (fun hHeld => ?_); refine with_tabW Aq.tab9 Aq.bits9 (fun HT_ HW_ => ?_)
             generalize w70.drew = w73 at ah ai ab aa ae aj am HB HL208_2 au az aA ar aC hHeld ⊢
             refine pure_ (i := 0) (N := some 42) (v := ?_) (a' := ?_) (bA 25 1) rfl rfl (any_of HT_.out (by kernel_rfl)) (fun _ _ _ h => h) (Or.inl ⟨by rfl, ?_⟩) ?_ ?_
             rotate_left; (intro w'; go_simp; with_reducible rfl); rotate_left; (simp only [Act.put, sA, sB, sC, i64_w, i32_w]; rfl)
             refine pure_ (i := 1) (N := some 43) (v := ?_) (a' := ?_) (bA 25 3) rfl rfl (any_of HT_.out (by kernel_rfl)) (fun _ _ _ h => h) (Or.inl ⟨by rfl, ?_⟩) ?_ ?_
             rotate_left; (intro w'; go_simp; with_reducible rfl); rotate_left; (simp only [Act.put, sA, sB, sC, i64_w, i32_w]; rfl)
             refine pure_ (i := 2) (N := some 44) (v := ?_) (a' := ?_) (bA 25 7) rfl rfl (any_of HT_.out (by kernel_rfl)) (fun _ _ _ h => h) (Or.inl ⟨by rfl, ?_⟩) ?_ ?_
             rotate_left; (intro w'; go_simp; with_reducible rfl); rotate_left; (simp only [Act.put, sA, sB, sC, i64_w, i32_w]; rfl)
             refine pure_ (i := 3) (N := some 45) (v := ?_) (a' := ?_) (bA 25 15) rfl rfl (any_of HT_.out (by kernel_rfl)) (fun _ _ _ h => h) (Or.inl ⟨by rfl, ?_⟩) ?_ ?_
             rotate_left; (intro w'; go_simp; with_reducible rfl); rotate_left; (simp only [Act.put, sA, sB, sC, i64_w, i32_w]; rfl)
             refine pure_ (i := 4) (N := some 46) (v := ?_) (a' := ?_) (bA 25 31) rfl rfl (any_of HT_.out (by kernel_rfl)) (fun _ _ _ h => h) (Or.inl ⟨by rfl, ?_⟩) ?_ ?_
             rotate_left; (intro w'; go_simp; with_reducible rfl); rotate_left; (simp only [Act.put, sA, sB, sC, i64_w, i32_w]; rfl)
             refine pure_ (i := 5) (N := some 47) (v := ?_) (a' := ?_) (bA 25 63) rfl rfl (any_of HT_.out (by kernel_rfl)) (fun _ _ _ h => h) (Or.inl ⟨by rfl, ?_⟩) ?_ ?_
             rotate_left; (intro w'; go_simp; with_reducible rfl); rotate_left; (simp only [Act.put, sA, sB, sC, i64_w, i32_w]; rfl)
             refine pure_ (i := 6) (N := some 48) (v := ?_) (a' := ?_) (bA 25 127) rfl rfl (any_of HT_.out (by kernel_rfl)) (fun _ _ _ h => h) (Or.inl ⟨by rfl, ?_⟩) ?_ ?_
             rotate_left; (intro w'; go_simp; with_reducible rfl); rotate_left; (simp only [Act.put, sA, sB, sC, i64_w, i32_w]; rfl)
             refine pure_ (i := 7) (N := some 49) (v := ?_) (a' := ?_) (bA 25 255) rfl rfl (any_of HT_.out (by kernel_rfl)) (fun _ _ _ h => h) (Or.inl ⟨by rfl, ?_⟩) ?_ ?_
             rotate_left; (intro w'; go_simp; with_reducible rfl); rotate_left; (simp only [Act.put, sA, sB, sC, i64_w, i32_w]; rfl)
             refine pure_ (i := 9) (N := some 51) (v := ?_) (a' := ?_) (bA 25 767) rfl rfl (any_of HT_.out (by kernel_rfl)) (fun _ _ _ h => h) (Or.inl ⟨by rfl, ?_⟩) ?_ ?_
             rotate_left; (intro w'; go_simp; with_reducible rfl); rotate_left; (simp only [Act.put, sA, sB, sC, i64_w, i32_w]; rfl)
             refine pure_ (i := 10) (N := some 52) (v := ?_) (a' := ?_) (bA 25 1791) rfl rfl (any_of HT_.out (by kernel_rfl)) (fun _ _ _ h => h) (Or.inl ⟨by rfl, ?_⟩) ?_ ?_
             rotate_left; (intro w'; go_simp; with_reducible rfl); rotate_left; (simp only [Act.put, sA, sB, sC, i64_w, i32_w]; rfl)
             refine pure_ (i := 11) (N := some 53) (v := ?_) (a' := ?_) (bA 25 3839) rfl rfl (any_of HT_.out (by kernel_rfl)) (fun _ _ _ h => h) (Or.inl ⟨by rfl, ?_⟩) ?_ ?_
             rotate_left; (intro w'; go_simp; with_reducible rfl); rotate_left; (simp only [Act.put, sA, sB, sC, i64_w, i32_w]; rfl)
             refine take_ (i := 8) (N := some 50) (v := ?_) (a' := ?_) (bA 25 4095) rfl rfl (take_ofW HT_.out HW_.out (by kernel_rfl)) (fun _ _ _ h => h) (Or.inl ⟨by rfl, ?_⟩) hHeld ?_ ?_
             rotate_left; (rintro w' ⟨s0, s1, s2, s3⟩; go_simp; with_reducible rfl); rotate_left; (simp only [Act.put, sA, sB, sC, i64_w, i32_w]; rfl)
             refine take_ (i := 12) (N := some 54) (v := ?_) (a' := ?_) (bA 25 8191) rfl rfl (take_ofW HT_.out HW_.out (by kernel_rfl)) (fun _ _ _ h => h) (Or.inl ⟨by rfl, ?_⟩) hHeld ?_ ?_
             rotate_left; (rintro w' ⟨s0, s1, s2, s3⟩; go_simp; with_reducible rfl); rotate_left; (simp only [Act.put, sA, sB, sC, i64_w, i32_w]; rfl)
             refine pure_ (i := 13) (N := some 55) (v := ?_) (a' := ?_) (bA 25 16383) rfl rfl (any_of HT_.out (by kernel_rfl)) (fun _ _ _ h => h) (Or.inl ⟨by rfl, ?_⟩) ?_ ?_
             rotate_left; (intro w'; go_simp; with_reducible rfl); rotate_left; (simp only [Act.put, sA, sB, sC, i64_w, i32_w]; rfl)
             refine pure_ (i := 14) (N := some 56) (v := ?_) (a' := ?_) (bA 25 32767) rfl rfl (any_of HT_.out (by kernel_rfl)) (fun _ _ _ h => h) (Or.inl ⟨by rfl, ?_⟩) ?_ ?_
             rotate_left; (intro w'; go_simp; with_reducible rfl); rotate_left; (simp only [Act.put, sA, sB, sC, i64_w, i32_w]; rfl)
             refine pure_ (i := 15) (N := some 57) (v := ?_) (a' := ?_) (bA 25 65535) rfl rfl (any_of HT_.out (by kernel_rfl)) (fun _ _ _ h => h) (Or.inl ⟨by rfl, ?_⟩) ?_ ?_
             rotate_left; (intro w'; go_simp; with_reducible rfl); rotate_left; (simp only [Act.put, sA, sB, sC, i64_w, i32_w]; rfl)
             refine pure_ (i := 16) (N := some 58) (v := undef) (a' := ?_) (bA 25 131071) rfl rfl (any_of HT_.out (by kernel_rfl)) (fun _ _ _ h => h) (Or.inr ⟨by rfl, rfl⟩) ?_ ?_
             rotate_left
             ·simp only [Act.put, sA, sB, sC, i64_w, i32_w]
              rfl
             refine pure_ (i := 17) (N := some 59) (v := undef) (a' := ?_) (bA 25 262143) rfl rfl (any_of HT_.out (by kernel_rfl)) (fun _ _ _ h => h) (Or.inr ⟨by rfl, rfl⟩) ?_ ?_
             rotate_left
             ·simp only [Act.put, sA, sB, sC, i64_w, i32_w]
              rfl
             refine pure_ (i := 18) (N := some 60) (v := undef) (a' := ?_) (bA 25 524287) rfl rfl (any_of HT_.out (by kernel_rfl)) (fun _ _ _ h => h) (Or.inr ⟨by rfl, rfl⟩) ?_ ?_
             rotate_left
             ·simp only [Act.put, sA, sB, sC, i64_w, i32_w]
              rfl
             refine pure_ (i := 19) (N := some 61) (v := undef) (a' := ?_) (bA 25 1048575) rfl rfl (any_of HT_.out (by kernel_rfl)) (fun _ _ _ h => h) (Or.inr ⟨by rfl, rfl⟩) ?_ ?_
             rotate_left
             ·simp only [Act.put, sA, sB, sC, i64_w, i32_w]
              rfl
             refine pure_ (i := 20) (N := some 62) (v := undef) (a' := ?_) (bA 25 2097151) rfl rfl (any_of HT_.out (by kernel_rfl)) (fun _ _ _ h => h) (Or.inr ⟨by rfl, rfl⟩) ?_ ?_
             rotate_left
             ·simp only [Act.put, sA, sB, sC, i64_w, i32_w]
              rfl
             refine pure_ (i := 21) (N := some 63) (v := undef) (a' := ?_) (bA 25 4194303) rfl rfl (any_of HT_.out (by kernel_rfl)) (fun _ _ _ h => h) (Or.inr ⟨by rfl, rfl⟩) ?_ ?_
             rotate_left
             ·simp only [Act.put, sA, sB, sC, i64_w, i32_w]
              rfl
             refine pure_ (i := 22) (N := some 64) (v := undef) (a' := ?_) (bA 25 8388607) rfl rfl (any_of HT_.out (by kernel_rfl)) (fun _ _ _ h => h) (Or.inr ⟨by rfl, rfl⟩) ?_ ?_
             rotate_left
             ·simp only [Act.put, sA, sB, sC, i64_w, i32_w]
              rfl
             refine pure_ (i := 23) (N := some 65) (v := undef) (a' := ?_) (bA 25 16777215) rfl rfl (any_of HT_.out (by kernel_rfl)) (fun _ _ _ h => h) (Or.inr ⟨by rfl, rfl⟩) ?_ ?_
             rotate_left
             ·simp only [Act.put, sA, sB, sC, i64_w, i32_w]
              rfl
             refine pure_ (i := 24) (N := some 66) (v := ?_) (a' := ?_) (bA 25 33554431) rfl rfl (any_of HT_.out (by kernel_rfl)) (fun _ _ _ h => h) (Or.inl ⟨by rfl, ?_⟩) ?_ ?_
             rotate_left; (intro w'; go_simp; with_reducible rfl); rotate_left; (simp only [Act.put, sA, sB, sC, i64_w, i32_w]; rfl)
             refine done_ (done_of HT_.out (by kernel_rfl)) ?_
             try go_wp2
             have n0_ := Aa.mk (Kd.V_drew ah.out)
             have n1_ := Aa.mk (Kd.V_drew ai.out)
             have n2_ := Aa.mk (Kd.Cd ab.out)
             have n3_ := Aa.mk (Kd.N_drew aa.out)
             have n4_ := Aa.mk (Kd.Cd ae.out)
             have n5_ := Aa.mk (Kd.Cd aj.out)
             have n6_ := Aa.mk (Kd.Cd am.out)
             have n7_ := Aa.mk (Kd.V_drew HL208_2.out)
             have n8_ := Aa.mk (Kd.Bm au.out)
             have n9_ := Aa.mk (Ac HB.out)
             clear ah
             clear ai
             clear ab
             clear aa
             clear ae
             clear aj
             clear am
             clear HL208_2
             clear au
             clear HB
             have ah := n0_
             have ai := n1_
             have ab := n2_
             have aa := n3_
             have ae := n4_
             have aj := n5_
             have am := n6_
             have HL208_2 := n7_
             have au := n8_
             have HB := n9_
             clear n0_ n1_ n2_ n3_ n4_ n5_ n6_ n7_ n8_ n9_
             have cG : 0 ≤ (af : Int) := of_decide_eq_true (by with_reducible assumption)
             have cH : af < (ac.length : Int) := of_decide_eq_true (by with_reducible assumption)
             obtain ⟨dz, e219, bY⟩ := Kd.at_int (Kd.At ab.out).2.2 af cG cH
             obtain rfl : al = dz := (by injection e219)
             replace cG := eq_true cG
             replace cH := eq_true cH
             have cI : 0 ≤ ((aX) : Int) := of_decide_eq_true (by with_reducible assumption)
             have cJ : (aX) < (ac.length : Int) := of_decide_eq_true (by with_reducible assumption)
             obtain ⟨dA, e220, bZ⟩ := Kd.at_int (Kd.At ab.out).2.2 (aX) cI cJ
             obtain rfl : al = dA := (by injection e220)
             replace cI := eq_true cI
             replace cJ := eq_true cJ
             refine start_ (n := 15) (S := fun w' => w'.cell? (al.add (af).toNat) = some (.int .i64 (rd ac af)) ∧ w'.cell? (al.add ((aX)).toNat) = some (.int .i64 (rd ac (aX)))) (ds := [12, 13]) #[false, false, false, false, false, false, false, false, false, false, false, false, false, false, false] (by kernel_rfl) rfl rfl ⟨bY, bZ⟩ (fun hHeld => ?_); refine with_tabW Aq.tab11 Aq.bits11 (fun HT_ HW_ => ?_)
             generalize w73.drew = w74 at ah ai ab aa ae aj am HL208_2 au HB bY bZ hHeld ⊢
             refine pure_ (i := 0) (N := some 77) (v := ?_) (a' := ?_) (bA 15 1) rfl rfl (any_of HT_.out (by kernel_rfl)) (fun _ _ _ h => h) (Or.inl ⟨by rfl, ?_⟩) ?_ ?_
             rotate_left; (intro w'; go_simp; with_reducible rfl); rotate_left; (simp only [Act.put, sA, sB, sC, i64_w, i32_w]; rfl)
             refine pure_ (i := 1) (N := some 78) (v := ?_) (a' := ?_) (bA 15 3) rfl rfl (any_of HT_.out (by kernel_rfl)) (fun _ _ _ h => h) (Or.inl ⟨by rfl, ?_⟩) ?_ ?_
             rotate_left; (intro w'; go_simp; with_reducible rfl); rotate_left; (simp only [Act.put, sA, sB, sC, i64_w, i32_w]; rfl)
             refine pure_ (i := 2) (N := some 79) (v := ?_) (a' := ?_) (bA 15 7) rfl rfl (any_of HT_.out (by kernel_rfl)) (fun _ _ _ h => h) (Or.inl ⟨by rfl, ?_⟩) ?_ ?_
             rotate_left; (intro w'; go_simp; with_reducible rfl); rotate_left; (simp only [Act.put, sA, sB, sC, i64_w, i32_w]; rfl)
             refine pure_ (i := 3) (N := some 80) (v := ?_) (a' := ?_) (bA 15 15) rfl rfl (any_of HT_.out (by kernel_rfl)) (fun _ _ _ h => h) (Or.inl ⟨by rfl, ?_⟩) ?_ ?_
             rotate_left; (intro w'; go_simp; with_reducible rfl); rotate_left; (simp only [Act.put, sA, sB, sC, i64_w, i32_w]; rfl)
             refine pure_ (i := 5) (N := some 82) (v := ?_) (a' := ?_) (bA 15 47) rfl rfl (any_of HT_.out (by kernel_rfl)) (fun _ _ _ h => h) (Or.inl ⟨by rfl, ?_⟩) ?_ ?_
             rotate_left; (intro w'; go_simp; with_reducible rfl); rotate_left; (simp only [Act.put, sA, sB, sC, i64_w, i32_w]; rfl)
             refine pure_ (i := 6) (N := some 83) (v := ?_) (a' := ?_) (bA 15 111) rfl rfl (any_of HT_.out (by kernel_rfl)) (fun _ _ _ h => h) (Or.inl ⟨by rfl, ?_⟩) ?_ ?_
             rotate_left; (intro w'; go_simp; with_reducible rfl); rotate_left; (simp only [Act.put, sA, sB, sC, i64_w, i32_w]; rfl)
             refine pure_ (i := 7) (N := some 84) (v := ?_) (a' := ?_) (bA 15 239) rfl rfl (any_of HT_.out (by kernel_rfl)) (fun _ _ _ h => h) (Or.inl ⟨by rfl, ?_⟩) ?_ ?_
             rotate_left; (intro w'; go_simp; with_reducible rfl); rotate_left; (simp only [Act.put, sA, sB, sC, i64_w, i32_w]; rfl)
             refine pure_ (i := 8) (N := some 85) (v := ?_) (a' := ?_) (bA 15 495) rfl rfl (any_of HT_.out (by kernel_rfl)) (fun _ _ _ h => h) (Or.inl ⟨by rfl, ?_⟩) ?_ ?_
             rotate_left; (intro w'; go_simp; with_reducible rfl); rotate_left; (simp only [Act.put, sA, sB, sC, i64_w, i32_w]; rfl)
             refine pure_ (i := 10) (N := some 87) (v := ?_) (a' := ?_) (bA 15 1519) rfl rfl (any_of HT_.out (by kernel_rfl)) (fun _ _ _ h => h) (Or.inl ⟨by rfl, ?_⟩) ?_ ?_
             rotate_left; (intro w'; go_simp; with_reducible rfl); rotate_left; (simp only [Act.put, sA, sB, sC, i64_w, i32_w]; rfl)
             refine take_ (i := 4) (N := some 81) (v := ?_) (a' := ?_) (bA 15 1535) rfl rfl (take_ofW HT_.out HW_.out (by kernel_rfl)) (fun _ _ _ h => h) (Or.inl ⟨by rfl, ?_⟩) hHeld ?_ ?_
             rotate_left; (rintro w' ⟨s0, s1⟩; go_simp; with_reducible rfl); rotate_left; (simp only [Act.put, sA, sB, sC, i64_w, i32_w]; rfl)
             refine take_ (i := 9) (N := some 86) (v := ?_) (a' := ?_) (bA 15 2047) rfl rfl (take_ofW HT_.out HW_.out (by kernel_rfl)) (fun _ _ _ h => h) (Or.inl ⟨by rfl, ?_⟩) hHeld ?_ ?_
             rotate_left; (rintro w' ⟨s0, s1⟩; go_simp; with_reducible rfl); rotate_left; (simp only [Act.put, sA, sB, sC, i64_w, i32_w]; rfl)
             refine pure_ (i := 11) (N := some 88) (v := ?_) (a' := ?_) (bA 15 4095) rfl rfl (any_of HT_.out (by kernel_rfl)) (fun _ _ _ h => h) (Or.inl ⟨by rfl, ?_⟩) ?_ ?_
             rotate_left; (intro w'; go_simp; with_reducible rfl); rotate_left; (simp only [Act.put, sA, sB, sC, i64_w, i32_w]; rfl)
             refine last_ (i := 12) (N := some 89) (bA 15 8191) rfl rfl (one_of HT_.out (by kernel_rfl)) (by decide) (fun K hK => ?_)
             refine value_ (w1 := ?_) (v := ?_) (by rfl) rfl ?_ ?_
             rotate_left 2
             ·go_simp
              constructor
              ·rfl
              ·rfl
             refine hK.out _ _ ?_
             clear hK K
             refine norm_ (a' := ?_) ?_ ?_
             rotate_left
             ·show Act.put _ (some 89) _ = _
              simp only [Act.put, sA, sB, sC, i64_w, i32_w]
              rfl
             refine last_ (i := 13) (N := some 90) (bA 15 16383) rfl rfl (one_of HT_.out (by kernel_rfl)) (by decide) (fun K hK => ?_)
             refine Kd.N_append_step k91 (w0 := w) w.heap.size (by rfl) (.tmp 77) (.tmp 89) 77 91 (.agg #[(.int .i64 0), (.int .i64 0), (.slice none 0 0)]) 40 rfl Try.underlying77 info91 rfl (by decide) (by omega) (.slice (some ao) ag.length cp) ag (⟨rd ac af, rd ac (aX), an⟩ : S91) [.int .i64 (rd ac af), .int .i64 (rd ac (aX)), .slice cn an.length co] (fun k_ => ((P0_ k_ ∨ P1_ k_) ∨ w.heap.size ≤ k_) ∧ some k_ ≠ (.slice (some al) ac.length bT : Value).ownBlock ∧ some k_ ≠ (.slice bE ap.length bF : Value).ownBlock ∧ some k_ ≠ (.slice bG aq.length bH : Value).ownBlock) (fun k_ => ((fun k_ => ((P0_ k_ ∨ P1_ k_) ∨ w.heap.size ≤ k_) ∧ some k_ ≠ (.slice (some al) ac.length bT : Value).ownBlock ∧ some k_ ≠ (.slice bE ap.length bF : Value).ownBlock ∧ some k_ ≠ (.slice bG aq.length bH : Value).ownBlock)) k_ ∧ some k_ ≠ (.slice (some ao) ag.length cp : Value).ownBlock) rfl rfl ?aP (fun _ hk => hk) ?aF ?aO ?aB ?aS ?aL ?_
             (case aP => exact (k91_mkF _ _ (⟨rd ac af, rd ac (aX), an⟩ : S91) (Kd.At (Kd.Bs (ok' := (fun k_ => ((fun k_ => ((P0_ k_ ∨ P1_ k_) ∨ w.heap.size ≤ k_) ∧ some k_ ≠ (.slice (some al) ac.length bT : Value).ownBlock ∧ some k_ ≠ (.slice bE ap.length bF : Value).ownBlock ∧ some k_ ≠ (.slice bG aq.length bH : Value).ownBlock)) k_ ∧ some k_ ≠ (.slice (some ao) ag.length cp : Value).ownBlock)) (Kd.B5 (Kd.B5 (am.out) (Kd.Ck ab.out) (by decide)) (Kd.N_typed aa.out) (by decide)) (fun k_ hk => by first | exact ⟨⟨(.inr (hk.1.1.1.1.1)), ⟨hk.1.2, ⟨hk.1.1.1.2, hk.1.1.2⟩⟩⟩, hk.2⟩ | (simp [hk]; done)))).2.1 (Kd.R_F (Kd.Bs (ok' := (fun k_ => ((fun k_ => ((P0_ k_ ∨ P1_ k_) ∨ w.heap.size ≤ k_) ∧ some k_ ≠ (.slice (some al) ac.length bT : Value).ownBlock ∧ some k_ ≠ (.slice bE ap.length bF : Value).ownBlock ∧ some k_ ≠ (.slice bG aq.length bH : Value).ownBlock)) k_ ∧ some k_ ≠ (.slice (some ao) ag.length cp : Value).ownBlock)) (Kd.B5 (Kd.B5 (am.out) (Kd.Ck ab.out) (by decide)) (Kd.N_typed aa.out) (by decide)) (fun k_ hk => by first | exact ⟨⟨(.inr (hk.1.1.1.1.1)), ⟨hk.1.2, ⟨hk.1.1.1.2, hk.1.1.2⟩⟩⟩, hk.2⟩ | (simp [hk]; done))))))
             (case aB => exact (lU HB.out))
             (case aF => exact (fun k_ hk => by first | exact ⟨(.inr (Nat.le_trans (Ag (lU HB.out)) hk)), Kd.fresh' (Kd.Bq (by exact rU <| ab.out)) k_ hk, Kd.fresh' (Kd.Bq (by exact rU <| ae.out)) k_ hk, Kd.fresh' (Kd.Bq (by exact rU <| aj.out)) k_ hk⟩ | (simp [hk]; done)))
             (case aO => exact (by (with_reducible repeat (first | apply Kd.N_alloc | apply Kd.N_drewN | apply Kd.N_drew)); exact Kd.N_mono aa.out (fun _ hk => by first | exact ⟨hk.1.1.1.1, ⟨hk.1.1.1.2, ⟨hk.1.1.2, hk.1.2⟩⟩⟩ | (simp [hk]; done))))
             (case aS => exact (Ag (lU HB.out)))
             (case aL => have := LMc63.out; omega)
             intro v222 w75 ho hb hg hat
             rw [← du.out] at ho
             have n0_ := Aa.mk (Kd.V_afterv (ok := (fun k_ => ((P0_ k_ ∨ P1_ k_) ∨ w.heap.size ≤ k_) ∧ some k_ ≠ (.slice (some al) ac.length bT : Value).ownBlock ∧ some k_ ≠ (.slice bE ap.length bF : Value).ownBlock ∧ some k_ ≠ (.slice bG aq.length bH : Value).ownBlock ∧ some k_ ≠ (.slice cn an.length co : Value).ownBlock)) (by (with_reducible repeat (first | apply Kd.V_alloc | apply Kd.V_drewN | apply Kd.V_drew)); exact Kd.V_mono ah.out (fun _ hk => by first | exact ⟨⟨hk.1.1.1.1, ⟨hk.1.1.1.2.1, ⟨hk.1.1.2, ⟨hk.1.2, hk.2⟩⟩⟩⟩, hk.1.1.1.2.2⟩ | (simp [hk]; done))) hg hat)
             have n1_ := Aa.mk (Kd.V_afterv (ok := (fun k_ => ((P0_ k_ ∨ P1_ k_) ∨ w.heap.size ≤ k_) ∧ some k_ ≠ (.slice (some al) ac.length bT : Value).ownBlock ∧ some k_ ≠ (.slice bE ap.length bF : Value).ownBlock ∧ some k_ ≠ (.slice bG aq.length bH : Value).ownBlock ∧ some k_ ≠ (.slice cn an.length co : Value).ownBlock)) (by (with_reducible repeat (first | apply Kd.V_alloc | apply Kd.V_drewN | apply Kd.V_drew)); exact Kd.V_mono ai.out (fun _ hk => by first | exact ⟨⟨hk.1.1.1.1, ⟨hk.1.1.1.2.1, ⟨hk.1.1.2, ⟨hk.1.2, hk.2⟩⟩⟩⟩, hk.1.1.1.2.2⟩ | (simp [hk]; done))) hg hat)
             have n2_ := Aa.mk (Kd.Ct (by exact rU <| ab.out) (Kd.N_typed (by (with_reducible repeat (first | apply Kd.N_alloc | apply Kd.N_drewN | apply Kd.N_drew)); exact aa.out)) (by decide) hg)
             have n3_ := Aa.mk (Kd.Ct (by exact rU <| ae.out) (Kd.N_typed (by (with_reducible repeat (first | apply Kd.N_alloc | apply Kd.N_drewN | apply Kd.N_drew)); exact aa.out)) (by decide) hg)
             have n4_ := Aa.mk (Kd.Ct (by exact rU <| aj.out) (Kd.N_typed (by (with_reducible repeat (first | apply Kd.N_alloc | apply Kd.N_drewN | apply Kd.N_drew)); exact aa.out)) (by decide) hg)
             have n5_ := Aa.mk (Kd.V_afterv (ok := (fun k_ => ((P0_ k_ ∨ P1_ k_) ∨ w.heap.size ≤ k_) ∧ some k_ ≠ (.slice (some al) ac.length bT : Value).ownBlock ∧ some k_ ≠ (.slice bE ap.length bF : Value).ownBlock ∧ some k_ ≠ (.slice bG aq.length bH : Value).ownBlock ∧ some k_ ≠ (.slice cn an.length co : Value).ownBlock)) (by (with_reducible repeat (first | apply Kd.V_alloc | apply Kd.V_drewN | apply Kd.V_drew)); exact Kd.V_mono HL208_2.out (fun _ hk => by first | exact ⟨⟨hk.1.1.1.1.1, ⟨hk.1.1.1.1.2, ⟨hk.1.1.1.2, ⟨hk.1.1.2, hk.1.2⟩⟩⟩⟩, hk.2⟩ | (simp [hk]; done))) hg hat)
             have n6_ := Aa.mk (hb)
             have n7_ := Aa.mk (ho)
             clear ah
             clear ai
             clear ab
             clear ae
             clear aj
             clear HL208_2
             clear HB
             clear aa
             clear am
             have ah := n0_
             have ai := n1_
             have ab := n2_
             have ae := n3_
             have aj := n4_
             have HL208_2 := n5_
             have HB := n6_
             have dB := n7_
             clear n0_ n1_ n2_ n3_ n4_ n5_ n6_ n7_
             clear ho hb hg hat
             refine hK.out _ _ ?_
             clear hK K
             refine norm_ (a' := ?_) ?_ ?_
             rotate_left
             ·show Act.put _ (some 90) _ = _
              simp only [Act.put, sA, sB, sC, i64_w, i32_w]
              rfl
             refine pure_ (i := 14) (N := some 8) (v := ?_) (a' := ?_) (bA 15 32767) rfl rfl (any_of HT_.out (by kernel_rfl)) (fun _ _ _ h => h) (Or.inl ⟨by rfl, ?_⟩) ?_ ?_
             rotate_left; (intro w'; go_simp; with_reducible rfl); rotate_left; (simp only [Act.put, sA, sB, sC, i64_w, i32_w]; rfl)
             refine done_ (done_of HT_.out (by kernel_rfl)) ?_
             try go_wp2
             go_roundg k1
             case measure => have := HK1.out; omega
             case rel => exact ⟨(dU), (aX), (by first | rfl | (simp; done) | (simp only [← bn] <;> (first | rfl | simp)) | (simp [*]; done)), H', ⟨by have := HK1.out; omega⟩, ⟨by (with_reducible repeat (first | apply Kd.V_alloc | apply Kd.V_drewN | apply Kd.V_drew)); exact Kd.V_mono ah.out (fun _ hk => by first | exact ⟨hk.1.1, ⟨hk.1.2.1, hk.2⟩⟩ | (simp [hk]; done))⟩, ⟨by (with_reducible repeat (first | apply Kd.V_alloc | apply Kd.V_drewN | apply Kd.V_drew)); exact Kd.V_mono ai.out (fun _ hk => by first | exact ⟨hk.1.1, ⟨hk.1.2.1, hk.2⟩⟩ | (simp [hk]; done))⟩, ⟨by exact rU <| ab.out⟩, ⟨by (with_reducible repeat (first | apply Kd.N_alloc | apply Kd.N_drewN | apply Kd.N_drew)); exact Kd.N_mono dB.out (fun _ hk => by first | exact ⟨hk.1, hk.2.1⟩ | (simp [hk]; done))⟩, ⟨by repeat (first | (with_reducible first | exact HB.out | apply Ad | apply Ab | apply Ac) | exact HB.out)⟩⟩
            ·rw [if_neg c63] at H
             exact absurd H (by simp)
           ·rw [if_neg c62] at H
            exact absurd H (by simp)
         ·rw [if_neg c27] at H
          exact absurd H (by simp)
        ·rw [if_neg c26] at H
         exact absurd H (by simp)
       ·rw [if_neg c24] at H
        have da : decide (0 < (ag.length : Int)) = false := decide_eq_false c24
        have dc : decide (0 < ag.length) = false := decide_eq_false (by omega)
        clear c24
        obtain ⟨aY, bo⟩ : ∃ j_ : Int, (wrap64 (af + 1)) = j_ := ⟨_, rfl⟩
        replace H : (if 0 ≤ (aY) then (if ag.length < 3518437208883 then (Aq.l0 k1 l0 l1 a2 ac (ag ++ [(⟨rd ac af, rd ac (aY), an⟩ : S91)]) aY) else (none)) else (none)) = some r := by first | (rw [bo] at H; exact H) | (simp only [bo] at H ⊢; exact H)
        (try rw [bo] at b8)
        (try rw [bo] at A12)
        (try rw [bo] at A13)
        (try rw [bo] at A14)
        have hji76w : (IntKind.i64.wrap (af + 1)) = aY := (i64_w _).trans bo
        by_cases c77 : 0 ≤ (aY)
        ·rw [if_pos c77] at H
         have en : decide (0 ≤ (aY)) = true := decide_eq_true c77
         clear c77
         by_cases c78 : ag.length < 3518437208883
         ·rw [if_pos c78] at H
          have LMc78 := Aa.mk c78
          clear c78
          obtain ⟨dY, cl⟩ : ∃ y_ : List (S91), y_ = (ag ++ [(⟨rd ac af, rd ac (aY), an⟩ : S91)]) := ⟨_, rfl⟩
          (try rw [Option.bind_some] at H); try rw [← cl] at H
          have dC := Aa.mk cl
          clear cl
          have H' := Aa.mk H
          clear H
          obtain ⟨eA, b5, dZ⟩ := Kd.Bn ab.out
          subst dZ
          try go_wp2
          have n0_ := Aa.mk (Kd.V_drew ah.out)
          have n1_ := Aa.mk (Kd.V_drew ai.out)
          have n2_ := Aa.mk (Kd.Cd ab.out)
          have n3_ := Aa.mk (Kd.N_drew aa.out)
          have n4_ := Aa.mk (Ac HB.out)
          clear ah
          clear ai
          clear ab
          clear aa
          clear HB
          have ah := n0_
          have ai := n1_
          have ab := n2_
          have aa := n3_
          have HB := n4_
          clear n0_ n1_ n2_ n3_ n4_
          have aJ : 0 ≤ (af : Int) := of_decide_eq_true (by with_reducible assumption)
          have aK : af < (ac.length : Int) := of_decide_eq_true (by with_reducible assumption)
          obtain ⟨al, e197, aw⟩ := Kd.at_int (Kd.At ab.out).2.2 af aJ aK
          cases e197
          replace aJ := eq_true aJ
          replace aK := eq_true aK
          have aM : 0 ≤ (af : Int) := of_decide_eq_true (by with_reducible assumption)
          have aN : af < (ac.length : Int) := of_decide_eq_true (by with_reducible assumption)
          obtain ⟨a8, e201, ax⟩ := Kd.at_int (Kd.At ab.out).2.2 af aM aN
          obtain rfl : al = a8 := (by injection e201)
          replace aM := eq_true aM
          replace aN := eq_true aN
          refine start_ (n := 15) (S := fun w' => w'.cell? (al.add (af).toNat) = some (.int .i64 (rd ac af)) ∧ w'.cell? (al.add (af).toNat) = some (.int .i64 (rd ac af))) (ds := []) #[false, false, false, false, false, false, false, false, false, false, false, false, false, false, false] (by kernel_rfl) rfl rfl ⟨aw, ax⟩ (fun hHeld => ?_); refine with_tabW Aq.tab6 Aq.bits6 (fun HT_ HW_ => ?_)
          generalize wr.drew = w80 at ah ai ab aa HB aw ax hHeld ⊢
          refine pure_ (i := 0) (N := some 23) (v := ?_) (a' := ?_) (bA 15 1) rfl rfl (any_of HT_.out (by kernel_rfl)) (fun _ _ _ h => h) (Or.inl ⟨by rfl, ?_⟩) ?_ ?_
          rotate_left; (intro w'; go_simp; with_reducible rfl); rotate_left; (simp only [Act.put, sA, sB, sC, i64_w, i32_w]; rfl)
          refine pure_ (i := 1) (N := some 24) (v := ?_) (a' := ?_) (bA 15 3) rfl rfl (any_of HT_.out (by kernel_rfl)) (fun _ _ _ h => h) (Or.inl ⟨by rfl, ?_⟩) ?_ ?_
          rotate_left; (intro w'; go_simp; with_reducible rfl); rotate_left; (simp only [Act.put, sA, sB, sC, i64_w, i32_w]; rfl)
          refine pure_ (i := 2) (N := some 25) (v := ?_) (a' := ?_) (bA 15 7) rfl rfl (any_of HT_.out (by kernel_rfl)) (fun _ _ _ h => h) (Or.inl ⟨by rfl, ?_⟩) ?_ ?_
          rotate_left; (intro w'; go_simp; with_reducible rfl); rotate_left; (simp only [Act.put, sA, sB, sC, i64_w, i32_w]; rfl)
          refine pure_ (i := 3) (N := some 26) (v := ?_) (a' := ?_) (bA 15 15) rfl rfl (any_of HT_.out (by kernel_rfl)) (fun _ _ _ h => h) (Or.inl ⟨by rfl, ?_⟩) ?_ ?_
          rotate_left; (intro w'; go_simp; with_reducible rfl); rotate_left; (simp only [Act.put, sA, sB, sC, i64_w, i32_w]; rfl)
          refine pure_ (i := 6) (N := some 29) (v := ?_) (a' := ?_) (bA 15 79) rfl rfl (any_of HT_.out (by kernel_rfl)) (fun _ _ _ h => h) (Or.inl ⟨by rfl, ?_⟩) ?_ ?_
          rotate_left; (intro w'; go_simp; with_reducible rfl); rotate_left; (simp only [Act.put, sA, sB, sC, i64_w, i32_w]; rfl)
          refine pure_ (i := 7) (N := some 30) (v := ?_) (a' := ?_) (bA 15 207) rfl rfl (any_of HT_.out (by kernel_rfl)) (fun _ _ _ h => h) (Or.inl ⟨by rfl, ?_⟩) ?_ ?_
          rotate_left; (intro w'; go_simp; with_reducible rfl); rotate_left; (simp only [Act.put, sA, sB, sC, i64_w, i32_w]; rfl)
          refine pure_ (i := 8) (N := some 31) (v := ?_) (a' := ?_) (bA 15 463) rfl rfl (any_of HT_.out (by kernel_rfl)) (fun _ _ _ h => h) (Or.inl ⟨by rfl, ?_⟩) ?_ ?_
          rotate_left; (intro w'; go_simp; with_reducible rfl); rotate_left; (simp only [Act.put, sA, sB, sC, i64_w, i32_w]; rfl)
          refine pure_ (i := 9) (N := some 32) (v := ?_) (a' := ?_) (bA 15 975) rfl rfl (any_of HT_.out (by kernel_rfl)) (fun _ _ _ h => h) (Or.inl ⟨by rfl, ?_⟩) ?_ ?_
          rotate_left; (intro w'; go_simp; with_reducible rfl); rotate_left; (simp only [Act.put, sA, sB, sC, i64_w, i32_w]; rfl)
          refine pure_ (i := 12) (N := some 35) (v := ?_) (a' := ?_) (bA 15 5071) rfl rfl (any_of HT_.out (by kernel_rfl)) (fun _ _ _ h => h) (Or.inl ⟨by rfl, ?_⟩) ?_ ?_
          rotate_left; (intro w'; go_simp; with_reducible rfl); rotate_left; (simp only [Act.put, sA, sB, sC, i64_w, i32_w]; rfl)
          refine take_ (i := 4) (N := some 27) (v := ?_) (a' := ?_) (bA 15 5087) rfl rfl (take_ofW HT_.out HW_.out (by kernel_rfl)) (fun _ _ _ h => h) (Or.inl ⟨by rfl, ?_⟩) hHeld ?_ ?_
          rotate_left; (rintro w' ⟨s0, s1⟩; go_simp; with_reducible rfl); rotate_left; (simp only [Act.put, sA, sB, sC, i64_w, i32_w]; rfl)
          refine take_ (i := 10) (N := some 33) (v := ?_) (a' := ?_) (bA 15 6111) rfl rfl (take_ofW HT_.out HW_.out (by kernel_rfl)) (fun _ _ _ h => h) (Or.inl ⟨by rfl, ?_⟩) hHeld ?_ ?_
          rotate_left; (rintro w' ⟨s0, s1⟩; go_simp; with_reducible rfl); rotate_left; (simp only [Act.put, sA, sB, sC, i64_w, i32_w]; rfl)
          refine one_ (i := 5) (N := some 28) (bA 15 6143) rfl rfl (one_of HT_.out (by kernel_rfl)) (by decide) (fun K hK => ?_)
          refine goes_ Try.func74 (by kernel_rfl) rfl #[.slice A0 l0.length c0, .int .i64 (rd ac af)] (by rfl) rfl rfl (by (try simp only [List.map_toArray, List.map_cons, List.map_nil]); first | done | rfl | (simp only [List.length_drop, List.length_take]; rfl)) ?_
          with_reducible refine (Ba.calls k1 _ _ l0 (rd ac af) ap _ ?side1 ?side2 A12.out).mono ?_
          (case side1 => repeat (first | exact (Kd.V_reads' ah.out).2.2 | (with_reducible refine Kd.Bi ?_ _) | (with_reducible refine Kd.Bh ?_ _) | (with_reducible refine Kd.Bm ?_)))
          (case side2 => exact (Kd.V_reads' ah.out).2.1)
          rintro e w81 ⟨v199, rfl, ho0, hb⟩
          have HS0_ := (hb.cell (World.block_lt_of_cell? _ _ (hHeld.1))).trans (hHeld.1)
          have HS1_ := (hb.cell (World.block_lt_of_cell? _ _ (hHeld.2))).trans (hHeld.2)
          refine ⟨_, rfl, ?_⟩
          have n0_ := Aa.mk (Kd.V_elder' (by (with_reducible repeat (first | apply Kd.V_alloc | apply Kd.V_drewN | apply Kd.V_drew)); exact ah.out) (Kd.Ao ho0) hb)
          have n1_ := Aa.mk (Kd.V_elder' (by (with_reducible repeat (first | apply Kd.V_alloc | apply Kd.V_drewN | apply Kd.V_drew)); exact ai.out) (Kd.Ao ho0) hb)
          have n2_ := Aa.mk (Kd.Be (by exact rU <| ab.out) hb)
          have n3_ := Aa.mk (Kd.N_elder' (by (with_reducible repeat (first | apply Kd.N_alloc | apply Kd.N_drewN | apply Kd.N_drew)); exact aa.out) (Kd.Ao ho0) hb)
          have n4_ := Aa.mk (Kd.Bx (Kd.Cf (M := fun k_ => (w.heap.size ≤ k_)) ho0 (Ag (lU HB.out)) (fun k_ h_ => h_)) (Ag (lU HB.out)))
          have n5_ := Aa.mk (Ak (lU HB.out) hb)
          clear ah
          clear ai
          clear ab
          clear aa
          clear HB
          have ah := n0_
          have ai := n1_
          have ab := n2_
          have aa := n3_
          have ae := n4_
          have HB := n5_
          clear n0_ n1_ n2_ n3_ n4_ n5_
          (try clear hb)
          (try clear hb2)
          (try clear hk)
          (try clear hi)
          (try clear ho0)
          refine hK.out _ _ ⟨HS0_, HS1_⟩ (fun hHeld => ?_)
          clear hK K
          refine norm_ (a' := ?_) ?_ ?_
          rotate_left
          ·show Act.put _ (some 28) _ = _
           simp only [Act.put, sA, sB, sC, i64_w, i32_w]
           rfl
          refine one_ (i := 11) (N := some 34) (bA 15 8191) rfl rfl (one_of HT_.out (by kernel_rfl)) (by decide) (fun K hK => ?_)
          refine goes_ Try.func74 (by kernel_rfl) rfl #[.slice A1 l1.length c1, .int .i64 (rd ac af)] (by rfl) rfl rfl (by (try simp only [List.map_toArray, List.map_cons, List.map_nil]); first | done | rfl | (simp only [List.length_drop, List.length_take]; rfl)) ?_
          with_reducible refine (Ba.calls k1 _ _ l1 (rd ac af) aq _ ?side1 ?side2 A13.out).mono ?_
          (case side1 => repeat (first | exact (Kd.V_reads' ai.out).2.2 | (with_reducible refine Kd.Bi ?_ _) | (with_reducible refine Kd.Bh ?_ _) | (with_reducible refine Kd.Bm ?_)))
          (case side2 => exact (Kd.V_reads' ai.out).2.1)
          rintro e w82 ⟨v203, rfl, ho0, hb⟩
          have HS0_ := (hb.cell (World.block_lt_of_cell? _ _ (hHeld.1))).trans (hHeld.1)
          have HS1_ := (hb.cell (World.block_lt_of_cell? _ _ (hHeld.2))).trans (hHeld.2)
          refine ⟨_, rfl, ?_⟩
          have n0_ := Aa.mk (Kd.V_elder' (by (with_reducible repeat (first | apply Kd.V_alloc | apply Kd.V_drewN | apply Kd.V_drew)); exact ah.out) (Kd.Ao ho0) hb)
          have n1_ := Aa.mk (Kd.V_elder' (by (with_reducible repeat (first | apply Kd.V_alloc | apply Kd.V_drewN | apply Kd.V_drew)); exact ai.out) (Kd.Ao ho0) hb)
          have n2_ := Aa.mk (Kd.Be (by exact rU <| ab.out) hb)
          have n3_ := Aa.mk (Kd.N_elder' (by (with_reducible repeat (first | apply Kd.N_alloc | apply Kd.N_drewN | apply Kd.N_drew)); exact aa.out) (Kd.Ao ho0) hb)
          have n4_ := Aa.mk (Kd.Ap (by exact rU <| ae.out) (Kd.Ao ho0) hb)
          have n5_ := Aa.mk (Kd.Bx (Kd.Au (Kd.Cf (M := fun k_ => (w.heap.size ≤ k_)) ho0 (Ag (lU HB.out)) (fun k_ h_ => h_)) (Kd.Bq (by exact rU <| ae.out))) (Ag (lU HB.out)))
          have n6_ := Aa.mk (Ak (lU HB.out) hb)
          clear ah
          clear ai
          clear ab
          clear aa
          clear ae
          clear HB
          have ah := n0_
          have ai := n1_
          have ab := n2_
          have aa := n3_
          have ae := n4_
          have aj := n5_
          have HB := n6_
          clear n0_ n1_ n2_ n3_ n4_ n5_ n6_
          (try clear hb)
          (try clear hb2)
          (try clear hk)
          (try clear hi)
          (try clear ho0)
          obtain ⟨bL, bM, dD⟩ := Kd.Bn ae.out
          (first | subst dD | (injection dD with f1_ f2_ f3_; have f4_ := f1_.symm; have f5_ := f3_.symm; clear f1_ f2_ f3_; subst f4_; subst f5_))
          obtain ⟨bN, bO, dE⟩ := Kd.Bn aj.out
          (first | subst dE | (injection dE with f1_ f2_ f3_; have f4_ := f1_.symm; have f5_ := f3_.symm; clear f1_ f2_ f3_; subst f4_; subst f5_))
          refine hK.out _ _ ⟨HS0_, HS1_⟩ (fun hHeld => ?_)
          clear hK K
          refine norm_ (a' := ?_) ?_ ?_
          rotate_left
          ·show Act.put _ (some 34) _ = _
           simp only [Act.put, sA, sB, sC, i64_w, i32_w]
           rfl
          refine one_ (i := 13) (N := some 36) (bA 15 16383) rfl rfl (one_of HT_.out (by kernel_rfl)) (by decide) (fun K hK => ?_)
          refine goes_ Try.func73 (by kernel_rfl) rfl #[.slice bL ap.length bM, .slice bN aq.length bO, .func (.func a2.toNat) #[] #[]] (by rfl) rfl rfl (by (try simp only [List.map_toArray, List.map_cons, List.map_nil]); first | done | rfl | (simp only [List.length_drop, List.length_take]; rfl)) ?_
          with_reducible refine (Ay.calls k1 (fun k_ => some k_ = (.slice bL ap.length bM : Value).ownBlock) _ _ ap (fun k_ => some k_ = (.slice bN aq.length bO : Value).ownBlock) _ _ aq a2 an _ ?side1 ?side2 A14.out).mono ?_
          (case side1 => exact Kd.R_V (Kd.Cs rfl (Kd.B5 (Kd.B5 (ae.out) (Kd.Ck ab.out) (by decide)) (Kd.N_typed aa.out) (by decide))))
          (case side2 => exact Kd.R_V (Kd.Cs rfl (Kd.B5 (Kd.B5 (aj.out) (Kd.Ck ab.out) (by decide)) (Kd.N_typed aa.out) (by decide))))
          rintro e w85 ⟨v206, rfl, ho0, hb⟩
          have HS0_ := (hb.cell (World.block_lt_of_cell? _ _ (hHeld.1))).trans (hHeld.1)
          have HS1_ := (hb.cell (World.block_lt_of_cell? _ _ (hHeld.2))).trans (hHeld.2)
          refine ⟨_, rfl, ?_⟩
          have n0_ := Aa.mk (Kd.V_elder' (by (with_reducible repeat (first | apply Kd.V_alloc | apply Kd.V_drewN | apply Kd.V_drew)); exact ah.out) (Kd.Ao ho0) hb)
          have n1_ := Aa.mk (Kd.V_elder' (by (with_reducible repeat (first | apply Kd.V_alloc | apply Kd.V_drewN | apply Kd.V_drew)); exact ai.out) (Kd.Ao ho0) hb)
          have n2_ := Aa.mk (Kd.Be (by exact rU <| ab.out) hb)
          have n3_ := Aa.mk (Kd.N_elder' (by (with_reducible repeat (first | apply Kd.N_alloc | apply Kd.N_drewN | apply Kd.N_drew)); exact aa.out) (Kd.Ao ho0) hb)
          have n4_ := Aa.mk (Kd.Ap (by exact rU <| ae.out) (Kd.Ao ho0) hb)
          have n5_ := Aa.mk (Kd.Ap (by exact rU <| aj.out) (Kd.Ao ho0) hb)
          have n6_ := Aa.mk (Kd.Bx (Kd.Au (Kd.Au (Kd.Cf (M := fun k_ => (w.heap.size ≤ k_)) (Kd.Bs (ok' := fun k_ => True) ho0 (fun _ hk_ => trivial)) (Ag (lU HB.out)) (fun k_ h_ => h_)) (Kd.Bq (by exact rU <| ae.out))) (Kd.Bq (by exact rU <| aj.out))) (Ag (lU HB.out)))
          have n7_ := Aa.mk (Ak (lU HB.out) hb)
          clear ah
          clear ai
          clear ab
          clear aa
          clear ae
          clear aj
          clear HB
          have ah := n0_
          have ai := n1_
          have ab := n2_
          have aa := n3_
          have ae := n4_
          have aj := n5_
          have am := n6_
          have HB := n7_
          clear n0_ n1_ n2_ n3_ n4_ n5_ n6_ n7_
          (try clear hb)
          (try clear hb2)
          (try clear hk)
          (try clear hi)
          (try clear ho0)
          refine hK.out _ _ ⟨HS0_, HS1_⟩ (fun hHeld => ?_)
          clear hK K
          refine norm_ (a' := ?_) ?_ ?_
          rotate_left
          ·show Act.put _ (some 36) _ = _
           simp only [Act.put, sA, sB, sC, i64_w, i32_w]
           rfl
          refine pure_ (i := 14) (N := some 10) (v := ?_) (a' := ?_) (bA 15 32767) rfl rfl (any_of HT_.out (by kernel_rfl)) (fun _ _ _ h => h) (Or.inl ⟨by rfl, ?_⟩) ?_ ?_
          rotate_left; (intro w'; go_simp; with_reducible rfl); rotate_left; (simp only [Act.put, sA, sB, sC, i64_w, i32_w]; rfl)
          refine done_ (done_of HT_.out (by kernel_rfl)) ?_
          obtain ⟨cK, cL, d8⟩ := Kd.Bn am.out
          subst d8
          obtain ⟨cq, ct, d9⟩ := Kd.N_slice aa.out
          subst d9
          try go_wp2
          have n0_ := Aa.mk (Kd.V_drew ah.out)
          have n1_ := Aa.mk (Kd.V_drew ai.out)
          have n2_ := Aa.mk (Kd.Cd ab.out)
          have n3_ := Aa.mk (Kd.N_drew aa.out)
          have n4_ := Aa.mk (Kd.Cd ae.out)
          have n5_ := Aa.mk (Kd.Cd aj.out)
          have n6_ := Aa.mk (Kd.Cd am.out)
          have n7_ := Aa.mk (Ac HB.out)
          clear ah
          clear ai
          clear ab
          clear aa
          clear ae
          clear aj
          clear am
          clear HB
          have ah := n0_
          have ai := n1_
          have ab := n2_
          have aa := n3_
          have ae := n4_
          have aj := n5_
          have am := n6_
          have HB := n7_
          clear n0_ n1_ n2_ n3_ n4_ n5_ n6_ n7_
          refine start_ (n := 25) (S := fun w' => True) (ds := []) #[false, false, false, false, false, false, false, false, false, false, false, false, false, false, false, false, false, false, false, false, false, false, false, false, false] (by kernel_rfl) rfl rfl trivial (fun hHeld => ?_); refine with_tabW Aq.tab9 Aq.bits9 (fun HT_ HW_ => ?_)
          generalize w85.drew = w88 at ah ai ab aa ae aj am HB hHeld ⊢
          refine pure_ (i := 0) (N := some 42) (v := ?_) (a' := ?_) (bA 25 1) rfl rfl (any_of HT_.out (by kernel_rfl)) (fun _ _ _ h => h) (Or.inl ⟨by rfl, ?_⟩) ?_ ?_
          rotate_left; (intro w'; go_simp; with_reducible rfl); rotate_left; (simp only [Act.put, sA, sB, sC, i64_w, i32_w]; rfl)
          refine pure_ (i := 1) (N := some 43) (v := ?_) (a' := ?_) (bA 25 3) rfl rfl (any_of HT_.out (by kernel_rfl)) (fun _ _ _ h => h) (Or.inl ⟨by rfl, ?_⟩) ?_ ?_
          rotate_left; (intro w'; go_simp; with_reducible rfl); rotate_left; (simp only [Act.put, sA, sB, sC, i64_w, i32_w]; rfl)
          refine pure_ (i := 2) (N := some 44) (v := ?_) (a' := ?_) (bA 25 7) rfl rfl (any_of HT_.out (by kernel_rfl)) (fun _ _ _ h => h) (Or.inl ⟨by rfl, ?_⟩) ?_ ?_
          rotate_left; (intro w'; go_simp; with_reducible rfl); rotate_left; (simp only [Act.put, sA, sB, sC, i64_w, i32_w]; rfl)
          refine pure_ (i := 3) (N := some 45) (v := undef) (a' := ?_) (bA 25 15) rfl rfl (any_of HT_.out (by kernel_rfl)) (fun _ _ _ h => h) (Or.inr ⟨by rfl, rfl⟩) ?_ ?_
          rotate_left
          ·simp only [Act.put, sA, sB, sC, i64_w, i32_w]
           rfl
          refine pure_ (i := 4) (N := some 46) (v := undef) (a' := ?_) (bA 25 31) rfl rfl (any_of HT_.out (by kernel_rfl)) (fun _ _ _ h => h) (Or.inr ⟨by rfl, rfl⟩) ?_ ?_
          rotate_left
          ·simp only [Act.put, sA, sB, sC, i64_w, i32_w]
           rfl
          refine pure_ (i := 5) (N := some 47) (v := undef) (a' := ?_) (bA 25 63) rfl rfl (any_of HT_.out (by kernel_rfl)) (fun _ _ _ h => h) (Or.inr ⟨by rfl, rfl⟩) ?_ ?_
          rotate_left
          ·simp only [Act.put, sA, sB, sC, i64_w, i32_w]
           rfl
          refine pure_ (i := 6) (N := some 48) (v := undef) (a' := ?_) (bA 25 127) rfl rfl (any_of HT_.out (by kernel_rfl)) (fun _ _ _ h => h) (Or.inr ⟨by rfl, rfl⟩) ?_ ?_
          rotate_left
          ·simp only [Act.put, sA, sB, sC, i64_w, i32_w]
           rfl
          refine pure_ (i := 7) (N := some 49) (v := undef) (a' := ?_) (bA 25 255) rfl rfl (any_of HT_.out (by kernel_rfl)) (fun _ _ _ h => h) (Or.inr ⟨by rfl, rfl⟩) ?_ ?_
          rotate_left
          ·simp only [Act.put, sA, sB, sC, i64_w, i32_w]
           rfl
          refine pure_ (i := 8) (N := some 50) (v := undef) (a' := ?_) (bA 25 511) rfl rfl (any_of HT_.out (by kernel_rfl)) (fun _ _ _ h => h) (Or.inr ⟨by rfl, rfl⟩) ?_ ?_
          rotate_left
          ·simp only [Act.put, sA, sB, sC, i64_w, i32_w]
           rfl
          refine pure_ (i := 9) (N := some 51) (v := undef) (a' := ?_) (bA 25 1023) rfl rfl (any_of HT_.out (by kernel_rfl)) (fun _ _ _ h => h) (Or.inr ⟨by rfl, rfl⟩) ?_ ?_
          rotate_left
          ·simp only [Act.put, sA, sB, sC, i64_w, i32_w]
           rfl
          refine pure_ (i := 10) (N := some 52) (v := undef) (a' := ?_) (bA 25 2047) rfl rfl (any_of HT_.out (by kernel_rfl)) (fun _ _ _ h => h) (Or.inr ⟨by rfl, rfl⟩) ?_ ?_
          rotate_left
          ·simp only [Act.put, sA, sB, sC, i64_w, i32_w]
           rfl
          refine pure_ (i := 11) (N := some 53) (v := undef) (a' := ?_) (bA 25 4095) rfl rfl (any_of HT_.out (by kernel_rfl)) (fun _ _ _ h => h) (Or.inr ⟨by rfl, rfl⟩) ?_ ?_
          rotate_left
          ·simp only [Act.put, sA, sB, sC, i64_w, i32_w]
           rfl
          refine pure_ (i := 12) (N := some 54) (v := undef) (a' := ?_) (bA 25 8191) rfl rfl (any_of HT_.out (by kernel_rfl)) (fun _ _ _ h => h) (Or.inr ⟨by rfl, rfl⟩) ?_ ?_
          rotate_left
          ·simp only [Act.put, sA, sB, sC, i64_w, i32_w]
           rfl
          refine pure_ (i := 13) (N := some 55) (v := undef) (a' := ?_) (bA 25 16383) rfl rfl (any_of HT_.out (by kernel_rfl)) (fun _ _ _ h => h) (Or.inr ⟨by rfl, rfl⟩) ?_ ?_
          rotate_left
          ·simp only [Act.put, sA, sB, sC, i64_w, i32_w]
           rfl
          refine pure_ (i := 14) (N := some 56) (v := ?_) (a' := ?_) (bA 25 32767) rfl rfl (any_of HT_.out (by kernel_rfl)) (fun _ _ _ h => h) (Or.inl ⟨by rfl, ?_⟩) ?_ ?_
          rotate_left; (intro w'; go_simp; with_reducible rfl); rotate_left; (simp only [Act.put, sA, sB, sC, i64_w, i32_w]; rfl)
          refine pure_ (i := 15) (N := some 57) (v := ?_) (a' := ?_) (bA 25 65535) rfl rfl (any_of HT_.out (by kernel_rfl)) (fun _ _ _ h => h) (Or.inl ⟨by rfl, ?_⟩) ?_ ?_
          rotate_left; (intro w'; go_simp; with_reducible rfl); rotate_left; (simp only [Act.put, sA, sB, sC, i64_w, i32_w]; rfl)
          refine pure_ (i := 16) (N := some 58) (v := undef) (a' := ?_) (bA 25 131071) rfl rfl (any_of HT_.out (by kernel_rfl)) (fun _ _ _ h => h) (Or.inr ⟨by rfl, rfl⟩) ?_ ?_
          rotate_left
          ·simp only [Act.put, sA, sB, sC, i64_w, i32_w]
           rfl
          refine pure_ (i := 17) (N := some 59) (v := undef) (a' := ?_) (bA 25 262143) rfl rfl (any_of HT_.out (by kernel_rfl)) (fun _ _ _ h => h) (Or.inr ⟨by rfl, rfl⟩) ?_ ?_
          rotate_left
          ·simp only [Act.put, sA, sB, sC, i64_w, i32_w]
           rfl
          refine pure_ (i := 18) (N := some 60) (v := undef) (a' := ?_) (bA 25 524287) rfl rfl (any_of HT_.out (by kernel_rfl)) (fun _ _ _ h => h) (Or.inr ⟨by rfl, rfl⟩) ?_ ?_
          rotate_left
          ·simp only [Act.put, sA, sB, sC, i64_w, i32_w]
           rfl
          refine pure_ (i := 19) (N := some 61) (v := undef) (a' := ?_) (bA 25 1048575) rfl rfl (any_of HT_.out (by kernel_rfl)) (fun _ _ _ h => h) (Or.inr ⟨by rfl, rfl⟩) ?_ ?_
          rotate_left
          ·simp only [Act.put, sA, sB, sC, i64_w, i32_w]
           rfl
          refine pure_ (i := 20) (N := some 62) (v := undef) (a' := ?_) (bA 25 2097151) rfl rfl (any_of HT_.out (by kernel_rfl)) (fun _ _ _ h => h) (Or.inr ⟨by rfl, rfl⟩) ?_ ?_
          rotate_left
          ·simp only [Act.put, sA, sB, sC, i64_w, i32_w]
           rfl
          refine pure_ (i := 21) (N := some 63) (v := undef) (a' := ?_) (bA 25 4194303) rfl rfl (any_of HT_.out (by kernel_rfl)) (fun _ _ _ h => h) (Or.inr ⟨by rfl, rfl⟩) ?_ ?_
          rotate_left
          ·simp only [Act.put, sA, sB, sC, i64_w, i32_w]
           rfl
          refine pure_ (i := 22) (N := some 64) (v := undef) (a' := ?_) (bA 25 8388607) rfl rfl (any_of HT_.out (by kernel_rfl)) (fun _ _ _ h => h) (Or.inr ⟨by rfl, rfl⟩) ?_ ?_
          rotate_left
          ·simp only [Act.put, sA, sB, sC, i64_w, i32_w]
           rfl
          refine pure_ (i := 23) (N := some 65) (v := undef) (a' := ?_) (bA 25 16777215) rfl rfl (any_of HT_.out (by kernel_rfl)) (fun _ _ _ h => h) (Or.inr ⟨by rfl, rfl⟩) ?_ ?_
          rotate_left
          ·simp only [Act.put, sA, sB, sC, i64_w, i32_w]
           rfl
          refine pure_ (i := 24) (N := some 66) (v := ?_) (a' := ?_) (bA 25 33554431) rfl rfl (any_of HT_.out (by kernel_rfl)) (fun _ _ _ h => h) (Or.inl ⟨by rfl, ?_⟩) ?_ ?_
          rotate_left; (intro w'; go_simp; with_reducible rfl); rotate_left; (simp only [Act.put, sA, sB, sC, i64_w, i32_w]; rfl)
          refine done_ (done_of HT_.out (by kernel_rfl)) ?_
          try go_wp2
          have n0_ := Aa.mk (Kd.V_drew ah.out)
          have n1_ := Aa.mk (Kd.V_drew ai.out)
          have n2_ := Aa.mk (Kd.Cd ab.out)
          have n3_ := Aa.mk (Kd.N_drew aa.out)
          have n4_ := Aa.mk (Kd.Cd ae.out)
          have n5_ := Aa.mk (Kd.Cd aj.out)
          have n6_ := Aa.mk (Kd.Cd am.out)
          have n7_ := Aa.mk (Ac HB.out)
          clear ah
          clear ai
          clear ab
          clear aa
          clear ae
          clear aj
          clear am
          clear HB
          have ah := n0_
          have ai := n1_
          have ab := n2_
          have aa := n3_
          have ae := n4_
          have aj := n5_
          have am := n6_
          have HB := n7_
          clear n0_ n1_ n2_ n3_ n4_ n5_ n6_ n7_
          have cM : 0 ≤ (af : Int) := of_decide_eq_true (by with_reducible assumption)
          have cN : af < (ac.length : Int) := of_decide_eq_true (by with_reducible assumption)
          obtain ⟨dF, e224, b3⟩ := Kd.at_int (Kd.At ab.out).2.2 af cM cN
          obtain rfl : al = dF := (by injection e224)
          replace cM := eq_true cM
          replace cN := eq_true cN
          have cO : 0 ≤ ((aY) : Int) := of_decide_eq_true (by with_reducible assumption)
          have cP : (aY) < (ac.length : Int) := of_decide_eq_true (by with_reducible assumption)
          obtain ⟨dG, e225, b4⟩ := Kd.at_int (Kd.At ab.out).2.2 (aY) cO cP
          obtain rfl : al = dG := (by injection e225)
          replace cO := eq_true cO
          replace cP := eq_true cP
          refine start_ (n := 15) (S := fun w' => w'.cell? (al.add (af).toNat) = some (.int .i64 (rd ac af)) ∧ w'.cell? (al.add ((aY)).toNat) = some (.int .i64 (rd ac (aY)))) (ds := [12, 13]) #[false, false, false, false, false, false, false, false, false, false, false, false, false, false, false] (by kernel_rfl) rfl rfl ⟨b3, b4⟩ (fun hHeld => ?_); refine with_tabW Aq.tab11 Aq.bits11 (fun HT_ HW_ => ?_)
          generalize w88.drew = w89 at ah ai ab aa ae aj am HB b3 b4 hHeld ⊢
          refine pure_ (i := 0) (N := some 77) (v := ?_) (a' := ?_) (bA 15 1) rfl rfl (any_of HT_.out (by kernel_rfl)) (fun _ _ _ h => h) (Or.inl ⟨by rfl, ?_⟩) ?_ ?_
          rotate_left; (intro w'; go_simp; with_reducible rfl); rotate_left; (simp only [Act.put, sA, sB, sC, i64_w, i32_w]; rfl)
          refine pure_ (i := 1) (N := some 78) (v := ?_) (a' := ?_) (bA 15 3) rfl rfl (any_of HT_.out (by kernel_rfl)) (fun _ _ _ h => h) (Or.inl ⟨by rfl, ?_⟩) ?_ ?_
          rotate_left; (intro w'; go_simp; with_reducible rfl); rotate_left; (simp only [Act.put, sA, sB, sC, i64_w, i32_w]; rfl)
          refine pure_ (i := 2) (N := some 79) (v := ?_) (a' := ?_) (bA 15 7) rfl rfl (any_of HT_.out (by kernel_rfl)) (fun _ _ _ h => h) (Or.inl ⟨by rfl, ?_⟩) ?_ ?_
          rotate_left; (intro w'; go_simp; with_reducible rfl); rotate_left; (simp only [Act.put, sA, sB, sC, i64_w, i32_w]; rfl)
          refine pure_ (i := 3) (N := some 80) (v := ?_) (a' := ?_) (bA 15 15) rfl rfl (any_of HT_.out (by kernel_rfl)) (fun _ _ _ h => h) (Or.inl ⟨by rfl, ?_⟩) ?_ ?_
          rotate_left; (intro w'; go_simp; with_reducible rfl); rotate_left; (simp only [Act.put, sA, sB, sC, i64_w, i32_w]; rfl)
          refine pure_ (i := 5) (N := some 82) (v := ?_) (a' := ?_) (bA 15 47) rfl rfl (any_of HT_.out (by kernel_rfl)) (fun _ _ _ h => h) (Or.inl ⟨by rfl, ?_⟩) ?_ ?_
          rotate_left; (intro w'; go_simp; with_reducible rfl); rotate_left; (simp only [Act.put, sA, sB, sC, i64_w, i32_w]; rfl)
          refine pure_ (i := 6) (N := some 83) (v := ?_) (a' := ?_) (bA 15 111) rfl rfl (any_of HT_.out (by kernel_rfl)) (fun _ _ _ h => h) (Or.inl ⟨by rfl, ?_⟩) ?_ ?_
          rotate_left; (intro w'; go_simp; with_reducible rfl); rotate_left; (simp only [Act.put, sA, sB, sC, i64_w, i32_w]; rfl)
          refine pure_ (i := 7) (N := some 84) (v := ?_) (a' := ?_) (bA 15 239) rfl rfl (any_of HT_.out (by kernel_rfl)) (fun _ _ _ h => h) (Or.inl ⟨by rfl, ?_⟩) ?_ ?_
          rotate_left; (intro w'; go_simp; with_reducible rfl); rotate_left; (simp only [Act.put, sA, sB, sC, i64_w, i32_w]; rfl)
          refine pure_ (i := 8) (N := some 85) (v := ?_) (a' := ?_) (bA 15 495) rfl rfl (any_of HT_.out (by kernel_rfl)) (fun _ _ _ h => h) (Or.inl ⟨by rfl, ?_⟩) ?_ ?_
          rotate_left; (intro w'; go_simp; with_reducible rfl); rotate_left; (simp only [Act.put, sA, sB, sC, i64_w, i32_w]; rfl)
          refine pure_ (i := 10) (N := some 87) (v := ?_) (a' := ?_) (bA 15 1519) rfl rfl (any_of HT_.out (by kernel_rfl)) (fun _ _ _ h => h) (Or.inl ⟨by rfl, ?_⟩) ?_ ?_
          rotate_left; (intro w'; go_simp; with_reducible rfl); rotate_left; (simp only [Act.put, sA, sB, sC, i64_w, i32_w]; rfl)
          refine take_ (i := 4) (N := some 81) (v := ?_) (a' := ?_) (bA 15 1535) rfl rfl (take_ofW HT_.out HW_.out (by kernel_rfl)) (fun _ _ _ h => h) (Or.inl ⟨by rfl, ?_⟩) hHeld ?_ ?_
          rotate_left; (rintro w' ⟨s0, s1⟩; go_simp; with_reducible rfl); rotate_left; (simp only [Act.put, sA, sB, sC, i64_w, i32_w]; rfl)
          refine take_ (i := 9) (N := some 86) (v := ?_) (a' := ?_) (bA 15 2047) rfl rfl (take_ofW HT_.out HW_.out (by kernel_rfl)) (fun _ _ _ h => h) (Or.inl ⟨by rfl, ?_⟩) hHeld ?_ ?_
          rotate_left; (rintro w' ⟨s0, s1⟩; go_simp; with_reducible rfl); rotate_left; (simp only [Act.put, sA, sB, sC, i64_w, i32_w]; rfl)
          refine pure_ (i := 11) (N := some 88) (v := ?_) (a' := ?_) (bA 15 4095) rfl rfl (any_of HT_.out (by kernel_rfl)) (fun _ _ _ h => h) (Or.inl ⟨by rfl, ?_⟩) ?_ ?_
          rotate_left; (intro w'; go_simp; with_reducible rfl); rotate_left; (simp only [Act.put, sA, sB, sC, i64_w, i32_w]; rfl)
          refine last_ (i := 12) (N := some 89) (bA 15 8191) rfl rfl (one_of HT_.out (by kernel_rfl)) (by decide) (fun K hK => ?_)
          refine value_ (w1 := ?_) (v := ?_) (by rfl) rfl ?_ ?_
          rotate_left 2
          ·go_simp
           constructor
           ·rfl
           ·rfl
          refine hK.out _ _ ?_
          clear hK K
          refine norm_ (a' := ?_) ?_ ?_
          rotate_left
          ·show Act.put _ (some 89) _ = _
           simp only [Act.put, sA, sB, sC, i64_w, i32_w]
           rfl
          refine last_ (i := 13) (N := some 90) (bA 15 16383) rfl rfl (one_of HT_.out (by kernel_rfl)) (by decide) (fun K hK => ?_)
          refine Kd.N_append_step k91 (w0 := w) w.heap.size (by rfl) (.tmp 77) (.tmp 89) 77 91 (.agg #[(.int .i64 0), (.int .i64 0), (.slice none 0 0)]) 40 rfl Try.underlying77 info91 rfl (by decide) (by omega) (.slice cq ag.length ct) ag (⟨rd ac af, rd ac (aY), an⟩ : S91) [.int .i64 (rd ac af), .int .i64 (rd ac (aY)), .slice cK an.length cL] (fun k_ => ((P0_ k_ ∨ P1_ k_) ∨ w.heap.size ≤ k_) ∧ some k_ ≠ (.slice (some al) ac.length b5 : Value).ownBlock ∧ some k_ ≠ (.slice bL ap.length bM : Value).ownBlock ∧ some k_ ≠ (.slice bN aq.length bO : Value).ownBlock) (fun k_ => ((fun k_ => ((P0_ k_ ∨ P1_ k_) ∨ w.heap.size ≤ k_) ∧ some k_ ≠ (.slice (some al) ac.length b5 : Value).ownBlock ∧ some k_ ≠ (.slice bL ap.length bM : Value).ownBlock ∧ some k_ ≠ (.slice bN aq.length bO : Value).ownBlock)) k_ ∧ some k_ ≠ (.slice cq ag.length ct : Value).ownBlock) rfl rfl ?aP (fun _ hk => hk) ?aF ?aO ?aB ?aS ?aL ?_
          (case aP => exact (k91_mkF _ _ (⟨rd ac af, rd ac (aY), an⟩ : S91) (Kd.At (Kd.Bs (ok' := (fun k_ => ((fun k_ => ((P0_ k_ ∨ P1_ k_) ∨ w.heap.size ≤ k_) ∧ some k_ ≠ (.slice (some al) ac.length b5 : Value).ownBlock ∧ some k_ ≠ (.slice bL ap.length bM : Value).ownBlock ∧ some k_ ≠ (.slice bN aq.length bO : Value).ownBlock)) k_ ∧ some k_ ≠ (.slice cq ag.length ct : Value).ownBlock)) (Kd.B5 (Kd.B5 (am.out) (Kd.Ck ab.out) (by decide)) (Kd.N_typed aa.out) (by decide)) (fun k_ hk => by first | exact ⟨⟨(.inr (hk.1.1.1.1.1)), ⟨hk.1.2, ⟨hk.1.1.1.2, hk.1.1.2⟩⟩⟩, hk.2⟩ | (simp [hk]; done)))).2.1 (Kd.R_F (Kd.Bs (ok' := (fun k_ => ((fun k_ => ((P0_ k_ ∨ P1_ k_) ∨ w.heap.size ≤ k_) ∧ some k_ ≠ (.slice (some al) ac.length b5 : Value).ownBlock ∧ some k_ ≠ (.slice bL ap.length bM : Value).ownBlock ∧ some k_ ≠ (.slice bN aq.length bO : Value).ownBlock)) k_ ∧ some k_ ≠ (.slice cq ag.length ct : Value).ownBlock)) (Kd.B5 (Kd.B5 (am.out) (Kd.Ck ab.out) (by decide)) (Kd.N_typed aa.out) (by decide)) (fun k_ hk => by first | exact ⟨⟨(.inr (hk.1.1.1.1.1)), ⟨hk.1.2, ⟨hk.1.1.1.2, hk.1.1.2⟩⟩⟩, hk.2⟩ | (simp [hk]; done))))))
          (case aB => exact (lU HB.out))
          (case aF => exact (fun k_ hk => by first | exact ⟨(.inr (Nat.le_trans (Ag (lU HB.out)) hk)), Kd.fresh' (Kd.Bq (by exact rU <| ab.out)) k_ hk, Kd.fresh' (Kd.Bq (by exact rU <| ae.out)) k_ hk, Kd.fresh' (Kd.Bq (by exact rU <| aj.out)) k_ hk⟩ | (simp [hk]; done)))
          (case aO => exact (by (with_reducible repeat (first | apply Kd.N_alloc | apply Kd.N_drewN | apply Kd.N_drew)); exact Kd.N_mono aa.out (fun _ hk => by first | exact ⟨hk.1.1.1.1, ⟨hk.1.1.1.2, ⟨hk.1.1.2, hk.1.2⟩⟩⟩ | (simp [hk]; done))))
          (case aS => exact (Ag (lU HB.out)))
          (case aL => have := LMc78.out; omega)
          intro v227 w90 ho hb hg hat
          rw [← dC.out] at ho
          have n0_ := Aa.mk (Kd.V_afterv (ok := (fun k_ => ((P0_ k_ ∨ P1_ k_) ∨ w.heap.size ≤ k_) ∧ some k_ ≠ (.slice (some al) ac.length b5 : Value).ownBlock ∧ some k_ ≠ (.slice bL ap.length bM : Value).ownBlock ∧ some k_ ≠ (.slice bN aq.length bO : Value).ownBlock ∧ some k_ ≠ (.slice cK an.length cL : Value).ownBlock)) (by (with_reducible repeat (first | apply Kd.V_alloc | apply Kd.V_drewN | apply Kd.V_drew)); exact Kd.V_mono ah.out (fun _ hk => by first | exact ⟨⟨hk.1.1.1.1, ⟨hk.1.1.1.2.1, ⟨hk.1.1.2, ⟨hk.1.2, hk.2⟩⟩⟩⟩, hk.1.1.1.2.2⟩ | (simp [hk]; done))) hg hat)
          have n1_ := Aa.mk (Kd.V_afterv (ok := (fun k_ => ((P0_ k_ ∨ P1_ k_) ∨ w.heap.size ≤ k_) ∧ some k_ ≠ (.slice (some al) ac.length b5 : Value).ownBlock ∧ some k_ ≠ (.slice bL ap.length bM : Value).ownBlock ∧ some k_ ≠ (.slice bN aq.length bO : Value).ownBlock ∧ some k_ ≠ (.slice cK an.length cL : Value).ownBlock)) (by (with_reducible repeat (first | apply Kd.V_alloc | apply Kd.V_drewN | apply Kd.V_drew)); exact Kd.V_mono ai.out (fun _ hk => by first | exact ⟨⟨hk.1.1.1.1, ⟨hk.1.1.1.2.1, ⟨hk.1.1.2, ⟨hk.1.2, hk.2⟩⟩⟩⟩, hk.1.1.1.2.2⟩ | (simp [hk]; done))) hg hat)
          have n2_ := Aa.mk (Kd.Ct (by exact rU <| ab.out) (Kd.N_typed (by (with_reducible repeat (first | apply Kd.N_alloc | apply Kd.N_drewN | apply Kd.N_drew)); exact aa.out)) (by decide) hg)
          have n3_ := Aa.mk (Kd.Ct (by exact rU <| ae.out) (Kd.N_typed (by (with_reducible repeat (first | apply Kd.N_alloc | apply Kd.N_drewN | apply Kd.N_drew)); exact aa.out)) (by decide) hg)
          have n4_ := Aa.mk (Kd.Ct (by exact rU <| aj.out) (Kd.N_typed (by (with_reducible repeat (first | apply Kd.N_alloc | apply Kd.N_drewN | apply Kd.N_drew)); exact aa.out)) (by decide) hg)
          have n5_ := Aa.mk (hb)
          have n6_ := Aa.mk (ho)
          clear ah
          clear ai
          clear ab
          clear ae
          clear aj
          clear HB
          clear aa
          clear am
          have ah := n0_
          have ai := n1_
          have ab := n2_
          have ae := n3_
          have aj := n4_
          have HB := n5_
          have dH := n6_
          clear n0_ n1_ n2_ n3_ n4_ n5_ n6_
          clear ho hb hg hat
          refine hK.out _ _ ?_
          clear hK K
          refine norm_ (a' := ?_) ?_ ?_
          rotate_left
          ·show Act.put _ (some 90) _ = _
           simp only [Act.put, sA, sB, sC, i64_w, i32_w]
           rfl
          refine pure_ (i := 14) (N := some 8) (v := ?_) (a' := ?_) (bA 15 32767) rfl rfl (any_of HT_.out (by kernel_rfl)) (fun _ _ _ h => h) (Or.inl ⟨by rfl, ?_⟩) ?_ ?_
          rotate_left; (intro w'; go_simp; with_reducible rfl); rotate_left; (simp only [Act.put, sA, sB, sC, i64_w, i32_w]; rfl)
          refine done_ (done_of HT_.out (by kernel_rfl)) ?_
          try go_wp2
          go_roundg k1
          case measure => have := HK1.out; omega
          case rel => exact ⟨(dY), (aY), (by first | rfl | (simp; done) | (simp only [← bo] <;> (first | rfl | simp)) | (simp [*]; done)), H', ⟨by have := HK1.out; omega⟩, ⟨by (with_reducible repeat (first | apply Kd.V_alloc | apply Kd.V_drewN | apply Kd.V_drew)); exact Kd.V_mono ah.out (fun _ hk => by first | exact ⟨hk.1.1, ⟨hk.1.2.1, hk.2⟩⟩ | (simp [hk]; done))⟩, ⟨by (with_reducible repeat (first | apply Kd.V_alloc | apply Kd.V_drewN | apply Kd.V_drew)); exact Kd.V_mono ai.out (fun _ hk => by first | exact ⟨hk.1.1, ⟨hk.1.2.1, hk.2⟩⟩ | (simp [hk]; done))⟩, ⟨by exact rU <| ab.out⟩, ⟨by (with_reducible repeat (first | apply Kd.N_alloc | apply Kd.N_drewN | apply Kd.N_drew)); exact Kd.N_mono dH.out (fun _ hk => by first | exact ⟨hk.1, hk.2.1⟩ | (simp [hk]; done))⟩, ⟨by repeat (first | (with_reducible first | exact HB.out | apply Ad | apply Ab | apply Ac) | exact HB.out)⟩⟩
         ·rw [if_neg c78] at H
          exact absurd H (by simp)
        ·rw [if_neg c77] at H
         exact absurd H (by simp)
     ·rw [if_neg c11] at H
      exact absurd H (by simp)
    ·rw [if_neg c10] at H
     exact absurd H (by simp)
   ·rw [if_neg c9] at H
    have b8 : decide ((wrap64 (af + 1)) < (ac.length : Int)) = false := decide_eq_false c9
    clear c9
    obtain rfl := Option.some.inj H
    obtain ⟨eB, eC, ec⟩ := Kd.Bn ab.out
    subst ec
    go_wp2
    go_ret
    exact ⟨_, by first | rfl | (simp [Ax, Aw] <;> rfl) | (simp [*, Ax, Aw] <;> rfl), by (with_reducible repeat (first | apply Kd.N_alloc | apply Kd.N_drewN | apply Kd.N_drew)); exact Kd.N_mono aa.out (fun _ hk => hk.1), by repeat (first | (with_reducible first | exact HB.out | apply Ad | apply Ab | apply Ac) | exact HB.out)⟩

end Go.Proofs.Ytobdfiglgdbecaa.PGA

