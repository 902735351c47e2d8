-- Written by a program of this session (hprint.py: the kit's printer, with this session's contracts beside it). Lean checks it.
import Derived.Test.YtmipbbkieadecaaPDTx0
import Derived.Test.YtmipbbkieadecaaH5
import Derived.Test.YtmipbbkieadecaaPDKx1
import Derived.Test.YtmipbbkieadecaaPDAx6
import Derived.Test.YtmipbbkieadecaaPDAx2
namespace Go.Proofs.Ytmipbbkieadecaa.PDT
open Go.Proofs.Ytmipbbkieadecaa.PDA Go.Proofs.Ytmipbbkieadecaa.PDB Go.Proofs.Ytmipbbkieadecaa.PDC Go.Proofs.Ytmipbbkieadecaa.PDK
open Go.RowKit Go.Proofs.YtmipbbkieadecaaW.PrintWords Go.Proofs.YtmipbbkieadecaaW.PrintLast Go.Proofs.YtmipbbkieadecaaW.PrintMore
attribute [local go_sem] max2_int min2_int max_two min_two max_three min_three max_four min_four   -- for this text's walks alone
set_option linter.unusedVariables false
set_option linter.unusedSimpArgs false

/-! ### halidelaw13_DitherTables: function 3 -/
mutual
def halidelaw13_DitherTables.j0 : Nat → Int → List (List Int) → List (List Int) → Bool → Option (Bool)
  | 0, _, _, _, _ => none
  | k + 1, x0, x3, x5, x35 => if x35 = true then (some false) else (if 0 ≤ (wrap64 ((wrap64 (x0 * x0)) * (mn (x3.length : Int) 1))) then (if (wrap64 ((wrap64 (x0 * x0)) * (mn (x3.length : Int) 1)) : Int).toNat ≤ 281474976710656 then (halidelaw13_DitherTables.l0 k x0 x3 x5 (List.replicate (wrap64 ((wrap64 (x0 * x0)) * (mn (x3.length : Int) 1)) : Int).toNat false) 0) else (none)) else (none))
def halidelaw13_DitherTables.l0 : Nat → Int → List (List Int) → List (List Int) → List Bool → Int → Option (Bool)
  | 0, _, _, _, _, _ => none
  | k + 1, x0, x3, x5, x7, x8 => if x8 < (x5.length : Int) then (if 0 ≤ x8 then (if x8 < (x3.length : Int) then ((halidehelp_Ints.f k (rd_L1 x5 x8) (rd_L1 x3 x8)).bind fun t110 => (if t110 = true then (halidelaw13_DitherTables.l1 k x0 x3 x5 x7 x8 0) else (some false))) else (none)) else (none)) else ((dither_Table.f x0).bind fun bt120 => (halidelaw13_DitherTables.l2 k x3 bt120.1 0))
def halidelaw13_DitherTables.l1 : Nat → Int → List (List Int) → List (List Int) → List Bool → Int → Int → Option (Bool)
  | 0, _, _, _, _, _, _ => none
  | k + 1, x0, x3, x5, x7, x8, x9 => if 0 ≤ x8 then (if x8 < (x5.length : Int) then (if x9 < ((rd_L1 x5 x8).length : Int) then (if 0 ≤ x9 then (if (rd (rd_L1 x5 x8) x9) < 0 then (some false) else (if (rd (rd_L1 x5 x8) x9) ≥ (x7.length : Int) then (some false) else (if 0 ≤ (rd (rd_L1 x5 x8) x9) then (if (rd (rd_L1 x5 x8) x9) < (x7.length : Int) then (if rdOf false x7 (rd (rd_L1 x5 x8) x9) = true then (some false) else (halidelaw13_DitherTables.l1 k x0 x3 (x5.set (x8 : Int).toNat ((rd_L1 x5 x8).set (x9 : Int).toNat (-1))) (x7.set ((rd (rd_L1 x5 x8) x9) : Int).toNat true) x8 (wrap64 (x9 + 1)))) else (none)) else (none)))) else (none)) else (halidelaw13_DitherTables.l0 k x0 x3 x5 x7 (wrap64 (x8 + 1)))) else (none)) else (none)
def halidelaw13_DitherTables.l2 : Nat → List (List Int) → List (List Int) → Int → Option (Bool)
  | 0, _, _, _ => none
  | k + 1, x3, x11, x13 => if x13 < (x11.length : Int) then (if 0 ≤ x13 then (if x13 < (x3.length : Int) then ((halidehelp_Ints.f k (rd_L1 x11 x13) (rd_L1 x3 x13)).bind fun t126 => (if t126 = true then (halidelaw13_DitherTables.l2 k x3 x11 (wrap64 (x13 + 1))) else (some false))) else (none)) else (none)) else (some true)
end
def halidelaw13_DitherTables.f (k : Nat) (a0 : Int) (l1 : List (List Int)) (a2 : Int) : Option (Bool) := (dither_Table.f a0).bind fun bt101 => (if bt101.2 = a2 then (halidelaw13_DitherTables.j0 k a0 l1 bt101.1 ((bt101.1.length : Int) != (l1.length : Int))) else (halidelaw13_DitherTables.j0 k a0 l1 bt101.1 true))
theorem halidelaw13_DitherTables.mono_l : ∀ k, (∀ y0 y1 y2 y3, LeO (halidelaw13_DitherTables.j0 k y0 y1 y2 y3) (halidelaw13_DitherTables.j0 (k + 1) y0 y1 y2 y3)) ∧ (∀ y0 y1 y2 y3 y4, LeO (halidelaw13_DitherTables.l0 k y0 y1 y2 y3 y4) (halidelaw13_DitherTables.l0 (k + 1) y0 y1 y2 y3 y4)) ∧ (∀ y0 y1 y2 y3 y4 y5, LeO (halidelaw13_DitherTables.l1 k y0 y1 y2 y3 y4 y5) (halidelaw13_DitherTables.l1 (k + 1) y0 y1 y2 y3 y4 y5)) ∧ (∀ y0 y1 y2, LeO (halidelaw13_DitherTables.l2 k y0 y1 y2) (halidelaw13_DitherTables.l2 (k + 1) y0 y1 y2))
  | 0 => ⟨fun _ _ _ _ r h => by simp [halidelaw13_DitherTables.j0] at h, fun _ _ _ _ _ r h => by simp [halidelaw13_DitherTables.l0] at h, fun _ _ _ _ _ _ r h => by simp [halidelaw13_DitherTables.l1] at h, fun _ _ _ r h => by simp [halidelaw13_DitherTables.l2] at h⟩
  | k + 1 => by
    obtain ⟨ih0, ih1, ih2, ih3⟩ := halidelaw13_DitherTables.mono_l k
    refine ⟨?_, ?_, ?_, ?_⟩
    · intro y0 y1 y2 y3
      unfold halidelaw13_DitherTables.j0
      repeat' first
      | (with_reducible exact ih0 _ _ _ _)
      | (with_reducible exact ih1 _ _ _ _ _)
      | (with_reducible exact ih2 _ _ _ _ _ _)
      | (with_reducible exact ih3 _ _ _)
      | (with_reducible exact halidehelp_Ints.mono _ _ _)
      | (with_reducible exact LeO.refl _)
      | (with_reducible exact LeO.none _)
      | (with_reducible refine LeO.ite ?_ ?_)
      | (with_reducible refine LeO.bind ?_ (fun _ => ?_))
      | exact ih0 _ _ _ _
      | exact ih1 _ _ _ _ _
      | exact ih2 _ _ _ _ _ _
      | exact ih3 _ _ _
      | exact halidehelp_Ints.mono _ _ _
      | exact LeO.none _
      | refine LeO.ite ?_ ?_
      | refine LeO.bind ?_ (fun _ => ?_)
    · intro y0 y1 y2 y3 y4
      unfold halidelaw13_DitherTables.l0
      repeat' first
      | (with_reducible exact ih0 _ _ _ _)
      | (with_reducible exact ih1 _ _ _ _ _)
      | (with_reducible exact ih2 _ _ _ _ _ _)
      | (with_reducible exact ih3 _ _ _)
      | (with_reducible exact halidehelp_Ints.mono _ _ _)
      | (with_reducible exact LeO.refl _)
      | (with_reducible exact LeO.none _)
      | (with_reducible refine LeO.ite ?_ ?_)
      | (with_reducible refine LeO.bind ?_ (fun _ => ?_))
      | exact ih0 _ _ _ _
      | exact ih1 _ _ _ _ _
      | exact ih2 _ _ _ _ _ _
      | exact ih3 _ _ _
      | exact halidehelp_Ints.mono _ _ _
      | exact LeO.none _
      | refine LeO.ite ?_ ?_
      | refine LeO.bind ?_ (fun _ => ?_)
    · intro y0 y1 y2 y3 y4 y5
      unfold halidelaw13_DitherTables.l1
      repeat' first
      | (with_reducible exact ih0 _ _ _ _)
      | (with_reducible exact ih1 _ _ _ _ _)
      | (with_reducible exact ih2 _ _ _ _ _ _)
      | (with_reducible exact ih3 _ _ _)
      | (with_reducible exact halidehelp_Ints.mono _ _ _)
      | (with_reducible exact LeO.refl _)
      | (with_reducible exact LeO.none _)
      | (with_reducible refine LeO.ite ?_ ?_)
      | (with_reducible refine LeO.bind ?_ (fun _ => ?_))
      | exact ih0 _ _ _ _
      | exact ih1 _ _ _ _ _
      | exact ih2 _ _ _ _ _ _
      | exact ih3 _ _ _
      | exact halidehelp_Ints.mono _ _ _
      | exact LeO.none _
      | refine LeO.ite ?_ ?_
      | refine LeO.bind ?_ (fun _ => ?_)
    · intro y0 y1 y2
      unfold halidelaw13_DitherTables.l2
      repeat' first
      | (with_reducible exact ih0 _ _ _ _)
      | (with_reducible exact ih1 _ _ _ _ _)
      | (with_reducible exact ih2 _ _ _ _ _ _)
      | (with_reducible exact ih3 _ _ _)
      | (with_reducible exact halidehelp_Ints.mono _ _ _)
      | (with_reducible exact LeO.refl _)
      | (with_reducible exact LeO.none _)
      | (with_reducible refine LeO.ite ?_ ?_)
      | (with_reducible refine LeO.bind ?_ (fun _ => ?_))
      | exact ih0 _ _ _ _
      | exact ih1 _ _ _ _ _
      | exact ih2 _ _ _ _ _ _
      | exact ih3 _ _ _
      | exact halidehelp_Ints.mono _ _ _
      | exact LeO.none _
      | refine LeO.ite ?_ ?_
      | refine LeO.bind ?_ (fun _ => ?_)
theorem halidelaw13_DitherTables.mono : ∀ a0 a1 a2 k, LeO (halidelaw13_DitherTables.f k a0 a1 a2) (halidelaw13_DitherTables.f (k + 1) a0 a1 a2) := by
  intro a0 a1 a2 k
  obtain ⟨ih0, ih1, ih2, ih3⟩ := halidelaw13_DitherTables.mono_l k
  unfold halidelaw13_DitherTables.f
  repeat' first
      | (with_reducible exact ih0 _ _ _ _)
      | (with_reducible exact ih1 _ _ _ _ _)
      | (with_reducible exact ih2 _ _ _ _ _ _)
      | (with_reducible exact ih3 _ _ _)
      | (with_reducible exact halidehelp_Ints.mono _ _ _)
      | (with_reducible exact LeO.refl _)
      | (with_reducible exact LeO.none _)
      | (with_reducible refine LeO.ite ?_ ?_)
      | (with_reducible refine LeO.bind ?_ (fun _ => ?_))
      | exact ih0 _ _ _ _
      | exact ih1 _ _ _ _ _
      | exact ih2 _ _ _ _ _ _
      | exact ih3 _ _ _
      | exact halidehelp_Ints.mono _ _ _
      | exact LeO.none _
      | refine LeO.ite ?_ ?_
      | refine LeO.bind ?_ (fun _ => ?_)
set_option maxHeartbeats 8000000 in
set_option maxRecDepth 100000 in
theorem halidelaw13_DitherTables.calls (k : Nat) (a0 : Int) (l1 : List (List Int)) (a2 : Int) (r : Bool) (w00 : World) (hkn : halidelaw13_known.f k = some true) (hrt : halideref13_Table.f k a0 = some (l1, a2)) (h : halidelaw13_DitherTables.f k a0 l1 a2 = some r) (HT0 : r = true := by decide) :
    Calls Try.prog 3 #[.int .i64 a0] w00 fun e w' => e = .returned (.bool r) ∧ Below w00.heap.size w00 w' := by
  have HT := Aside0.mk HT0
  clear HT0
  have HKN := Aside0.mk hkn
  have HRT := Aside0.mk hrt
  clear hkn hrt
  have HZ := Aside0.mk (Below.refl w00.heap.size w00)
  have H : ((dither_Table.f a0).bind fun bt101 => (if bt101.2 = a2 then (halidelaw13_DitherTables.j0 k a0 l1 bt101.1 ((bt101.1.length : Int) != (l1.length : Int))) else (halidelaw13_DitherTables.j0 k a0 l1 bt101.1 true))) = some r := h
  clear h
  replace H := Option.bind_eq_some_iff.mp H
  obtain ⟨⟨t101, t102⟩, A40, H⟩ := H
  replace H : (if t102 = a2 then (halidelaw13_DitherTables.j0 k a0 l1 t101 ((t101.length : Int) != (l1.length : Int))) else (halidelaw13_DitherTables.j0 k a0 l1 t101 true)) = some r := H
  have A4 := Aside0.mk A40
  clear A40
  have HC5 := Aside0.mk H
  clear H
  go_enter Try.func3, Try.ntmps3
  go_upto_region 4 with (first | (go_at_call 10; (with_reducible refine (halidelaw13_known.calls k true _ HKN.out).mono ?_); rintro e w01 ⟨rfl, hb⟩; have n0_ := Aside0.mk (below_step (by repeat (first | (with_reducible first | exact HZ.out | apply below_alloc | apply pw_below_drewN | apply below_drew1) | exact HZ.out)) hb); clear HZ; have HZ := n0_; clear n0_; clear hb) | (go_at_call 11; (with_reducible refine (halideref13_Table.calls k a0 l1 a2 _ HRT.out).mono ?_); rintro e w ⟨v01, rfl, ho0, hb⟩; have n0_ := Aside0.mk (below_step (by repeat (first | (with_reducible first | exact HZ.out | apply below_alloc | apply pw_below_drewN | apply below_drew1) | exact HZ.out)) hb); clear HZ; have HZ := n0_; clear n0_; clear hb; have HW1 := Aside0.mk ho0; clear ho0))
  obtain ⟨A1, c1, eo1⟩ := Kd.S_slice HW1.out
  subst eo1
  have HR1 := Aside0.mk (Kd.S_reads' HW1.out).2.2
  have HC1 := Aside0.mk (Kd.S_reads' HW1.out).2.1
  clear HW1
  have HB := Aside0.mk (Below.refl w.heap.size w)
  go_upto_region 5 with (first | (go_at_call 12; (with_reducible refine (dither_Table.calls a0 t101 t102 _ A4.out).mono ?_); rintro e w6 ⟨v103, rfl, ho0, hb⟩; have n0_ := Aside0.mk (Kd.S_lower ho0 (below_size (by repeat (first | (with_reducible first | exact HB.out | apply below_alloc | apply pw_below_drewN | apply below_drew1) | exact HB.out)))); have n1_ := Aside0.mk (below_step (by repeat (first | (with_reducible first | exact HB.out | apply below_alloc | apply pw_below_drewN | apply below_drew1) | exact HB.out)) hb); clear HB; have HO104 := n0_; have HB := n1_; clear n0_ n1_; (try clear hb); (try clear hb2); (try clear hk); (try clear hi); (try clear ho0)))
  repeat (go_quiet (first | (go_at_call 12; (with_reducible refine (dither_Table.calls a0 t101 t102 _ A4.out).mono ?_); rintro e w6 ⟨v103, rfl, ho0, hb⟩; have n0_ := Aside0.mk (Kd.S_lower ho0 (below_size (by repeat (first | (with_reducible first | exact HB.out | apply below_alloc | apply pw_below_drewN | apply below_drew1) | exact HB.out)))); have n1_ := Aside0.mk (below_step (by repeat (first | (with_reducible first | exact HB.out | apply below_alloc | apply pw_below_drewN | apply below_drew1) | exact HB.out)) hb); clear HB; have HO104 := n0_; have HB := n1_; clear n0_ n1_; (try clear hb); (try clear hb2); (try clear hk); (try clear hi); (try clear ho0))); go_upto_region 5 with (first | (go_at_call 12; (with_reducible refine (dither_Table.calls a0 t101 t102 _ A4.out).mono ?_); rintro e w6 ⟨v103, rfl, ho0, hb⟩; have n0_ := Aside0.mk (Kd.S_lower ho0 (below_size (by repeat (first | (with_reducible first | exact HB.out | apply below_alloc | apply pw_below_drewN | apply below_drew1) | exact HB.out)))); have n1_ := Aside0.mk (below_step (by repeat (first | (with_reducible first | exact HB.out | apply below_alloc | apply pw_below_drewN | apply below_drew1) | exact HB.out)) hb); clear HB; have HO104 := n0_; have HB := n1_; clear n0_ n1_; (try clear hb); (try clear hb2); (try clear hk); (try clear hi); (try clear ho0))))
  (try simp only [Act.put, List.setIfInBounds_toArray, List.set_cons_zero, List.set_cons_succ])
  go_cut [35] (fun v35 wc => ∃ (kq : Nat) (x35_4 : Bool), v35 = .bool x35_4 ∧ Aside0 (halidelaw13_DitherTables.j0 kq a0 l1 t101 x35_4 = some r) ∧ Aside0 (kq ≤ k) ∧ Aside0 (Kd.S (Kd.slice 3 (Kd.int .i64)) 31 wc w.heap.size (fun _ => True) v103 t101) ∧ Aside0 (Below w.heap.size w wc))
  case first =>
    have H := HC5.out
    clear HC5
    by_cases c7 : t102 = a2
    · rw [if_pos c7] at H
      have c7b0 : (t102 == a2) = true := beq_iff_eq.mpr c7
      have c7b1 : (t102 != a2) = false := bne_eq_false_iff_eq.mpr c7
      clear c7
      (first | rw [c7b0] | (simp only [i64_w, i32_w]; rw [c7b0]) | skip)
      have H' := Aside0.mk H
      clear H
      obtain ⟨Ao8, co8, eo8⟩ := Kd.S_slice HO104.out
      subst eo8
      go_wp2
      repeat (go_quiet (fail); try go_wp2)
      go_meet
      case rel => exact ⟨_, (((t101.length : Int) != (l1.length : Int))), (by first | rfl | (simp; done) | (simp [*]; done)), H', ⟨by first | omega | exact Nat.le_refl _⟩, ⟨by (with_reducible repeat (first | apply Kd.S_alloc | apply Kd.S_drewN | apply Kd.S_drew)); exact HO104.out⟩, ⟨by repeat (first | (with_reducible first | exact HB.out | apply below_alloc | apply pw_below_drewN | apply below_drew1) | exact HB.out)⟩⟩
    · rw [if_neg c7] at H
      have c7b0 : (t102 == a2) = false := beq_eq_false_iff_ne.mpr c7
      have c7b1 : (t102 != a2) = true := bne_iff_ne.mpr c7
      (first | rw [c7b0] | (simp only [i64_w, i32_w]; rw [c7b0]) | skip)
      have H' := Aside0.mk H
      clear H
      go_wp2
      repeat (go_quiet (fail); try go_wp2)
      go_meet
      case rel => exact ⟨_, (true), (by first | rfl | (simp; done) | (simp [*]; done)), H', ⟨by first | omega | exact Nat.le_refl _⟩, ⟨by (with_reducible repeat (first | apply Kd.S_alloc | apply Kd.S_drewN | apply Kd.S_drew)); exact HO104.out⟩, ⟨by repeat (first | (with_reducible first | exact HB.out | apply below_alloc | apply pw_below_drewN | apply below_drew1) | exact HB.out)⟩⟩
  case rest =>
    clear HC5
    try clear c1
    try clear p2
    try clear c3
    try clear c7
    try clear c7b0
    try clear c7b1
    obtain ⟨kq, x35_4, rfl, HA, HJ4, HO_5, HB⟩ := hcut
    cases kq with
    | zero => exact absurd HA.out (by simp [halidelaw13_DitherTables.j0])
    | succ kj4 =>
      have H := HA.out
      clear HA
      simp only [halidelaw13_DitherTables.j0] at H
      by_cases c9 : x35_4 = true
      · subst c9
        have H1 : (some false) = some r := by rw [if_pos rfl] at H; exact H
        clear H
        have H := H1
        clear H1
        exact absurd (H.trans (congrArg some HT.out)) (by decide)
      · replace c9 := Bool.eq_false_iff.mpr c9
        subst c9
        have H1 : (if 0 ≤ (wrap64 ((wrap64 (a0 * a0)) * (mn (l1.length : Int) 1))) then (if (wrap64 ((wrap64 (a0 * a0)) * (mn (l1.length : Int) 1)) : Int).toNat ≤ 281474976710656 then (halidelaw13_DitherTables.l0 kj4 a0 l1 t101 (List.replicate (wrap64 ((wrap64 (a0 * a0)) * (mn (l1.length : Int) 1)) : Int).toNat false) 0) else (none)) else (none)) = some r := by rw [if_neg (show ¬ (false = true) by decide)] at H; exact H
        clear H
        have H := H1
        clear H1
        obtain ⟨ji10, hji10⟩ : ∃ j_ : Int, (mn (l1.length : Int) 1) = j_ := ⟨_, rfl⟩
        replace H : (if 0 ≤ (wrap64 ((wrap64 (a0 * a0)) * (ji10))) then (if (wrap64 ((wrap64 (a0 * a0)) * (ji10)) : Int).toNat ≤ 281474976710656 then (halidelaw13_DitherTables.l0 kj4 a0 l1 t101 (List.replicate (wrap64 ((wrap64 (a0 * a0)) * (ji10)) : Int).toNat false) 0) else (none)) else (none)) = some r := by first | (rw [hji10] at H; exact H) | (simp only [hji10] at H ⊢; exact H)
        have hji10_ : (if 1 < (l1.length : Int) then 1 else (l1.length : Int)) = ji10 := hji10
        obtain ⟨ji11, hji11⟩ : ∃ j_ : Int, (wrap64 ((wrap64 (a0 * a0)) * (ji10))) = j_ := ⟨_, rfl⟩
        replace H : (if 0 ≤ (ji11) then (if (ji11 : Int).toNat ≤ 281474976710656 then (halidelaw13_DitherTables.l0 kj4 a0 l1 t101 (List.replicate (ji11 : Int).toNat false) 0) else (none)) else (none)) = some r := by first | (rw [hji11] at H; exact H) | (simp only [hji11] at H ⊢; exact H)
        have hji11w : (IntKind.i64.wrap ((wrap64 (a0 * a0)) * (ji10))) = ji11 := (i64_w _).trans hji11
        by_cases c12 : 0 ≤ (ji11)
        · rw [if_pos c12] at H
          have c12b0 := eq_true c12
          have c12b1 : decide (0 ≤ (ji11)) = true := decide_eq_true c12
          clear c12
          by_cases c13 : (ji11 : Int).toNat ≤ 281474976710656
          · rw [if_pos c13] at H
            have c13b0 := eq_true c13
            have c13b1 : decide ((ji11 : Int).toNat ≤ 281474976710656) = true := decide_eq_true c13
            clear c13
            obtain ⟨y105, hy105⟩ : ∃ y_ : List Bool, y_ = (List.replicate (ji11 : Int).toNat false) := ⟨_, rfl⟩
            replace H : (halidelaw13_DitherTables.l0 kj4 a0 l1 t101 y105 0) = some r := by first | (rw [hy105]; with_reducible exact H) | (have H2_ := (Option.bind_some _ _).symm.trans H; rw [hy105]; with_reducible exact H2_) | (have H2_ := (Option.bind_some _ _).symm.trans H; with_reducible exact H2_) | with_reducible exact H | (rw [hy105]; exact H) | exact H
            have Ny105 := Aside0.mk hy105
            clear hy105
            have H' := Aside0.mk H
            clear H
            go_wp2_with (first | ((with_reducible refine gate_dst (N := 43) rfl ?_); (try (refine gate_guard (by rfl) ?_; dsimp only)); refine Kd.R_make Kd.bool _ 4 rfl (N := 43) rfl 29 _ _ rfl ji11 rfl rfl Try.underlying29 (.bool false) 1 info4 rfl (by decide) (by omega) false (ok := fun _ => True) (okp := fun _ => True) rfl (fun _ hk => hk) trivial (of_decide_eq_true (by first | (with_reducible assumption) | assumption)) (Nat.le_trans (Nat.mul_le_mul_right _ (of_decide_eq_true (by first | (with_reducible assumption) | assumption) : ji11.toNat ≤ 281474976710656)) (by omega)) (Below.refl _ _) (Nat.le_refl _) ?_; intro v106 w14 ho15 hb hg_ hnew_; clear hg_ hnew_; (first | rw [← Ny105.out] at ho15 | (simp only [Int.reduceToNat] at ho15; rw [← Ny105.out] at ho15)); have n0_ := Aside0.mk (Kd.S_below (by (with_reducible repeat (first | apply Kd.S_alloc | apply Kd.S_drewN | apply Kd.S_drew)); exact HO_5.out) hb); have n1_ := Aside0.mk (Kd.R_lower ho15 (below_size (by repeat (first | (with_reducible first | exact HB.out | apply below_alloc | apply pw_below_drewN | apply below_drew1) | exact HB.out)))); have n2_ := Aside0.mk (below_step (by repeat (first | (with_reducible first | exact HB.out | apply below_alloc | apply pw_below_drewN | apply below_drew1) | exact HB.out)) hb); clear HO_5; clear HB; have HO_5 := n0_; have HO107 := n1_; have HB := n2_; clear n0_ n1_ n2_; clear hb ho15))
            repeat (go_quiet (first | ((with_reducible refine gate_dst (N := 43) rfl ?_); (try (refine gate_guard (by rfl) ?_; dsimp only)); refine Kd.R_make Kd.bool _ 4 rfl (N := 43) rfl 29 _ _ rfl ji11 rfl rfl Try.underlying29 (.bool false) 1 info4 rfl (by decide) (by omega) false (ok := fun _ => True) (okp := fun _ => True) rfl (fun _ hk => hk) trivial (of_decide_eq_true (by first | (with_reducible assumption) | assumption)) (Nat.le_trans (Nat.mul_le_mul_right _ (of_decide_eq_true (by first | (with_reducible assumption) | assumption) : ji11.toNat ≤ 281474976710656)) (by omega)) (Below.refl _ _) (Nat.le_refl _) ?_; intro v106 w14 ho15 hb hg_ hnew_; clear hg_ hnew_; (first | rw [← Ny105.out] at ho15 | (simp only [Int.reduceToNat] at ho15; rw [← Ny105.out] at ho15)); have n0_ := Aside0.mk (Kd.S_below (by (with_reducible repeat (first | apply Kd.S_alloc | apply Kd.S_drewN | apply Kd.S_drew)); exact HO_5.out) hb); have n1_ := Aside0.mk (Kd.R_lower ho15 (below_size (by repeat (first | (with_reducible first | exact HB.out | apply below_alloc | apply pw_below_drewN | apply below_drew1) | exact HB.out)))); have n2_ := Aside0.mk (below_step (by repeat (first | (with_reducible first | exact HB.out | apply below_alloc | apply pw_below_drewN | apply below_drew1) | exact HB.out)) hb); clear HO_5; clear HB; have HO_5 := n0_; have HO107 := n1_; have HB := n2_; clear n0_ n1_ n2_; clear hb ho15)); try go_wp2_with (first | ((with_reducible refine gate_dst (N := 43) rfl ?_); (try (refine gate_guard (by rfl) ?_; dsimp only)); refine Kd.R_make Kd.bool _ 4 rfl (N := 43) rfl 29 _ _ rfl ji11 rfl rfl Try.underlying29 (.bool false) 1 info4 rfl (by decide) (by omega) false (ok := fun _ => True) (okp := fun _ => True) rfl (fun _ hk => hk) trivial (of_decide_eq_true (by first | (with_reducible assumption) | assumption)) (Nat.le_trans (Nat.mul_le_mul_right _ (of_decide_eq_true (by first | (with_reducible assumption) | assumption) : ji11.toNat ≤ 281474976710656)) (by omega)) (Below.refl _ _) (Nat.le_refl _) ?_; intro v106 w14 ho15 hb hg_ hnew_; clear hg_ hnew_; (first | rw [← Ny105.out] at ho15 | (simp only [Int.reduceToNat] at ho15; rw [← Ny105.out] at ho15)); have n0_ := Aside0.mk (Kd.S_below (by (with_reducible repeat (first | apply Kd.S_alloc | apply Kd.S_drewN | apply Kd.S_drew)); exact HO_5.out) hb); have n1_ := Aside0.mk (Kd.R_lower ho15 (below_size (by repeat (first | (with_reducible first | exact HB.out | apply below_alloc | apply pw_below_drewN | apply below_drew1) | exact HB.out)))); have n2_ := Aside0.mk (below_step (by repeat (first | (with_reducible first | exact HB.out | apply below_alloc | apply pw_below_drewN | apply below_drew1) | exact HB.out)) hb); clear HO_5; clear HB; have HO_5 := n0_; have HO107 := n1_; have HB := n2_; clear n0_ n1_ n2_; clear hb ho15)))
            go_loopg [8] kj4 (fun kq v8 w' => ∃ (x5_2 : List (List Int)) (x7_2 : List Bool) (x8_2 : Int), v8 = .int .i64 x8_2 ∧ Aside0 (halidelaw13_DitherTables.l0 kq a0 l1 x5_2 x7_2 x8_2 = some r) ∧ Aside0 (kq ≤ kj4) ∧ Aside0 (Kd.S (Kd.slice 3 (Kd.int .i64)) 31 w' w.heap.size (fun _ => True) v103 x5_2) ∧ Aside0 (Kd.R Kd.bool 4 w' w.heap.size (fun _ => True) v106 x7_2) ∧ Aside0 (Below w.heap.size w w'))
            case atStart => exact ⟨(t101), (y105), (0), (by first | rfl | (simp; done) | (simp [*]; done)), H', ⟨Nat.le_refl _⟩, ⟨by (with_reducible repeat (first | apply Kd.S_alloc | apply Kd.S_drewN | apply Kd.S_drew)); exact HO_5.out⟩, ⟨by (with_reducible repeat (first | apply Kd.R_alloc | apply Kd.R_drewN | apply Kd.R_drew)); exact HO107.out⟩, ⟨by repeat (first | (with_reducible first | exact HB.out | apply below_alloc | apply pw_below_drewN | apply below_drew1) | exact HB.out)⟩⟩
            case round =>
              clear H'
              try clear c1
              try clear p2
              try clear c3
              try clear p6
              try clear c7
              try clear c7b0
              try clear c7b1
              try clear c9
              try clear c12
              try clear c12b0
              try clear c12b1
              try clear c13
              try clear c13b0
              try clear c13b1
              try clear p2
              obtain ⟨x5_2, x7_2, x8_2, rfl, HA, HK2, HO_5, HO_7, HB⟩ := hrel
              cases gk with
              | zero => exact absurd HA.out (by simp [halidelaw13_DitherTables.l0])
              | succ k2 =>
                have H := HA.out
                clear HA
                simp only [halidelaw13_DitherTables.l0] at H
                by_cases c16 : x8_2 < (x5_2.length : Int)
                · rw [if_pos c16] at H
                  have c16b0 : decide (x8_2 < (x5_2.length : Int)) = true := decide_eq_true c16
                  clear c16
                  by_cases c17 : 0 ≤ x8_2
                  · rw [if_pos c17] at H
                    have c17b0 : decide (0 ≤ x8_2) = true := decide_eq_true c17
                    clear c17
                    by_cases c18 : x8_2 < (l1.length : Int)
                    · rw [if_pos c18] at H
                      have c18b0 : decide (x8_2 < (l1.length : Int)) = true := decide_eq_true c18
                      clear c18
                      replace H := Option.bind_eq_some_iff.mp H
                      obtain ⟨t110, A190, H⟩ := H
                      replace H : (if t110 = true then (halidelaw13_DitherTables.l1 k2 a0 l1 x5_2 x7_2 x8_2 0) else (some false)) = some r := H
                      have A19 := Aside0.mk A190
                      clear A190
                      by_cases c20 : t110 = true
                      · subst c20
                        have H1 : (halidelaw13_DitherTables.l1 k2 a0 l1 x5_2 x7_2 x8_2 0) = some r := by rw [if_pos rfl] at H; exact H
                        clear H
                        have H := H1
                        clear H1
                        have H' := Aside0.mk H
                        clear H
                        obtain ⟨Ao21, co21, eo21⟩ := Kd.S_slice HO_5.out
                        subst eo21
                        have p108 : 0 ≤ (x8_2 : Int) := of_decide_eq_true (by first | (with_reducible assumption) | assumption)
                        have q108 : x8_2 < (x5_2.length : Int) := of_decide_eq_true (by first | (with_reducible assumption) | assumption)
                        obtain ⟨ad108, A108_0, c108_0, e108, hx108_0, hl108_0, hi108_0⟩ := at_L1 (Kd.S_reads' HO_5.out).2.2 x8_2 p108 q108
                        cases e108
                        obtain ⟨ce108, hce108, hMe108, hcc108⟩ := Kd.S_get HO_5.out [] x8_2 p108 (by first | exact q108 | exact of_decide_eq_true (by first | (with_reducible assumption) | assumption) | (have e_ := (Kd.S_reads' HO_5.out).1; omega))
                        obtain ⟨ve108_0, rfl, ge108_0⟩ := hMe108
                        have hv108_0 := hcc108 0 _ rfl
                        rw [Nat.add_zero, show ((Kd.slice 3 (Kd.int .i64))).sz = 1 from rfl, Nat.mul_one] at hv108_0
                        replace hv108_0 := Option.some.inj (hv108_0.symm.trans hx108_0)
                        rw [hv108_0] at ge108_0
                        have HL108_0 := Aside0.mk (show Kd.R (Kd.int .i64) 3 _ _ _ _ (rd_L1 x5_2 x8_2) from ge108_0)
                        clear hv108_0 ge108_0
                        have HX108_0 := Aside0.mk hx108_0
                        clear hcc108 hce108
                        have HR108_0 := Aside0.mk hi108_0
                        have HC108_0 := Aside0.mk hl108_0
                        clear hi108_0 hl108_0
                        replace p108 := eq_true p108
                        replace q108 := eq_true q108
                        have p109 : 0 ≤ (x8_2 : Int) := of_decide_eq_true (by first | (with_reducible assumption) | assumption)
                        have q109 : x8_2 < (l1.length : Int) := of_decide_eq_true (by first | (with_reducible assumption) | assumption)
                        obtain ⟨ad109, A109_0, c109_0, e109, hx109_0, hl109_0, hi109_0⟩ := at_L1 HR1.out x8_2 p109 q109
                        cases e109
                        replace hx109_0 := (HB.out.cell (World.block_lt_of_cell? w _ hx109_0)).trans hx109_0
                        have HR109_0 := Aside0.mk hi109_0
                        have HC109_0 := Aside0.mk hl109_0
                        clear hi109_0 hl109_0
                        replace p109 := eq_true p109
                        replace q109 := eq_true q109
                        go_wp2_with (first | (go_at_call 13; (with_reducible refine (halidehelp_Ints.calls k2 _ _ (rd_L1 x5_2 x8_2) _ _ (rd_L1 l1 x8_2) true _ ?side1 ?side2 ?side3 ?side4 A19.out).mono ?_); (case side1 => repeat (first | exact (by repeat (first | (with_reducible exact HR108_0.out) | (with_reducible refine Kd.C_alloc ?_ _) | (with_reducible refine Kd.C_drewN ?_ _) | (with_reducible refine Kd.C_drew ?_) | exact HR108_0.out)) | (with_reducible refine Kd.C_alloc ?_ _) | (with_reducible refine Kd.C_drewN ?_ _) | (with_reducible refine Kd.C_drew ?_))); (case side2 => exact HC108_0.out); (case side3 => repeat (first | exact (Kd.C_below HR109_0.out HB.out) | (with_reducible refine Kd.C_alloc ?_ _) | (with_reducible refine Kd.C_drewN ?_ _) | (with_reducible refine Kd.C_drew ?_))); (case side4 => exact HC109_0.out); rintro e w' ⟨rfl, ⟨nd, rfl⟩⟩; (try first | exact ⟨rfl, _, World.drewN_drewN _ _ _⟩ | exact ⟨rfl, _, Eq.trans (World.drewN_drewN _ _ _) (congrArg (World.drewN _) (Nat.add_assoc _ _ _))⟩)))
                        repeat (go_quiet (first | (go_at_call 13; (with_reducible refine (halidehelp_Ints.calls k2 _ _ (rd_L1 x5_2 x8_2) _ _ (rd_L1 l1 x8_2) true _ ?side1 ?side2 ?side3 ?side4 A19.out).mono ?_); (case side1 => repeat (first | exact (by repeat (first | (with_reducible exact HR108_0.out) | (with_reducible refine Kd.C_alloc ?_ _) | (with_reducible refine Kd.C_drewN ?_ _) | (with_reducible refine Kd.C_drew ?_) | exact HR108_0.out)) | (with_reducible refine Kd.C_alloc ?_ _) | (with_reducible refine Kd.C_drewN ?_ _) | (with_reducible refine Kd.C_drew ?_))); (case side2 => exact HC108_0.out); (case side3 => repeat (first | exact (Kd.C_below HR109_0.out HB.out) | (with_reducible refine Kd.C_alloc ?_ _) | (with_reducible refine Kd.C_drewN ?_ _) | (with_reducible refine Kd.C_drew ?_))); (case side4 => exact HC109_0.out); rintro e w' ⟨rfl, ⟨nd, rfl⟩⟩; (try first | exact ⟨rfl, _, World.drewN_drewN _ _ _⟩ | exact ⟨rfl, _, Eq.trans (World.drewN_drewN _ _ _) (congrArg (World.drewN _) (Nat.add_assoc _ _ _))⟩))); try go_wp2_with (first | (go_at_call 13; (with_reducible refine (halidehelp_Ints.calls k2 _ _ (rd_L1 x5_2 x8_2) _ _ (rd_L1 l1 x8_2) true _ ?side1 ?side2 ?side3 ?side4 A19.out).mono ?_); (case side1 => repeat (first | exact (by repeat (first | (with_reducible exact HR108_0.out) | (with_reducible refine Kd.C_alloc ?_ _) | (with_reducible refine Kd.C_drewN ?_ _) | (with_reducible refine Kd.C_drew ?_) | exact HR108_0.out)) | (with_reducible refine Kd.C_alloc ?_ _) | (with_reducible refine Kd.C_drewN ?_ _) | (with_reducible refine Kd.C_drew ?_))); (case side2 => exact HC108_0.out); (case side3 => repeat (first | exact (Kd.C_below HR109_0.out HB.out) | (with_reducible refine Kd.C_alloc ?_ _) | (with_reducible refine Kd.C_drewN ?_ _) | (with_reducible refine Kd.C_drew ?_))); (case side4 => exact HC109_0.out); rintro e w' ⟨rfl, ⟨nd, rfl⟩⟩; (try first | exact ⟨rfl, _, World.drewN_drewN _ _ _⟩ | exact ⟨rfl, _, Eq.trans (World.drewN_drewN _ _ _) (congrArg (World.drewN _) (Nat.add_assoc _ _ _))⟩))))
                        go_loopg [9] k2 (fun kq v9 w' => ∃ (x5_3 : List (List Int)) (x7_3 : List Bool) (x9_3 : Int), v9 = .int .i64 x9_3 ∧ Aside0 (halidelaw13_DitherTables.l1 kq a0 l1 x5_3 x7_3 x8_2 x9_3 = some r) ∧ Aside0 (kq ≤ k2) ∧ Aside0 (Kd.S (Kd.slice 3 (Kd.int .i64)) 31 w' w.heap.size (fun _ => True) (.slice (some ad108) x5_2.length co21) x5_3) ∧ Aside0 (Kd.R Kd.bool 4 w' w.heap.size (fun _ => True) v106 x7_3) ∧ Aside0 (Below w.heap.size w w'))
                        case atStart => exact ⟨(x5_2), (x7_2), (0), (by first | rfl | (simp; done) | (simp [*]; done)), H', ⟨Nat.le_refl _⟩, ⟨by (with_reducible repeat (first | apply Kd.S_alloc | apply Kd.S_drewN | apply Kd.S_drew)); exact HO_5.out⟩, ⟨by (with_reducible repeat (first | apply Kd.R_alloc | apply Kd.R_drewN | apply Kd.R_drew)); exact HO_7.out⟩, ⟨by repeat (first | (with_reducible first | exact HB.out | apply below_alloc | apply pw_below_drewN | apply below_drew1) | exact HB.out)⟩⟩
                        case round =>
                          clear H'
                          try clear c1
                          try clear p1
                          try clear q1
                          try clear hx1
                          try clear c2
                          try clear p2
                          try clear c3
                          try clear p6
                          try clear c7
                          try clear c7b0
                          try clear c7b1
                          try clear c9
                          try clear c10
                          try clear p10
                          try clear q10
                          try clear hx10
                          try clear c12
                          try clear c12b0
                          try clear c12b1
                          try clear c13
                          try clear c13b0
                          try clear c13b1
                          try clear c16
                          try clear c16b0
                          try clear c17
                          try clear c17b0
                          try clear c18
                          try clear c18b0
                          try clear c20
                          try clear hx108_0
                          try clear hx109_0
                          try clear p108
                          try clear p109
                          try clear p2
                          try clear p6
                          try clear q108
                          try clear q109
                          obtain ⟨x5_3, x7_3, x9_3, rfl, HA, HK3, HO_5, HO_7, HB⟩ := hrel
                          have hl5_3 := (Kd.S_reads' HO_5.out).1
                          rw [hl5_3] at HO_5
                          (try simp only [hl5_3])
                          (try simp only [hl5_3] at HO_7)
                          cases gk with
                          | zero => exact absurd HA.out (by simp [halidelaw13_DitherTables.l1])
                          | succ k3 =>
                            have H := HA.out
                            clear HA
                            simp only [halidelaw13_DitherTables.l1] at H
                            by_cases c22 : 0 ≤ x8_2
                            · rw [if_pos c22] at H
                              have c22b0 : decide (0 ≤ x8_2) = true := decide_eq_true c22
                              clear c22
                              by_cases c23 : x8_2 < (x5_3.length : Int)
                              · rw [if_pos c23] at H
                                have c23b0 : decide (x8_2 < (x5_3.length : Int)) = true := decide_eq_true c23
                                clear c23
                                by_cases c24 : x9_3 < ((rd_L1 x5_3 x8_2).length : Int)
                                · rw [if_pos c24] at H
                                  have c24b0 : decide (x9_3 < ((rd_L1 x5_3 x8_2).length : Int)) = true := decide_eq_true c24
                                  clear c24
                                  by_cases c25 : 0 ≤ x9_3
                                  · rw [if_pos c25] at H
                                    have c25b0 : decide (0 ≤ x9_3) = true := decide_eq_true c25
                                    clear c25
                                    by_cases c26 : (rd (rd_L1 x5_3 x8_2) x9_3) < 0
                                    · rw [if_pos c26] at H
                                      have c26b0 : decide ((rd (rd_L1 x5_3 x8_2) x9_3) < 0) = true := decide_eq_true c26
                                      clear c26
                                      obtain rfl := Option.some.inj H
                                      have p111 : 0 ≤ (x8_2 : Int) := of_decide_eq_true (by first | (with_reducible assumption) | assumption)
                                      have q111 : x8_2 < (x5_3.length : Int) := of_decide_eq_true (by first | (with_reducible assumption) | assumption)
                                      obtain ⟨ad111, A111_0, c111_0, e111, hx111_0, hl111_0, hi111_0⟩ := at_L1 (Kd.S_reads' HO_5.out).2.2 x8_2 p111 q111
                                      obtain rfl : ad108 = ad111 := (by injection e111)
                                      obtain ⟨ce111, hce111, hMe111, hcc111⟩ := Kd.S_get HO_5.out [] x8_2 p111 (by first | exact q111 | exact of_decide_eq_true (by first | (with_reducible assumption) | assumption) | (have e_ := (Kd.S_reads' HO_5.out).1; omega))
                                      obtain ⟨ve111_0, rfl, ge111_0⟩ := hMe111
                                      have hv111_0 := hcc111 0 _ rfl
                                      rw [Nat.add_zero, show ((Kd.slice 3 (Kd.int .i64))).sz = 1 from rfl, Nat.mul_one] at hv111_0
                                      replace hv111_0 := Option.some.inj (hv111_0.symm.trans hx111_0)
                                      rw [hv111_0] at ge111_0
                                      have HL111_0 := Aside0.mk (show Kd.R (Kd.int .i64) 3 _ _ _ _ (rd_L1 x5_3 x8_2) from ge111_0)
                                      clear hv111_0 ge111_0
                                      have HX111_0 := Aside0.mk hx111_0
                                      clear hcc111 hce111
                                      have HR111_0 := Aside0.mk hi111_0
                                      have HC111_0 := Aside0.mk hl111_0
                                      clear hi111_0 hl111_0
                                      replace p111 := eq_true p111
                                      replace q111 := eq_true q111
                                      have p112 : 0 ≤ (x8_2 : Int) := of_decide_eq_true (by first | (with_reducible assumption) | assumption)
                                      have q112 : x8_2 < (x5_3.length : Int) := of_decide_eq_true (by first | (with_reducible assumption) | assumption)
                                      obtain ⟨ad112, A112_0, c112_0, e112, hx112_0, hl112_0, hi112_0⟩ := at_L1 (Kd.S_reads' HO_5.out).2.2 x8_2 p112 q112
                                      obtain rfl : ad108 = ad112 := (by injection e112)
                                      obtain ⟨ce112, hce112, hMe112, hcc112⟩ := Kd.S_get HO_5.out [] x8_2 p112 (by first | exact q112 | exact of_decide_eq_true (by first | (with_reducible assumption) | assumption) | (have e_ := (Kd.S_reads' HO_5.out).1; omega))
                                      obtain ⟨ve112_0, rfl, ge112_0⟩ := hMe112
                                      have hv112_0 := hcc112 0 _ rfl
                                      rw [Nat.add_zero, show ((Kd.slice 3 (Kd.int .i64))).sz = 1 from rfl, Nat.mul_one] at hv112_0
                                      replace hv112_0 := Option.some.inj (hv112_0.symm.trans hx112_0)
                                      rw [hv112_0] at ge112_0
                                      have HL112_0 := Aside0.mk (show Kd.R (Kd.int .i64) 3 _ _ _ _ (rd_L1 x5_3 x8_2) from ge112_0)
                                      clear hv112_0 ge112_0
                                      have HX112_0 := Aside0.mk hx112_0
                                      clear hcc112 hce112
                                      have HR112_0 := Aside0.mk hi112_0
                                      have HC112_0 := Aside0.mk hl112_0
                                      clear hi112_0 hl112_0
                                      replace p112 := eq_true p112
                                      replace q112 := eq_true q112
                                      have ea_ := Option.some.inj (hx111_0.symm.trans hx112_0)
                                      injection ea_ with ea_ en_ ec_
                                      subst ea_
                                      subst ec_
                                      clear en_
                                      have p113 : 0 ≤ (x9_3 : Int) := of_decide_eq_true (by first | (with_reducible assumption) | assumption)
                                      have q113 : x9_3 < ((rd_L1 x5_3 x8_2).length : Int) := of_decide_eq_true (by first | (with_reducible assumption) | assumption)
                                      obtain ⟨ad113, e113, hx113_0⟩ := Kd.at_int (by repeat (first | (with_reducible exact HR112_0.out) | (with_reducible refine Kd.C_alloc ?_ _) | (with_reducible refine Kd.C_drewN ?_ _) | (with_reducible refine Kd.C_drew ?_) | exact HR112_0.out)) x9_3 p113 q113
                                      cases e113
                                      replace p113 := eq_true p113
                                      replace q113 := eq_true q113
                                      go_wp2
                                      repeat (go_quiet (fail); try go_wp2)
                                      go_ret
                                      exact ⟨by first | rfl | (simp [errW_none, errW_some] <;> rfl) | (simp only [← hji10, ← hji11]; first | rfl | (simp [errW_none, errW_some] <;> rfl)) | (simp [*, errW_none, errW_some] <;> rfl), HZ.out.trans (Below.mono (B := w.heap.size) (by repeat (first | (with_reducible first | exact HB.out | apply below_alloc | apply pw_below_drewN | apply below_drew1) | exact HB.out)) HZ.out.size)⟩
                                    · rw [if_neg c26] at H
                                      have c26b0 : decide ((rd (rd_L1 x5_3 x8_2) x9_3) < 0) = false := decide_eq_false c26
                                      clear c26
                                      by_cases c27 : (rd (rd_L1 x5_3 x8_2) x9_3) ≥ (x7_3.length : Int)
                                      · rw [if_pos c27] at H
                                        have c27b0 : decide ((x7_3.length : Int) ≤ (rd (rd_L1 x5_3 x8_2) x9_3)) = true := decide_eq_true c27
                                        clear c27
                                        obtain rfl := Option.some.inj H
                                        have p111 : 0 ≤ (x8_2 : Int) := of_decide_eq_true (by first | (with_reducible assumption) | assumption)
                                        have q111 : x8_2 < (x5_3.length : Int) := of_decide_eq_true (by first | (with_reducible assumption) | assumption)
                                        obtain ⟨ad111, A111_0, c111_0, e111, hx111_0, hl111_0, hi111_0⟩ := at_L1 (Kd.S_reads' HO_5.out).2.2 x8_2 p111 q111
                                        obtain rfl : ad108 = ad111 := (by injection e111)
                                        obtain ⟨ce111, hce111, hMe111, hcc111⟩ := Kd.S_get HO_5.out [] x8_2 p111 (by first | exact q111 | exact of_decide_eq_true (by first | (with_reducible assumption) | assumption) | (have e_ := (Kd.S_reads' HO_5.out).1; omega))
                                        obtain ⟨ve111_0, rfl, ge111_0⟩ := hMe111
                                        have hv111_0 := hcc111 0 _ rfl
                                        rw [Nat.add_zero, show ((Kd.slice 3 (Kd.int .i64))).sz = 1 from rfl, Nat.mul_one] at hv111_0
                                        replace hv111_0 := Option.some.inj (hv111_0.symm.trans hx111_0)
                                        rw [hv111_0] at ge111_0
                                        have HL111_0 := Aside0.mk (show Kd.R (Kd.int .i64) 3 _ _ _ _ (rd_L1 x5_3 x8_2) from ge111_0)
                                        clear hv111_0 ge111_0
                                        have HX111_0 := Aside0.mk hx111_0
                                        clear hcc111 hce111
                                        have HR111_0 := Aside0.mk hi111_0
                                        have HC111_0 := Aside0.mk hl111_0
                                        clear hi111_0 hl111_0
                                        replace p111 := eq_true p111
                                        replace q111 := eq_true q111
                                        have p112 : 0 ≤ (x8_2 : Int) := of_decide_eq_true (by first | (with_reducible assumption) | assumption)
                                        have q112 : x8_2 < (x5_3.length : Int) := of_decide_eq_true (by first | (with_reducible assumption) | assumption)
                                        obtain ⟨ad112, A112_0, c112_0, e112, hx112_0, hl112_0, hi112_0⟩ := at_L1 (Kd.S_reads' HO_5.out).2.2 x8_2 p112 q112
                                        obtain rfl : ad108 = ad112 := (by injection e112)
                                        obtain ⟨ce112, hce112, hMe112, hcc112⟩ := Kd.S_get HO_5.out [] x8_2 p112 (by first | exact q112 | exact of_decide_eq_true (by first | (with_reducible assumption) | assumption) | (have e_ := (Kd.S_reads' HO_5.out).1; omega))
                                        obtain ⟨ve112_0, rfl, ge112_0⟩ := hMe112
                                        have hv112_0 := hcc112 0 _ rfl
                                        rw [Nat.add_zero, show ((Kd.slice 3 (Kd.int .i64))).sz = 1 from rfl, Nat.mul_one] at hv112_0
                                        replace hv112_0 := Option.some.inj (hv112_0.symm.trans hx112_0)
                                        rw [hv112_0] at ge112_0
                                        have HL112_0 := Aside0.mk (show Kd.R (Kd.int .i64) 3 _ _ _ _ (rd_L1 x5_3 x8_2) from ge112_0)
                                        clear hv112_0 ge112_0
                                        have HX112_0 := Aside0.mk hx112_0
                                        clear hcc112 hce112
                                        have HR112_0 := Aside0.mk hi112_0
                                        have HC112_0 := Aside0.mk hl112_0
                                        clear hi112_0 hl112_0
                                        replace p112 := eq_true p112
                                        replace q112 := eq_true q112
                                        have ea_ := Option.some.inj (hx111_0.symm.trans hx112_0)
                                        injection ea_ with ea_ en_ ec_
                                        subst ea_
                                        subst ec_
                                        clear en_
                                        have p113 : 0 ≤ (x9_3 : Int) := of_decide_eq_true (by first | (with_reducible assumption) | assumption)
                                        have q113 : x9_3 < ((rd_L1 x5_3 x8_2).length : Int) := of_decide_eq_true (by first | (with_reducible assumption) | assumption)
                                        obtain ⟨ad113, e113, hx113_0⟩ := Kd.at_int (by repeat (first | (with_reducible exact HR112_0.out) | (with_reducible refine Kd.C_alloc ?_ _) | (with_reducible refine Kd.C_drewN ?_ _) | (with_reducible refine Kd.C_drew ?_) | exact HR112_0.out)) x9_3 p113 q113
                                        cases e113
                                        replace p113 := eq_true p113
                                        replace q113 := eq_true q113
                                        obtain ⟨Ao28, co28, eo28⟩ := Kd.R_slice HO_7.out
                                        subst eo28
                                        go_wp2
                                        repeat (go_quiet (fail); try go_wp2)
                                        go_ret
                                        exact ⟨by first | rfl | (simp [errW_none, errW_some] <;> rfl) | (simp only [← hji10, ← hji11]; first | rfl | (simp [errW_none, errW_some] <;> rfl)) | (simp [*, errW_none, errW_some] <;> rfl), HZ.out.trans (Below.mono (B := w.heap.size) (by repeat (first | (with_reducible first | exact HB.out | apply below_alloc | apply pw_below_drewN | apply below_drew1) | exact HB.out)) HZ.out.size)⟩
                                      · rw [if_neg c27] at H
                                        have c27b0 : decide ((x7_3.length : Int) ≤ (rd (rd_L1 x5_3 x8_2) x9_3)) = false := decide_eq_false c27
                                        clear c27
                                        by_cases c29 : 0 ≤ (rd (rd_L1 x5_3 x8_2) x9_3)
                                        · rw [if_pos c29] at H
                                          have c29b0 : decide (0 ≤ (rd (rd_L1 x5_3 x8_2) x9_3)) = true := decide_eq_true c29
                                          clear c29
                                          by_cases c30 : (rd (rd_L1 x5_3 x8_2) x9_3) < (x7_3.length : Int)
                                          · rw [if_pos c30] at H
                                            have c30b0 : decide ((rd (rd_L1 x5_3 x8_2) x9_3) < (x7_3.length : Int)) = true := decide_eq_true c30
                                            clear c30
                                            obtain ⟨bq31, hbq31⟩ : ∃ b_ : Bool, b_ = (rdOf false x7_3 (rd (rd_L1 x5_3 x8_2) x9_3)) := ⟨_, rfl⟩
                                            replace H : (if bq31 = true then (some false) else (halidelaw13_DitherTables.l1 k3 a0 l1 (x5_3.set (x8_2 : Int).toNat ((rd_L1 x5_3 x8_2).set (x9_3 : Int).toNat (-1))) (x7_3.set ((rd (rd_L1 x5_3 x8_2) x9_3) : Int).toNat true) x8_2 (wrap64 (x9_3 + 1)))) = some r := by rw [← hbq31] at H; exact H
                                            have Nbq31 := Aside0.mk hbq31
                                            clear hbq31
                                            by_cases c32 : bq31 = true
                                            · subst c32
                                              have H1 : (some false) = some r := by rw [if_pos rfl] at H; exact H
                                              clear H
                                              have H := H1
                                              clear H1
                                              exact absurd (H.trans (congrArg some HT.out)) (by decide)
                                            · replace c32 := Bool.eq_false_iff.mpr c32
                                              subst c32
                                              have H1 : (halidelaw13_DitherTables.l1 k3 a0 l1 (x5_3.set (x8_2 : Int).toNat ((rd_L1 x5_3 x8_2).set (x9_3 : Int).toNat (-1))) (x7_3.set ((rd (rd_L1 x5_3 x8_2) x9_3) : Int).toNat true) x8_2 (wrap64 (x9_3 + 1))) = some r := by rw [if_neg (show ¬ (false = true) by decide)] at H; exact H
                                              clear H
                                              have H := H1
                                              clear H1
                                              obtain ⟨y115, hy115⟩ : ∃ y_ : List Bool, y_ = (x7_3.set ((rd (rd_L1 x5_3 x8_2) x9_3) : Int).toNat true) := ⟨_, rfl⟩
                                              replace H : (halidelaw13_DitherTables.l1 k3 a0 l1 (x5_3.set (x8_2 : Int).toNat ((rd_L1 x5_3 x8_2).set (x9_3 : Int).toNat (-1))) y115 x8_2 (wrap64 (x9_3 + 1))) = some r := by first | (rw [hy115]; with_reducible exact H) | (have H2_ := (Option.bind_some _ _).symm.trans H; rw [hy115]; with_reducible exact H2_) | (have H2_ := (Option.bind_some _ _).symm.trans H; with_reducible exact H2_) | with_reducible exact H | (rw [hy115]; exact H) | exact H
                                              have Ny115 := Aside0.mk hy115
                                              clear hy115
                                              obtain ⟨y117, hy117⟩ : ∃ y_ : List Int, y_ = ((rd_L1 x5_3 x8_2).set (x9_3 : Int).toNat (-1)) := ⟨_, rfl⟩
                                              replace H : (halidelaw13_DitherTables.l1 k3 a0 l1 (x5_3.set (x8_2 : Int).toNat y117) y115 x8_2 (wrap64 (x9_3 + 1))) = some r := by first | (rw [hy117]; with_reducible exact H) | (have H2_ := (Option.bind_some _ _).symm.trans H; rw [hy117]; with_reducible exact H2_) | (have H2_ := (Option.bind_some _ _).symm.trans H; with_reducible exact H2_) | with_reducible exact H | (rw [hy117]; exact H) | exact H
                                              have Ny117 := Aside0.mk hy117
                                              clear hy117
                                              obtain ⟨y119, hy119⟩ : ∃ y_ : List (List Int), y_ = (x5_3.set (x8_2 : Int).toNat y117) := ⟨_, rfl⟩
                                              replace H : (halidelaw13_DitherTables.l1 k3 a0 l1 y119 y115 x8_2 (wrap64 (x9_3 + 1))) = some r := by first | (rw [hy119]; with_reducible exact H) | (have H2_ := (Option.bind_some _ _).symm.trans H; rw [hy119]; with_reducible exact H2_) | (have H2_ := (Option.bind_some _ _).symm.trans H; with_reducible exact H2_) | with_reducible exact H | (rw [hy119]; exact H) | exact H
                                              have Ny119 := Aside0.mk hy119
                                              clear hy119
                                              have H' := Aside0.mk H
                                              clear H
                                              have p111 : 0 ≤ (x8_2 : Int) := of_decide_eq_true (by first | (with_reducible assumption) | assumption)
                                              have q111 : x8_2 < (x5_3.length : Int) := of_decide_eq_true (by first | (with_reducible assumption) | assumption)
                                              obtain ⟨ad111, A111_0, c111_0, e111, hx111_0, hl111_0, hi111_0⟩ := at_L1 (Kd.S_reads' HO_5.out).2.2 x8_2 p111 q111
                                              obtain rfl : ad108 = ad111 := (by injection e111)
                                              obtain ⟨ce111, hce111, hMe111, hcc111⟩ := Kd.S_get HO_5.out [] x8_2 p111 (by first | exact q111 | exact of_decide_eq_true (by first | (with_reducible assumption) | assumption) | (have e_ := (Kd.S_reads' HO_5.out).1; omega))
                                              obtain ⟨ve111_0, rfl, ge111_0⟩ := hMe111
                                              have hv111_0 := hcc111 0 _ rfl
                                              rw [Nat.add_zero, show ((Kd.slice 3 (Kd.int .i64))).sz = 1 from rfl, Nat.mul_one] at hv111_0
                                              replace hv111_0 := Option.some.inj (hv111_0.symm.trans hx111_0)
                                              rw [hv111_0] at ge111_0
                                              have HL111_0 := Aside0.mk (show Kd.R (Kd.int .i64) 3 _ _ _ _ (rd_L1 x5_3 x8_2) from ge111_0)
                                              clear hv111_0 ge111_0
                                              have HX111_0 := Aside0.mk hx111_0
                                              clear hcc111 hce111
                                              have HR111_0 := Aside0.mk hi111_0
                                              have HC111_0 := Aside0.mk hl111_0
                                              clear hi111_0 hl111_0
                                              replace p111 := eq_true p111
                                              replace q111 := eq_true q111
                                              have p112 : 0 ≤ (x8_2 : Int) := of_decide_eq_true (by first | (with_reducible assumption) | assumption)
                                              have q112 : x8_2 < (x5_3.length : Int) := of_decide_eq_true (by first | (with_reducible assumption) | assumption)
                                              obtain ⟨ad112, A112_0, c112_0, e112, hx112_0, hl112_0, hi112_0⟩ := at_L1 (Kd.S_reads' HO_5.out).2.2 x8_2 p112 q112
                                              obtain rfl : ad108 = ad112 := (by injection e112)
                                              obtain ⟨ce112, hce112, hMe112, hcc112⟩ := Kd.S_get HO_5.out [] x8_2 p112 (by first | exact q112 | exact of_decide_eq_true (by first | (with_reducible assumption) | assumption) | (have e_ := (Kd.S_reads' HO_5.out).1; omega))
                                              obtain ⟨ve112_0, rfl, ge112_0⟩ := hMe112
                                              have hv112_0 := hcc112 0 _ rfl
                                              rw [Nat.add_zero, show ((Kd.slice 3 (Kd.int .i64))).sz = 1 from rfl, Nat.mul_one] at hv112_0
                                              replace hv112_0 := Option.some.inj (hv112_0.symm.trans hx112_0)
                                              rw [hv112_0] at ge112_0
                                              have HL112_0 := Aside0.mk (show Kd.R (Kd.int .i64) 3 _ _ _ _ (rd_L1 x5_3 x8_2) from ge112_0)
                                              clear hv112_0 ge112_0
                                              have HX112_0 := Aside0.mk hx112_0
                                              clear hcc112 hce112
                                              have HR112_0 := Aside0.mk hi112_0
                                              have HC112_0 := Aside0.mk hl112_0
                                              clear hi112_0 hl112_0
                                              replace p112 := eq_true p112
                                              replace q112 := eq_true q112
                                              have ea_ := Option.some.inj (hx111_0.symm.trans hx112_0)
                                              injection ea_ with ea_ en_ ec_
                                              subst ea_
                                              subst ec_
                                              clear en_
                                              have p113 : 0 ≤ (x9_3 : Int) := of_decide_eq_true (by first | (with_reducible assumption) | assumption)
                                              have q113 : x9_3 < ((rd_L1 x5_3 x8_2).length : Int) := of_decide_eq_true (by first | (with_reducible assumption) | assumption)
                                              obtain ⟨ad113, e113, hx113_0⟩ := Kd.at_int (by repeat (first | (with_reducible exact HR112_0.out) | (with_reducible refine Kd.C_alloc ?_ _) | (with_reducible refine Kd.C_drewN ?_ _) | (with_reducible refine Kd.C_drew ?_) | exact HR112_0.out)) x9_3 p113 q113
                                              cases e113
                                              replace p113 := eq_true p113
                                              replace q113 := eq_true q113
                                              obtain ⟨Ao36, co36, eo36⟩ := Kd.R_slice HO_7.out
                                              subst eo36
                                              have p114 : 0 ≤ ((rd (rd_L1 x5_3 x8_2) x9_3) : Int) := of_decide_eq_true (by first | (with_reducible assumption) | assumption)
                                              have q114 : (rd (rd_L1 x5_3 x8_2) x9_3) < (x7_3.length : Int) := of_decide_eq_true (by first | (with_reducible assumption) | assumption)
                                              obtain ⟨ad114, e114, hx114_0⟩ := Kd.at_bool (Kd.R_reads' HO_7.out).2.2 (rd (rd_L1 x5_3 x8_2) x9_3) p114 q114
                                              (try rw [← Nbq31.out] at hx114_0)
                                              cases e114
                                              replace p114 := eq_true p114
                                              replace q114 := eq_true q114
                                              have p34 : 0 ≤ ((rd (rd_L1 x5_3 x8_2) x9_3) : Int) := of_decide_eq_true (by first | (with_reducible assumption) | assumption)
                                              have q34 : ((rd (rd_L1 x5_3 x8_2) x9_3) : Int) < ((x7_3.length : Int) : Int) := of_decide_eq_true (by first | (with_reducible assumption) | assumption)
                                              obtain ⟨go34, co34, eo34, gb34, gl34, cl34, HG34⟩ := Kd.R_form HO_7.out (by omega)
                                              (first | cases eo34 | (injection eo34 with ea_ en_ ec_; (first | subst ea_ | (injection ea_ with ea_; subst ea_)); subst ec_; clear en_))
                                              have GB34 := Aside0.mk gb34
                                              have GG34 := Aside0.mk HG34
                                              clear gb34 gl34 HG34
                                              (first | simp only [add_plain] at hx114_0 | skip)
                                              obtain ⟨hx34_0, hf34_0⟩ := Kd.R_celln false HO_7.out ((rd (rd_L1 x5_3 x8_2) x9_3) : Int) p34 q34
                                              replace p34 := eq_true p34
                                              replace q34 := eq_true q34
                                              have HP37 := Kd.R_putg HO_7.out ((rd (rd_L1 x5_3 x8_2) x9_3) : Int) true
                                              go_wp2_with (first | ((with_reducible refine gate_store (t := 4) (p := 92) rfl ?_); (try (rw [drewN_self wr]; generalize hq_ : World.drewN wr _ = wr; have n0_ := Aside0.mk (Kd.S_at hq_ HO_5.out); have n1_ := Aside0.mk (Kd.R_at hq_ HO_7.out); have n2_ := Aside0.mk (Kd.R_at hq_ HL111_0.out); have n3_ := Aside0.mk (Kd.R_at hq_ HL112_0.out); have n4_ := Aside0.mk (below_at hq_ HB.out); clear hq_ HO_5 HO_7 HL111_0 HL112_0 HB; have HO_5 := n0_; have HO_7 := n1_; have HL111_0 := n2_; have HL112_0 := n3_; have HB := n4_; clear n0_ n1_ n2_ n3_ n4_; (try (have HP37 := Kd.R_putg HO_7.out ((rd (rd_L1 x5_3 x8_2) x9_3) : Int) true)))); refine store_event (t := 4) (p := 92) (v := ?vo_w38) (w1 := (wr.setCell ⟨go34, ((rd (rd_L1 x5_3 x8_2) x9_3) : Int).toNat, none⟩ (.bool true))) ?hg ?ho ?hn ?hr ?_; (case ho => rfl); (case hg => rfl); (case hn => rfl); (case hr => first | (go_simp; done) | (go_simp; rfl)); intro w38 hw; have hg : wr.grownBy w38 (some go34) := (by rw [hw]; exact HP37.2); have hp_ : Kd.R Kd.bool 4 w38 w.heap.size (fun _ => True) (.slice (some ⟨go34, 0, none⟩) x7_3.length co36) y115 := (by rw [hw, Ny115.out]; exact HP37.1); clear HP37; have n0_ := Aside0.mk (Kd.S_over' (v := (.slice (some ⟨go34, 0, none⟩) x7_3.length co36)) (by (with_reducible repeat (first | apply Kd.S_alloc | apply Kd.S_drewN | apply Kd.S_drew)); exact HO_5.out) (Kd.R_typed HO_7.out) (by decide) hg); have n1_ := Aside0.mk (hp_); have n2_ := Aside0.mk (Kd.R_over' (v := (.slice (some ⟨go34, 0, none⟩) x7_3.length co36)) (by (with_reducible repeat (first | apply Kd.R_alloc | apply Kd.R_drewN | apply Kd.R_drew)); exact HL111_0.out) (Kd.R_typed HO_7.out) (by decide) hg); have n3_ := Aside0.mk (Kd.R_over' (v := (.slice (some ⟨go34, 0, none⟩) x7_3.length co36)) (by (with_reducible repeat (first | apply Kd.R_alloc | apply Kd.R_drewN | apply Kd.R_drew)); exact HL112_0.out) (Kd.R_typed HO_7.out) (by decide) hg); have n4_ := Aside0.mk ((by rw [hw]; exact below_set (HB.out) GB34.out : Below w.heap.size w w38)); clear HO_5; clear HO_7; clear HL111_0; clear HL112_0; clear HB; have HO_5 := n0_; have HO_7 := n1_; have HL111_0 := n2_; have HL112_0 := n3_; have HB := n4_; clear n0_ n1_ n2_ n3_ n4_; clear hg hw hp_; have p116 : 0 ≤ (x8_2 : Int) := of_decide_eq_true (by first | (with_reducible assumption) | assumption); have q116 : x8_2 < (x5_3.length : Int) := of_decide_eq_true (by first | (with_reducible assumption) | assumption); obtain ⟨ad116, A116_0, c116_0, e116, hx116_0, hl116_0, hi116_0⟩ := at_L1 (Kd.S_reads' HO_5.out).2.2 x8_2 p116 q116; obtain rfl : ad108 = ad116 := (by injection e116); obtain ⟨ce116, hce116, hMe116, hcc116⟩ := Kd.S_get HO_5.out [] x8_2 p116 (by first | exact q116 | exact of_decide_eq_true (by first | (with_reducible assumption) | assumption) | (have e_ := (Kd.S_reads' HO_5.out).1; omega)); obtain ⟨ve116_0, rfl, ge116_0⟩ := hMe116; have hv116_0 := hcc116 0 _ rfl; rw [Nat.add_zero, show ((Kd.slice 3 (Kd.int .i64))).sz = 1 from rfl, Nat.mul_one] at hv116_0; replace hv116_0 := Option.some.inj (hv116_0.symm.trans hx116_0); rw [hv116_0] at ge116_0; have HL116_0 := Aside0.mk (show Kd.R (Kd.int .i64) 3 _ _ _ _ (rd_L1 x5_3 x8_2) from ge116_0); clear hv116_0 ge116_0; have HX116_0 := Aside0.mk hx116_0; clear hcc116 hce116; have HR116_0 := Aside0.mk hi116_0; have HC116_0 := Aside0.mk hl116_0; clear hi116_0 hl116_0; replace p116 := eq_true p116; replace q116 := eq_true q116; have p35 : 0 ≤ (x9_3 : Int) := of_decide_eq_true (by first | (with_reducible assumption) | assumption); have q35 : (x9_3 : Int) < (((rd_L1 x5_3 x8_2).length : Int) : Int) := of_decide_eq_true (by first | (with_reducible assumption) | assumption); obtain ⟨go35, co35, eo35, gb35, gl35, cl35, HG35⟩ := Kd.R_form HL116_0.out (by omega); (first | cases eo35 | (injection eo35 with ea_ en_ ec_; (first | subst ea_ | (injection ea_ with ea_; subst ea_)); subst ec_; clear en_)); have GB35 := Aside0.mk gb35; have GG35 := Aside0.mk HG35; clear gb35 gl35 HG35; obtain ⟨hx35_0, hf35_0⟩ := Kd.R_celln 0 HL116_0.out (x9_3 : Int) p35 q35; replace p35 := eq_true p35; replace q35 := eq_true q35; have hq39 : (x8_2 : Int) < (x5_3.length : Int) := (by have h_ : (x8_2 : Int) < ((x5_3.length : Int) : Int) := of_decide_eq_true (by first | (with_reducible assumption) | assumption); first | exact h_ | (have e_ := (Kd.S_reads' HO_5.out).1; omega) | simpa only [List.length_set, List.length_set] using h_); obtain ⟨oki39, ce39, hcl39, hM39, hcc39, hok39, hbk39⟩ := Kd.S_borrow HO_5.out [] (x8_2 : Int) (of_decide_eq_true (by first | (with_reducible assumption) | assumption)) hq39; obtain ⟨ve39_0, rfl, ge39_0⟩ := hM39; have hv39 := hcc39 0 _ rfl; rw [Nat.add_zero, show ((Kd.slice 3 (Kd.int .i64))).sz = 1 from rfl, Nat.mul_one] at hv39; replace hv39 := Option.some.inj (hv39.symm.trans HX116_0.out); subst hv39; clear hcc39 hcl39; replace ge39_0 := (show Kd.R (Kd.int .i64) 3 _ _ _ _ (rd_L1 x5_3 x8_2) from ge39_0); have HP39 := Kd.R_putg ge39_0 (x9_3 : Int) (-1)) | ((with_reducible refine gate_store (t := 3) (p := 98) rfl ?_); (try (rw [drewN_self w38]; generalize hq_ : World.drewN w38 _ = w38; have n0_ := Aside0.mk (Kd.S_at hq_ HO_5.out); have n1_ := Aside0.mk (Kd.R_at hq_ HO_7.out); have n2_ := Aside0.mk (Kd.R_at hq_ HL127.out); have n3_ := Aside0.mk (below_at hq_ HB.out); clear hq_ HO_5 HO_7 HL127 HB; have HO_5 := n0_; have HO_7 := n1_; have HL127 := n2_; have HB := n3_; clear n0_ n1_ n2_ n3_; (try (have hq39 : (x8_2 : Int) < (x5_3.length : Int) := (by have h_ : (x8_2 : Int) < ((x5_3.length : Int) : Int) := of_decide_eq_true (by first | (with_reducible assumption) | assumption); first | exact h_ | (have e_ := (Kd.S_reads' HO_5.out).1; omega) | simpa only [List.length_set, List.length_set] using h_))); (try (obtain ⟨oki39, ce39, hcl39, hM39, hcc39, hok39, hbk39⟩ := Kd.S_borrow HO_5.out [] (x8_2 : Int) (of_decide_eq_true (by first | (with_reducible assumption) | assumption)) hq39)); (try (obtain ⟨ve39_0, rfl, ge39_0⟩ := hM39)); (try (have hv39 := hcc39 0 _ rfl)); (try (rw [Nat.add_zero, show ((Kd.slice 3 (Kd.int .i64))).sz = 1 from rfl, Nat.mul_one] at hv39)); (try (replace hv39 := Option.some.inj (hv39.symm.trans HX116_0.out))); (try (subst hv39)); (try (clear hcc39 hcl39)); (try (replace ge39_0 := (show Kd.R (Kd.int .i64) 3 _ _ _ _ (rd_L1 x5_3 x8_2) from ge39_0))); (try (have HP39 := Kd.R_putg ge39_0 (x9_3 : Int) (-1))))); refine store_event (t := 3) (p := 98) (v := ?vo_w40) (w1 := (w38.setCell ⟨go35, (x9_3 : Int).toNat, none⟩ (.int .i64 (-1)))) ?hg ?ho ?hn ?hr ?_; (case ho => rfl); (case hg => rfl); (case hn => rfl); (case hr => first | (go_simp; done) | (go_simp; rfl)); intro w40 hw; have hg : w38.grownBy w40 (some go35) := (by rw [hw]; exact HP39.2); have hz_ : Kd.R (Kd.int .i64) 3 w40 w.heap.size oki39 (.slice (some ⟨go35, 0, none⟩) (rd_L1 x5_3 x8_2).length c116_0) y117 := (by rw [hw, Ny117.out]; exact HP39.1); have hp_ : Kd.S (Kd.slice 3 (Kd.int .i64)) 31 w40 w.heap.size (fun _ => True) (.slice (some ad108) x5_3.length co21) y119 := (by rw [Ny119.out]; exact hbk39 hg (fun k_ e_ => by injection e_ with e_; subst e_; exact ge39_0.1 _ rfl) (Kd.M_row hz_)); have hm_ := Kd.R_mono hz_ hok39; clear HP39 hbk39; have n0_ := Aside0.mk (hp_); have n1_ := Aside0.mk (Kd.R_over' (v := (.slice (some ⟨go35, 0, none⟩) (rd_L1 x5_3 x8_2).length c116_0)) (by (with_reducible repeat (first | apply Kd.R_alloc | apply Kd.R_drewN | apply Kd.R_drew)); exact HO_7.out) (Kd.R_typed HL116_0.out) (by decide) hg); have n2_ := Aside0.mk ((by rw [hw]; exact below_set (HB.out) GB35.out : Below w.heap.size w w40)); have n3_ := Aside0.mk (hm_); have n4_ := Aside0.mk ((Kd.R_reads' hm_).2.1); clear HO_5; clear HO_7; clear HB; clear HL111_0; clear HL112_0; clear HL116_0; have HO_5 := n0_; have HO_7 := n1_; have HB := n2_; have HL127 := n3_; have HC118 := n4_; clear n0_ n1_ n2_ n3_ n4_; clear hg hw hp_ hz_ hm_ hok39))
                                              repeat (go_quiet (first | ((with_reducible refine gate_store (t := 4) (p := 92) rfl ?_); (try (rw [drewN_self wr]; generalize hq_ : World.drewN wr _ = wr; have n0_ := Aside0.mk (Kd.S_at hq_ HO_5.out); have n1_ := Aside0.mk (Kd.R_at hq_ HO_7.out); have n2_ := Aside0.mk (Kd.R_at hq_ HL111_0.out); have n3_ := Aside0.mk (Kd.R_at hq_ HL112_0.out); have n4_ := Aside0.mk (below_at hq_ HB.out); clear hq_ HO_5 HO_7 HL111_0 HL112_0 HB; have HO_5 := n0_; have HO_7 := n1_; have HL111_0 := n2_; have HL112_0 := n3_; have HB := n4_; clear n0_ n1_ n2_ n3_ n4_; (try (have HP37 := Kd.R_putg HO_7.out ((rd (rd_L1 x5_3 x8_2) x9_3) : Int) true)))); refine store_event (t := 4) (p := 92) (v := ?vo_w38) (w1 := (wr.setCell ⟨go34, ((rd (rd_L1 x5_3 x8_2) x9_3) : Int).toNat, none⟩ (.bool true))) ?hg ?ho ?hn ?hr ?_; (case ho => rfl); (case hg => rfl); (case hn => rfl); (case hr => first | (go_simp; done) | (go_simp; rfl)); intro w38 hw; have hg : wr.grownBy w38 (some go34) := (by rw [hw]; exact HP37.2); have hp_ : Kd.R Kd.bool 4 w38 w.heap.size (fun _ => True) (.slice (some ⟨go34, 0, none⟩) x7_3.length co36) y115 := (by rw [hw, Ny115.out]; exact HP37.1); clear HP37; have n0_ := Aside0.mk (Kd.S_over' (v := (.slice (some ⟨go34, 0, none⟩) x7_3.length co36)) (by (with_reducible repeat (first | apply Kd.S_alloc | apply Kd.S_drewN | apply Kd.S_drew)); exact HO_5.out) (Kd.R_typed HO_7.out) (by decide) hg); have n1_ := Aside0.mk (hp_); have n2_ := Aside0.mk (Kd.R_over' (v := (.slice (some ⟨go34, 0, none⟩) x7_3.length co36)) (by (with_reducible repeat (first | apply Kd.R_alloc | apply Kd.R_drewN | apply Kd.R_drew)); exact HL111_0.out) (Kd.R_typed HO_7.out) (by decide) hg); have n3_ := Aside0.mk (Kd.R_over' (v := (.slice (some ⟨go34, 0, none⟩) x7_3.length co36)) (by (with_reducible repeat (first | apply Kd.R_alloc | apply Kd.R_drewN | apply Kd.R_drew)); exact HL112_0.out) (Kd.R_typed HO_7.out) (by decide) hg); have n4_ := Aside0.mk ((by rw [hw]; exact below_set (HB.out) GB34.out : Below w.heap.size w w38)); clear HO_5; clear HO_7; clear HL111_0; clear HL112_0; clear HB; have HO_5 := n0_; have HO_7 := n1_; have HL111_0 := n2_; have HL112_0 := n3_; have HB := n4_; clear n0_ n1_ n2_ n3_ n4_; clear hg hw hp_; have p116 : 0 ≤ (x8_2 : Int) := of_decide_eq_true (by first | (with_reducible assumption) | assumption); have q116 : x8_2 < (x5_3.length : Int) := of_decide_eq_true (by first | (with_reducible assumption) | assumption); obtain ⟨ad116, A116_0, c116_0, e116, hx116_0, hl116_0, hi116_0⟩ := at_L1 (Kd.S_reads' HO_5.out).2.2 x8_2 p116 q116; obtain rfl : ad108 = ad116 := (by injection e116); obtain ⟨ce116, hce116, hMe116, hcc116⟩ := Kd.S_get HO_5.out [] x8_2 p116 (by first | exact q116 | exact of_decide_eq_true (by first | (with_reducible assumption) | assumption) | (have e_ := (Kd.S_reads' HO_5.out).1; omega)); obtain ⟨ve116_0, rfl, ge116_0⟩ := hMe116; have hv116_0 := hcc116 0 _ rfl; rw [Nat.add_zero, show ((Kd.slice 3 (Kd.int .i64))).sz = 1 from rfl, Nat.mul_one] at hv116_0; replace hv116_0 := Option.some.inj (hv116_0.symm.trans hx116_0); rw [hv116_0] at ge116_0; have HL116_0 := Aside0.mk (show Kd.R (Kd.int .i64) 3 _ _ _ _ (rd_L1 x5_3 x8_2) from ge116_0); clear hv116_0 ge116_0; have HX116_0 := Aside0.mk hx116_0; clear hcc116 hce116; have HR116_0 := Aside0.mk hi116_0; have HC116_0 := Aside0.mk hl116_0; clear hi116_0 hl116_0; replace p116 := eq_true p116; replace q116 := eq_true q116; have p35 : 0 ≤ (x9_3 : Int) := of_decide_eq_true (by first | (with_reducible assumption) | assumption); have q35 : (x9_3 : Int) < (((rd_L1 x5_3 x8_2).length : Int) : Int) := of_decide_eq_true (by first | (with_reducible assumption) | assumption); obtain ⟨go35, co35, eo35, gb35, gl35, cl35, HG35⟩ := Kd.R_form HL116_0.out (by omega); (first | cases eo35 | (injection eo35 with ea_ en_ ec_; (first | subst ea_ | (injection ea_ with ea_; subst ea_)); subst ec_; clear en_)); have GB35 := Aside0.mk gb35; have GG35 := Aside0.mk HG35; clear gb35 gl35 HG35; obtain ⟨hx35_0, hf35_0⟩ := Kd.R_celln 0 HL116_0.out (x9_3 : Int) p35 q35; replace p35 := eq_true p35; replace q35 := eq_true q35; have hq39 : (x8_2 : Int) < (x5_3.length : Int) := (by have h_ : (x8_2 : Int) < ((x5_3.length : Int) : Int) := of_decide_eq_true (by first | (with_reducible assumption) | assumption); first | exact h_ | (have e_ := (Kd.S_reads' HO_5.out).1; omega) | simpa only [List.length_set, List.length_set] using h_); obtain ⟨oki39, ce39, hcl39, hM39, hcc39, hok39, hbk39⟩ := Kd.S_borrow HO_5.out [] (x8_2 : Int) (of_decide_eq_true (by first | (with_reducible assumption) | assumption)) hq39; obtain ⟨ve39_0, rfl, ge39_0⟩ := hM39; have hv39 := hcc39 0 _ rfl; rw [Nat.add_zero, show ((Kd.slice 3 (Kd.int .i64))).sz = 1 from rfl, Nat.mul_one] at hv39; replace hv39 := Option.some.inj (hv39.symm.trans HX116_0.out); subst hv39; clear hcc39 hcl39; replace ge39_0 := (show Kd.R (Kd.int .i64) 3 _ _ _ _ (rd_L1 x5_3 x8_2) from ge39_0); have HP39 := Kd.R_putg ge39_0 (x9_3 : Int) (-1)) | ((with_reducible refine gate_store (t := 3) (p := 98) rfl ?_); (try (rw [drewN_self w38]; generalize hq_ : World.drewN w38 _ = w38; have n0_ := Aside0.mk (Kd.S_at hq_ HO_5.out); have n1_ := Aside0.mk (Kd.R_at hq_ HO_7.out); have n2_ := Aside0.mk (Kd.R_at hq_ HL127.out); have n3_ := Aside0.mk (below_at hq_ HB.out); clear hq_ HO_5 HO_7 HL127 HB; have HO_5 := n0_; have HO_7 := n1_; have HL127 := n2_; have HB := n3_; clear n0_ n1_ n2_ n3_; (try (have hq39 : (x8_2 : Int) < (x5_3.length : Int) := (by have h_ : (x8_2 : Int) < ((x5_3.length : Int) : Int) := of_decide_eq_true (by first | (with_reducible assumption) | assumption); first | exact h_ | (have e_ := (Kd.S_reads' HO_5.out).1; omega) | simpa only [List.length_set, List.length_set] using h_))); (try (obtain ⟨oki39, ce39, hcl39, hM39, hcc39, hok39, hbk39⟩ := Kd.S_borrow HO_5.out [] (x8_2 : Int) (of_decide_eq_true (by first | (with_reducible assumption) | assumption)) hq39)); (try (obtain ⟨ve39_0, rfl, ge39_0⟩ := hM39)); (try (have hv39 := hcc39 0 _ rfl)); (try (rw [Nat.add_zero, show ((Kd.slice 3 (Kd.int .i64))).sz = 1 from rfl, Nat.mul_one] at hv39)); (try (replace hv39 := Option.some.inj (hv39.symm.trans HX116_0.out))); (try (subst hv39)); (try (clear hcc39 hcl39)); (try (replace ge39_0 := (show Kd.R (Kd.int .i64) 3 _ _ _ _ (rd_L1 x5_3 x8_2) from ge39_0))); (try (have HP39 := Kd.R_putg ge39_0 (x9_3 : Int) (-1))))); refine store_event (t := 3) (p := 98) (v := ?vo_w40) (w1 := (w38.setCell ⟨go35, (x9_3 : Int).toNat, none⟩ (.int .i64 (-1)))) ?hg ?ho ?hn ?hr ?_; (case ho => rfl); (case hg => rfl); (case hn => rfl); (case hr => first | (go_simp; done) | (go_simp; rfl)); intro w40 hw; have hg : w38.grownBy w40 (some go35) := (by rw [hw]; exact HP39.2); have hz_ : Kd.R (Kd.int .i64) 3 w40 w.heap.size oki39 (.slice (some ⟨go35, 0, none⟩) (rd_L1 x5_3 x8_2).length c116_0) y117 := (by rw [hw, Ny117.out]; exact HP39.1); have hp_ : Kd.S (Kd.slice 3 (Kd.int .i64)) 31 w40 w.heap.size (fun _ => True) (.slice (some ad108) x5_3.length co21) y119 := (by rw [Ny119.out]; exact hbk39 hg (fun k_ e_ => by injection e_ with e_; subst e_; exact ge39_0.1 _ rfl) (Kd.M_row hz_)); have hm_ := Kd.R_mono hz_ hok39; clear HP39 hbk39; have n0_ := Aside0.mk (hp_); have n1_ := Aside0.mk (Kd.R_over' (v := (.slice (some ⟨go35, 0, none⟩) (rd_L1 x5_3 x8_2).length c116_0)) (by (with_reducible repeat (first | apply Kd.R_alloc | apply Kd.R_drewN | apply Kd.R_drew)); exact HO_7.out) (Kd.R_typed HL116_0.out) (by decide) hg); have n2_ := Aside0.mk ((by rw [hw]; exact below_set (HB.out) GB35.out : Below w.heap.size w w40)); have n3_ := Aside0.mk (hm_); have n4_ := Aside0.mk ((Kd.R_reads' hm_).2.1); clear HO_5; clear HO_7; clear HB; clear HL111_0; clear HL112_0; clear HL116_0; have HO_5 := n0_; have HO_7 := n1_; have HB := n2_; have HL127 := n3_; have HC118 := n4_; clear n0_ n1_ n2_ n3_ n4_; clear hg hw hp_ hz_ hm_ hok39)); try go_wp2_with (first | ((with_reducible refine gate_store (t := 4) (p := 92) rfl ?_); (try (rw [drewN_self wr]; generalize hq_ : World.drewN wr _ = wr; have n0_ := Aside0.mk (Kd.S_at hq_ HO_5.out); have n1_ := Aside0.mk (Kd.R_at hq_ HO_7.out); have n2_ := Aside0.mk (Kd.R_at hq_ HL111_0.out); have n3_ := Aside0.mk (Kd.R_at hq_ HL112_0.out); have n4_ := Aside0.mk (below_at hq_ HB.out); clear hq_ HO_5 HO_7 HL111_0 HL112_0 HB; have HO_5 := n0_; have HO_7 := n1_; have HL111_0 := n2_; have HL112_0 := n3_; have HB := n4_; clear n0_ n1_ n2_ n3_ n4_; (try (have HP37 := Kd.R_putg HO_7.out ((rd (rd_L1 x5_3 x8_2) x9_3) : Int) true)))); refine store_event (t := 4) (p := 92) (v := ?vo_w38) (w1 := (wr.setCell ⟨go34, ((rd (rd_L1 x5_3 x8_2) x9_3) : Int).toNat, none⟩ (.bool true))) ?hg ?ho ?hn ?hr ?_; (case ho => rfl); (case hg => rfl); (case hn => rfl); (case hr => first | (go_simp; done) | (go_simp; rfl)); intro w38 hw; have hg : wr.grownBy w38 (some go34) := (by rw [hw]; exact HP37.2); have hp_ : Kd.R Kd.bool 4 w38 w.heap.size (fun _ => True) (.slice (some ⟨go34, 0, none⟩) x7_3.length co36) y115 := (by rw [hw, Ny115.out]; exact HP37.1); clear HP37; have n0_ := Aside0.mk (Kd.S_over' (v := (.slice (some ⟨go34, 0, none⟩) x7_3.length co36)) (by (with_reducible repeat (first | apply Kd.S_alloc | apply Kd.S_drewN | apply Kd.S_drew)); exact HO_5.out) (Kd.R_typed HO_7.out) (by decide) hg); have n1_ := Aside0.mk (hp_); have n2_ := Aside0.mk (Kd.R_over' (v := (.slice (some ⟨go34, 0, none⟩) x7_3.length co36)) (by (with_reducible repeat (first | apply Kd.R_alloc | apply Kd.R_drewN | apply Kd.R_drew)); exact HL111_0.out) (Kd.R_typed HO_7.out) (by decide) hg); have n3_ := Aside0.mk (Kd.R_over' (v := (.slice (some ⟨go34, 0, none⟩) x7_3.length co36)) (by (with_reducible repeat (first | apply Kd.R_alloc | apply Kd.R_drewN | apply Kd.R_drew)); exact HL112_0.out) (Kd.R_typed HO_7.out) (by decide) hg); have n4_ := Aside0.mk ((by rw [hw]; exact below_set (HB.out) GB34.out : Below w.heap.size w w38)); clear HO_5; clear HO_7; clear HL111_0; clear HL112_0; clear HB; have HO_5 := n0_; have HO_7 := n1_; have HL111_0 := n2_; have HL112_0 := n3_; have HB := n4_; clear n0_ n1_ n2_ n3_ n4_; clear hg hw hp_; have p116 : 0 ≤ (x8_2 : Int) := of_decide_eq_true (by first | (with_reducible assumption) | assumption); have q116 : x8_2 < (x5_3.length : Int) := of_decide_eq_true (by first | (with_reducible assumption) | assumption); obtain ⟨ad116, A116_0, c116_0, e116, hx116_0, hl116_0, hi116_0⟩ := at_L1 (Kd.S_reads' HO_5.out).2.2 x8_2 p116 q116; obtain rfl : ad108 = ad116 := (by injection e116); obtain ⟨ce116, hce116, hMe116, hcc116⟩ := Kd.S_get HO_5.out [] x8_2 p116 (by first | exact q116 | exact of_decide_eq_true (by first | (with_reducible assumption) | assumption) | (have e_ := (Kd.S_reads' HO_5.out).1; omega)); obtain ⟨ve116_0, rfl, ge116_0⟩ := hMe116; have hv116_0 := hcc116 0 _ rfl; rw [Nat.add_zero, show ((Kd.slice 3 (Kd.int .i64))).sz = 1 from rfl, Nat.mul_one] at hv116_0; replace hv116_0 := Option.some.inj (hv116_0.symm.trans hx116_0); rw [hv116_0] at ge116_0; have HL116_0 := Aside0.mk (show Kd.R (Kd.int .i64) 3 _ _ _ _ (rd_L1 x5_3 x8_2) from ge116_0); clear hv116_0 ge116_0; have HX116_0 := Aside0.mk hx116_0; clear hcc116 hce116; have HR116_0 := Aside0.mk hi116_0; have HC116_0 := Aside0.mk hl116_0; clear hi116_0 hl116_0; replace p116 := eq_true p116; replace q116 := eq_true q116; have p35 : 0 ≤ (x9_3 : Int) := of_decide_eq_true (by first | (with_reducible assumption) | assumption); have q35 : (x9_3 : Int) < (((rd_L1 x5_3 x8_2).length : Int) : Int) := of_decide_eq_true (by first | (with_reducible assumption) | assumption); obtain ⟨go35, co35, eo35, gb35, gl35, cl35, HG35⟩ := Kd.R_form HL116_0.out (by omega); (first | cases eo35 | (injection eo35 with ea_ en_ ec_; (first | subst ea_ | (injection ea_ with ea_; subst ea_)); subst ec_; clear en_)); have GB35 := Aside0.mk gb35; have GG35 := Aside0.mk HG35; clear gb35 gl35 HG35; obtain ⟨hx35_0, hf35_0⟩ := Kd.R_celln 0 HL116_0.out (x9_3 : Int) p35 q35; replace p35 := eq_true p35; replace q35 := eq_true q35; have hq39 : (x8_2 : Int) < (x5_3.length : Int) := (by have h_ : (x8_2 : Int) < ((x5_3.length : Int) : Int) := of_decide_eq_true (by first | (with_reducible assumption) | assumption); first | exact h_ | (have e_ := (Kd.S_reads' HO_5.out).1; omega) | simpa only [List.length_set, List.length_set] using h_); obtain ⟨oki39, ce39, hcl39, hM39, hcc39, hok39, hbk39⟩ := Kd.S_borrow HO_5.out [] (x8_2 : Int) (of_decide_eq_true (by first | (with_reducible assumption) | assumption)) hq39; obtain ⟨ve39_0, rfl, ge39_0⟩ := hM39; have hv39 := hcc39 0 _ rfl; rw [Nat.add_zero, show ((Kd.slice 3 (Kd.int .i64))).sz = 1 from rfl, Nat.mul_one] at hv39; replace hv39 := Option.some.inj (hv39.symm.trans HX116_0.out); subst hv39; clear hcc39 hcl39; replace ge39_0 := (show Kd.R (Kd.int .i64) 3 _ _ _ _ (rd_L1 x5_3 x8_2) from ge39_0); have HP39 := Kd.R_putg ge39_0 (x9_3 : Int) (-1)) | ((with_reducible refine gate_store (t := 3) (p := 98) rfl ?_); (try (rw [drewN_self w38]; generalize hq_ : World.drewN w38 _ = w38; have n0_ := Aside0.mk (Kd.S_at hq_ HO_5.out); have n1_ := Aside0.mk (Kd.R_at hq_ HO_7.out); have n2_ := Aside0.mk (Kd.R_at hq_ HL127.out); have n3_ := Aside0.mk (below_at hq_ HB.out); clear hq_ HO_5 HO_7 HL127 HB; have HO_5 := n0_; have HO_7 := n1_; have HL127 := n2_; have HB := n3_; clear n0_ n1_ n2_ n3_; (try (have hq39 : (x8_2 : Int) < (x5_3.length : Int) := (by have h_ : (x8_2 : Int) < ((x5_3.length : Int) : Int) := of_decide_eq_true (by first | (with_reducible assumption) | assumption); first | exact h_ | (have e_ := (Kd.S_reads' HO_5.out).1; omega) | simpa only [List.length_set, List.length_set] using h_))); (try (obtain ⟨oki39, ce39, hcl39, hM39, hcc39, hok39, hbk39⟩ := Kd.S_borrow HO_5.out [] (x8_2 : Int) (of_decide_eq_true (by first | (with_reducible assumption) | assumption)) hq39)); (try (obtain ⟨ve39_0, rfl, ge39_0⟩ := hM39)); (try (have hv39 := hcc39 0 _ rfl)); (try (rw [Nat.add_zero, show ((Kd.slice 3 (Kd.int .i64))).sz = 1 from rfl, Nat.mul_one] at hv39)); (try (replace hv39 := Option.some.inj (hv39.symm.trans HX116_0.out))); (try (subst hv39)); (try (clear hcc39 hcl39)); (try (replace ge39_0 := (show Kd.R (Kd.int .i64) 3 _ _ _ _ (rd_L1 x5_3 x8_2) from ge39_0))); (try (have HP39 := Kd.R_putg ge39_0 (x9_3 : Int) (-1))))); refine store_event (t := 3) (p := 98) (v := ?vo_w40) (w1 := (w38.setCell ⟨go35, (x9_3 : Int).toNat, none⟩ (.int .i64 (-1)))) ?hg ?ho ?hn ?hr ?_; (case ho => rfl); (case hg => rfl); (case hn => rfl); (case hr => first | (go_simp; done) | (go_simp; rfl)); intro w40 hw; have hg : w38.grownBy w40 (some go35) := (by rw [hw]; exact HP39.2); have hz_ : Kd.R (Kd.int .i64) 3 w40 w.heap.size oki39 (.slice (some ⟨go35, 0, none⟩) (rd_L1 x5_3 x8_2).length c116_0) y117 := (by rw [hw, Ny117.out]; exact HP39.1); have hp_ : Kd.S (Kd.slice 3 (Kd.int .i64)) 31 w40 w.heap.size (fun _ => True) (.slice (some ad108) x5_3.length co21) y119 := (by rw [Ny119.out]; exact hbk39 hg (fun k_ e_ => by injection e_ with e_; subst e_; exact ge39_0.1 _ rfl) (Kd.M_row hz_)); have hm_ := Kd.R_mono hz_ hok39; clear HP39 hbk39; have n0_ := Aside0.mk (hp_); have n1_ := Aside0.mk (Kd.R_over' (v := (.slice (some ⟨go35, 0, none⟩) (rd_L1 x5_3 x8_2).length c116_0)) (by (with_reducible repeat (first | apply Kd.R_alloc | apply Kd.R_drewN | apply Kd.R_drew)); exact HO_7.out) (Kd.R_typed HL116_0.out) (by decide) hg); have n2_ := Aside0.mk ((by rw [hw]; exact below_set (HB.out) GB35.out : Below w.heap.size w w40)); have n3_ := Aside0.mk (hm_); have n4_ := Aside0.mk ((Kd.R_reads' hm_).2.1); clear HO_5; clear HO_7; clear HB; clear HL111_0; clear HL112_0; clear HL116_0; have HO_5 := n0_; have HO_7 := n1_; have HB := n2_; have HL127 := n3_; have HC118 := n4_; clear n0_ n1_ n2_ n3_ n4_; clear hg hw hp_ hz_ hm_ hok39)))
                                              (try simp only [← hl5_3])
                                              go_roundg k3
                                              case measure => have := HJ4.out; have := HK2.out; have := HK3.out; omega
                                              case rel => exact ⟨(y119), (y115), (wrap64 (x9_3 + 1)), (by first | rfl | (simp; done) | (simp [*]; done)), H', ⟨by have := HJ4.out; have := HK2.out; have := HK3.out; omega⟩, ⟨by (try simp only [hl5_3]); (with_reducible repeat (first | apply Kd.S_alloc | apply Kd.S_drewN | apply Kd.S_drew)); exact HO_5.out⟩, ⟨by (try simp only [hl5_3]); (with_reducible repeat (first | apply Kd.R_alloc | apply Kd.R_drewN | apply Kd.R_drew)); exact HO_7.out⟩, ⟨by repeat (first | (with_reducible first | exact HB.out | apply below_alloc | apply pw_below_drewN | apply below_drew1) | exact HB.out)⟩⟩
                                          · rw [if_neg c30] at H
                                            exact absurd H (by simp)
                                        · rw [if_neg c29] at H
                                          exact absurd H (by simp)
                                  · rw [if_neg c25] at H
                                    exact absurd H (by simp)
                                · rw [if_neg c24] at H
                                  have c24b0 : decide (x9_3 < ((rd_L1 x5_3 x8_2).length : Int)) = false := decide_eq_false c24
                                  clear c24
                                  have H' := Aside0.mk H
                                  clear H
                                  have p111 : 0 ≤ (x8_2 : Int) := of_decide_eq_true (by first | (with_reducible assumption) | assumption)
                                  have q111 : x8_2 < (x5_3.length : Int) := of_decide_eq_true (by first | (with_reducible assumption) | assumption)
                                  obtain ⟨ad111, A111_0, c111_0, e111, hx111_0, hl111_0, hi111_0⟩ := at_L1 (Kd.S_reads' HO_5.out).2.2 x8_2 p111 q111
                                  obtain rfl : ad108 = ad111 := (by injection e111)
                                  obtain ⟨ce111, hce111, hMe111, hcc111⟩ := Kd.S_get HO_5.out [] x8_2 p111 (by first | exact q111 | exact of_decide_eq_true (by first | (with_reducible assumption) | assumption) | (have e_ := (Kd.S_reads' HO_5.out).1; omega))
                                  obtain ⟨ve111_0, rfl, ge111_0⟩ := hMe111
                                  have hv111_0 := hcc111 0 _ rfl
                                  rw [Nat.add_zero, show ((Kd.slice 3 (Kd.int .i64))).sz = 1 from rfl, Nat.mul_one] at hv111_0
                                  replace hv111_0 := Option.some.inj (hv111_0.symm.trans hx111_0)
                                  rw [hv111_0] at ge111_0
                                  have HL111_0 := Aside0.mk (show Kd.R (Kd.int .i64) 3 _ _ _ _ (rd_L1 x5_3 x8_2) from ge111_0)
                                  clear hv111_0 ge111_0
                                  have HX111_0 := Aside0.mk hx111_0
                                  clear hcc111 hce111
                                  have HR111_0 := Aside0.mk hi111_0
                                  have HC111_0 := Aside0.mk hl111_0
                                  clear hi111_0 hl111_0
                                  replace p111 := eq_true p111
                                  replace q111 := eq_true q111
                                  go_wp2
                                  repeat (go_quiet (fail); try go_wp2)
                                  (try simp only [← hl5_3])
                                  go_roundg k3
                                  case measure => have := HJ4.out; have := HK2.out; have := HK3.out; omega
                                  case rel => exact ⟨(x5_3), (x7_3), (wrap64 (x8_2 + 1)), (by first | rfl | (simp; done) | (simp [*]; done)), H', ⟨by have := HJ4.out; have := HK2.out; have := HK3.out; omega⟩, ⟨by (try simp only [hl5_3]); (with_reducible repeat (first | apply Kd.S_alloc | apply Kd.S_drewN | apply Kd.S_drew)); exact HO_5.out⟩, ⟨by (try simp only [hl5_3]); (with_reducible repeat (first | apply Kd.R_alloc | apply Kd.R_drewN | apply Kd.R_drew)); exact HO_7.out⟩, ⟨by repeat (first | (with_reducible first | exact HB.out | apply below_alloc | apply pw_below_drewN | apply below_drew1) | exact HB.out)⟩⟩
                              · rw [if_neg c23] at H
                                exact absurd H (by simp)
                            · rw [if_neg c22] at H
                              exact absurd H (by simp)
                      · replace c20 := Bool.eq_false_iff.mpr c20
                        subst c20
                        have H1 : (some false) = some r := by rw [if_neg (show ¬ (false = true) by decide)] at H; exact H
                        clear H
                        have H := H1
                        clear H1
                        exact absurd (H.trans (congrArg some HT.out)) (by decide)
                    · rw [if_neg c18] at H
                      exact absurd H (by simp)
                  · rw [if_neg c17] at H
                    exact absurd H (by simp)
                · rw [if_neg c16] at H
                  have c16b0 : decide (x8_2 < (x5_2.length : Int)) = false := decide_eq_false c16
                  clear c16
                  replace H := Option.bind_eq_some_iff.mp H
                  obtain ⟨⟨t120, t121⟩, A420, H⟩ := H
                  replace H : (halidelaw13_DitherTables.l2 k2 l1 t120 0) = some r := H
                  have A42 := Aside0.mk A420
                  clear A420
                  have H' := Aside0.mk H
                  clear H
                  obtain ⟨Ao43, co43, eo43⟩ := Kd.S_slice HO_5.out
                  subst eo43
                  go_wp2_with (first | (go_at_call 12; (with_reducible refine (dither_Table.calls a0 t120 t121 _ A42.out).mono ?_); rintro e w44 ⟨v122, rfl, ho0, hb⟩; have n0_ := Aside0.mk (Kd.S_elder' (by (with_reducible repeat (first | apply Kd.S_alloc | apply Kd.S_drewN | apply Kd.S_drew)); exact HO_5.out) (Kd.S_base ho0) hb); have n1_ := Aside0.mk (Kd.R_below (by (with_reducible repeat (first | apply Kd.R_alloc | apply Kd.R_drewN | apply Kd.R_drew)); exact HO_7.out) hb); have n2_ := Aside0.mk (Kd.S_lower (Kd.S_new' ho0 (Kd.S_lt (by (with_reducible repeat (first | apply Kd.S_alloc | apply Kd.S_drewN | apply Kd.S_drew)); exact HO_5.out))) (below_size (by repeat (first | (with_reducible first | exact HB.out | apply below_alloc | apply pw_below_drewN | apply below_drew1) | exact HB.out)))); have n3_ := Aside0.mk (below_step (by repeat (first | (with_reducible first | exact HB.out | apply below_alloc | apply pw_below_drewN | apply below_drew1) | exact HB.out)) hb); clear HO_5; clear HO_7; clear HB; have HO_5 := n0_; have HO_7 := n1_; have HO123 := n2_; have HB := n3_; clear n0_ n1_ n2_ n3_; (try clear hb); (try clear hb2); (try clear hk); (try clear hi); (try clear ho0)))
                  repeat (go_quiet (first | (go_at_call 12; (with_reducible refine (dither_Table.calls a0 t120 t121 _ A42.out).mono ?_); rintro e w44 ⟨v122, rfl, ho0, hb⟩; have n0_ := Aside0.mk (Kd.S_elder' (by (with_reducible repeat (first | apply Kd.S_alloc | apply Kd.S_drewN | apply Kd.S_drew)); exact HO_5.out) (Kd.S_base ho0) hb); have n1_ := Aside0.mk (Kd.R_below (by (with_reducible repeat (first | apply Kd.R_alloc | apply Kd.R_drewN | apply Kd.R_drew)); exact HO_7.out) hb); have n2_ := Aside0.mk (Kd.S_lower (Kd.S_new' ho0 (Kd.S_lt (by (with_reducible repeat (first | apply Kd.S_alloc | apply Kd.S_drewN | apply Kd.S_drew)); exact HO_5.out))) (below_size (by repeat (first | (with_reducible first | exact HB.out | apply below_alloc | apply pw_below_drewN | apply below_drew1) | exact HB.out)))); have n3_ := Aside0.mk (below_step (by repeat (first | (with_reducible first | exact HB.out | apply below_alloc | apply pw_below_drewN | apply below_drew1) | exact HB.out)) hb); clear HO_5; clear HO_7; clear HB; have HO_5 := n0_; have HO_7 := n1_; have HO123 := n2_; have HB := n3_; clear n0_ n1_ n2_ n3_; (try clear hb); (try clear hb2); (try clear hk); (try clear hi); (try clear ho0))); try go_wp2_with (first | (go_at_call 12; (with_reducible refine (dither_Table.calls a0 t120 t121 _ A42.out).mono ?_); rintro e w44 ⟨v122, rfl, ho0, hb⟩; have n0_ := Aside0.mk (Kd.S_elder' (by (with_reducible repeat (first | apply Kd.S_alloc | apply Kd.S_drewN | apply Kd.S_drew)); exact HO_5.out) (Kd.S_base ho0) hb); have n1_ := Aside0.mk (Kd.R_below (by (with_reducible repeat (first | apply Kd.R_alloc | apply Kd.R_drewN | apply Kd.R_drew)); exact HO_7.out) hb); have n2_ := Aside0.mk (Kd.S_lower (Kd.S_new' ho0 (Kd.S_lt (by (with_reducible repeat (first | apply Kd.S_alloc | apply Kd.S_drewN | apply Kd.S_drew)); exact HO_5.out))) (below_size (by repeat (first | (with_reducible first | exact HB.out | apply below_alloc | apply pw_below_drewN | apply below_drew1) | exact HB.out)))); have n3_ := Aside0.mk (below_step (by repeat (first | (with_reducible first | exact HB.out | apply below_alloc | apply pw_below_drewN | apply below_drew1) | exact HB.out)) hb); clear HO_5; clear HO_7; clear HB; have HO_5 := n0_; have HO_7 := n1_; have HO123 := n2_; have HB := n3_; clear n0_ n1_ n2_ n3_; (try clear hb); (try clear hb2); (try clear hk); (try clear hi); (try clear ho0))))
                  go_loopg [13] k2 (fun kq v13 w' => ∃ (x13_3 : Int), v13 = .int .i64 x13_3 ∧ Aside0 (halidelaw13_DitherTables.l2 kq l1 t120 x13_3 = some r) ∧ Aside0 (kq ≤ k2) ∧ Aside0 (Kd.S (Kd.slice 3 (Kd.int .i64)) 31 w' w.heap.size (fun _ => True) v122 t120) ∧ Aside0 (Below w.heap.size w w'))
                  case atStart => exact ⟨(0), (by first | rfl | (simp; done) | (simp [*]; done)), H', ⟨Nat.le_refl _⟩, ⟨by (with_reducible repeat (first | apply Kd.S_alloc | apply Kd.S_drewN | apply Kd.S_drew)); exact Kd.S_mono HO123.out (fun _ hk => trivial)⟩, ⟨by repeat (first | (with_reducible first | exact HB.out | apply below_alloc | apply pw_below_drewN | apply below_drew1) | exact HB.out)⟩⟩
                  case round =>
                    clear H'
                    try clear c1
                    try clear p1
                    try clear q1
                    try clear hx1
                    try clear c2
                    try clear p2
                    try clear c3
                    try clear p3
                    try clear q3
                    try clear hx3
                    try clear hf3
                    try clear p6
                    try clear c7
                    try clear c7b0
                    try clear c7b1
                    try clear c9
                    try clear c10
                    try clear p10
                    try clear q10
                    try clear hx10
                    try clear c11
                    try clear p11
                    try clear q11
                    try clear hx11
                    try clear c12
                    try clear c12b0
                    try clear c12b1
                    try clear c13
                    try clear c13b0
                    try clear c13b1
                    try clear c16
                    try clear c16b0
                    try clear c17
                    try clear c17b0
                    try clear c18
                    try clear c18b0
                    try clear c20
                    try clear c22
                    try clear c22b0
                    try clear c23
                    try clear c23b0
                    try clear c24
                    try clear c24b0
                    try clear c25
                    try clear c25b0
                    try clear c26
                    try clear c26b0
                    try clear c27
                    try clear c27b0
                    try clear c29
                    try clear c29b0
                    try clear c30
                    try clear c30b0
                    try clear q31
                    try clear c32
                    try clear p34
                    try clear q34
                    try clear hx34
                    try clear hf34
                    try clear p35
                    try clear q35
                    try clear hx35
                    try clear hf35
                    try clear c39
                    try clear q39
                    try clear hx108_0
                    try clear hx109_0
                    try clear hx111_0
                    try clear hx112_0
                    try clear hx113_0
                    try clear hx114_0
                    try clear hx116_0
                    try clear hx34_0
                    try clear hx35_0
                    try clear p1
                    try clear p10
                    try clear p108
                    try clear p109
                    try clear p111
                    try clear p112
                    try clear p113
                    try clear p114
                    try clear p116
                    try clear p2
                    try clear p34
                    try clear p35
                    try clear p6
                    try clear q1
                    try clear q10
                    try clear q108
                    try clear q109
                    try clear q111
                    try clear q112
                    try clear q113
                    try clear q114
                    try clear q116
                    try clear q34
                    try clear q35
                    obtain ⟨x13_3, rfl, HA, HK3, HO_11, HB⟩ := hrel
                    cases gk with
                    | zero => exact absurd HA.out (by simp [halidelaw13_DitherTables.l2])
                    | succ k3 =>
                      have H := HA.out
                      clear HA
                      simp only [halidelaw13_DitherTables.l2] at H
                      by_cases c45 : x13_3 < (t120.length : Int)
                      · rw [if_pos c45] at H
                        have c45b0 : decide (x13_3 < (t120.length : Int)) = true := decide_eq_true c45
                        clear c45
                        by_cases c46 : 0 ≤ x13_3
                        · rw [if_pos c46] at H
                          have c46b0 : decide (0 ≤ x13_3) = true := decide_eq_true c46
                          clear c46
                          by_cases c47 : x13_3 < (l1.length : Int)
                          · rw [if_pos c47] at H
                            have c47b0 : decide (x13_3 < (l1.length : Int)) = true := decide_eq_true c47
                            clear c47
                            replace H := Option.bind_eq_some_iff.mp H
                            obtain ⟨t126, A480, H⟩ := H
                            replace H : (if t126 = true then (halidelaw13_DitherTables.l2 k3 l1 t120 (wrap64 (x13_3 + 1))) else (some false)) = some r := H
                            have A48 := Aside0.mk A480
                            clear A480
                            by_cases c49 : t126 = true
                            · subst c49
                              have H1 : (halidelaw13_DitherTables.l2 k3 l1 t120 (wrap64 (x13_3 + 1))) = some r := by rw [if_pos rfl] at H; exact H
                              clear H
                              have H := H1
                              clear H1
                              have H' := Aside0.mk H
                              clear H
                              obtain ⟨Ao50, co50, eo50⟩ := Kd.S_slice HO_11.out
                              subst eo50
                              have p124 : 0 ≤ (x13_3 : Int) := of_decide_eq_true (by first | (with_reducible assumption) | assumption)
                              have q124 : x13_3 < (t120.length : Int) := of_decide_eq_true (by first | (with_reducible assumption) | assumption)
                              obtain ⟨ad124, A124_0, c124_0, e124, hx124_0, hl124_0, hi124_0⟩ := at_L1 (Kd.S_reads' HO_11.out).2.2 x13_3 p124 q124
                              cases e124
                              obtain ⟨ce124, hce124, hMe124, hcc124⟩ := Kd.S_get HO_11.out [] x13_3 p124 (by first | exact q124 | exact of_decide_eq_true (by first | (with_reducible assumption) | assumption) | (have e_ := (Kd.S_reads' HO_11.out).1; omega))
                              obtain ⟨ve124_0, rfl, ge124_0⟩ := hMe124
                              have hv124_0 := hcc124 0 _ rfl
                              rw [Nat.add_zero, show ((Kd.slice 3 (Kd.int .i64))).sz = 1 from rfl, Nat.mul_one] at hv124_0
                              replace hv124_0 := Option.some.inj (hv124_0.symm.trans hx124_0)
                              rw [hv124_0] at ge124_0
                              have HL124_0 := Aside0.mk (show Kd.R (Kd.int .i64) 3 _ _ _ _ (rd_L1 t120 x13_3) from ge124_0)
                              clear hv124_0 ge124_0
                              have HX124_0 := Aside0.mk hx124_0
                              clear hcc124 hce124
                              have HR124_0 := Aside0.mk hi124_0
                              have HC124_0 := Aside0.mk hl124_0
                              clear hi124_0 hl124_0
                              replace p124 := eq_true p124
                              replace q124 := eq_true q124
                              have p125 : 0 ≤ (x13_3 : Int) := of_decide_eq_true (by first | (with_reducible assumption) | assumption)
                              have q125 : x13_3 < (l1.length : Int) := of_decide_eq_true (by first | (with_reducible assumption) | assumption)
                              obtain ⟨ad125, A125_0, c125_0, e125, hx125_0, hl125_0, hi125_0⟩ := at_L1 HR1.out x13_3 p125 q125
                              cases e125
                              replace hx125_0 := (HB.out.cell (World.block_lt_of_cell? w _ hx125_0)).trans hx125_0
                              have HR125_0 := Aside0.mk hi125_0
                              have HC125_0 := Aside0.mk hl125_0
                              clear hi125_0 hl125_0
                              replace p125 := eq_true p125
                              replace q125 := eq_true q125
                              go_wp2_with (first | (go_at_call 13; (with_reducible refine (halidehelp_Ints.calls k3 _ _ (rd_L1 t120 x13_3) _ _ (rd_L1 l1 x13_3) true _ ?side1 ?side2 ?side3 ?side4 A48.out).mono ?_); (case side1 => repeat (first | exact (by repeat (first | (with_reducible exact HR124_0.out) | (with_reducible refine Kd.C_alloc ?_ _) | (with_reducible refine Kd.C_drewN ?_ _) | (with_reducible refine Kd.C_drew ?_) | exact HR124_0.out)) | (with_reducible refine Kd.C_alloc ?_ _) | (with_reducible refine Kd.C_drewN ?_ _) | (with_reducible refine Kd.C_drew ?_))); (case side2 => exact HC124_0.out); (case side3 => repeat (first | exact (Kd.C_below HR125_0.out HB.out) | (with_reducible refine Kd.C_alloc ?_ _) | (with_reducible refine Kd.C_drewN ?_ _) | (with_reducible refine Kd.C_drew ?_))); (case side4 => exact HC125_0.out); rintro e w' ⟨rfl, ⟨nd, rfl⟩⟩; (try first | exact ⟨rfl, _, World.drewN_drewN _ _ _⟩ | exact ⟨rfl, _, Eq.trans (World.drewN_drewN _ _ _) (congrArg (World.drewN _) (Nat.add_assoc _ _ _))⟩)))
                              repeat (go_quiet (first | (go_at_call 13; (with_reducible refine (halidehelp_Ints.calls k3 _ _ (rd_L1 t120 x13_3) _ _ (rd_L1 l1 x13_3) true _ ?side1 ?side2 ?side3 ?side4 A48.out).mono ?_); (case side1 => repeat (first | exact (by repeat (first | (with_reducible exact HR124_0.out) | (with_reducible refine Kd.C_alloc ?_ _) | (with_reducible refine Kd.C_drewN ?_ _) | (with_reducible refine Kd.C_drew ?_) | exact HR124_0.out)) | (with_reducible refine Kd.C_alloc ?_ _) | (with_reducible refine Kd.C_drewN ?_ _) | (with_reducible refine Kd.C_drew ?_))); (case side2 => exact HC124_0.out); (case side3 => repeat (first | exact (Kd.C_below HR125_0.out HB.out) | (with_reducible refine Kd.C_alloc ?_ _) | (with_reducible refine Kd.C_drewN ?_ _) | (with_reducible refine Kd.C_drew ?_))); (case side4 => exact HC125_0.out); rintro e w' ⟨rfl, ⟨nd, rfl⟩⟩; (try first | exact ⟨rfl, _, World.drewN_drewN _ _ _⟩ | exact ⟨rfl, _, Eq.trans (World.drewN_drewN _ _ _) (congrArg (World.drewN _) (Nat.add_assoc _ _ _))⟩))); try go_wp2_with (first | (go_at_call 13; (with_reducible refine (halidehelp_Ints.calls k3 _ _ (rd_L1 t120 x13_3) _ _ (rd_L1 l1 x13_3) true _ ?side1 ?side2 ?side3 ?side4 A48.out).mono ?_); (case side1 => repeat (first | exact (by repeat (first | (with_reducible exact HR124_0.out) | (with_reducible refine Kd.C_alloc ?_ _) | (with_reducible refine Kd.C_drewN ?_ _) | (with_reducible refine Kd.C_drew ?_) | exact HR124_0.out)) | (with_reducible refine Kd.C_alloc ?_ _) | (with_reducible refine Kd.C_drewN ?_ _) | (with_reducible refine Kd.C_drew ?_))); (case side2 => exact HC124_0.out); (case side3 => repeat (first | exact (Kd.C_below HR125_0.out HB.out) | (with_reducible refine Kd.C_alloc ?_ _) | (with_reducible refine Kd.C_drewN ?_ _) | (with_reducible refine Kd.C_drew ?_))); (case side4 => exact HC125_0.out); rintro e w' ⟨rfl, ⟨nd, rfl⟩⟩; (try first | exact ⟨rfl, _, World.drewN_drewN _ _ _⟩ | exact ⟨rfl, _, Eq.trans (World.drewN_drewN _ _ _) (congrArg (World.drewN _) (Nat.add_assoc _ _ _))⟩))))
                              go_roundg k3
                              case measure => have := HJ4.out; have := HK2.out; have := HK3.out; omega
                              case rel => exact ⟨(wrap64 (x13_3 + 1)), (by first | rfl | (simp; done) | (simp [*]; done)), H', ⟨by have := HJ4.out; have := HK2.out; have := HK3.out; omega⟩, ⟨by (with_reducible repeat (first | apply Kd.S_alloc | apply Kd.S_drewN | apply Kd.S_drew)); exact HO_11.out⟩, ⟨by repeat (first | (with_reducible first | exact HB.out | apply below_alloc | apply pw_below_drewN | apply below_drew1) | exact HB.out)⟩⟩
                            · replace c49 := Bool.eq_false_iff.mpr c49
                              subst c49
                              have H1 : (some false) = some r := by rw [if_neg (show ¬ (false = true) by decide)] at H; exact H
                              clear H
                              have H := H1
                              clear H1
                              exact absurd (H.trans (congrArg some HT.out)) (by decide)
                          · rw [if_neg c47] at H
                            exact absurd H (by simp)
                        · rw [if_neg c46] at H
                          exact absurd H (by simp)
                      · rw [if_neg c45] at H
                        have c45b0 : decide (x13_3 < (t120.length : Int)) = false := decide_eq_false c45
                        clear c45
                        obtain rfl := Option.some.inj H
                        obtain ⟨Ao52, co52, eo52⟩ := Kd.S_slice HO_11.out
                        subst eo52
                        go_wp2
                        repeat (go_quiet (fail); try go_wp2)
                        go_ret
                        exact ⟨by first | rfl | (simp [errW_none, errW_some] <;> rfl) | (simp only [← hji10, ← hji11]; first | rfl | (simp [errW_none, errW_some] <;> rfl)) | (simp [*, errW_none, errW_some] <;> rfl), HZ.out.trans (Below.mono (B := w.heap.size) (by repeat (first | (with_reducible first | exact HB.out | apply below_alloc | apply pw_below_drewN | apply below_drew1) | exact HB.out)) HZ.out.size)⟩
          · rw [if_neg c13] at H
            exact absurd H (by simp)
        · rw [if_neg c12] at H
          exact absurd H (by simp)

end Go.Proofs.Ytmipbbkieadecaa.PDT
