import Derived.Test.YteamphcehoaleaaPFNx0
namespace Go.Proofs.Yteamphcehoaleaa.PFN
open Go.Proofs.Yteamphcehoaleaa.PFA Go.Proofs.Yteamphcehoaleaa.PFK
open Go.RowKit Go.Proofs.YteamphcehoaleaaW.PrintWords Go.Proofs.YteamphcehoaleaaW.PrintLast Go.Proofs.YteamphcehoaleaaW.PrintMore
attribute [local go_sem] max2_int min2_int max_two min_two max_three min_three max_four min_four   -- for this text's walks alone
set_option linter.unusedVariables false
set_option linter.unusedSimpArgs false

mutual
def At.l0 : Nat → Int → Int → Int → Int → Int → List Int → Int → Option (List Int)
 | 0, _, _, _, _, _, _, _ => none
 | k + 1, x0, x1, x3, x9, x10, x11, x12 => if x12 ≤ 1 then (At.l1 k x0 x1 x3 x9 x10 x11 x12 (-1)) else (some x11)
def At.l1 : Nat → Int → Int → Int → Int → Int → List Int → Int → Int → Option (List Int)
 | 0, _, _, _, _, _, _, _, _ => none
 | k + 1, x0, x1, x3, x9, x10, x11, x12, x13 => if x13 ≤ 1 then (if x13 = 0 then (if x12 = 0 then (At.l1 k x0 x1 x3 x9 x10 x11 x12 (wrap64 (x13 + 1))) else (if x3 = 4 then (if (wrap64 (x9 + x13)) < 0 then (At.l1 k x0 x1 x3 x9 x10 x11 x12 (wrap64 (x13 + 1))) else (if (wrap64 (x9 + x13)) ≥ x0 then (At.l1 k x0 x1 x3 x9 x10 x11 x12 (wrap64 (x13 + 1))) else (if (wrap64 (x10 + x12)) < 0 then (At.l1 k x0 x1 x3 x9 x10 x11 x12 (wrap64 (x13 + 1))) else (if (wrap64 (x10 + x12)) ≥ x1 then (At.l1 k x0 x1 x3 x9 x10 x11 x12 (wrap64 (x13 + 1))) else (if x11.length < 17592186044416 then (At.l1 k x0 x1 x3 x9 x10 (x11 ++ [wrap64 ((wrap64 ((wrap64 ((wrap64 (x10 + x12)) * x0)) + x9)) + x13)]) x12 (wrap64 (x13 + 1))) else (none)))))) else (if (wrap64 (x9 + x13)) < 0 then (At.l1 k x0 x1 x3 x9 x10 x11 x12 (wrap64 (x13 + 1))) else (if (wrap64 (x9 + x13)) ≥ x0 then (At.l1 k x0 x1 x3 x9 x10 x11 x12 (wrap64 (x13 + 1))) else (if (wrap64 (x10 + x12)) < 0 then (At.l1 k x0 x1 x3 x9 x10 x11 x12 (wrap64 (x13 + 1))) else (if (wrap64 (x10 + x12)) ≥ x1 then (At.l1 k x0 x1 x3 x9 x10 x11 x12 (wrap64 (x13 + 1))) else (if x11.length < 17592186044416 then (At.l1 k x0 x1 x3 x9 x10 (x11 ++ [wrap64 ((wrap64 ((wrap64 ((wrap64 (x10 + x12)) * x0)) + x9)) + x13)]) x12 (wrap64 (x13 + 1))) else (none)))))))) else (if x3 = 4 then (if x12 = 0 then (if (wrap64 (x9 + x13)) < 0 then (At.l1 k x0 x1 x3 x9 x10 x11 x12 (wrap64 (x13 + 1))) else (if (wrap64 (x9 + x13)) ≥ x0 then (At.l1 k x0 x1 x3 x9 x10 x11 x12 (wrap64 (x13 + 1))) else (if (wrap64 (x10 + x12)) < 0 then (At.l1 k x0 x1 x3 x9 x10 x11 x12 (wrap64 (x13 + 1))) else (if (wrap64 (x10 + x12)) ≥ x1 then (At.l1 k x0 x1 x3 x9 x10 x11 x12 (wrap64 (x13 + 1))) else (if x11.length < 17592186044416 then (At.l1 k x0 x1 x3 x9 x10 (x11 ++ [wrap64 ((wrap64 ((wrap64 ((wrap64 (x10 + x12)) * x0)) + x9)) + x13)]) x12 (wrap64 (x13 + 1))) else (none)))))) else (At.l1 k x0 x1 x3 x9 x10 x11 x12 (wrap64 (x13 + 1)))) else (if (wrap64 (x9 + x13)) < 0 then (At.l1 k x0 x1 x3 x9 x10 x11 x12 (wrap64 (x13 + 1))) else (if (wrap64 (x9 + x13)) ≥ x0 then (At.l1 k x0 x1 x3 x9 x10 x11 x12 (wrap64 (x13 + 1))) else (if (wrap64 (x10 + x12)) < 0 then (At.l1 k x0 x1 x3 x9 x10 x11 x12 (wrap64 (x13 + 1))) else (if (wrap64 (x10 + x12)) ≥ x1 then (At.l1 k x0 x1 x3 x9 x10 x11 x12 (wrap64 (x13 + 1))) else (if x11.length < 17592186044416 then (At.l1 k x0 x1 x3 x9 x10 (x11 ++ [wrap64 ((wrap64 ((wrap64 ((wrap64 (x10 + x12)) * x0)) + x9)) + x13)]) x12 (wrap64 (x13 + 1))) else (none)))))))) else (At.l0 k x0 x1 x3 x9 x10 x11 (wrap64 (x12 + 1)))
end
def At.f (k : Nat) (a0 : Int) (a1 : Int) (a2 : Int) (a3 : Int) : Option (List Int) := if a0 = 0 then (none) else (At.l0 k a0 a1 a3 (Int.tmod a2 a0) (wrap64 (Int.tdiv a2 a0)) ([] : List Int) (-1))
set_option maxHeartbeats 8000000 in
set_option maxRecDepth 100000 in
theorem At.calls (k : Nat) (a0 : Int) (a1 : Int) (a2 : Int) (a3 : Int) (r : List Int) (w : World) (h : At.f k a0 a1 a2 a3 = some r) :
  Calls Try.prog 35 #[.int .i64 a0, .int .i64 a1, .int .i64 a2, .int .i64 a3] w fun e w' => ∃ v0_ : Value, e = .returned (v0_) ∧ Kd.R (Kd.int .i64) 3 w' w.heap.size (fun _ => True) v0_ r ∧ Below w.heap.size w w' := by
 have HB := Aa.mk (Below.refl w.heap.size w)
 have H : (if a0 = 0 then (none) else (At.l0 k a0 a1 a3 (Int.tmod a2 a0) (wrap64 (Int.tdiv a2 a0)) ([] : List Int) (-1))) = some r := h
 clear h
 by_cases c5 : a0 = 0
 ·rw [if_pos c5] at H
  exact absurd H (by simp)
 ·rw [if_neg c5] at H
  have c5b0 : (a0 == 0) = false := beq_eq_false_iff_ne.mpr c5
  have c5b1 : (a0 != 0) = true := bne_iff_ne.mpr c5
  have H' := Aa.mk H
  clear H
  go_enter Try.func35, Try.ntmps35
  go_wp2
  repeat (go_quiet (fail); try go_wp2)
  go_loopg [11, 12] k (fun kq v11 v12 w' => ∃ (x11_1 : List Int) (x12_1 : Int), v12 = .int .i64 x12_1 ∧ Aa (At.l0 kq a0 a1 a3 (Int.tmod a2 a0) (wrap64 (Int.tdiv a2 a0)) x11_1 x12_1 = some r) ∧ Aa (kq ≤ k) ∧ Aa (Kd.R (Kd.int .i64) 3 w' w.heap.size (fun _ => True) v11 x11_1) ∧ Aa (Below w.heap.size w w'))
  case atStart => exact ⟨(([] : List Int)), ((-1)), (by first | rfl | (simp; done) | (simp [*]; done)), H', ⟨Nat.le_refl _⟩, ⟨by first | exact Kd.C3 _ _ _ _ _ | exact Kd.N_nil _ _ _ _ _ | exact Kd.V_nil _ _ _ _ _ | exact Kd.Q_nil _ _ _ _ _ | exact Kd.S_nil _ _ _ _ _⟩, ⟨by repeat (first | (with_reducible first | exact HB.out | apply Ac | apply Ab | apply Ad) | exact HB.out)⟩⟩
  case round =>
   clear H'
   try clear p2
   try clear c3
   try clear c5
   try clear c5b0
   try clear c5b1
   obtain ⟨x11_1, x12_1, rfl, HA, HK1, HO_11, HB⟩ := hrel
   cases gk with
   | zero => exact absurd HA.out (by simp [At.l0])
   | succ k1 =>
    have H := HA.out
    clear HA
    simp only [At.l0] at H
    by_cases c6 : x12_1 ≤ 1
    ·rw [if_pos c6] at H
     have c6b0 : decide (x12_1 ≤ 1) = true := decide_eq_true c6
     clear c6
     have H' := Aa.mk H
     clear H
     go_wp2
     repeat (go_quiet (fail); try go_wp2)
     go_loopg [11, 13] k1 (fun kq v11 v13 w' => ∃ (x11_2 : List Int) (x13_2 : Int), v13 = .int .i64 x13_2 ∧ Aa (At.l1 kq a0 a1 a3 (Int.tmod a2 a0) (wrap64 (Int.tdiv a2 a0)) x11_2 x12_1 x13_2 = some r) ∧ Aa (kq ≤ k1) ∧ Aa (Kd.R (Kd.int .i64) 3 w' w.heap.size (fun _ => True) v11 x11_2) ∧ Aa (Below w.heap.size w w'))
     case atStart => exact ⟨(x11_1), ((-1)), (by first | rfl | (simp; done) | (simp [*]; done)), H', ⟨Nat.le_refl _⟩, ⟨by (with_reducible repeat (first | apply Kd.Am | apply Kd.Ak | apply Kd.Aq)); exact HO_11.out⟩, ⟨by repeat (first | (with_reducible first | exact HB.out | apply Ac | apply Ab | apply Ad) | exact HB.out)⟩⟩
     case round =>
      clear H'
      try clear p2
      try clear c3
      try clear c5
      try clear c5b0
      try clear c5b1
      try clear c6
      try clear c6b0
      try clear p6
      try clear p2
      obtain ⟨x11_2, x13_2, rfl, HA, HK2, HO_11, HB⟩ := hrel
      cases gk with
      | zero => exact absurd HA.out (by simp [At.l1])
      | succ k2 =>
       have H := HA.out
       clear HA
       simp only [At.l1] at H
       by_cases c7 : x13_2 ≤ 1
       ·rw [if_pos c7] at H
        have c7b0 : decide (x13_2 ≤ 1) = true := decide_eq_true c7
        clear c7
        by_cases c8 : x13_2 = 0
        ·rw [if_pos c8] at H
         have c8b0 : (x13_2 == 0) = true := beq_iff_eq.mpr c8
         have c8b1 : (x13_2 != 0) = false := bne_eq_false_iff_eq.mpr c8
         clear c8
         by_cases c9 : x12_1 = 0
         ·rw [if_pos c9] at H
          have c9b0 : (x12_1 == 0) = true := beq_iff_eq.mpr c9
          have c9b1 : (x12_1 != 0) = false := bne_eq_false_iff_eq.mpr c9
          clear c9
          have H' := Aa.mk H
          clear H
          go_wp2
          repeat (go_quiet (fail); try go_wp2)
          go_roundg k2
          case measure => have := HK1.out; have := HK2.out; omega
          case rel => exact ⟨(x11_2), (wrap64 (x13_2 + 1)), (by first | rfl | (simp; done) | (simp [*]; done)), H', ⟨by have := HK1.out; have := HK2.out; omega⟩, ⟨by (with_reducible repeat (first | apply Kd.Am | apply Kd.Ak | apply Kd.Aq)); exact HO_11.out⟩, ⟨by repeat (first | (with_reducible first | exact HB.out | apply Ac | apply Ab | apply Ad) | exact HB.out)⟩⟩
         ·rw [if_neg c9] at H
          have c9b0 : (x12_1 == 0) = false := beq_eq_false_iff_ne.mpr c9
          have c9b1 : (x12_1 != 0) = true := bne_iff_ne.mpr c9
          by_cases c10 : a3 = 4
          ·rw [if_pos c10] at H
           have c10b0 : (a3 == 4) = true := beq_iff_eq.mpr c10
           have c10b1 : (a3 != 4) = false := bne_eq_false_iff_eq.mpr c10
           clear c10
           by_cases c11 : (wrap64 ((Int.tmod a2 a0) + x13_2)) < 0
           ·rw [if_pos c11] at H
            have c11b0 : decide ((wrap64 ((Int.tmod a2 a0) + x13_2)) < 0) = true := decide_eq_true c11
            clear c11
            have H' := Aa.mk H
            clear H
            go_wp2
            repeat (go_quiet (fail); try go_wp2)
            go_roundg k2
            case measure => have := HK1.out; have := HK2.out; omega
            case rel => exact ⟨(x11_2), (wrap64 (x13_2 + 1)), (by first | rfl | (simp; done) | (simp [*]; done)), H', ⟨by have := HK1.out; have := HK2.out; omega⟩, ⟨by (with_reducible repeat (first | apply Kd.Am | apply Kd.Ak | apply Kd.Aq)); exact HO_11.out⟩, ⟨by repeat (first | (with_reducible first | exact HB.out | apply Ac | apply Ab | apply Ad) | exact HB.out)⟩⟩
           ·rw [if_neg c11] at H
            have c11b0 : decide ((wrap64 ((Int.tmod a2 a0) + x13_2)) < 0) = false := decide_eq_false c11
            clear c11
            by_cases c12 : (wrap64 ((Int.tmod a2 a0) + x13_2)) ≥ a0
            ·rw [if_pos c12] at H
             have c12b0 : decide (a0 ≤ (wrap64 ((Int.tmod a2 a0) + x13_2))) = true := decide_eq_true c12
             clear c12
             have H' := Aa.mk H
             clear H
             go_wp2
             repeat (go_quiet (fail); try go_wp2)
             go_roundg k2
             case measure => have := HK1.out; have := HK2.out; omega
             case rel => exact ⟨(x11_2), (wrap64 (x13_2 + 1)), (by first | rfl | (simp; done) | (simp [*]; done)), H', ⟨by have := HK1.out; have := HK2.out; omega⟩, ⟨by (with_reducible repeat (first | apply Kd.Am | apply Kd.Ak | apply Kd.Aq)); exact HO_11.out⟩, ⟨by repeat (first | (with_reducible first | exact HB.out | apply Ac | apply Ab | apply Ad) | exact HB.out)⟩⟩
            ·rw [if_neg c12] at H
             have c12b0 : decide (a0 ≤ (wrap64 ((Int.tmod a2 a0) + x13_2))) = false := decide_eq_false c12
             clear c12
             by_cases c13 : (wrap64 ((wrap64 (Int.tdiv a2 a0)) + x12_1)) < 0
             ·rw [if_pos c13] at H
              have c13b0 : decide ((wrap64 ((wrap64 (Int.tdiv a2 a0)) + x12_1)) < 0) = true := decide_eq_true c13
              clear c13
              have H' := Aa.mk H
              clear H
              go_wp2
              repeat (go_quiet (fail); try go_wp2)
              go_roundg k2
              case measure => have := HK1.out; have := HK2.out; omega
              case rel => exact ⟨(x11_2), (wrap64 (x13_2 + 1)), (by first | rfl | (simp; done) | (simp [*]; done)), H', ⟨by have := HK1.out; have := HK2.out; omega⟩, ⟨by (with_reducible repeat (first | apply Kd.Am | apply Kd.Ak | apply Kd.Aq)); exact HO_11.out⟩, ⟨by repeat (first | (with_reducible first | exact HB.out | apply Ac | apply Ab | apply Ad) | exact HB.out)⟩⟩
             ·rw [if_neg c13] at H
              have c13b0 : decide ((wrap64 ((wrap64 (Int.tdiv a2 a0)) + x12_1)) < 0) = false := decide_eq_false c13
              clear c13
              by_cases c14 : (wrap64 ((wrap64 (Int.tdiv a2 a0)) + x12_1)) ≥ a1
              ·rw [if_pos c14] at H
               have c14b0 : decide (a1 ≤ (wrap64 ((wrap64 (Int.tdiv a2 a0)) + x12_1))) = true := decide_eq_true c14
               clear c14
               have H' := Aa.mk H
               clear H
               go_wp2
               repeat (go_quiet (fail); try go_wp2)
               go_roundg k2
               case measure => have := HK1.out; have := HK2.out; omega
               case rel => exact ⟨(x11_2), (wrap64 (x13_2 + 1)), (by first | rfl | (simp; done) | (simp [*]; done)), H', ⟨by have := HK1.out; have := HK2.out; omega⟩, ⟨by (with_reducible repeat (first | apply Kd.Am | apply Kd.Ak | apply Kd.Aq)); exact HO_11.out⟩, ⟨by repeat (first | (with_reducible first | exact HB.out | apply Ac | apply Ab | apply Ad) | exact HB.out)⟩⟩
              ·rw [if_neg c14] at H
               have c14b0 : decide (a1 ≤ (wrap64 ((wrap64 (Int.tdiv a2 a0)) + x12_1))) = false := decide_eq_false c14
               clear c14
               by_cases c15 : x11_2.length < 17592186044416
               ·rw [if_pos c15] at H
                have LMc15 := Aa.mk c15
                clear c15
                obtain ⟨y101, hy101⟩ : ∃ y_ : List Int, y_ = (x11_2 ++ [wrap64 ((wrap64 ((wrap64 ((wrap64 ((wrap64 (Int.tdiv a2 a0)) + x12_1)) * a0)) + (Int.tmod a2 a0))) + x13_2)]) := ⟨_, rfl⟩
                replace H : (At.l1 k2 a0 a1 a3 (Int.tmod a2 a0) (wrap64 (Int.tdiv a2 a0)) y101 x12_1 (wrap64 (x13_2 + 1))) = some r := by first | (rw [hy101]; with_reducible exact H) | (have H2_ := (Option.bind_some _ _).symm.trans H; rw [hy101]; with_reducible exact H2_) | (have H2_ := (Option.bind_some _ _).symm.trans H; with_reducible exact H2_) | with_reducible exact H | (rw [hy101]; exact H) | exact H
                have Ny101 := Aa.mk hy101
                clear hy101
                have H' := Aa.mk H
                clear H
                go_wp2_with (first | ((with_reducible refine Cj (b := .append) (xs := #[.tmp 75, .tmp 85]) rfl ?_); at_builtin; refine Kd.Cx (Kd.int .i64) (w0 := w) w.heap.size rfl (.tmp 75) (.tmp 85) 31 3 (.int .i64 0) 8 rfl Try.underlying31 info3 rfl (by decide) (by omega) u11 x11_2 (wrap64 ((wrap64 ((wrap64 ((wrap64 ((wrap64 (Int.tdiv a2 a0)) + x12_1)) * a0)) + (Int.tmod a2 a0))) + x13_2)) [.int .i64 (wrap64 ((wrap64 ((wrap64 ((wrap64 ((wrap64 (Int.tdiv a2 a0)) + x12_1)) * a0)) + (Int.tmod a2 a0))) + x13_2))] (fun _ => True) (fun _ => False) rfl rfl ?aP (fun _ hk => hk.elim) ?aF ?aO ?aB ?aS ?aL ?_; (case aP => exact rfl); (case aB => exact (by repeat (first | (with_reducible first | exact HB.out | apply Ac | apply Ab | apply Ad) | exact HB.out))); (case aF => exact (fun _ _ => trivial)); (case aO => exact (by (with_reducible repeat (first | apply Kd.Am | apply Kd.Ak | apply Kd.Aq)); exact HO_11.out)); (case aS => exact (Ap (by repeat (first | (with_reducible first | exact HB.out | apply Ac | apply Ab | apply Ad) | exact HB.out)))); (case aL => have := LMc15.out; omega); intro v102 w16 ho hb hg hat; rw [← Ny101.out] at ho; have n0_ := Aa.mk (hb); have n1_ := Aa.mk (ho); clear HB; clear HO_11; have HB := n0_; have HO103 := n1_; clear n0_ n1_; clear ho hb hg hat))
                repeat (go_quiet (first | ((with_reducible refine Cj (b := .append) (xs := #[.tmp 75, .tmp 85]) rfl ?_); at_builtin; refine Kd.Cx (Kd.int .i64) (w0 := w) w.heap.size rfl (.tmp 75) (.tmp 85) 31 3 (.int .i64 0) 8 rfl Try.underlying31 info3 rfl (by decide) (by omega) u11 x11_2 (wrap64 ((wrap64 ((wrap64 ((wrap64 ((wrap64 (Int.tdiv a2 a0)) + x12_1)) * a0)) + (Int.tmod a2 a0))) + x13_2)) [.int .i64 (wrap64 ((wrap64 ((wrap64 ((wrap64 ((wrap64 (Int.tdiv a2 a0)) + x12_1)) * a0)) + (Int.tmod a2 a0))) + x13_2))] (fun _ => True) (fun _ => False) rfl rfl ?aP (fun _ hk => hk.elim) ?aF ?aO ?aB ?aS ?aL ?_; (case aP => exact rfl); (case aB => exact (by repeat (first | (with_reducible first | exact HB.out | apply Ac | apply Ab | apply Ad) | exact HB.out))); (case aF => exact (fun _ _ => trivial)); (case aO => exact (by (with_reducible repeat (first | apply Kd.Am | apply Kd.Ak | apply Kd.Aq)); exact HO_11.out)); (case aS => exact (Ap (by repeat (first | (with_reducible first | exact HB.out | apply Ac | apply Ab | apply Ad) | exact HB.out)))); (case aL => have := LMc15.out; omega); intro v102 w16 ho hb hg hat; rw [← Ny101.out] at ho; have n0_ := Aa.mk (hb); have n1_ := Aa.mk (ho); clear HB; clear HO_11; have HB := n0_; have HO103 := n1_; clear n0_ n1_; clear ho hb hg hat)); try go_wp2_with (first | ((with_reducible refine Cj (b := .append) (xs := #[.tmp 75, .tmp 85]) rfl ?_); at_builtin; refine Kd.Cx (Kd.int .i64) (w0 := w) w.heap.size rfl (.tmp 75) (.tmp 85) 31 3 (.int .i64 0) 8 rfl Try.underlying31 info3 rfl (by decide) (by omega) u11 x11_2 (wrap64 ((wrap64 ((wrap64 ((wrap64 ((wrap64 (Int.tdiv a2 a0)) + x12_1)) * a0)) + (Int.tmod a2 a0))) + x13_2)) [.int .i64 (wrap64 ((wrap64 ((wrap64 ((wrap64 ((wrap64 (Int.tdiv a2 a0)) + x12_1)) * a0)) + (Int.tmod a2 a0))) + x13_2))] (fun _ => True) (fun _ => False) rfl rfl ?aP (fun _ hk => hk.elim) ?aF ?aO ?aB ?aS ?aL ?_; (case aP => exact rfl); (case aB => exact (by repeat (first | (with_reducible first | exact HB.out | apply Ac | apply Ab | apply Ad) | exact HB.out))); (case aF => exact (fun _ _ => trivial)); (case aO => exact (by (with_reducible repeat (first | apply Kd.Am | apply Kd.Ak | apply Kd.Aq)); exact HO_11.out)); (case aS => exact (Ap (by repeat (first | (with_reducible first | exact HB.out | apply Ac | apply Ab | apply Ad) | exact HB.out)))); (case aL => have := LMc15.out; omega); intro v102 w16 ho hb hg hat; rw [← Ny101.out] at ho; have n0_ := Aa.mk (hb); have n1_ := Aa.mk (ho); clear HB; clear HO_11; have HB := n0_; have HO103 := n1_; clear n0_ n1_; clear ho hb hg hat)))
                go_roundg k2
                case measure => have := HK1.out; have := HK2.out; omega
                case rel => exact ⟨(y101), (wrap64 (x13_2 + 1)), (by first | rfl | (simp; done) | (simp [*]; done)), H', ⟨by have := HK1.out; have := HK2.out; omega⟩, ⟨by (with_reducible repeat (first | apply Kd.Am | apply Kd.Ak | apply Kd.Aq)); exact HO103.out⟩, ⟨by repeat (first | (with_reducible first | exact HB.out | apply Ac | apply Ab | apply Ad) | exact HB.out)⟩⟩
               ·rw [if_neg c15] at H
                exact absurd H (by simp)
          ·rw [if_neg c10] at H
           have c10b0 : (a3 == 4) = false := beq_eq_false_iff_ne.mpr c10
           have c10b1 : (a3 != 4) = true := bne_iff_ne.mpr c10
           by_cases c17 : (wrap64 ((Int.tmod a2 a0) + x13_2)) < 0
           ·rw [if_pos c17] at H
            have c17b0 : decide ((wrap64 ((Int.tmod a2 a0) + x13_2)) < 0) = true := decide_eq_true c17
            clear c17
            have H' := Aa.mk H
            clear H
            go_wp2
            repeat (go_quiet (fail); try go_wp2)
            go_roundg k2
            case measure => have := HK1.out; have := HK2.out; omega
            case rel => exact ⟨(x11_2), (wrap64 (x13_2 + 1)), (by first | rfl | (simp; done) | (simp [*]; done)), H', ⟨by have := HK1.out; have := HK2.out; omega⟩, ⟨by (with_reducible repeat (first | apply Kd.Am | apply Kd.Ak | apply Kd.Aq)); exact HO_11.out⟩, ⟨by repeat (first | (with_reducible first | exact HB.out | apply Ac | apply Ab | apply Ad) | exact HB.out)⟩⟩
           ·rw [if_neg c17] at H
            have c17b0 : decide ((wrap64 ((Int.tmod a2 a0) + x13_2)) < 0) = false := decide_eq_false c17
            clear c17
            by_cases c18 : (wrap64 ((Int.tmod a2 a0) + x13_2)) ≥ a0
            ·rw [if_pos c18] at H
             have c18b0 : decide (a0 ≤ (wrap64 ((Int.tmod a2 a0) + x13_2))) = true := decide_eq_true c18
             clear c18
             have H' := Aa.mk H
             clear H
             go_wp2
             repeat (go_quiet (fail); try go_wp2)
             go_roundg k2
             case measure => have := HK1.out; have := HK2.out; omega
             case rel => exact ⟨(x11_2), (wrap64 (x13_2 + 1)), (by first | rfl | (simp; done) | (simp [*]; done)), H', ⟨by have := HK1.out; have := HK2.out; omega⟩, ⟨by (with_reducible repeat (first | apply Kd.Am | apply Kd.Ak | apply Kd.Aq)); exact HO_11.out⟩, ⟨by repeat (first | (with_reducible first | exact HB.out | apply Ac | apply Ab | apply Ad) | exact HB.out)⟩⟩
            ·rw [if_neg c18] at H
             have c18b0 : decide (a0 ≤ (wrap64 ((Int.tmod a2 a0) + x13_2))) = false := decide_eq_false c18
             clear c18
             by_cases c19 : (wrap64 ((wrap64 (Int.tdiv a2 a0)) + x12_1)) < 0
             ·rw [if_pos c19] at H
              have c19b0 : decide ((wrap64 ((wrap64 (Int.tdiv a2 a0)) + x12_1)) < 0) = true := decide_eq_true c19
              clear c19
              have H' := Aa.mk H
              clear H
              go_wp2
              repeat (go_quiet (fail); try go_wp2)
              go_roundg k2
              case measure => have := HK1.out; have := HK2.out; omega
              case rel => exact ⟨(x11_2), (wrap64 (x13_2 + 1)), (by first | rfl | (simp; done) | (simp [*]; done)), H', ⟨by have := HK1.out; have := HK2.out; omega⟩, ⟨by (with_reducible repeat (first | apply Kd.Am | apply Kd.Ak | apply Kd.Aq)); exact HO_11.out⟩, ⟨by repeat (first | (with_reducible first | exact HB.out | apply Ac | apply Ab | apply Ad) | exact HB.out)⟩⟩
             ·rw [if_neg c19] at H
              have c19b0 : decide ((wrap64 ((wrap64 (Int.tdiv a2 a0)) + x12_1)) < 0) = false := decide_eq_false c19
              clear c19
              by_cases c20 : (wrap64 ((wrap64 (Int.tdiv a2 a0)) + x12_1)) ≥ a1
              ·rw [if_pos c20] at H
               have c20b0 : decide (a1 ≤ (wrap64 ((wrap64 (Int.tdiv a2 a0)) + x12_1))) = true := decide_eq_true c20
               clear c20
               have H' := Aa.mk H
               clear H
               go_wp2
               repeat (go_quiet (fail); try go_wp2)
               go_roundg k2
               case measure => have := HK1.out; have := HK2.out; omega
               case rel => exact ⟨(x11_2), (wrap64 (x13_2 + 1)), (by first | rfl | (simp; done) | (simp [*]; done)), H', ⟨by have := HK1.out; have := HK2.out; omega⟩, ⟨by (with_reducible repeat (first | apply Kd.Am | apply Kd.Ak | apply Kd.Aq)); exact HO_11.out⟩, ⟨by repeat (first | (with_reducible first | exact HB.out | apply Ac | apply Ab | apply Ad) | exact HB.out)⟩⟩
              ·rw [if_neg c20] at H
               have c20b0 : decide (a1 ≤ (wrap64 ((wrap64 (Int.tdiv a2 a0)) + x12_1))) = false := decide_eq_false c20
               clear c20
               by_cases c21 : x11_2.length < 17592186044416
               ·rw [if_pos c21] at H
                have LMc21 := Aa.mk c21
                clear c21
                obtain ⟨y104, hy104⟩ : ∃ y_ : List Int, y_ = (x11_2 ++ [wrap64 ((wrap64 ((wrap64 ((wrap64 ((wrap64 (Int.tdiv a2 a0)) + x12_1)) * a0)) + (Int.tmod a2 a0))) + x13_2)]) := ⟨_, rfl⟩
                replace H : (At.l1 k2 a0 a1 a3 (Int.tmod a2 a0) (wrap64 (Int.tdiv a2 a0)) y104 x12_1 (wrap64 (x13_2 + 1))) = some r := by first | (rw [hy104]; with_reducible exact H) | (have H2_ := (Option.bind_some _ _).symm.trans H; rw [hy104]; with_reducible exact H2_) | (have H2_ := (Option.bind_some _ _).symm.trans H; with_reducible exact H2_) | with_reducible exact H | (rw [hy104]; exact H) | exact H
                have Ny104 := Aa.mk hy104
                clear hy104
                have H' := Aa.mk H
                clear H
                go_wp2_with (first | ((with_reducible refine Cj (b := .append) (xs := #[.tmp 75, .tmp 85]) rfl ?_); at_builtin; refine Kd.Cx (Kd.int .i64) (w0 := w) w.heap.size rfl (.tmp 75) (.tmp 85) 31 3 (.int .i64 0) 8 rfl Try.underlying31 info3 rfl (by decide) (by omega) u11 x11_2 (wrap64 ((wrap64 ((wrap64 ((wrap64 ((wrap64 (Int.tdiv a2 a0)) + x12_1)) * a0)) + (Int.tmod a2 a0))) + x13_2)) [.int .i64 (wrap64 ((wrap64 ((wrap64 ((wrap64 ((wrap64 (Int.tdiv a2 a0)) + x12_1)) * a0)) + (Int.tmod a2 a0))) + x13_2))] (fun _ => True) (fun _ => False) rfl rfl ?aP (fun _ hk => hk.elim) ?aF ?aO ?aB ?aS ?aL ?_; (case aP => exact rfl); (case aB => exact (by repeat (first | (with_reducible first | exact HB.out | apply Ac | apply Ab | apply Ad) | exact HB.out))); (case aF => exact (fun _ _ => trivial)); (case aO => exact (by (with_reducible repeat (first | apply Kd.Am | apply Kd.Ak | apply Kd.Aq)); exact HO_11.out)); (case aS => exact (Ap (by repeat (first | (with_reducible first | exact HB.out | apply Ac | apply Ab | apply Ad) | exact HB.out)))); (case aL => have := LMc21.out; omega); intro v105 w22 ho hb hg hat; rw [← Ny104.out] at ho; have n0_ := Aa.mk (hb); have n1_ := Aa.mk (ho); clear HB; clear HO_11; have HB := n0_; have HO106 := n1_; clear n0_ n1_; clear ho hb hg hat))
                repeat (go_quiet (first | ((with_reducible refine Cj (b := .append) (xs := #[.tmp 75, .tmp 85]) rfl ?_); at_builtin; refine Kd.Cx (Kd.int .i64) (w0 := w) w.heap.size rfl (.tmp 75) (.tmp 85) 31 3 (.int .i64 0) 8 rfl Try.underlying31 info3 rfl (by decide) (by omega) u11 x11_2 (wrap64 ((wrap64 ((wrap64 ((wrap64 ((wrap64 (Int.tdiv a2 a0)) + x12_1)) * a0)) + (Int.tmod a2 a0))) + x13_2)) [.int .i64 (wrap64 ((wrap64 ((wrap64 ((wrap64 ((wrap64 (Int.tdiv a2 a0)) + x12_1)) * a0)) + (Int.tmod a2 a0))) + x13_2))] (fun _ => True) (fun _ => False) rfl rfl ?aP (fun _ hk => hk.elim) ?aF ?aO ?aB ?aS ?aL ?_; (case aP => exact rfl); (case aB => exact (by repeat (first | (with_reducible first | exact HB.out | apply Ac | apply Ab | apply Ad) | exact HB.out))); (case aF => exact (fun _ _ => trivial)); (case aO => exact (by (with_reducible repeat (first | apply Kd.Am | apply Kd.Ak | apply Kd.Aq)); exact HO_11.out)); (case aS => exact (Ap (by repeat (first | (with_reducible first | exact HB.out | apply Ac | apply Ab | apply Ad) | exact HB.out)))); (case aL => have := LMc21.out; omega); intro v105 w22 ho hb hg hat; rw [← Ny104.out] at ho; have n0_ := Aa.mk (hb); have n1_ := Aa.mk (ho); clear HB; clear HO_11; have HB := n0_; have HO106 := n1_; clear n0_ n1_; clear ho hb hg hat)); try go_wp2_with (first | ((with_reducible refine Cj (b := .append) (xs := #[.tmp 75, .tmp 85]) rfl ?_); at_builtin; refine Kd.Cx (Kd.int .i64) (w0 := w) w.heap.size rfl (.tmp 75) (.tmp 85) 31 3 (.int .i64 0) 8 rfl Try.underlying31 info3 rfl (by decide) (by omega) u11 x11_2 (wrap64 ((wrap64 ((wrap64 ((wrap64 ((wrap64 (Int.tdiv a2 a0)) + x12_1)) * a0)) + (Int.tmod a2 a0))) + x13_2)) [.int .i64 (wrap64 ((wrap64 ((wrap64 ((wrap64 ((wrap64 (Int.tdiv a2 a0)) + x12_1)) * a0)) + (Int.tmod a2 a0))) + x13_2))] (fun _ => True) (fun _ => False) rfl rfl ?aP (fun _ hk => hk.elim) ?aF ?aO ?aB ?aS ?aL ?_; (case aP => exact rfl); (case aB => exact (by repeat (first | (with_reducible first | exact HB.out | apply Ac | apply Ab | apply Ad) | exact HB.out))); (case aF => exact (fun _ _ => trivial)); (case aO => exact (by (with_reducible repeat (first | apply Kd.Am | apply Kd.Ak | apply Kd.Aq)); exact HO_11.out)); (case aS => exact (Ap (by repeat (first | (with_reducible first | exact HB.out | apply Ac | apply Ab | apply Ad) | exact HB.out)))); (case aL => have := LMc21.out; omega); intro v105 w22 ho hb hg hat; rw [← Ny104.out] at ho; have n0_ := Aa.mk (hb); have n1_ := Aa.mk (ho); clear HB; clear HO_11; have HB := n0_; have HO106 := n1_; clear n0_ n1_; clear ho hb hg hat)))
                go_roundg k2
                case measure => have := HK1.out; have := HK2.out; omega
                case rel => exact ⟨(y104), (wrap64 (x13_2 + 1)), (by first | rfl | (simp; done) | (simp [*]; done)), H', ⟨by have := HK1.out; have := HK2.out; omega⟩, ⟨by (with_reducible repeat (first | apply Kd.Am | apply Kd.Ak | apply Kd.Aq)); exact HO106.out⟩, ⟨by repeat (first | (with_reducible first | exact HB.out | apply Ac | apply Ab | apply Ad) | exact HB.out)⟩⟩
               ·rw [if_neg c21] at H
                exact absurd H (by simp)
        ·rw [if_neg c8] at H
         have c8b0 : (x13_2 == 0) = false := beq_eq_false_iff_ne.mpr c8
         have c8b1 : (x13_2 != 0) = true := bne_iff_ne.mpr c8
         by_cases c23 : a3 = 4
         ·rw [if_pos c23] at H
          have c23b0 : (a3 == 4) = true := beq_iff_eq.mpr c23
          have c23b1 : (a3 != 4) = false := bne_eq_false_iff_eq.mpr c23
          clear c23
          by_cases c24 : x12_1 = 0
          ·rw [if_pos c24] at H
           have c24b0 : (x12_1 == 0) = true := beq_iff_eq.mpr c24
           have c24b1 : (x12_1 != 0) = false := bne_eq_false_iff_eq.mpr c24
           clear c24
           by_cases c25 : (wrap64 ((Int.tmod a2 a0) + x13_2)) < 0
           ·rw [if_pos c25] at H
            have c25b0 : decide ((wrap64 ((Int.tmod a2 a0) + x13_2)) < 0) = true := decide_eq_true c25
            clear c25
            have H' := Aa.mk H
            clear H
            go_wp2
            repeat (go_quiet (fail); try go_wp2)
            go_roundg k2
            case measure => have := HK1.out; have := HK2.out; omega
            case rel => exact ⟨(x11_2), (wrap64 (x13_2 + 1)), (by first | rfl | (simp; done) | (simp [*]; done)), H', ⟨by have := HK1.out; have := HK2.out; omega⟩, ⟨by (with_reducible repeat (first | apply Kd.Am | apply Kd.Ak | apply Kd.Aq)); exact HO_11.out⟩, ⟨by repeat (first | (with_reducible first | exact HB.out | apply Ac | apply Ab | apply Ad) | exact HB.out)⟩⟩
           ·rw [if_neg c25] at H
            have c25b0 : decide ((wrap64 ((Int.tmod a2 a0) + x13_2)) < 0) = false := decide_eq_false c25
            clear c25
            by_cases c26 : (wrap64 ((Int.tmod a2 a0) + x13_2)) ≥ a0
            ·rw [if_pos c26] at H
             have c26b0 : decide (a0 ≤ (wrap64 ((Int.tmod a2 a0) + x13_2))) = true := decide_eq_true c26
             clear c26
             have H' := Aa.mk H
             clear H
             go_wp2
             repeat (go_quiet (fail); try go_wp2)
             go_roundg k2
             case measure => have := HK1.out; have := HK2.out; omega
             case rel => exact ⟨(x11_2), (wrap64 (x13_2 + 1)), (by first | rfl | (simp; done) | (simp [*]; done)), H', ⟨by have := HK1.out; have := HK2.out; omega⟩, ⟨by (with_reducible repeat (first | apply Kd.Am | apply Kd.Ak | apply Kd.Aq)); exact HO_11.out⟩, ⟨by repeat (first | (with_reducible first | exact HB.out | apply Ac | apply Ab | apply Ad) | exact HB.out)⟩⟩
            ·rw [if_neg c26] at H
             have c26b0 : decide (a0 ≤ (wrap64 ((Int.tmod a2 a0) + x13_2))) = false := decide_eq_false c26
             clear c26
             by_cases c27 : (wrap64 ((wrap64 (Int.tdiv a2 a0)) + x12_1)) < 0
             ·rw [if_pos c27] at H
              have c27b0 : decide ((wrap64 ((wrap64 (Int.tdiv a2 a0)) + x12_1)) < 0) = true := decide_eq_true c27
              clear c27
              have H' := Aa.mk H
              clear H
              go_wp2
              repeat (go_quiet (fail); try go_wp2)
              go_roundg k2
              case measure => have := HK1.out; have := HK2.out; omega
              case rel => exact ⟨(x11_2), (wrap64 (x13_2 + 1)), (by first | rfl | (simp; done) | (simp [*]; done)), H', ⟨by have := HK1.out; have := HK2.out; omega⟩, ⟨by (with_reducible repeat (first | apply Kd.Am | apply Kd.Ak | apply Kd.Aq)); exact HO_11.out⟩, ⟨by repeat (first | (with_reducible first | exact HB.out | apply Ac | apply Ab | apply Ad) | exact HB.out)⟩⟩
             ·rw [if_neg c27] at H
              have c27b0 : decide ((wrap64 ((wrap64 (Int.tdiv a2 a0)) + x12_1)) < 0) = false := decide_eq_false c27
              clear c27
              by_cases c28 : (wrap64 ((wrap64 (Int.tdiv a2 a0)) + x12_1)) ≥ a1
              ·rw [if_pos c28] at H
               have c28b0 : decide (a1 ≤ (wrap64 ((wrap64 (Int.tdiv a2 a0)) + x12_1))) = true := decide_eq_true c28
               clear c28
               have H' := Aa.mk H
               clear H
               go_wp2
               repeat (go_quiet (fail); try go_wp2)
               go_roundg k2
               case measure => have := HK1.out; have := HK2.out; omega
               case rel => exact ⟨(x11_2), (wrap64 (x13_2 + 1)), (by first | rfl | (simp; done) | (simp [*]; done)), H', ⟨by have := HK1.out; have := HK2.out; omega⟩, ⟨by (with_reducible repeat (first | apply Kd.Am | apply Kd.Ak | apply Kd.Aq)); exact HO_11.out⟩, ⟨by repeat (first | (with_reducible first | exact HB.out | apply Ac | apply Ab | apply Ad) | exact HB.out)⟩⟩
              ·rw [if_neg c28] at H
               have c28b0 : decide (a1 ≤ (wrap64 ((wrap64 (Int.tdiv a2 a0)) + x12_1))) = false := decide_eq_false c28
               clear c28
               by_cases c29 : x11_2.length < 17592186044416
               ·rw [if_pos c29] at H
                have LMc29 := Aa.mk c29
                clear c29
                obtain ⟨y107, hy107⟩ : ∃ y_ : List Int, y_ = (x11_2 ++ [wrap64 ((wrap64 ((wrap64 ((wrap64 ((wrap64 (Int.tdiv a2 a0)) + x12_1)) * a0)) + (Int.tmod a2 a0))) + x13_2)]) := ⟨_, rfl⟩
                replace H : (At.l1 k2 a0 a1 a3 (Int.tmod a2 a0) (wrap64 (Int.tdiv a2 a0)) y107 x12_1 (wrap64 (x13_2 + 1))) = some r := by first | (rw [hy107]; with_reducible exact H) | (have H2_ := (Option.bind_some _ _).symm.trans H; rw [hy107]; with_reducible exact H2_) | (have H2_ := (Option.bind_some _ _).symm.trans H; with_reducible exact H2_) | with_reducible exact H | (rw [hy107]; exact H) | exact H
                have Ny107 := Aa.mk hy107
                clear hy107
                have H' := Aa.mk H
                clear H
                go_wp2_with (first | ((with_reducible refine Cj (b := .append) (xs := #[.tmp 75, .tmp 85]) rfl ?_); at_builtin; refine Kd.Cx (Kd.int .i64) (w0 := w) w.heap.size rfl (.tmp 75) (.tmp 85) 31 3 (.int .i64 0) 8 rfl Try.underlying31 info3 rfl (by decide) (by omega) u11 x11_2 (wrap64 ((wrap64 ((wrap64 ((wrap64 ((wrap64 (Int.tdiv a2 a0)) + x12_1)) * a0)) + (Int.tmod a2 a0))) + x13_2)) [.int .i64 (wrap64 ((wrap64 ((wrap64 ((wrap64 ((wrap64 (Int.tdiv a2 a0)) + x12_1)) * a0)) + (Int.tmod a2 a0))) + x13_2))] (fun _ => True) (fun _ => False) rfl rfl ?aP (fun _ hk => hk.elim) ?aF ?aO ?aB ?aS ?aL ?_; (case aP => exact rfl); (case aB => exact (by repeat (first | (with_reducible first | exact HB.out | apply Ac | apply Ab | apply Ad) | exact HB.out))); (case aF => exact (fun _ _ => trivial)); (case aO => exact (by (with_reducible repeat (first | apply Kd.Am | apply Kd.Ak | apply Kd.Aq)); exact HO_11.out)); (case aS => exact (Ap (by repeat (first | (with_reducible first | exact HB.out | apply Ac | apply Ab | apply Ad) | exact HB.out)))); (case aL => have := LMc29.out; omega); intro v108 w30 ho hb hg hat; rw [← Ny107.out] at ho; have n0_ := Aa.mk (hb); have n1_ := Aa.mk (ho); clear HB; clear HO_11; have HB := n0_; have HO109 := n1_; clear n0_ n1_; clear ho hb hg hat))
                repeat (go_quiet (first | ((with_reducible refine Cj (b := .append) (xs := #[.tmp 75, .tmp 85]) rfl ?_); at_builtin; refine Kd.Cx (Kd.int .i64) (w0 := w) w.heap.size rfl (.tmp 75) (.tmp 85) 31 3 (.int .i64 0) 8 rfl Try.underlying31 info3 rfl (by decide) (by omega) u11 x11_2 (wrap64 ((wrap64 ((wrap64 ((wrap64 ((wrap64 (Int.tdiv a2 a0)) + x12_1)) * a0)) + (Int.tmod a2 a0))) + x13_2)) [.int .i64 (wrap64 ((wrap64 ((wrap64 ((wrap64 ((wrap64 (Int.tdiv a2 a0)) + x12_1)) * a0)) + (Int.tmod a2 a0))) + x13_2))] (fun _ => True) (fun _ => False) rfl rfl ?aP (fun _ hk => hk.elim) ?aF ?aO ?aB ?aS ?aL ?_; (case aP => exact rfl); (case aB => exact (by repeat (first | (with_reducible first | exact HB.out | apply Ac | apply Ab | apply Ad) | exact HB.out))); (case aF => exact (fun _ _ => trivial)); (case aO => exact (by (with_reducible repeat (first | apply Kd.Am | apply Kd.Ak | apply Kd.Aq)); exact HO_11.out)); (case aS => exact (Ap (by repeat (first | (with_reducible first | exact HB.out | apply Ac | apply Ab | apply Ad) | exact HB.out)))); (case aL => have := LMc29.out; omega); intro v108 w30 ho hb hg hat; rw [← Ny107.out] at ho; have n0_ := Aa.mk (hb); have n1_ := Aa.mk (ho); clear HB; clear HO_11; have HB := n0_; have HO109 := n1_; clear n0_ n1_; clear ho hb hg hat)); try go_wp2_with (first | ((with_reducible refine Cj (b := .append) (xs := #[.tmp 75, .tmp 85]) rfl ?_); at_builtin; refine Kd.Cx (Kd.int .i64) (w0 := w) w.heap.size rfl (.tmp 75) (.tmp 85) 31 3 (.int .i64 0) 8 rfl Try.underlying31 info3 rfl (by decide) (by omega) u11 x11_2 (wrap64 ((wrap64 ((wrap64 ((wrap64 ((wrap64 (Int.tdiv a2 a0)) + x12_1)) * a0)) + (Int.tmod a2 a0))) + x13_2)) [.int .i64 (wrap64 ((wrap64 ((wrap64 ((wrap64 ((wrap64 (Int.tdiv a2 a0)) + x12_1)) * a0)) + (Int.tmod a2 a0))) + x13_2))] (fun _ => True) (fun _ => False) rfl rfl ?aP (fun _ hk => hk.elim) ?aF ?aO ?aB ?aS ?aL ?_; (case aP => exact rfl); (case aB => exact (by repeat (first | (with_reducible first | exact HB.out | apply Ac | apply Ab | apply Ad) | exact HB.out))); (case aF => exact (fun _ _ => trivial)); (case aO => exact (by (with_reducible repeat (first | apply Kd.Am | apply Kd.Ak | apply Kd.Aq)); exact HO_11.out)); (case aS => exact (Ap (by repeat (first | (with_reducible first | exact HB.out | apply Ac | apply Ab | apply Ad) | exact HB.out)))); (case aL => have := LMc29.out; omega); intro v108 w30 ho hb hg hat; rw [← Ny107.out] at ho; have n0_ := Aa.mk (hb); have n1_ := Aa.mk (ho); clear HB; clear HO_11; have HB := n0_; have HO109 := n1_; clear n0_ n1_; clear ho hb hg hat)))
                go_roundg k2
                case measure => have := HK1.out; have := HK2.out; omega
                case rel => exact ⟨(y107), (wrap64 (x13_2 + 1)), (by first | rfl | (simp; done) | (simp [*]; done)), H', ⟨by have := HK1.out; have := HK2.out; omega⟩, ⟨by (with_reducible repeat (first | apply Kd.Am | apply Kd.Ak | apply Kd.Aq)); exact HO109.out⟩, ⟨by repeat (first | (with_reducible first | exact HB.out | apply Ac | apply Ab | apply Ad) | exact HB.out)⟩⟩
               ·rw [if_neg c29] at H
                exact absurd H (by simp)
          ·rw [if_neg c24] at H
           have c24b0 : (x12_1 == 0) = false := beq_eq_false_iff_ne.mpr c24
           have c24b1 : (x12_1 != 0) = true := bne_iff_ne.mpr c24
           have H' := Aa.mk H
           clear H
           go_wp2
           repeat (go_quiet (fail); try go_wp2)
           go_roundg k2
           case measure => have := HK1.out; have := HK2.out; omega
           case rel => exact ⟨(x11_2), (wrap64 (x13_2 + 1)), (by first | rfl | (simp; done) | (simp [*]; done)), H', ⟨by have := HK1.out; have := HK2.out; omega⟩, ⟨by (with_reducible repeat (first | apply Kd.Am | apply Kd.Ak | apply Kd.Aq)); exact HO_11.out⟩, ⟨by repeat (first | (with_reducible first | exact HB.out | apply Ac | apply Ab | apply Ad) | exact HB.out)⟩⟩
         ·rw [if_neg c23] at H
          have c23b0 : (a3 == 4) = false := beq_eq_false_iff_ne.mpr c23
          have c23b1 : (a3 != 4) = true := bne_iff_ne.mpr c23
          by_cases c31 : (wrap64 ((Int.tmod a2 a0) + x13_2)) < 0
          ·rw [if_pos c31] at H
           have c31b0 : decide ((wrap64 ((Int.tmod a2 a0) + x13_2)) < 0) = true := decide_eq_true c31
           clear c31
           have H' := Aa.mk H
           clear H
           go_wp2
           repeat (go_quiet (fail); try go_wp2)
           go_roundg k2
           case measure => have := HK1.out; have := HK2.out; omega
           case rel => exact ⟨(x11_2), (wrap64 (x13_2 + 1)), (by first | rfl | (simp; done) | (simp [*]; done)), H', ⟨by have := HK1.out; have := HK2.out; omega⟩, ⟨by (with_reducible repeat (first | apply Kd.Am | apply Kd.Ak | apply Kd.Aq)); exact HO_11.out⟩, ⟨by repeat (first | (with_reducible first | exact HB.out | apply Ac | apply Ab | apply Ad) | exact HB.out)⟩⟩
          ·rw [if_neg c31] at H
           have c31b0 : decide ((wrap64 ((Int.tmod a2 a0) + x13_2)) < 0) = false := decide_eq_false c31
           clear c31
           by_cases c32 : (wrap64 ((Int.tmod a2 a0) + x13_2)) ≥ a0
           ·rw [if_pos c32] at H
            have c32b0 : decide (a0 ≤ (wrap64 ((Int.tmod a2 a0) + x13_2))) = true := decide_eq_true c32
            clear c32
            have H' := Aa.mk H
            clear H
            go_wp2
            repeat (go_quiet (fail); try go_wp2)
            go_roundg k2
            case measure => have := HK1.out; have := HK2.out; omega
            case rel => exact ⟨(x11_2), (wrap64 (x13_2 + 1)), (by first | rfl | (simp; done) | (simp [*]; done)), H', ⟨by have := HK1.out; have := HK2.out; omega⟩, ⟨by (with_reducible repeat (first | apply Kd.Am | apply Kd.Ak | apply Kd.Aq)); exact HO_11.out⟩, ⟨by repeat (first | (with_reducible first | exact HB.out | apply Ac | apply Ab | apply Ad) | exact HB.out)⟩⟩
           ·rw [if_neg c32] at H
            have c32b0 : decide (a0 ≤ (wrap64 ((Int.tmod a2 a0) + x13_2))) = false := decide_eq_false c32
            clear c32
            by_cases c33 : (wrap64 ((wrap64 (Int.tdiv a2 a0)) + x12_1)) < 0
            ·rw [if_pos c33] at H
             have c33b0 : decide ((wrap64 ((wrap64 (Int.tdiv a2 a0)) + x12_1)) < 0) = true := decide_eq_true c33
             clear c33
             have H' := Aa.mk H
             clear H
             go_wp2
             repeat (go_quiet (fail); try go_wp2)
             go_roundg k2
             case measure => have := HK1.out; have := HK2.out; omega
             case rel => exact ⟨(x11_2), (wrap64 (x13_2 + 1)), (by first | rfl | (simp; done) | (simp [*]; done)), H', ⟨by have := HK1.out; have := HK2.out; omega⟩, ⟨by (with_reducible repeat (first | apply Kd.Am | apply Kd.Ak | apply Kd.Aq)); exact HO_11.out⟩, ⟨by repeat (first | (with_reducible first | exact HB.out | apply Ac | apply Ab | apply Ad) | exact HB.out)⟩⟩
            ·rw [if_neg c33] at H
             have c33b0 : decide ((wrap64 ((wrap64 (Int.tdiv a2 a0)) + x12_1)) < 0) = false := decide_eq_false c33
             clear c33
             by_cases c34 : (wrap64 ((wrap64 (Int.tdiv a2 a0)) + x12_1)) ≥ a1
             ·rw [if_pos c34] at H
              have c34b0 : decide (a1 ≤ (wrap64 ((wrap64 (Int.tdiv a2 a0)) + x12_1))) = true := decide_eq_true c34
              clear c34
              have H' := Aa.mk H
              clear H
              go_wp2
              repeat (go_quiet (fail); try go_wp2)
              go_roundg k2
              case measure => have := HK1.out; have := HK2.out; omega
              case rel => exact ⟨(x11_2), (wrap64 (x13_2 + 1)), (by first | rfl | (simp; done) | (simp [*]; done)), H', ⟨by have := HK1.out; have := HK2.out; omega⟩, ⟨by (with_reducible repeat (first | apply Kd.Am | apply Kd.Ak | apply Kd.Aq)); exact HO_11.out⟩, ⟨by repeat (first | (with_reducible first | exact HB.out | apply Ac | apply Ab | apply Ad) | exact HB.out)⟩⟩
             ·rw [if_neg c34] at H
              have c34b0 : decide (a1 ≤ (wrap64 ((wrap64 (Int.tdiv a2 a0)) + x12_1))) = false := decide_eq_false c34
              clear c34
              by_cases c35 : x11_2.length < 17592186044416
              ·rw [if_pos c35] at H
               have LMc35 := Aa.mk c35
               clear c35
               obtain ⟨y110, hy110⟩ : ∃ y_ : List Int, y_ = (x11_2 ++ [wrap64 ((wrap64 ((wrap64 ((wrap64 ((wrap64 (Int.tdiv a2 a0)) + x12_1)) * a0)) + (Int.tmod a2 a0))) + x13_2)]) := ⟨_, rfl⟩
               replace H : (At.l1 k2 a0 a1 a3 (Int.tmod a2 a0) (wrap64 (Int.tdiv a2 a0)) y110 x12_1 (wrap64 (x13_2 + 1))) = some r := by first | (rw [hy110]; with_reducible exact H) | (have H2_ := (Option.bind_some _ _).symm.trans H; rw [hy110]; with_reducible exact H2_) | (have H2_ := (Option.bind_some _ _).symm.trans H; with_reducible exact H2_) | with_reducible exact H | (rw [hy110]; exact H) | exact H
               have Ny110 := Aa.mk hy110
               clear hy110
               have H' := Aa.mk H
               clear H
               go_wp2_with (first | ((with_reducible refine Cj (b := .append) (xs := #[.tmp 75, .tmp 85]) rfl ?_); at_builtin; refine Kd.Cx (Kd.int .i64) (w0 := w) w.heap.size rfl (.tmp 75) (.tmp 85) 31 3 (.int .i64 0) 8 rfl Try.underlying31 info3 rfl (by decide) (by omega) u11 x11_2 (wrap64 ((wrap64 ((wrap64 ((wrap64 ((wrap64 (Int.tdiv a2 a0)) + x12_1)) * a0)) + (Int.tmod a2 a0))) + x13_2)) [.int .i64 (wrap64 ((wrap64 ((wrap64 ((wrap64 ((wrap64 (Int.tdiv a2 a0)) + x12_1)) * a0)) + (Int.tmod a2 a0))) + x13_2))] (fun _ => True) (fun _ => False) rfl rfl ?aP (fun _ hk => hk.elim) ?aF ?aO ?aB ?aS ?aL ?_; (case aP => exact rfl); (case aB => exact (by repeat (first | (with_reducible first | exact HB.out | apply Ac | apply Ab | apply Ad) | exact HB.out))); (case aF => exact (fun _ _ => trivial)); (case aO => exact (by (with_reducible repeat (first | apply Kd.Am | apply Kd.Ak | apply Kd.Aq)); exact HO_11.out)); (case aS => exact (Ap (by repeat (first | (with_reducible first | exact HB.out | apply Ac | apply Ab | apply Ad) | exact HB.out)))); (case aL => have := LMc35.out; omega); intro v111 w36 ho hb hg hat; rw [← Ny110.out] at ho; have n0_ := Aa.mk (hb); have n1_ := Aa.mk (ho); clear HB; clear HO_11; have HB := n0_; have HO112 := n1_; clear n0_ n1_; clear ho hb hg hat))
               repeat (go_quiet (first | ((with_reducible refine Cj (b := .append) (xs := #[.tmp 75, .tmp 85]) rfl ?_); at_builtin; refine Kd.Cx (Kd.int .i64) (w0 := w) w.heap.size rfl (.tmp 75) (.tmp 85) 31 3 (.int .i64 0) 8 rfl Try.underlying31 info3 rfl (by decide) (by omega) u11 x11_2 (wrap64 ((wrap64 ((wrap64 ((wrap64 ((wrap64 (Int.tdiv a2 a0)) + x12_1)) * a0)) + (Int.tmod a2 a0))) + x13_2)) [.int .i64 (wrap64 ((wrap64 ((wrap64 ((wrap64 ((wrap64 (Int.tdiv a2 a0)) + x12_1)) * a0)) + (Int.tmod a2 a0))) + x13_2))] (fun _ => True) (fun _ => False) rfl rfl ?aP (fun _ hk => hk.elim) ?aF ?aO ?aB ?aS ?aL ?_; (case aP => exact rfl); (case aB => exact (by repeat (first | (with_reducible first | exact HB.out | apply Ac | apply Ab | apply Ad) | exact HB.out))); (case aF => exact (fun _ _ => trivial)); (case aO => exact (by (with_reducible repeat (first | apply Kd.Am | apply Kd.Ak | apply Kd.Aq)); exact HO_11.out)); (case aS => exact (Ap (by repeat (first | (with_reducible first | exact HB.out | apply Ac | apply Ab | apply Ad) | exact HB.out)))); (case aL => have := LMc35.out; omega); intro v111 w36 ho hb hg hat; rw [← Ny110.out] at ho; have n0_ := Aa.mk (hb); have n1_ := Aa.mk (ho); clear HB; clear HO_11; have HB := n0_; have HO112 := n1_; clear n0_ n1_; clear ho hb hg hat)); try go_wp2_with (first | ((with_reducible refine Cj (b := .append) (xs := #[.tmp 75, .tmp 85]) rfl ?_); at_builtin; refine Kd.Cx (Kd.int .i64) (w0 := w) w.heap.size rfl (.tmp 75) (.tmp 85) 31 3 (.int .i64 0) 8 rfl Try.underlying31 info3 rfl (by decide) (by omega) u11 x11_2 (wrap64 ((wrap64 ((wrap64 ((wrap64 ((wrap64 (Int.tdiv a2 a0)) + x12_1)) * a0)) + (Int.tmod a2 a0))) + x13_2)) [.int .i64 (wrap64 ((wrap64 ((wrap64 ((wrap64 ((wrap64 (Int.tdiv a2 a0)) + x12_1)) * a0)) + (Int.tmod a2 a0))) + x13_2))] (fun _ => True) (fun _ => False) rfl rfl ?aP (fun _ hk => hk.elim) ?aF ?aO ?aB ?aS ?aL ?_; (case aP => exact rfl); (case aB => exact (by repeat (first | (with_reducible first | exact HB.out | apply Ac | apply Ab | apply Ad) | exact HB.out))); (case aF => exact (fun _ _ => trivial)); (case aO => exact (by (with_reducible repeat (first | apply Kd.Am | apply Kd.Ak | apply Kd.Aq)); exact HO_11.out)); (case aS => exact (Ap (by repeat (first | (with_reducible first | exact HB.out | apply Ac | apply Ab | apply Ad) | exact HB.out)))); (case aL => have := LMc35.out; omega); intro v111 w36 ho hb hg hat; rw [← Ny110.out] at ho; have n0_ := Aa.mk (hb); have n1_ := Aa.mk (ho); clear HB; clear HO_11; have HB := n0_; have HO112 := n1_; clear n0_ n1_; clear ho hb hg hat)))
               go_roundg k2
               case measure => have := HK1.out; have := HK2.out; omega
               case rel => exact ⟨(y110), (wrap64 (x13_2 + 1)), (by first | rfl | (simp; done) | (simp [*]; done)), H', ⟨by have := HK1.out; have := HK2.out; omega⟩, ⟨by (with_reducible repeat (first | apply Kd.Am | apply Kd.Ak | apply Kd.Aq)); exact HO112.out⟩, ⟨by repeat (first | (with_reducible first | exact HB.out | apply Ac | apply Ab | apply Ad) | exact HB.out)⟩⟩
              ·rw [if_neg c35] at H
               exact absurd H (by simp)
       ·rw [if_neg c7] at H
        have c7b0 : decide (x13_2 ≤ 1) = false := decide_eq_false c7
        clear c7
        have H' := Aa.mk H
        clear H
        go_wp2
        repeat (go_quiet (fail); try go_wp2)
        go_roundg k2
        case measure => have := HK1.out; have := HK2.out; omega
        case rel => exact ⟨(x11_2), (wrap64 (x12_1 + 1)), (by first | rfl | (simp; done) | (simp [*]; done)), H', ⟨by have := HK1.out; have := HK2.out; omega⟩, ⟨by (with_reducible repeat (first | apply Kd.Am | apply Kd.Ak | apply Kd.Aq)); exact HO_11.out⟩, ⟨by repeat (first | (with_reducible first | exact HB.out | apply Ac | apply Ab | apply Ad) | exact HB.out)⟩⟩
    ·rw [if_neg c6] at H
     have c6b0 : decide (x12_1 ≤ 1) = false := decide_eq_false c6
     clear c6
     obtain rfl := Option.some.inj H
     go_wp2
     repeat (go_quiet (fail); try go_wp2)
     go_ret
     exact ⟨_, by first | rfl | (simp [Bb, Bc] <;> rfl) | (simp [*, Bb, Bc] <;> rfl), by (with_reducible repeat (first | apply Kd.Am | apply Kd.Ak | apply Kd.Aq)); exact HO_11.out, by repeat (first | (with_reducible first | exact HB.out | apply Ac | apply Ab | apply Ad) | exact HB.out)⟩

def Cr.f (a0 : Int) (a1 : Int) : Option (Bool) := if a0 ≥ 1 then (if a0 ≤ 1024 then (if a1 ≥ 1 then (if a1 ≤ 1024 then (some (decide ((wrap64 (a0 * a1)) ≤ 65536))) else (some false)) else (some false)) else (some false)) else (some false)
set_option maxHeartbeats 8000000 in
set_option maxRecDepth 100000 in
theorem Cr.calls (a0 : Int) (a1 : Int) (r : Bool) (w : World) (h : Cr.f a0 a1 = some r) :
  Calls Try.prog 90 #[.int .i64 a0, .int .i64 a1] w fun e w' => e = .returned (.bool r) ∧ Drawn0 w w' := by
 have H : (if a0 ≥ 1 then (if a0 ≤ 1024 then (if a1 ≥ 1 then (if a1 ≤ 1024 then (some (decide ((wrap64 (a0 * a1)) ≤ 65536))) else (some false)) else (some false)) else (some false)) else (some false)) = some r := h
 clear h
 by_cases c3 : a0 ≥ 1
 ·rw [if_pos c3] at H
  have c3b0 : decide (1 ≤ a0) = true := decide_eq_true c3
  clear c3
  by_cases c4 : a0 ≤ 1024
  ·rw [if_pos c4] at H
   have c4b0 : decide (a0 ≤ 1024) = true := decide_eq_true c4
   clear c4
   by_cases c5 : a1 ≥ 1
   ·rw [if_pos c5] at H
    have c5b0 : decide (1 ≤ a1) = true := decide_eq_true c5
    clear c5
    by_cases c6 : a1 ≤ 1024
    ·rw [if_pos c6] at H
     have c6b0 : decide (a1 ≤ 1024) = true := decide_eq_true c6
     clear c6
     obtain rfl := Option.some.inj H
     go_enter Try.func90, Try.ntmps90
     go_wp2
     go_ret
     exact ⟨by first | rfl | (simp; done) | (simp [*]; done), by repeat (first | exact Drawn0.refl _ | apply Drawn0.step)⟩
    ·rw [if_neg c6] at H
     have c6b0 : decide (a1 ≤ 1024) = false := decide_eq_false c6
     clear c6
     obtain rfl := Option.some.inj H
     go_enter Try.func90, Try.ntmps90
     go_wp2
     go_ret
     exact ⟨by first | rfl | (simp; done) | (simp [*]; done), by repeat (first | exact Drawn0.refl _ | apply Drawn0.step)⟩
   ·rw [if_neg c5] at H
    have c5b0 : decide (1 ≤ a1) = false := decide_eq_false c5
    clear c5
    obtain rfl := Option.some.inj H
    go_enter Try.func90, Try.ntmps90
    go_wp2
    go_ret
    exact ⟨by first | rfl | (simp; done) | (simp [*]; done), by repeat (first | exact Drawn0.refl _ | apply Drawn0.step)⟩
  ·rw [if_neg c4] at H
   have c4b0 : decide (a0 ≤ 1024) = false := decide_eq_false c4
   clear c4
   obtain rfl := Option.some.inj H
   go_enter Try.func90, Try.ntmps90
   go_wp2
   go_ret
   exact ⟨by first | rfl | (simp; done) | (simp [*]; done), by repeat (first | exact Drawn0.refl _ | apply Drawn0.step)⟩
 ·rw [if_neg c3] at H
  have c3b0 : decide (1 ≤ a0) = false := decide_eq_false c3
  clear c3
  obtain rfl := Option.some.inj H
  go_enter Try.func90, Try.ntmps90
  go_wp2
  go_ret
  exact ⟨by first | rfl | (simp; done) | (simp [*]; done), by repeat (first | exact Drawn0.refl _ | apply Drawn0.step)⟩

def Cn.f (a0_0 : Int) (a0_1 : Int) (l0_2 : List Bool) : Option (Int) := (Cr.f a0_0 a0_1).bind fun t114 => (if t114 = true then (if (l0_2.length : Int) = (wrap64 (a0_0 * a0_1)) then (some 0) else (some 301)) else (some 300))
set_option maxHeartbeats 8000000 in
set_option maxRecDepth 100000 in
theorem Cn.calls (a0_0 : Int) (a0_1 : Int) (A0_2 : Option Addr) (c0_2 : Nat) (l0_2 : List Bool) (r : Int) (w : World) (hr0_2 : Kd.C Kd.bool w A0_2 l0_2.length l0_2) (hc0_2 : l0_2.length ≤ c0_2) (h : Cn.f a0_0 a0_1 l0_2 = some r) :
  Calls Try.prog 47 #[.agg #[.int .i64 a0_0, .int .i64 a0_1, .slice A0_2 l0_2.length c0_2]] w fun e w' => e = .returned (.int .i64 r) ∧ Below w.heap.size w w' := by
 have hu50 := Try.underlying50
 have HR0_2 := Aa.mk hr0_2
 have HC0_2 := Aa.mk hc0_2
 clear hr0_2 hc0_2
 have HB := Aa.mk (Below.refl w.heap.size w)
 have H : ((Cr.f a0_0 a0_1).bind fun t114 => (if t114 = true then (if (l0_2.length : Int) = (wrap64 (a0_0 * a0_1)) then (some 0) else (some 301)) else (some 300))) = some r := h
 clear h
 replace H := Option.bind_eq_some_iff.mp H
 obtain ⟨t114, A20, H⟩ := H
 replace H : (if t114 = true then (if (l0_2.length : Int) = (wrap64 (a0_0 * a0_1)) then (some 0) else (some 301)) else (some 300)) = some r := H
 have A2 := Aa.mk A20
 clear A20
 by_cases c3 : t114 = true
 ·subst c3
  have H1 : (if (l0_2.length : Int) = (wrap64 (a0_0 * a0_1)) then (some 0) else (some 301)) = some r := by rw [if_pos rfl] at H; exact H
  clear H
  have H := H1
  clear H1
  by_cases c4 : (l0_2.length : Int) = (wrap64 (a0_0 * a0_1))
  ·rw [if_pos c4] at H
   have c4b0 : ((l0_2.length : Int) == (wrap64 (a0_0 * a0_1))) = true := beq_iff_eq.mpr c4
   have c4b1 : ((l0_2.length : Int) != (wrap64 (a0_0 * a0_1))) = false := bne_eq_false_iff_eq.mpr c4
   clear c4
   obtain rfl := Option.some.inj H
   go_enter Try.func47, Try.ntmps47
   go_wp2_with (first | ((with_reducible refine Bf (N := 1) rfl ?_); refine Be ?hg (N := 1) ?hd (cs := #[.int .i64 a0_0, .int .i64 a0_1, .slice A0_2 l0_2.length c0_2]) (t := 50) ?hr ?_; (case hd => rfl); (case hg => rfl); (case hr => first | (go_simp; done) | (go_simp; rfl)); intro gb113 hg w5 hbox hb; have n0_ := Aa.mk (As (by repeat (first | (with_reducible first | exact HB.out | apply Ac | apply Ab | apply Ad) | exact HB.out)) hb); have n1_ := Aa.mk (hbox); have n2_ := Aa.mk ((by rw [hg]; exact (Ap (by repeat (first | (with_reducible first | exact HB.out | apply Ac | apply Ab | apply Ad) | exact HB.out))) : w.heap.size ≤ gb113)); have n3_ := Aa.mk ((by rw [hg]; exact (Ap (by repeat (first | (with_reducible first | exact HB.out | apply Ac | apply Ab | apply Ad) | exact HB.out))) : w.heap.size ≤ gb113)); clear HB; have HB := n0_; have BK113 := n1_; have GW113 := n2_; have GE113 := n3_; clear n0_ n1_ n2_ n3_; clear hb hbox hg; have hcz6_0 : w5.cell? ⟨gb113, 0, none⟩ = some (.int .i64 a0_0) := (Ag BK113.out 0).trans rfl; have hcz6_1 : w5.cell? ⟨gb113, 1, none⟩ = some (.int .i64 a0_1) := (Ag BK113.out 1).trans rfl; have hcz6_2 : w5.cell? ⟨gb113, 2, none⟩ = some (.slice A0_2 l0_2.length c0_2) := (Ag BK113.out 2).trans rfl; have hfz6_0 := Ae BK113.out 0; have hfz6_1 := Ae BK113.out 1; have hfz6_2 := Ae BK113.out 2) | ((with_reducible refine Bs (f := 90) rfl ?_); refine Ch (some 7) rfl rfl Try.func90 (by kernel_rfl) rfl #[.int .i64 a0_0, .int .i64 a0_1] rfl (by (try simp only [List.map_toArray, List.map_cons, List.map_nil]); first | done | rfl | (simp only [List.length_drop, List.length_take]; rfl)) ?_; (with_reducible refine (Cr.calls a0_0 a0_1 true _ A2.out).mono ?_); rintro e w' ⟨rfl, ⟨nd, rfl⟩⟩; refine ⟨_, rfl, ?_⟩))
   go_ret
   exact ⟨by first | rfl | (simp [Bb, Bc] <;> rfl) | (simp [*, Bb, Bc] <;> rfl), by repeat (first | (with_reducible first | exact HB.out | apply Ac | apply Ab | apply Ad | refine Ah ?_ GE113.out) | exact HB.out)⟩
  ·rw [if_neg c4] at H
   have c4b0 : ((l0_2.length : Int) == (wrap64 (a0_0 * a0_1))) = false := beq_eq_false_iff_ne.mpr c4
   have c4b1 : ((l0_2.length : Int) != (wrap64 (a0_0 * a0_1))) = true := bne_iff_ne.mpr c4
   obtain rfl := Option.some.inj H
   go_enter Try.func47, Try.ntmps47
   go_wp2_with (first | ((with_reducible refine Bf (N := 1) rfl ?_); refine Be ?hg (N := 1) ?hd (cs := #[.int .i64 a0_0, .int .i64 a0_1, .slice A0_2 l0_2.length c0_2]) (t := 50) ?hr ?_; (case hd => rfl); (case hg => rfl); (case hr => first | (go_simp; done) | (go_simp; rfl)); intro gb113 hg w7 hbox hb; have n0_ := Aa.mk (As (by repeat (first | (with_reducible first | exact HB.out | apply Ac | apply Ab | apply Ad) | exact HB.out)) hb); have n1_ := Aa.mk (hbox); have n2_ := Aa.mk ((by rw [hg]; exact (Ap (by repeat (first | (with_reducible first | exact HB.out | apply Ac | apply Ab | apply Ad) | exact HB.out))) : w.heap.size ≤ gb113)); have n3_ := Aa.mk ((by rw [hg]; exact (Ap (by repeat (first | (with_reducible first | exact HB.out | apply Ac | apply Ab | apply Ad) | exact HB.out))) : w.heap.size ≤ gb113)); clear HB; have HB := n0_; have BK113 := n1_; have GW113 := n2_; have GE113 := n3_; clear n0_ n1_ n2_ n3_; clear hb hbox hg; have hcz8_0 : w7.cell? ⟨gb113, 0, none⟩ = some (.int .i64 a0_0) := (Ag BK113.out 0).trans rfl; have hcz8_1 : w7.cell? ⟨gb113, 1, none⟩ = some (.int .i64 a0_1) := (Ag BK113.out 1).trans rfl; have hcz8_2 : w7.cell? ⟨gb113, 2, none⟩ = some (.slice A0_2 l0_2.length c0_2) := (Ag BK113.out 2).trans rfl; have hfz8_0 := Ae BK113.out 0; have hfz8_1 := Ae BK113.out 1; have hfz8_2 := Ae BK113.out 2) | ((with_reducible refine Bs (f := 90) rfl ?_); refine Ch (some 7) rfl rfl Try.func90 (by kernel_rfl) rfl #[.int .i64 a0_0, .int .i64 a0_1] rfl (by (try simp only [List.map_toArray, List.map_cons, List.map_nil]); first | done | rfl | (simp only [List.length_drop, List.length_take]; rfl)) ?_; (with_reducible refine (Cr.calls a0_0 a0_1 true _ A2.out).mono ?_); rintro e w' ⟨rfl, ⟨nd, rfl⟩⟩; refine ⟨_, rfl, ?_⟩))
   go_ret
   exact ⟨by first | rfl | (simp [Bb, Bc] <;> rfl) | (simp [*, Bb, Bc] <;> rfl), by repeat (first | (with_reducible first | exact HB.out | apply Ac | apply Ab | apply Ad | refine Ah ?_ GE113.out) | exact HB.out)⟩
 ·replace c3 := Bool.eq_false_iff.mpr c3
  subst c3
  have H1 : (some 300) = some r := by rw [if_neg (show ¬ (false = true) by decide)] at H; exact H
  clear H
  have H := H1
  clear H1
  obtain rfl := Option.some.inj H
  go_enter Try.func47, Try.ntmps47
  go_wp2_with (first | ((with_reducible refine Bf (N := 1) rfl ?_); refine Be ?hg (N := 1) ?hd (cs := #[.int .i64 a0_0, .int .i64 a0_1, .slice A0_2 l0_2.length c0_2]) (t := 50) ?hr ?_; (case hd => rfl); (case hg => rfl); (case hr => first | (go_simp; done) | (go_simp; rfl)); intro gb113 hg w9 hbox hb; have n0_ := Aa.mk (As (by repeat (first | (with_reducible first | exact HB.out | apply Ac | apply Ab | apply Ad) | exact HB.out)) hb); have n1_ := Aa.mk (hbox); have n2_ := Aa.mk ((by rw [hg]; exact (Ap (by repeat (first | (with_reducible first | exact HB.out | apply Ac | apply Ab | apply Ad) | exact HB.out))) : w.heap.size ≤ gb113)); have n3_ := Aa.mk ((by rw [hg]; exact (Ap (by repeat (first | (with_reducible first | exact HB.out | apply Ac | apply Ab | apply Ad) | exact HB.out))) : w.heap.size ≤ gb113)); clear HB; have HB := n0_; have BK113 := n1_; have GW113 := n2_; have GE113 := n3_; clear n0_ n1_ n2_ n3_; clear hb hbox hg; have hcz10_0 : w9.cell? ⟨gb113, 0, none⟩ = some (.int .i64 a0_0) := (Ag BK113.out 0).trans rfl; have hcz10_1 : w9.cell? ⟨gb113, 1, none⟩ = some (.int .i64 a0_1) := (Ag BK113.out 1).trans rfl; have hcz10_2 : w9.cell? ⟨gb113, 2, none⟩ = some (.slice A0_2 l0_2.length c0_2) := (Ag BK113.out 2).trans rfl; have hfz10_0 := Ae BK113.out 0; have hfz10_1 := Ae BK113.out 1; have hfz10_2 := Ae BK113.out 2) | ((with_reducible refine Bs (f := 90) rfl ?_); refine Ch (some 7) rfl rfl Try.func90 (by kernel_rfl) rfl #[.int .i64 a0_0, .int .i64 a0_1] rfl (by (try simp only [List.map_toArray, List.map_cons, List.map_nil]); first | done | rfl | (simp only [List.length_drop, List.length_take]; rfl)) ?_; (with_reducible refine (Cr.calls a0_0 a0_1 false _ A2.out).mono ?_); rintro e w' ⟨rfl, ⟨nd, rfl⟩⟩; refine ⟨_, rfl, ?_⟩))
  go_ret
  exact ⟨by first | rfl | (simp [Bb, Bc] <;> rfl) | (simp [*, Bb, Bc] <;> rfl), by repeat (first | (with_reducible first | exact HB.out | apply Ac | apply Ab | apply Ad | refine Ah ?_ GE113.out) | exact HB.out)⟩

def Cc.f (a0_0 : Int) (a0_1 : Int) (l0_2 : List Bool) (a1 : Int) : Option (Bool) := (Cn.f a0_0 a0_1 l0_2).bind fun t116 => (if t116 = 0 then (if a1 = 4 then (some true) else (some (a1 == 8))) else (some false))
set_option maxHeartbeats 8000000 in
set_option maxRecDepth 100000 in
theorem Cc.calls (a0_0 : Int) (a0_1 : Int) (A0_2 : Option Addr) (c0_2 : Nat) (l0_2 : List Bool) (a1 : Int) (r : Bool) (w : World) (hr0_2 : Kd.C Kd.bool w A0_2 l0_2.length l0_2) (hc0_2 : l0_2.length ≤ c0_2) (h : Cc.f a0_0 a0_1 l0_2 a1 = some r) :
  Calls Try.prog 36 #[.agg #[.int .i64 a0_0, .int .i64 a0_1, .slice A0_2 l0_2.length c0_2], .int .i64 a1] w fun e w' => e = .returned (.bool r) ∧ Below w.heap.size w w' := by
 have hu50 := Try.underlying50
 have HR0_2 := Aa.mk hr0_2
 have HC0_2 := Aa.mk hc0_2
 clear hr0_2 hc0_2
 have HB := Aa.mk (Below.refl w.heap.size w)
 have H : ((Cn.f a0_0 a0_1 l0_2).bind fun t116 => (if t116 = 0 then (if a1 = 4 then (some true) else (some (a1 == 8))) else (some false))) = some r := h
 clear h
 replace H := Option.bind_eq_some_iff.mp H
 obtain ⟨t116, A30, H⟩ := H
 replace H : (if t116 = 0 then (if a1 = 4 then (some true) else (some (a1 == 8))) else (some false)) = some r := H
 have A3 := Aa.mk A30
 clear A30
 by_cases c4 : t116 = 0
 ·rw [if_pos c4] at H
  have c4b0 : (t116 == 0) = true := beq_iff_eq.mpr c4
  have c4b1 : (t116 != 0) = false := bne_eq_false_iff_eq.mpr c4
  clear c4
  by_cases c5 : a1 = 4
  ·rw [if_pos c5] at H
   have c5b0 : (a1 == 4) = true := beq_iff_eq.mpr c5
   have c5b1 : (a1 != 4) = false := bne_eq_false_iff_eq.mpr c5
   clear c5
   obtain rfl := Option.some.inj H
   go_enter Try.func36, Try.ntmps36
   go_wp2_with (first | ((with_reducible refine Bf (N := 2) rfl ?_); refine Be ?hg (N := 2) ?hd (cs := #[.int .i64 a0_0, .int .i64 a0_1, .slice A0_2 l0_2.length c0_2]) (t := 50) ?hr ?_; (case hd => rfl); (case hg => rfl); (case hr => first | (go_simp; done) | (go_simp; rfl)); intro gb115 hg w6 hbox hb; have n0_ := Aa.mk (As (by repeat (first | (with_reducible first | exact HB.out | apply Ac | apply Ab | apply Ad) | exact HB.out)) hb); have n1_ := Aa.mk (hbox); have n2_ := Aa.mk ((by rw [hg]; exact (Ap (by repeat (first | (with_reducible first | exact HB.out | apply Ac | apply Ab | apply Ad) | exact HB.out))) : w.heap.size ≤ gb115)); have n3_ := Aa.mk ((by rw [hg]; exact (Ap (by repeat (first | (with_reducible first | exact HB.out | apply Ac | apply Ab | apply Ad) | exact HB.out))) : w.heap.size ≤ gb115)); clear HB; have HB := n0_; have BK115 := n1_; have GW115 := n2_; have GE115 := n3_; clear n0_ n1_ n2_ n3_; clear hb hbox hg; have hcz7_0 : w6.cell? ⟨gb115, 0, none⟩ = some (.int .i64 a0_0) := (Ag BK115.out 0).trans rfl; have hcz7_1 : w6.cell? ⟨gb115, 1, none⟩ = some (.int .i64 a0_1) := (Ag BK115.out 1).trans rfl; have hcz7_2 : w6.cell? ⟨gb115, 2, none⟩ = some (.slice A0_2 l0_2.length c0_2) := (Ag BK115.out 2).trans rfl; have hfz7_0 := Ae BK115.out 0; have hfz7_1 := Ae BK115.out 1; have hfz7_2 := Ae BK115.out 2) | ((with_reducible refine Bs (f := 47) rfl ?_); refine Ch (some 6) rfl rfl Try.func47 (by kernel_rfl) rfl #[.agg #[.int .i64 a0_0, .int .i64 a0_1, .slice A0_2 l0_2.length c0_2]] rfl (by (try simp only [List.map_toArray, List.map_cons, List.map_nil]); first | done | rfl | (simp only [List.length_drop, List.length_take]; rfl)) ?_; (with_reducible refine (Cn.calls a0_0 a0_1 _ _ l0_2 t116 _ ?side1 ?side2 A3.out).mono ?_); (case side1 => repeat (first | exact (Kd.B6 HR0_2.out HB.out) | (with_reducible refine Kd.Bj ?_ _) | (with_reducible refine Kd.Bv ?_ _) | (with_reducible refine Kd.B4 ?_))); (case side2 => exact HC0_2.out); rintro e w8 ⟨rfl, hb⟩; refine ⟨_, rfl, ?_⟩; have n0_ := Aa.mk (Ar (g := gb115) (o := .cells #[.int .i64 a0_0, .int .i64 a0_1, .slice A0_2 l0_2.length c0_2] 50 (0, 0)) (by (with_reducible repeat (first | refine Ai ?_ _ | refine Aj ?_ | refine Af ?_ _)); exact BK115.out) hb); have n1_ := Aa.mk (As (by repeat (first | (with_reducible first | exact HB.out | apply Ac | apply Ab | apply Ad | refine Ah ?_ GE115.out) | exact HB.out)) hb); clear BK115; clear HB; have BK115 := n0_; have HB := n1_; clear n0_ n1_; (try clear hb); (try clear hb2); (try clear hk); (try clear hi)))
   go_ret
   exact ⟨by first | rfl | (simp [Bb, Bc] <;> rfl) | (simp [*, Bb, Bc] <;> rfl), by repeat (first | (with_reducible first | exact HB.out | apply Ac | apply Ab | apply Ad | refine Ah ?_ GE115.out) | exact HB.out)⟩
  ·rw [if_neg c5] at H
   have c5b0 : (a1 == 4) = false := beq_eq_false_iff_ne.mpr c5
   have c5b1 : (a1 != 4) = true := bne_iff_ne.mpr c5
   obtain rfl := Option.some.inj H
   go_enter Try.func36, Try.ntmps36
   go_wp2_with (first | ((with_reducible refine Bf (N := 2) rfl ?_); refine Be ?hg (N := 2) ?hd (cs := #[.int .i64 a0_0, .int .i64 a0_1, .slice A0_2 l0_2.length c0_2]) (t := 50) ?hr ?_; (case hd => rfl); (case hg => rfl); (case hr => first | (go_simp; done) | (go_simp; rfl)); intro gb115 hg w9 hbox hb; have n0_ := Aa.mk (As (by repeat (first | (with_reducible first | exact HB.out | apply Ac | apply Ab | apply Ad) | exact HB.out)) hb); have n1_ := Aa.mk (hbox); have n2_ := Aa.mk ((by rw [hg]; exact (Ap (by repeat (first | (with_reducible first | exact HB.out | apply Ac | apply Ab | apply Ad) | exact HB.out))) : w.heap.size ≤ gb115)); have n3_ := Aa.mk ((by rw [hg]; exact (Ap (by repeat (first | (with_reducible first | exact HB.out | apply Ac | apply Ab | apply Ad) | exact HB.out))) : w.heap.size ≤ gb115)); clear HB; have HB := n0_; have BK115 := n1_; have GW115 := n2_; have GE115 := n3_; clear n0_ n1_ n2_ n3_; clear hb hbox hg; have hcz10_0 : w9.cell? ⟨gb115, 0, none⟩ = some (.int .i64 a0_0) := (Ag BK115.out 0).trans rfl; have hcz10_1 : w9.cell? ⟨gb115, 1, none⟩ = some (.int .i64 a0_1) := (Ag BK115.out 1).trans rfl; have hcz10_2 : w9.cell? ⟨gb115, 2, none⟩ = some (.slice A0_2 l0_2.length c0_2) := (Ag BK115.out 2).trans rfl; have hfz10_0 := Ae BK115.out 0; have hfz10_1 := Ae BK115.out 1; have hfz10_2 := Ae BK115.out 2) | ((with_reducible refine Bs (f := 47) rfl ?_); refine Ch (some 6) rfl rfl Try.func47 (by kernel_rfl) rfl #[.agg #[.int .i64 a0_0, .int .i64 a0_1, .slice A0_2 l0_2.length c0_2]] rfl (by (try simp only [List.map_toArray, List.map_cons, List.map_nil]); first | done | rfl | (simp only [List.length_drop, List.length_take]; rfl)) ?_; (with_reducible refine (Cn.calls a0_0 a0_1 _ _ l0_2 t116 _ ?side1 ?side2 A3.out).mono ?_); (case side1 => repeat (first | exact (Kd.B6 HR0_2.out HB.out) | (with_reducible refine Kd.Bj ?_ _) | (with_reducible refine Kd.Bv ?_ _) | (with_reducible refine Kd.B4 ?_))); (case side2 => exact HC0_2.out); rintro e w11 ⟨rfl, hb⟩; refine ⟨_, rfl, ?_⟩; have n0_ := Aa.mk (Ar (g := gb115) (o := .cells #[.int .i64 a0_0, .int .i64 a0_1, .slice A0_2 l0_2.length c0_2] 50 (0, 0)) (by (with_reducible repeat (first | refine Ai ?_ _ | refine Aj ?_ | refine Af ?_ _)); exact BK115.out) hb); have n1_ := Aa.mk (As (by repeat (first | (with_reducible first | exact HB.out | apply Ac | apply Ab | apply Ad | refine Ah ?_ GE115.out) | exact HB.out)) hb); clear BK115; clear HB; have BK115 := n0_; have HB := n1_; clear n0_ n1_; (try clear hb); (try clear hb2); (try clear hk); (try clear hi)))
   go_ret
   exact ⟨by first | rfl | (simp [Bb, Bc] <;> rfl) | (simp [*, Bb, Bc] <;> rfl), by repeat (first | (with_reducible first | exact HB.out | apply Ac | apply Ab | apply Ad | refine Ah ?_ GE115.out) | exact HB.out)⟩
 ·rw [if_neg c4] at H
  have c4b0 : (t116 == 0) = false := beq_eq_false_iff_ne.mpr c4
  have c4b1 : (t116 != 0) = true := bne_iff_ne.mpr c4
  obtain rfl := Option.some.inj H
  go_enter Try.func36, Try.ntmps36
  go_wp2_with (first | ((with_reducible refine Bf (N := 2) rfl ?_); refine Be ?hg (N := 2) ?hd (cs := #[.int .i64 a0_0, .int .i64 a0_1, .slice A0_2 l0_2.length c0_2]) (t := 50) ?hr ?_; (case hd => rfl); (case hg => rfl); (case hr => first | (go_simp; done) | (go_simp; rfl)); intro gb115 hg w12 hbox hb; have n0_ := Aa.mk (As (by repeat (first | (with_reducible first | exact HB.out | apply Ac | apply Ab | apply Ad) | exact HB.out)) hb); have n1_ := Aa.mk (hbox); have n2_ := Aa.mk ((by rw [hg]; exact (Ap (by repeat (first | (with_reducible first | exact HB.out | apply Ac | apply Ab | apply Ad) | exact HB.out))) : w.heap.size ≤ gb115)); have n3_ := Aa.mk ((by rw [hg]; exact (Ap (by repeat (first | (with_reducible first | exact HB.out | apply Ac | apply Ab | apply Ad) | exact HB.out))) : w.heap.size ≤ gb115)); clear HB; have HB := n0_; have BK115 := n1_; have GW115 := n2_; have GE115 := n3_; clear n0_ n1_ n2_ n3_; clear hb hbox hg; have hcz13_0 : w12.cell? ⟨gb115, 0, none⟩ = some (.int .i64 a0_0) := (Ag BK115.out 0).trans rfl; have hcz13_1 : w12.cell? ⟨gb115, 1, none⟩ = some (.int .i64 a0_1) := (Ag BK115.out 1).trans rfl; have hcz13_2 : w12.cell? ⟨gb115, 2, none⟩ = some (.slice A0_2 l0_2.length c0_2) := (Ag BK115.out 2).trans rfl; have hfz13_0 := Ae BK115.out 0; have hfz13_1 := Ae BK115.out 1; have hfz13_2 := Ae BK115.out 2) | ((with_reducible refine Bs (f := 47) rfl ?_); refine Ch (some 6) rfl rfl Try.func47 (by kernel_rfl) rfl #[.agg #[.int .i64 a0_0, .int .i64 a0_1, .slice A0_2 l0_2.length c0_2]] rfl (by (try simp only [List.map_toArray, List.map_cons, List.map_nil]); first | done | rfl | (simp only [List.length_drop, List.length_take]; rfl)) ?_; (with_reducible refine (Cn.calls a0_0 a0_1 _ _ l0_2 t116 _ ?side1 ?side2 A3.out).mono ?_); (case side1 => repeat (first | exact (Kd.B6 HR0_2.out HB.out) | (with_reducible refine Kd.Bj ?_ _) | (with_reducible refine Kd.Bv ?_ _) | (with_reducible refine Kd.B4 ?_))); (case side2 => exact HC0_2.out); rintro e w14 ⟨rfl, hb⟩; refine ⟨_, rfl, ?_⟩; have n0_ := Aa.mk (Ar (g := gb115) (o := .cells #[.int .i64 a0_0, .int .i64 a0_1, .slice A0_2 l0_2.length c0_2] 50 (0, 0)) (by (with_reducible repeat (first | refine Ai ?_ _ | refine Aj ?_ | refine Af ?_ _)); exact BK115.out) hb); have n1_ := Aa.mk (As (by repeat (first | (with_reducible first | exact HB.out | apply Ac | apply Ab | apply Ad | refine Ah ?_ GE115.out) | exact HB.out)) hb); clear BK115; clear HB; have BK115 := n0_; have HB := n1_; clear n0_ n1_; (try clear hb); (try clear hb2); (try clear hk); (try clear hi)))
  go_ret
  exact ⟨by first | rfl | (simp [Bb, Bc] <;> rfl) | (simp [*, Bb, Bc] <;> rfl), by repeat (first | (with_reducible first | exact HB.out | apply Ac | apply Ab | apply Ad | refine Ah ?_ GE115.out) | exact HB.out)⟩

end Go.Proofs.Yteamphcehoaleaa.PFN

