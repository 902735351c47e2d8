import Derived.Test.YteamphcehoaleaaZWAt
import Derived.Test.YteamphcehoaleaaZPFEx0
namespace Go.Proofs.Yteamphcehoaleaa.PFE
open Go.Proofs.Yteamphcehoaleaa.PFA
open Go.RowKit Go.Proofs.YteamphcehoaleaaW.PrintWords Go.Proofs.YteamphcehoaleaaW.PrintLast Go.Proofs.YteamphcehoaleaaW.PrintMore
attribute [local go_sem] max2_int min2_int max_two min_two max_three min_three max_four min_four   -- for this text's walks alone
set_option linter.unusedVariables false
set_option linter.unusedSimpArgs false

mutual
def Aq.l0 : Nat → Int → Int → Int → Int → Int → List Int → Int → Option (List Int)
 | 0, _, _, _, _, _, _, _ => none
 | k + 1, x0, x1, x3, x9, x10, x11, x12 => if x12 ≤ 1 then (Aq.l1 k x0 x1 x3 x9 x10 x11 x12 (-1)) else (some x11)
def Aq.l1 : Nat → Int → Int → Int → Int → Int → List Int → Int → Int → Option (List Int)
 | 0, _, _, _, _, _, _, _, _ => none
 | k + 1, x0, x1, x3, x9, x10, x11, x12, x13 => if x13 ≤ 1 then (if x13 = 0 then (if x12 = 0 then (Aq.l1 k x0 x1 x3 x9 x10 x11 x12 (wrap64 (x13 + 1))) else (if x3 = 4 then (if (wrap64 (x9 + x13)) < 0 then (Aq.l1 k x0 x1 x3 x9 x10 x11 x12 (wrap64 (x13 + 1))) else (if (wrap64 (x9 + x13)) ≥ x0 then (Aq.l1 k x0 x1 x3 x9 x10 x11 x12 (wrap64 (x13 + 1))) else (if (wrap64 (x10 + x12)) < 0 then (Aq.l1 k x0 x1 x3 x9 x10 x11 x12 (wrap64 (x13 + 1))) else (if (wrap64 (x10 + x12)) ≥ x1 then (Aq.l1 k x0 x1 x3 x9 x10 x11 x12 (wrap64 (x13 + 1))) else (if x11.length < 17592186044416 then (Aq.l1 k x0 x1 x3 x9 x10 (x11 ++ [wrap64 ((wrap64 ((wrap64 ((wrap64 (x10 + x12)) * x0)) + x9)) + x13)]) x12 (wrap64 (x13 + 1))) else (none)))))) else (if (wrap64 (x9 + x13)) < 0 then (Aq.l1 k x0 x1 x3 x9 x10 x11 x12 (wrap64 (x13 + 1))) else (if (wrap64 (x9 + x13)) ≥ x0 then (Aq.l1 k x0 x1 x3 x9 x10 x11 x12 (wrap64 (x13 + 1))) else (if (wrap64 (x10 + x12)) < 0 then (Aq.l1 k x0 x1 x3 x9 x10 x11 x12 (wrap64 (x13 + 1))) else (if (wrap64 (x10 + x12)) ≥ x1 then (Aq.l1 k x0 x1 x3 x9 x10 x11 x12 (wrap64 (x13 + 1))) else (if x11.length < 17592186044416 then (Aq.l1 k x0 x1 x3 x9 x10 (x11 ++ [wrap64 ((wrap64 ((wrap64 ((wrap64 (x10 + x12)) * x0)) + x9)) + x13)]) x12 (wrap64 (x13 + 1))) else (none)))))))) else (if x3 = 4 then (if x12 = 0 then (if (wrap64 (x9 + x13)) < 0 then (Aq.l1 k x0 x1 x3 x9 x10 x11 x12 (wrap64 (x13 + 1))) else (if (wrap64 (x9 + x13)) ≥ x0 then (Aq.l1 k x0 x1 x3 x9 x10 x11 x12 (wrap64 (x13 + 1))) else (if (wrap64 (x10 + x12)) < 0 then (Aq.l1 k x0 x1 x3 x9 x10 x11 x12 (wrap64 (x13 + 1))) else (if (wrap64 (x10 + x12)) ≥ x1 then (Aq.l1 k x0 x1 x3 x9 x10 x11 x12 (wrap64 (x13 + 1))) else (if x11.length < 17592186044416 then (Aq.l1 k x0 x1 x3 x9 x10 (x11 ++ [wrap64 ((wrap64 ((wrap64 ((wrap64 (x10 + x12)) * x0)) + x9)) + x13)]) x12 (wrap64 (x13 + 1))) else (none)))))) else (Aq.l1 k x0 x1 x3 x9 x10 x11 x12 (wrap64 (x13 + 1)))) else (if (wrap64 (x9 + x13)) < 0 then (Aq.l1 k x0 x1 x3 x9 x10 x11 x12 (wrap64 (x13 + 1))) else (if (wrap64 (x9 + x13)) ≥ x0 then (Aq.l1 k x0 x1 x3 x9 x10 x11 x12 (wrap64 (x13 + 1))) else (if (wrap64 (x10 + x12)) < 0 then (Aq.l1 k x0 x1 x3 x9 x10 x11 x12 (wrap64 (x13 + 1))) else (if (wrap64 (x10 + x12)) ≥ x1 then (Aq.l1 k x0 x1 x3 x9 x10 x11 x12 (wrap64 (x13 + 1))) else (if x11.length < 17592186044416 then (Aq.l1 k x0 x1 x3 x9 x10 (x11 ++ [wrap64 ((wrap64 ((wrap64 ((wrap64 (x10 + x12)) * x0)) + x9)) + x13)]) x12 (wrap64 (x13 + 1))) else (none)))))))) else (Aq.l0 k x0 x1 x3 x9 x10 x11 (wrap64 (x12 + 1)))
end
def Aq.f (k : Nat) (a0 : Int) (a1 : Int) (a2 : Int) (a3 : Int) : Option (List Int) := if a0 = 0 then (none) else (Aq.l0 k a0 a1 a3 (Int.tmod a2 a0) (wrap64 (Int.tdiv a2 a0)) ([] : List Int) (-1))
set_option maxHeartbeats 8000000 in
set_option maxRecDepth 100000 in
theorem Aq.calls (k : Nat) (a0 : Int) (a1 : Int) (a2 : Int) (a3 : Int) (r : List Int) (w : World) (h : Aq.f k a0 a1 a2 a3 = some r) :
  Calls Try.prog 35 #[.int .i64 a0, .int .i64 a1, .int .i64 a2, .int .i64 a3] w fun e w' => ∃ v0_ : Value, e = .returned (v0_) ∧ Kd.R (Kd.int .i64) 3 w' w.heap.size (fun _ => True) v0_ r ∧ Below w.heap.size w w' := by
 have HB := Aa.mk (Below.refl w.heap.size w)
 have H : (if a0 = 0 then (none) else (Aq.l0 k a0 a1 a3 (Int.tmod a2 a0) (wrap64 (Int.tdiv a2 a0)) ([] : List Int) (-1))) = some r := h
 clear h
 by_cases c5 : a0 = 0
 ·rw [if_pos c5] at H
  exact absurd H (by simp)
 ·rw [if_neg c5] at H
  have c5b0 : (a0 == 0) = false := beq_eq_false_iff_ne.mpr c5
  have c5b1 : (a0 != 0) = true := bne_iff_ne.mpr c5
  have H' := Aa.mk H
  clear H
  go_enter Try.func35, Try.ntmps35
  go_wp2
  repeat (go_quiet (fail); try go_wp2)
  go_loopg [11, 12] k (fun kq v11 v12 w' => ∃ (x11_1 : List Int) (x12_1 : Int), v12 = .int .i64 x12_1 ∧ Aa (Aq.l0 kq a0 a1 a3 (Int.tmod a2 a0) (wrap64 (Int.tdiv a2 a0)) x11_1 x12_1 = some r) ∧ Aa (kq ≤ k) ∧ Aa (Kd.R (Kd.int .i64) 3 w' w.heap.size (fun _ => True) v11 x11_1) ∧ Aa (Below w.heap.size w w'))
  case atStart => exact ⟨(([] : List Int)), ((-1)), (by first | rfl | (simp; done) | (simp [*]; done)), H', ⟨Nat.le_refl _⟩, ⟨by first | exact Kd.Cu _ _ _ _ _ | exact Kd.N_nil _ _ _ _ _ | exact Kd.V_nil _ _ _ _ _ | exact Kd.Q_nil _ _ _ _ _ | exact Kd.S_nil _ _ _ _ _⟩, ⟨by repeat (first | (with_reducible first | exact HB.out | apply Ad | apply Ac | apply Ah) | exact HB.out)⟩⟩
  case round =>
   clear H'
   try clear p2
   try clear c3
   try clear c5
   try clear c5b0
   try clear c5b1
   obtain ⟨x11_1, x12_1, rfl, HA, HK1, HO_11, HB⟩ := hrel
   cases gk with
   | zero => exact absurd HA.out (by simp [Aq.l0])
   | succ k1 =>
    have H := HA.out
    clear HA
    simp only [Aq.l0] at H
    by_cases c6 : x12_1 ≤ 1
    ·rw [if_pos c6] at H
     have c6b0 : decide (x12_1 ≤ 1) = true := decide_eq_true c6
     clear c6
     have H' := Aa.mk H
     clear H
     go_wp2
     repeat (go_quiet (fail); try go_wp2)
     go_loopg [11, 13] k1 (fun kq v11 v13 w' => ∃ (x11_2 : List Int) (x13_2 : Int), v13 = .int .i64 x13_2 ∧ Aa (Aq.l1 kq a0 a1 a3 (Int.tmod a2 a0) (wrap64 (Int.tdiv a2 a0)) x11_2 x12_1 x13_2 = some r) ∧ Aa (kq ≤ k1) ∧ Aa (Kd.R (Kd.int .i64) 3 w' w.heap.size (fun _ => True) v11 x11_2) ∧ Aa (Below w.heap.size w w'))
     case atStart => exact ⟨(x11_1), ((-1)), (by first | rfl | (simp; done) | (simp [*]; done)), H', ⟨Nat.le_refl _⟩, ⟨by exact rU <| HO_11.out⟩, ⟨by repeat (first | (with_reducible first | exact HB.out | apply Ad | apply Ac | apply Ah) | exact HB.out)⟩⟩
     case round =>
      clear H'
      try clear p2
      try clear c3
      try clear c5
      try clear c5b0
      try clear c5b1
      try clear c6
      try clear c6b0
      try clear p6
      try clear p2
      obtain ⟨x11_2, x13_2, rfl, HA, HK2, HO_11, HB⟩ := hrel
      cases gk with
      | zero => exact absurd HA.out (by simp [Aq.l1])
      | succ k2 =>
       have H := HA.out
       clear HA
       simp only [Aq.l1] at H
       by_cases c7 : x13_2 ≤ 1
       ·rw [if_pos c7] at H
        have c7b0 : decide (x13_2 ≤ 1) = true := decide_eq_true c7
        clear c7
        by_cases c8 : x13_2 = 0
        ·rw [if_pos c8] at H
         have c8b0 : (x13_2 == 0) = true := beq_iff_eq.mpr c8
         have c8b1 : (x13_2 != 0) = false := bne_eq_false_iff_eq.mpr c8
         clear c8
         by_cases c9 : x12_1 = 0
         ·rw [if_pos c9] at H
          have c9b0 : (x12_1 == 0) = true := beq_iff_eq.mpr c9
          have c9b1 : (x12_1 != 0) = false := bne_eq_false_iff_eq.mpr c9
          clear c9
          have H' := Aa.mk H
          clear H
          go_wp2
          repeat (go_quiet (fail); try go_wp2)
          go_roundg k2
          case measure => have := HK1.out; have := HK2.out; omega
          case rel => exact ⟨(x11_2), (wrap64 (x13_2 + 1)), (by first | rfl | (simp; done) | (simp [*]; done)), H', ⟨by have := HK1.out; have := HK2.out; omega⟩, ⟨by exact rU <| HO_11.out⟩, ⟨by repeat (first | (with_reducible first | exact HB.out | apply Ad | apply Ac | apply Ah) | exact HB.out)⟩⟩
         ·rw [if_neg c9] at H
          have c9b0 : (x12_1 == 0) = false := beq_eq_false_iff_ne.mpr c9
          have c9b1 : (x12_1 != 0) = true := bne_iff_ne.mpr c9
          by_cases c10 : a3 = 4
          ·rw [if_pos c10] at H
           have c10b0 : (a3 == 4) = true := beq_iff_eq.mpr c10
           have c10b1 : (a3 != 4) = false := bne_eq_false_iff_eq.mpr c10
           clear c10
           by_cases c11 : (wrap64 ((Int.tmod a2 a0) + x13_2)) < 0
           ·rw [if_pos c11] at H
            have c11b0 : decide ((wrap64 ((Int.tmod a2 a0) + x13_2)) < 0) = true := decide_eq_true c11
            clear c11
            have H' := Aa.mk H
            clear H
            go_wp2
            repeat (go_quiet (fail); try go_wp2)
            go_roundg k2
            case measure => have := HK1.out; have := HK2.out; omega
            case rel => exact ⟨(x11_2), (wrap64 (x13_2 + 1)), (by first | rfl | (simp; done) | (simp [*]; done)), H', ⟨by have := HK1.out; have := HK2.out; omega⟩, ⟨by exact rU <| HO_11.out⟩, ⟨by repeat (first | (with_reducible first | exact HB.out | apply Ad | apply Ac | apply Ah) | exact HB.out)⟩⟩
           ·rw [if_neg c11] at H
            have c11b0 : decide ((wrap64 ((Int.tmod a2 a0) + x13_2)) < 0) = false := decide_eq_false c11
            clear c11
            by_cases c12 : (wrap64 ((Int.tmod a2 a0) + x13_2)) ≥ a0
            ·rw [if_pos c12] at H
             have c12b0 : decide (a0 ≤ (wrap64 ((Int.tmod a2 a0) + x13_2))) = true := decide_eq_true c12
             clear c12
             have H' := Aa.mk H
             clear H
             go_wp2
             repeat (go_quiet (fail); try go_wp2)
             go_roundg k2
             case measure => have := HK1.out; have := HK2.out; omega
             case rel => exact ⟨(x11_2), (wrap64 (x13_2 + 1)), (by first | rfl | (simp; done) | (simp [*]; done)), H', ⟨by have := HK1.out; have := HK2.out; omega⟩, ⟨by exact rU <| HO_11.out⟩, ⟨by repeat (first | (with_reducible first | exact HB.out | apply Ad | apply Ac | apply Ah) | exact HB.out)⟩⟩
            ·rw [if_neg c12] at H
             have c12b0 : decide (a0 ≤ (wrap64 ((Int.tmod a2 a0) + x13_2))) = false := decide_eq_false c12
             clear c12
             by_cases c13 : (wrap64 ((wrap64 (Int.tdiv a2 a0)) + x12_1)) < 0
             ·rw [if_pos c13] at H
              have c13b0 : decide ((wrap64 ((wrap64 (Int.tdiv a2 a0)) + x12_1)) < 0) = true := decide_eq_true c13
              clear c13
              have H' := Aa.mk H
              clear H
              go_wp2
              repeat (go_quiet (fail); try go_wp2)
              go_roundg k2
              case measure => have := HK1.out; have := HK2.out; omega
              case rel => exact ⟨(x11_2), (wrap64 (x13_2 + 1)), (by first | rfl | (simp; done) | (simp [*]; done)), H', ⟨by have := HK1.out; have := HK2.out; omega⟩, ⟨by exact rU <| HO_11.out⟩, ⟨by repeat (first | (with_reducible first | exact HB.out | apply Ad | apply Ac | apply Ah) | exact HB.out)⟩⟩
             ·rw [if_neg c13] at H
              have c13b0 : decide ((wrap64 ((wrap64 (Int.tdiv a2 a0)) + x12_1)) < 0) = false := decide_eq_false c13
              clear c13
              by_cases c14 : (wrap64 ((wrap64 (Int.tdiv a2 a0)) + x12_1)) ≥ a1
              ·rw [if_pos c14] at H
               have c14b0 : decide (a1 ≤ (wrap64 ((wrap64 (Int.tdiv a2 a0)) + x12_1))) = true := decide_eq_true c14
               clear c14
               have H' := Aa.mk H
               clear H
               go_wp2
               repeat (go_quiet (fail); try go_wp2)
               go_roundg k2
               case measure => have := HK1.out; have := HK2.out; omega
               case rel => exact ⟨(x11_2), (wrap64 (x13_2 + 1)), (by first | rfl | (simp; done) | (simp [*]; done)), H', ⟨by have := HK1.out; have := HK2.out; omega⟩, ⟨by exact rU <| HO_11.out⟩, ⟨by repeat (first | (with_reducible first | exact HB.out | apply Ad | apply Ac | apply Ah) | exact HB.out)⟩⟩
              ·rw [if_neg c14] at H
               have c14b0 : decide (a1 ≤ (wrap64 ((wrap64 (Int.tdiv a2 a0)) + x12_1))) = false := decide_eq_false c14
               clear c14
               by_cases c15 : x11_2.length < 17592186044416
               ·rw [if_pos c15] at H
                have LMc15 := Aa.mk c15
                clear c15
                obtain ⟨y101, hy101⟩ : ∃ y_ : List Int, y_ = (x11_2 ++ [wrap64 ((wrap64 ((wrap64 ((wrap64 ((wrap64 (Int.tdiv a2 a0)) + x12_1)) * a0)) + (Int.tmod a2 a0))) + x13_2)]) := ⟨_, rfl⟩
                replace H : (Aq.l1 k2 a0 a1 a3 (Int.tmod a2 a0) (wrap64 (Int.tdiv a2 a0)) y101 x12_1 (wrap64 (x13_2 + 1))) = some r := by first | (rw [hy101]; with_reducible exact H) | (have H2_ := (Option.bind_some _ _).symm.trans H; rw [hy101]; with_reducible exact H2_) | (have H2_ := (Option.bind_some _ _).symm.trans H; with_reducible exact H2_) | with_reducible exact H | (rw [hy101]; exact H) | exact H
                have Ny101 := Aa.mk hy101
                clear hy101
                have H' := Aa.mk H
                clear H
                go_wp2_with (first | ((with_reducible refine Cf (b := .append) (xs := #[.tmp 75, .tmp 85]) rfl ?_); at_builtin; refine Kd.Cv (Kd.int .i64) (w0 := w) w.heap.size rfl (.tmp 75) (.tmp 85) 31 3 (.int .i64 0) 8 rfl Try.underlying31 info3 rfl (by decide) (by omega) u11 x11_2 (wrap64 ((wrap64 ((wrap64 ((wrap64 ((wrap64 (Int.tdiv a2 a0)) + x12_1)) * a0)) + (Int.tmod a2 a0))) + x13_2)) [.int .i64 (wrap64 ((wrap64 ((wrap64 ((wrap64 ((wrap64 (Int.tdiv a2 a0)) + x12_1)) * a0)) + (Int.tmod a2 a0))) + x13_2))] (fun _ => True) (fun _ => False) rfl rfl ?aP (fun _ hk => hk.elim) ?aF ?aO ?aB ?aS ?aL ?_; (case aP => exact rfl); (case aB => exact (lU HB.out)); (case aF => exact (fun _ _ => trivial)); (case aO => exact (by exact rU <| HO_11.out)); (case aS => exact (Ak (lU HB.out))); (case aL => have := LMc15.out; omega); intro v102 w16 ho hb hg hat; rw [← Ny101.out] at ho; have n0_ := Aa.mk (hb); have n1_ := Aa.mk (ho); clear HB; clear HO_11; have HB := n0_; have HO103 := n1_; clear n0_ n1_; clear ho hb hg hat))
                repeat (go_quiet (first | ((with_reducible refine Cf (b := .append) (xs := #[.tmp 75, .tmp 85]) rfl ?_); at_builtin; refine Kd.Cv (Kd.int .i64) (w0 := w) w.heap.size rfl (.tmp 75) (.tmp 85) 31 3 (.int .i64 0) 8 rfl Try.underlying31 info3 rfl (by decide) (by omega) u11 x11_2 (wrap64 ((wrap64 ((wrap64 ((wrap64 ((wrap64 (Int.tdiv a2 a0)) + x12_1)) * a0)) + (Int.tmod a2 a0))) + x13_2)) [.int .i64 (wrap64 ((wrap64 ((wrap64 ((wrap64 ((wrap64 (Int.tdiv a2 a0)) + x12_1)) * a0)) + (Int.tmod a2 a0))) + x13_2))] (fun _ => True) (fun _ => False) rfl rfl ?aP (fun _ hk => hk.elim) ?aF ?aO ?aB ?aS ?aL ?_; (case aP => exact rfl); (case aB => exact (lU HB.out)); (case aF => exact (fun _ _ => trivial)); (case aO => exact (by exact rU <| HO_11.out)); (case aS => exact (Ak (lU HB.out))); (case aL => have := LMc15.out; omega); intro v102 w16 ho hb hg hat; rw [← Ny101.out] at ho; have n0_ := Aa.mk (hb); have n1_ := Aa.mk (ho); clear HB; clear HO_11; have HB := n0_; have HO103 := n1_; clear n0_ n1_; clear ho hb hg hat)); try go_wp2_with (first | ((with_reducible refine Cf (b := .append) (xs := #[.tmp 75, .tmp 85]) rfl ?_); at_builtin; refine Kd.Cv (Kd.int .i64) (w0 := w) w.heap.size rfl (.tmp 75) (.tmp 85) 31 3 (.int .i64 0) 8 rfl Try.underlying31 info3 rfl (by decide) (by omega) u11 x11_2 (wrap64 ((wrap64 ((wrap64 ((wrap64 ((wrap64 (Int.tdiv a2 a0)) + x12_1)) * a0)) + (Int.tmod a2 a0))) + x13_2)) [.int .i64 (wrap64 ((wrap64 ((wrap64 ((wrap64 ((wrap64 (Int.tdiv a2 a0)) + x12_1)) * a0)) + (Int.tmod a2 a0))) + x13_2))] (fun _ => True) (fun _ => False) rfl rfl ?aP (fun _ hk => hk.elim) ?aF ?aO ?aB ?aS ?aL ?_; (case aP => exact rfl); (case aB => exact (lU HB.out)); (case aF => exact (fun _ _ => trivial)); (case aO => exact (by exact rU <| HO_11.out)); (case aS => exact (Ak (lU HB.out))); (case aL => have := LMc15.out; omega); intro v102 w16 ho hb hg hat; rw [← Ny101.out] at ho; have n0_ := Aa.mk (hb); have n1_ := Aa.mk (ho); clear HB; clear HO_11; have HB := n0_; have HO103 := n1_; clear n0_ n1_; clear ho hb hg hat)))
                go_roundg k2
                case measure => have := HK1.out; have := HK2.out; omega
                case rel => exact ⟨(y101), (wrap64 (x13_2 + 1)), (by first | rfl | (simp; done) | (simp [*]; done)), H', ⟨by have := HK1.out; have := HK2.out; omega⟩, ⟨by exact rU <| HO103.out⟩, ⟨by repeat (first | (with_reducible first | exact HB.out | apply Ad | apply Ac | apply Ah) | exact HB.out)⟩⟩
               ·rw [if_neg c15] at H
                exact absurd H (by simp)
          ·rw [if_neg c10] at H
           have c10b0 : (a3 == 4) = false := beq_eq_false_iff_ne.mpr c10
           have c10b1 : (a3 != 4) = true := bne_iff_ne.mpr c10
           by_cases c17 : (wrap64 ((Int.tmod a2 a0) + x13_2)) < 0
           ·rw [if_pos c17] at H
            have c17b0 : decide ((wrap64 ((Int.tmod a2 a0) + x13_2)) < 0) = true := decide_eq_true c17
            clear c17
            have H' := Aa.mk H
            clear H
            go_wp2
            repeat (go_quiet (fail); try go_wp2)
            go_roundg k2
            case measure => have := HK1.out; have := HK2.out; omega
            case rel => exact ⟨(x11_2), (wrap64 (x13_2 + 1)), (by first | rfl | (simp; done) | (simp [*]; done)), H', ⟨by have := HK1.out; have := HK2.out; omega⟩, ⟨by exact rU <| HO_11.out⟩, ⟨by repeat (first | (with_reducible first | exact HB.out | apply Ad | apply Ac | apply Ah) | exact HB.out)⟩⟩
           ·rw [if_neg c17] at H
            have c17b0 : decide ((wrap64 ((Int.tmod a2 a0) + x13_2)) < 0) = false := decide_eq_false c17
            clear c17
            by_cases c18 : (wrap64 ((Int.tmod a2 a0) + x13_2)) ≥ a0
            ·rw [if_pos c18] at H
             have c18b0 : decide (a0 ≤ (wrap64 ((Int.tmod a2 a0) + x13_2))) = true := decide_eq_true c18
             clear c18
             have H' := Aa.mk H
             clear H
             go_wp2
             repeat (go_quiet (fail); try go_wp2)
             go_roundg k2
             case measure => have := HK1.out; have := HK2.out; omega
             case rel => exact ⟨(x11_2), (wrap64 (x13_2 + 1)), (by first | rfl | (simp; done) | (simp [*]; done)), H', ⟨by have := HK1.out; have := HK2.out; omega⟩, ⟨by exact rU <| HO_11.out⟩, ⟨by repeat (first | (with_reducible first | exact HB.out | apply Ad | apply Ac | apply Ah) | exact HB.out)⟩⟩
            ·rw [if_neg c18] at H
             have c18b0 : decide (a0 ≤ (wrap64 ((Int.tmod a2 a0) + x13_2))) = false := decide_eq_false c18
             clear c18
             by_cases c19 : (wrap64 ((wrap64 (Int.tdiv a2 a0)) + x12_1)) < 0
             ·rw [if_pos c19] at H
              have c19b0 : decide ((wrap64 ((wrap64 (Int.tdiv a2 a0)) + x12_1)) < 0) = true := decide_eq_true c19
              clear c19
              have H' := Aa.mk H
              clear H
              go_wp2
              repeat (go_quiet (fail); try go_wp2)
              go_roundg k2
              case measure => have := HK1.out; have := HK2.out; omega
              case rel => exact ⟨(x11_2), (wrap64 (x13_2 + 1)), (by first | rfl | (simp; done) | (simp [*]; done)), H', ⟨by have := HK1.out; have := HK2.out; omega⟩, ⟨by exact rU <| HO_11.out⟩, ⟨by repeat (first | (with_reducible first | exact HB.out | apply Ad | apply Ac | apply Ah) | exact HB.out)⟩⟩
             ·rw [if_neg c19] at H
              have c19b0 : decide ((wrap64 ((wrap64 (Int.tdiv a2 a0)) + x12_1)) < 0) = false := decide_eq_false c19
              clear c19
              by_cases c20 : (wrap64 ((wrap64 (Int.tdiv a2 a0)) + x12_1)) ≥ a1
              ·rw [if_pos c20] at H
               have c20b0 : decide (a1 ≤ (wrap64 ((wrap64 (Int.tdiv a2 a0)) + x12_1))) = true := decide_eq_true c20
               clear c20
               have H' := Aa.mk H
               clear H
               go_wp2
               repeat (go_quiet (fail); try go_wp2)
               go_roundg k2
               case measure => have := HK1.out; have := HK2.out; omega
               case rel => exact ⟨(x11_2), (wrap64 (x13_2 + 1)), (by first | rfl | (simp; done) | (simp [*]; done)), H', ⟨by have := HK1.out; have := HK2.out; omega⟩, ⟨by exact rU <| HO_11.out⟩, ⟨by repeat (first | (with_reducible first | exact HB.out | apply Ad | apply Ac | apply Ah) | exact HB.out)⟩⟩
              ·rw [if_neg c20] at H
               have c20b0 : decide (a1 ≤ (wrap64 ((wrap64 (Int.tdiv a2 a0)) + x12_1))) = false := decide_eq_false c20
               clear c20
               by_cases c21 : x11_2.length < 17592186044416
               ·rw [if_pos c21] at H
                have LMc21 := Aa.mk c21
                clear c21
                obtain ⟨y104, hy104⟩ : ∃ y_ : List Int, y_ = (x11_2 ++ [wrap64 ((wrap64 ((wrap64 ((wrap64 ((wrap64 (Int.tdiv a2 a0)) + x12_1)) * a0)) + (Int.tmod a2 a0))) + x13_2)]) := ⟨_, rfl⟩
                replace H : (Aq.l1 k2 a0 a1 a3 (Int.tmod a2 a0) (wrap64 (Int.tdiv a2 a0)) y104 x12_1 (wrap64 (x13_2 + 1))) = some r := by first | (rw [hy104]; with_reducible exact H) | (have H2_ := (Option.bind_some _ _).symm.trans H; rw [hy104]; with_reducible exact H2_) | (have H2_ := (Option.bind_some _ _).symm.trans H; with_reducible exact H2_) | with_reducible exact H | (rw [hy104]; exact H) | exact H
                have Ny104 := Aa.mk hy104
                clear hy104
                have H' := Aa.mk H
                clear H
                go_wp2_with (first | ((with_reducible refine Cf (b := .append) (xs := #[.tmp 75, .tmp 85]) rfl ?_); at_builtin; refine Kd.Cv (Kd.int .i64) (w0 := w) w.heap.size rfl (.tmp 75) (.tmp 85) 31 3 (.int .i64 0) 8 rfl Try.underlying31 info3 rfl (by decide) (by omega) u11 x11_2 (wrap64 ((wrap64 ((wrap64 ((wrap64 ((wrap64 (Int.tdiv a2 a0)) + x12_1)) * a0)) + (Int.tmod a2 a0))) + x13_2)) [.int .i64 (wrap64 ((wrap64 ((wrap64 ((wrap64 ((wrap64 (Int.tdiv a2 a0)) + x12_1)) * a0)) + (Int.tmod a2 a0))) + x13_2))] (fun _ => True) (fun _ => False) rfl rfl ?aP (fun _ hk => hk.elim) ?aF ?aO ?aB ?aS ?aL ?_; (case aP => exact rfl); (case aB => exact (lU HB.out)); (case aF => exact (fun _ _ => trivial)); (case aO => exact (by exact rU <| HO_11.out)); (case aS => exact (Ak (lU HB.out))); (case aL => have := LMc21.out; omega); intro v105 w22 ho hb hg hat; rw [← Ny104.out] at ho; have n0_ := Aa.mk (hb); have n1_ := Aa.mk (ho); clear HB; clear HO_11; have HB := n0_; have HO106 := n1_; clear n0_ n1_; clear ho hb hg hat))
                repeat (go_quiet (first | ((with_reducible refine Cf (b := .append) (xs := #[.tmp 75, .tmp 85]) rfl ?_); at_builtin; refine Kd.Cv (Kd.int .i64) (w0 := w) w.heap.size rfl (.tmp 75) (.tmp 85) 31 3 (.int .i64 0) 8 rfl Try.underlying31 info3 rfl (by decide) (by omega) u11 x11_2 (wrap64 ((wrap64 ((wrap64 ((wrap64 ((wrap64 (Int.tdiv a2 a0)) + x12_1)) * a0)) + (Int.tmod a2 a0))) + x13_2)) [.int .i64 (wrap64 ((wrap64 ((wrap64 ((wrap64 ((wrap64 (Int.tdiv a2 a0)) + x12_1)) * a0)) + (Int.tmod a2 a0))) + x13_2))] (fun _ => True) (fun _ => False) rfl rfl ?aP (fun _ hk => hk.elim) ?aF ?aO ?aB ?aS ?aL ?_; (case aP => exact rfl); (case aB => exact (lU HB.out)); (case aF => exact (fun _ _ => trivial)); (case aO => exact (by exact rU <| HO_11.out)); (case aS => exact (Ak (lU HB.out))); (case aL => have := LMc21.out; omega); intro v105 w22 ho hb hg hat; rw [← Ny104.out] at ho; have n0_ := Aa.mk (hb); have n1_ := Aa.mk (ho); clear HB; clear HO_11; have HB := n0_; have HO106 := n1_; clear n0_ n1_; clear ho hb hg hat)); try go_wp2_with (first | ((with_reducible refine Cf (b := .append) (xs := #[.tmp 75, .tmp 85]) rfl ?_); at_builtin; refine Kd.Cv (Kd.int .i64) (w0 := w) w.heap.size rfl (.tmp 75) (.tmp 85) 31 3 (.int .i64 0) 8 rfl Try.underlying31 info3 rfl (by decide) (by omega) u11 x11_2 (wrap64 ((wrap64 ((wrap64 ((wrap64 ((wrap64 (Int.tdiv a2 a0)) + x12_1)) * a0)) + (Int.tmod a2 a0))) + x13_2)) [.int .i64 (wrap64 ((wrap64 ((wrap64 ((wrap64 ((wrap64 (Int.tdiv a2 a0)) + x12_1)) * a0)) + (Int.tmod a2 a0))) + x13_2))] (fun _ => True) (fun _ => False) rfl rfl ?aP (fun _ hk => hk.elim) ?aF ?aO ?aB ?aS ?aL ?_; (case aP => exact rfl); (case aB => exact (lU HB.out)); (case aF => exact (fun _ _ => trivial)); (case aO => exact (by exact rU <| HO_11.out)); (case aS => exact (Ak (lU HB.out))); (case aL => have := LMc21.out; omega); intro v105 w22 ho hb hg hat; rw [← Ny104.out] at ho; have n0_ := Aa.mk (hb); have n1_ := Aa.mk (ho); clear HB; clear HO_11; have HB := n0_; have HO106 := n1_; clear n0_ n1_; clear ho hb hg hat)))
                go_roundg k2
                case measure => have := HK1.out; have := HK2.out; omega
                case rel => exact ⟨(y104), (wrap64 (x13_2 + 1)), (by first | rfl | (simp; done) | (simp [*]; done)), H', ⟨by have := HK1.out; have := HK2.out; omega⟩, ⟨by exact rU <| HO106.out⟩, ⟨by repeat (first | (with_reducible first | exact HB.out | apply Ad | apply Ac | apply Ah) | exact HB.out)⟩⟩
               ·rw [if_neg c21] at H
                exact absurd H (by simp)
        ·rw [if_neg c8] at H
         have c8b0 : (x13_2 == 0) = false := beq_eq_false_iff_ne.mpr c8
         have c8b1 : (x13_2 != 0) = true := bne_iff_ne.mpr c8
         by_cases c23 : a3 = 4
         ·rw [if_pos c23] at H
          have c23b0 : (a3 == 4) = true := beq_iff_eq.mpr c23
          have c23b1 : (a3 != 4) = false := bne_eq_false_iff_eq.mpr c23
          clear c23
          by_cases c24 : x12_1 = 0
          ·rw [if_pos c24] at H
           have c24b0 : (x12_1 == 0) = true := beq_iff_eq.mpr c24
           have c24b1 : (x12_1 != 0) = false := bne_eq_false_iff_eq.mpr c24
           clear c24
           by_cases c25 : (wrap64 ((Int.tmod a2 a0) + x13_2)) < 0
           ·rw [if_pos c25] at H
            have c25b0 : decide ((wrap64 ((Int.tmod a2 a0) + x13_2)) < 0) = true := decide_eq_true c25
            clear c25
            have H' := Aa.mk H
            clear H
            go_wp2
            repeat (go_quiet (fail); try go_wp2)
            go_roundg k2
            case measure => have := HK1.out; have := HK2.out; omega
            case rel => exact ⟨(x11_2), (wrap64 (x13_2 + 1)), (by first | rfl | (simp; done) | (simp [*]; done)), H', ⟨by have := HK1.out; have := HK2.out; omega⟩, ⟨by exact rU <| HO_11.out⟩, ⟨by repeat (first | (with_reducible first | exact HB.out | apply Ad | apply Ac | apply Ah) | exact HB.out)⟩⟩
           ·rw [if_neg c25] at H
            have c25b0 : decide ((wrap64 ((Int.tmod a2 a0) + x13_2)) < 0) = false := decide_eq_false c25
            clear c25
            by_cases c26 : (wrap64 ((Int.tmod a2 a0) + x13_2)) ≥ a0
            ·rw [if_pos c26] at H
             have c26b0 : decide (a0 ≤ (wrap64 ((Int.tmod a2 a0) + x13_2))) = true := decide_eq_true c26
             clear c26
             have H' := Aa.mk H
             clear H
             go_wp2
             repeat (go_quiet (fail); try go_wp2)
             go_roundg k2
             case measure => have := HK1.out; have := HK2.out; omega
             case rel => exact ⟨(x11_2), (wrap64 (x13_2 + 1)), (by first | rfl | (simp; done) | (simp [*]; done)), H', ⟨by have := HK1.out; have := HK2.out; omega⟩, ⟨by exact rU <| HO_11.out⟩, ⟨by repeat (first | (with_reducible first | exact HB.out | apply Ad | apply Ac | apply Ah) | exact HB.out)⟩⟩
            ·rw [if_neg c26] at H
             have c26b0 : decide (a0 ≤ (wrap64 ((Int.tmod a2 a0) + x13_2))) = false := decide_eq_false c26
             clear c26
             by_cases c27 : (wrap64 ((wrap64 (Int.tdiv a2 a0)) + x12_1)) < 0
             ·rw [if_pos c27] at H
              have c27b0 : decide ((wrap64 ((wrap64 (Int.tdiv a2 a0)) + x12_1)) < 0) = true := decide_eq_true c27
              clear c27
              have H' := Aa.mk H
              clear H
              go_wp2
              repeat (go_quiet (fail); try go_wp2)
              go_roundg k2
              case measure => have := HK1.out; have := HK2.out; omega
              case rel => exact ⟨(x11_2), (wrap64 (x13_2 + 1)), (by first | rfl | (simp; done) | (simp [*]; done)), H', ⟨by have := HK1.out; have := HK2.out; omega⟩, ⟨by exact rU <| HO_11.out⟩, ⟨by repeat (first | (with_reducible first | exact HB.out | apply Ad | apply Ac | apply Ah) | exact HB.out)⟩⟩
             ·rw [if_neg c27] at H
              have c27b0 : decide ((wrap64 ((wrap64 (Int.tdiv a2 a0)) + x12_1)) < 0) = false := decide_eq_false c27
              clear c27
              by_cases c28 : (wrap64 ((wrap64 (Int.tdiv a2 a0)) + x12_1)) ≥ a1
              ·rw [if_pos c28] at H
               have c28b0 : decide (a1 ≤ (wrap64 ((wrap64 (Int.tdiv a2 a0)) + x12_1))) = true := decide_eq_true c28
               clear c28
               have H' := Aa.mk H
               clear H
               go_wp2
               repeat (go_quiet (fail); try go_wp2)
               go_roundg k2
               case measure => have := HK1.out; have := HK2.out; omega
               case rel => exact ⟨(x11_2), (wrap64 (x13_2 + 1)), (by first | rfl | (simp; done) | (simp [*]; done)), H', ⟨by have := HK1.out; have := HK2.out; omega⟩, ⟨by exact rU <| HO_11.out⟩, ⟨by repeat (first | (with_reducible first | exact HB.out | apply Ad | apply Ac | apply Ah) | exact HB.out)⟩⟩
              ·rw [if_neg c28] at H
               have c28b0 : decide (a1 ≤ (wrap64 ((wrap64 (Int.tdiv a2 a0)) + x12_1))) = false := decide_eq_false c28
               clear c28
               by_cases c29 : x11_2.length < 17592186044416
               ·rw [if_pos c29] at H
                have LMc29 := Aa.mk c29
                clear c29
                obtain ⟨y107, hy107⟩ : ∃ y_ : List Int, y_ = (x11_2 ++ [wrap64 ((wrap64 ((wrap64 ((wrap64 ((wrap64 (Int.tdiv a2 a0)) + x12_1)) * a0)) + (Int.tmod a2 a0))) + x13_2)]) := ⟨_, rfl⟩
                replace H : (Aq.l1 k2 a0 a1 a3 (Int.tmod a2 a0) (wrap64 (Int.tdiv a2 a0)) y107 x12_1 (wrap64 (x13_2 + 1))) = some r := by first | (rw [hy107]; with_reducible exact H) | (have H2_ := (Option.bind_some _ _).symm.trans H; rw [hy107]; with_reducible exact H2_) | (have H2_ := (Option.bind_some _ _).symm.trans H; with_reducible exact H2_) | with_reducible exact H | (rw [hy107]; exact H) | exact H
                have Ny107 := Aa.mk hy107
                clear hy107
                have H' := Aa.mk H
                clear H
                go_wp2_with (first | ((with_reducible refine Cf (b := .append) (xs := #[.tmp 75, .tmp 85]) rfl ?_); at_builtin; refine Kd.Cv (Kd.int .i64) (w0 := w) w.heap.size rfl (.tmp 75) (.tmp 85) 31 3 (.int .i64 0) 8 rfl Try.underlying31 info3 rfl (by decide) (by omega) u11 x11_2 (wrap64 ((wrap64 ((wrap64 ((wrap64 ((wrap64 (Int.tdiv a2 a0)) + x12_1)) * a0)) + (Int.tmod a2 a0))) + x13_2)) [.int .i64 (wrap64 ((wrap64 ((wrap64 ((wrap64 ((wrap64 (Int.tdiv a2 a0)) + x12_1)) * a0)) + (Int.tmod a2 a0))) + x13_2))] (fun _ => True) (fun _ => False) rfl rfl ?aP (fun _ hk => hk.elim) ?aF ?aO ?aB ?aS ?aL ?_; (case aP => exact rfl); (case aB => exact (lU HB.out)); (case aF => exact (fun _ _ => trivial)); (case aO => exact (by exact rU <| HO_11.out)); (case aS => exact (Ak (lU HB.out))); (case aL => have := LMc29.out; omega); intro v108 w30 ho hb hg hat; rw [← Ny107.out] at ho; have n0_ := Aa.mk (hb); have n1_ := Aa.mk (ho); clear HB; clear HO_11; have HB := n0_; have HO109 := n1_; clear n0_ n1_; clear ho hb hg hat))
                repeat (go_quiet (first | ((with_reducible refine Cf (b := .append) (xs := #[.tmp 75, .tmp 85]) rfl ?_); at_builtin; refine Kd.Cv (Kd.int .i64) (w0 := w) w.heap.size rfl (.tmp 75) (.tmp 85) 31 3 (.int .i64 0) 8 rfl Try.underlying31 info3 rfl (by decide) (by omega) u11 x11_2 (wrap64 ((wrap64 ((wrap64 ((wrap64 ((wrap64 (Int.tdiv a2 a0)) + x12_1)) * a0)) + (Int.tmod a2 a0))) + x13_2)) [.int .i64 (wrap64 ((wrap64 ((wrap64 ((wrap64 ((wrap64 (Int.tdiv a2 a0)) + x12_1)) * a0)) + (Int.tmod a2 a0))) + x13_2))] (fun _ => True) (fun _ => False) rfl rfl ?aP (fun _ hk => hk.elim) ?aF ?aO ?aB ?aS ?aL ?_; (case aP => exact rfl); (case aB => exact (lU HB.out)); (case aF => exact (fun _ _ => trivial)); (case aO => exact (by exact rU <| HO_11.out)); (case aS => exact (Ak (lU HB.out))); (case aL => have := LMc29.out; omega); intro v108 w30 ho hb hg hat; rw [← Ny107.out] at ho; have n0_ := Aa.mk (hb); have n1_ := Aa.mk (ho); clear HB; clear HO_11; have HB := n0_; have HO109 := n1_; clear n0_ n1_; clear ho hb hg hat)); try go_wp2_with (first | ((with_reducible refine Cf (b := .append) (xs := #[.tmp 75, .tmp 85]) rfl ?_); at_builtin; refine Kd.Cv (Kd.int .i64) (w0 := w) w.heap.size rfl (.tmp 75) (.tmp 85) 31 3 (.int .i64 0) 8 rfl Try.underlying31 info3 rfl (by decide) (by omega) u11 x11_2 (wrap64 ((wrap64 ((wrap64 ((wrap64 ((wrap64 (Int.tdiv a2 a0)) + x12_1)) * a0)) + (Int.tmod a2 a0))) + x13_2)) [.int .i64 (wrap64 ((wrap64 ((wrap64 ((wrap64 ((wrap64 (Int.tdiv a2 a0)) + x12_1)) * a0)) + (Int.tmod a2 a0))) + x13_2))] (fun _ => True) (fun _ => False) rfl rfl ?aP (fun _ hk => hk.elim) ?aF ?aO ?aB ?aS ?aL ?_; (case aP => exact rfl); (case aB => exact (lU HB.out)); (case aF => exact (fun _ _ => trivial)); (case aO => exact (by exact rU <| HO_11.out)); (case aS => exact (Ak (lU HB.out))); (case aL => have := LMc29.out; omega); intro v108 w30 ho hb hg hat; rw [← Ny107.out] at ho; have n0_ := Aa.mk (hb); have n1_ := Aa.mk (ho); clear HB; clear HO_11; have HB := n0_; have HO109 := n1_; clear n0_ n1_; clear ho hb hg hat)))
                go_roundg k2
                case measure => have := HK1.out; have := HK2.out; omega
                case rel => exact ⟨(y107), (wrap64 (x13_2 + 1)), (by first | rfl | (simp; done) | (simp [*]; done)), H', ⟨by have := HK1.out; have := HK2.out; omega⟩, ⟨by exact rU <| HO109.out⟩, ⟨by repeat (first | (with_reducible first | exact HB.out | apply Ad | apply Ac | apply Ah) | exact HB.out)⟩⟩
               ·rw [if_neg c29] at H
                exact absurd H (by simp)
          ·rw [if_neg c24] at H
           have c24b0 : (x12_1 == 0) = false := beq_eq_false_iff_ne.mpr c24
           have c24b1 : (x12_1 != 0) = true := bne_iff_ne.mpr c24
           have H' := Aa.mk H
           clear H
           go_wp2
           repeat (go_quiet (fail); try go_wp2)
           go_roundg k2
           case measure => have := HK1.out; have := HK2.out; omega
           case rel => exact ⟨(x11_2), (wrap64 (x13_2 + 1)), (by first | rfl | (simp; done) | (simp [*]; done)), H', ⟨by have := HK1.out; have := HK2.out; omega⟩, ⟨by exact rU <| HO_11.out⟩, ⟨by repeat (first | (with_reducible first | exact HB.out | apply Ad | apply Ac | apply Ah) | exact HB.out)⟩⟩
         ·rw [if_neg c23] at H
          have c23b0 : (a3 == 4) = false := beq_eq_false_iff_ne.mpr c23
          have c23b1 : (a3 != 4) = true := bne_iff_ne.mpr c23
          by_cases c31 : (wrap64 ((Int.tmod a2 a0) + x13_2)) < 0
          ·rw [if_pos c31] at H
           have c31b0 : decide ((wrap64 ((Int.tmod a2 a0) + x13_2)) < 0) = true := decide_eq_true c31
           clear c31
           have H' := Aa.mk H
           clear H
           go_wp2
           repeat (go_quiet (fail); try go_wp2)
           go_roundg k2
           case measure => have := HK1.out; have := HK2.out; omega
           case rel => exact ⟨(x11_2), (wrap64 (x13_2 + 1)), (by first | rfl | (simp; done) | (simp [*]; done)), H', ⟨by have := HK1.out; have := HK2.out; omega⟩, ⟨by exact rU <| HO_11.out⟩, ⟨by repeat (first | (with_reducible first | exact HB.out | apply Ad | apply Ac | apply Ah) | exact HB.out)⟩⟩
          ·rw [if_neg c31] at H
           have c31b0 : decide ((wrap64 ((Int.tmod a2 a0) + x13_2)) < 0) = false := decide_eq_false c31
           clear c31
           by_cases c32 : (wrap64 ((Int.tmod a2 a0) + x13_2)) ≥ a0
           ·rw [if_pos c32] at H
            have c32b0 : decide (a0 ≤ (wrap64 ((Int.tmod a2 a0) + x13_2))) = true := decide_eq_true c32
            clear c32
            have H' := Aa.mk H
            clear H
            go_wp2
            repeat (go_quiet (fail); try go_wp2)
            go_roundg k2
            case measure => have := HK1.out; have := HK2.out; omega
            case rel => exact ⟨(x11_2), (wrap64 (x13_2 + 1)), (by first | rfl | (simp; done) | (simp [*]; done)), H', ⟨by have := HK1.out; have := HK2.out; omega⟩, ⟨by exact rU <| HO_11.out⟩, ⟨by repeat (first | (with_reducible first | exact HB.out | apply Ad | apply Ac | apply Ah) | exact HB.out)⟩⟩
           ·rw [if_neg c32] at H
            have c32b0 : decide (a0 ≤ (wrap64 ((Int.tmod a2 a0) + x13_2))) = false := decide_eq_false c32
            clear c32
            by_cases c33 : (wrap64 ((wrap64 (Int.tdiv a2 a0)) + x12_1)) < 0
            ·rw [if_pos c33] at H
             have c33b0 : decide ((wrap64 ((wrap64 (Int.tdiv a2 a0)) + x12_1)) < 0) = true := decide_eq_true c33
             clear c33
             have H' := Aa.mk H
             clear H
             go_wp2
             repeat (go_quiet (fail); try go_wp2)
             go_roundg k2
             case measure => have := HK1.out; have := HK2.out; omega
             case rel => exact ⟨(x11_2), (wrap64 (x13_2 + 1)), (by first | rfl | (simp; done) | (simp [*]; done)), H', ⟨by have := HK1.out; have := HK2.out; omega⟩, ⟨by exact rU <| HO_11.out⟩, ⟨by repeat (first | (with_reducible first | exact HB.out | apply Ad | apply Ac | apply Ah) | exact HB.out)⟩⟩
            ·rw [if_neg c33] at H
             have c33b0 : decide ((wrap64 ((wrap64 (Int.tdiv a2 a0)) + x12_1)) < 0) = false := decide_eq_false c33
             clear c33
             by_cases c34 : (wrap64 ((wrap64 (Int.tdiv a2 a0)) + x12_1)) ≥ a1
             ·rw [if_pos c34] at H
              have c34b0 : decide (a1 ≤ (wrap64 ((wrap64 (Int.tdiv a2 a0)) + x12_1))) = true := decide_eq_true c34
              clear c34
              have H' := Aa.mk H
              clear H
              go_wp2
              repeat (go_quiet (fail); try go_wp2)
              go_roundg k2
              case measure => have := HK1.out; have := HK2.out; omega
              case rel => exact ⟨(x11_2), (wrap64 (x13_2 + 1)), (by first | rfl | (simp; done) | (simp [*]; done)), H', ⟨by have := HK1.out; have := HK2.out; omega⟩, ⟨by exact rU <| HO_11.out⟩, ⟨by repeat (first | (with_reducible first | exact HB.out | apply Ad | apply Ac | apply Ah) | exact HB.out)⟩⟩
             ·rw [if_neg c34] at H
              have c34b0 : decide (a1 ≤ (wrap64 ((wrap64 (Int.tdiv a2 a0)) + x12_1))) = false := decide_eq_false c34
              clear c34
              by_cases c35 : x11_2.length < 17592186044416
              ·rw [if_pos c35] at H
               have LMc35 := Aa.mk c35
               clear c35
               obtain ⟨y110, hy110⟩ : ∃ y_ : List Int, y_ = (x11_2 ++ [wrap64 ((wrap64 ((wrap64 ((wrap64 ((wrap64 (Int.tdiv a2 a0)) + x12_1)) * a0)) + (Int.tmod a2 a0))) + x13_2)]) := ⟨_, rfl⟩
               replace H : (Aq.l1 k2 a0 a1 a3 (Int.tmod a2 a0) (wrap64 (Int.tdiv a2 a0)) y110 x12_1 (wrap64 (x13_2 + 1))) = some r := by first | (rw [hy110]; with_reducible exact H) | (have H2_ := (Option.bind_some _ _).symm.trans H; rw [hy110]; with_reducible exact H2_) | (have H2_ := (Option.bind_some _ _).symm.trans H; with_reducible exact H2_) | with_reducible exact H | (rw [hy110]; exact H) | exact H
               have Ny110 := Aa.mk hy110
               clear hy110
               have H' := Aa.mk H
               clear H
               go_wp2_with (first | ((with_reducible refine Cf (b := .append) (xs := #[.tmp 75, .tmp 85]) rfl ?_); at_builtin; refine Kd.Cv (Kd.int .i64) (w0 := w) w.heap.size rfl (.tmp 75) (.tmp 85) 31 3 (.int .i64 0) 8 rfl Try.underlying31 info3 rfl (by decide) (by omega) u11 x11_2 (wrap64 ((wrap64 ((wrap64 ((wrap64 ((wrap64 (Int.tdiv a2 a0)) + x12_1)) * a0)) + (Int.tmod a2 a0))) + x13_2)) [.int .i64 (wrap64 ((wrap64 ((wrap64 ((wrap64 ((wrap64 (Int.tdiv a2 a0)) + x12_1)) * a0)) + (Int.tmod a2 a0))) + x13_2))] (fun _ => True) (fun _ => False) rfl rfl ?aP (fun _ hk => hk.elim) ?aF ?aO ?aB ?aS ?aL ?_; (case aP => exact rfl); (case aB => exact (lU HB.out)); (case aF => exact (fun _ _ => trivial)); (case aO => exact (by exact rU <| HO_11.out)); (case aS => exact (Ak (lU HB.out))); (case aL => have := LMc35.out; omega); intro v111 w36 ho hb hg hat; rw [← Ny110.out] at ho; have n0_ := Aa.mk (hb); have n1_ := Aa.mk (ho); clear HB; clear HO_11; have HB := n0_; have HO112 := n1_; clear n0_ n1_; clear ho hb hg hat))
               repeat (go_quiet (first | ((with_reducible refine Cf (b := .append) (xs := #[.tmp 75, .tmp 85]) rfl ?_); at_builtin; refine Kd.Cv (Kd.int .i64) (w0 := w) w.heap.size rfl (.tmp 75) (.tmp 85) 31 3 (.int .i64 0) 8 rfl Try.underlying31 info3 rfl (by decide) (by omega) u11 x11_2 (wrap64 ((wrap64 ((wrap64 ((wrap64 ((wrap64 (Int.tdiv a2 a0)) + x12_1)) * a0)) + (Int.tmod a2 a0))) + x13_2)) [.int .i64 (wrap64 ((wrap64 ((wrap64 ((wrap64 ((wrap64 (Int.tdiv a2 a0)) + x12_1)) * a0)) + (Int.tmod a2 a0))) + x13_2))] (fun _ => True) (fun _ => False) rfl rfl ?aP (fun _ hk => hk.elim) ?aF ?aO ?aB ?aS ?aL ?_; (case aP => exact rfl); (case aB => exact (lU HB.out)); (case aF => exact (fun _ _ => trivial)); (case aO => exact (by exact rU <| HO_11.out)); (case aS => exact (Ak (lU HB.out))); (case aL => have := LMc35.out; omega); intro v111 w36 ho hb hg hat; rw [← Ny110.out] at ho; have n0_ := Aa.mk (hb); have n1_ := Aa.mk (ho); clear HB; clear HO_11; have HB := n0_; have HO112 := n1_; clear n0_ n1_; clear ho hb hg hat)); try go_wp2_with (first | ((with_reducible refine Cf (b := .append) (xs := #[.tmp 75, .tmp 85]) rfl ?_); at_builtin; refine Kd.Cv (Kd.int .i64) (w0 := w) w.heap.size rfl (.tmp 75) (.tmp 85) 31 3 (.int .i64 0) 8 rfl Try.underlying31 info3 rfl (by decide) (by omega) u11 x11_2 (wrap64 ((wrap64 ((wrap64 ((wrap64 ((wrap64 (Int.tdiv a2 a0)) + x12_1)) * a0)) + (Int.tmod a2 a0))) + x13_2)) [.int .i64 (wrap64 ((wrap64 ((wrap64 ((wrap64 ((wrap64 (Int.tdiv a2 a0)) + x12_1)) * a0)) + (Int.tmod a2 a0))) + x13_2))] (fun _ => True) (fun _ => False) rfl rfl ?aP (fun _ hk => hk.elim) ?aF ?aO ?aB ?aS ?aL ?_; (case aP => exact rfl); (case aB => exact (lU HB.out)); (case aF => exact (fun _ _ => trivial)); (case aO => exact (by exact rU <| HO_11.out)); (case aS => exact (Ak (lU HB.out))); (case aL => have := LMc35.out; omega); intro v111 w36 ho hb hg hat; rw [← Ny110.out] at ho; have n0_ := Aa.mk (hb); have n1_ := Aa.mk (ho); clear HB; clear HO_11; have HB := n0_; have HO112 := n1_; clear n0_ n1_; clear ho hb hg hat)))
               go_roundg k2
               case measure => have := HK1.out; have := HK2.out; omega
               case rel => exact ⟨(y110), (wrap64 (x13_2 + 1)), (by first | rfl | (simp; done) | (simp [*]; done)), H', ⟨by have := HK1.out; have := HK2.out; omega⟩, ⟨by exact rU <| HO112.out⟩, ⟨by repeat (first | (with_reducible first | exact HB.out | apply Ad | apply Ac | apply Ah) | exact HB.out)⟩⟩
              ·rw [if_neg c35] at H
               exact absurd H (by simp)
       ·rw [if_neg c7] at H
        have c7b0 : decide (x13_2 ≤ 1) = false := decide_eq_false c7
        clear c7
        have H' := Aa.mk H
        clear H
        go_wp2
        repeat (go_quiet (fail); try go_wp2)
        go_roundg k2
        case measure => have := HK1.out; have := HK2.out; omega
        case rel => exact ⟨(x11_2), (wrap64 (x12_1 + 1)), (by first | rfl | (simp; done) | (simp [*]; done)), H', ⟨by have := HK1.out; have := HK2.out; omega⟩, ⟨by exact rU <| HO_11.out⟩, ⟨by repeat (first | (with_reducible first | exact HB.out | apply Ad | apply Ac | apply Ah) | exact HB.out)⟩⟩
    ·rw [if_neg c6] at H
     have c6b0 : decide (x12_1 ≤ 1) = false := decide_eq_false c6
     clear c6
     obtain rfl := Option.some.inj H
     go_wp2
     repeat (go_quiet (fail); try go_wp2)
     go_ret
     exact ⟨_, by first | rfl | (simp [Az, Ba] <;> rfl) | (simp [*, Az, Ba] <;> rfl), by exact rU <| HO_11.out, by repeat (first | (with_reducible first | exact HB.out | apply Ad | apply Ac | apply Ah) | exact HB.out)⟩

end Go.Proofs.Yteamphcehoaleaa.PFE

