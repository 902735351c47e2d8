import Derived.Test.YteamphcehoaleaaXPFPx0
namespace Go.Proofs.Yteamphcehoaleaa.PFP
open Go.Proofs.Yteamphcehoaleaa.PFA Go.Proofs.Yteamphcehoaleaa.PFK
open Go.RowKit Go.Proofs.YteamphcehoaleaaW.PrintWords Go.Proofs.YteamphcehoaleaaW.PrintLast Go.Proofs.YteamphcehoaleaaW.PrintMore
attribute [local go_sem] max2_int min2_int max_two min_two max_three min_three max_four min_four
set_option linter.unusedVariables false
set_option linter.unusedSimpArgs false

mutual
def As.l0 : Nat → Int → Int → Int → Int → Int → List Int → Int → Option (List Int)
 | 0, _, _, _, _, _, _, _ => none
 | k + 1, x0, x1, x3, x9, x10, x11, x12 => if x12 ≤ 1 then (As.l1 k x0 x1 x3 x9 x10 x11 x12 (-1)) else (some x11)
def As.l1 : Nat → Int → Int → Int → Int → Int → List Int → Int → Int → Option (List Int)
 | 0, _, _, _, _, _, _, _, _ => none
 | k + 1, x0, x1, x3, x9, x10, x11, x12, x13 => if x13 ≤ 1 then (if x13 = 0 then (if x12 = 0 then (As.l1 k x0 x1 x3 x9 x10 x11 x12 (wrap64 (x13 + 1))) else (if x3 = 4 then (if (wrap64 (x9 + x13)) < 0 then (As.l1 k x0 x1 x3 x9 x10 x11 x12 (wrap64 (x13 + 1))) else (if (wrap64 (x9 + x13)) ≥ x0 then (As.l1 k x0 x1 x3 x9 x10 x11 x12 (wrap64 (x13 + 1))) else (if (wrap64 (x10 + x12)) < 0 then (As.l1 k x0 x1 x3 x9 x10 x11 x12 (wrap64 (x13 + 1))) else (if (wrap64 (x10 + x12)) ≥ x1 then (As.l1 k x0 x1 x3 x9 x10 x11 x12 (wrap64 (x13 + 1))) else (if x11.length < 17592186044416 then (As.l1 k x0 x1 x3 x9 x10 (x11 ++ [wrap64 ((wrap64 ((wrap64 ((wrap64 (x10 + x12)) * x0)) + x9)) + x13)]) x12 (wrap64 (x13 + 1))) else (none)))))) else (if (wrap64 (x9 + x13)) < 0 then (As.l1 k x0 x1 x3 x9 x10 x11 x12 (wrap64 (x13 + 1))) else (if (wrap64 (x9 + x13)) ≥ x0 then (As.l1 k x0 x1 x3 x9 x10 x11 x12 (wrap64 (x13 + 1))) else (if (wrap64 (x10 + x12)) < 0 then (As.l1 k x0 x1 x3 x9 x10 x11 x12 (wrap64 (x13 + 1))) else (if (wrap64 (x10 + x12)) ≥ x1 then (As.l1 k x0 x1 x3 x9 x10 x11 x12 (wrap64 (x13 + 1))) else (if x11.length < 17592186044416 then (As.l1 k x0 x1 x3 x9 x10 (x11 ++ [wrap64 ((wrap64 ((wrap64 ((wrap64 (x10 + x12)) * x0)) + x9)) + x13)]) x12 (wrap64 (x13 + 1))) else (none)))))))) else (if x3 = 4 then (if x12 = 0 then (if (wrap64 (x9 + x13)) < 0 then (As.l1 k x0 x1 x3 x9 x10 x11 x12 (wrap64 (x13 + 1))) else (if (wrap64 (x9 + x13)) ≥ x0 then (As.l1 k x0 x1 x3 x9 x10 x11 x12 (wrap64 (x13 + 1))) else (if (wrap64 (x10 + x12)) < 0 then (As.l1 k x0 x1 x3 x9 x10 x11 x12 (wrap64 (x13 + 1))) else (if (wrap64 (x10 + x12)) ≥ x1 then (As.l1 k x0 x1 x3 x9 x10 x11 x12 (wrap64 (x13 + 1))) else (if x11.length < 17592186044416 then (As.l1 k x0 x1 x3 x9 x10 (x11 ++ [wrap64 ((wrap64 ((wrap64 ((wrap64 (x10 + x12)) * x0)) + x9)) + x13)]) x12 (wrap64 (x13 + 1))) else (none)))))) else (As.l1 k x0 x1 x3 x9 x10 x11 x12 (wrap64 (x13 + 1)))) else (if (wrap64 (x9 + x13)) < 0 then (As.l1 k x0 x1 x3 x9 x10 x11 x12 (wrap64 (x13 + 1))) else (if (wrap64 (x9 + x13)) ≥ x0 then (As.l1 k x0 x1 x3 x9 x10 x11 x12 (wrap64 (x13 + 1))) else (if (wrap64 (x10 + x12)) < 0 then (As.l1 k x0 x1 x3 x9 x10 x11 x12 (wrap64 (x13 + 1))) else (if (wrap64 (x10 + x12)) ≥ x1 then (As.l1 k x0 x1 x3 x9 x10 x11 x12 (wrap64 (x13 + 1))) else (if x11.length < 17592186044416 then (As.l1 k x0 x1 x3 x9 x10 (x11 ++ [wrap64 ((wrap64 ((wrap64 ((wrap64 (x10 + x12)) * x0)) + x9)) + x13)]) x12 (wrap64 (x13 + 1))) else (none)))))))) else (As.l0 k x0 x1 x3 x9 x10 x11 (wrap64 (x12 + 1)))
end
def As.f (k : Nat) (a0 : Int) (a1 : Int) (a2 : Int) (a3 : Int) : Option (List Int) := if a0 = 0 then (none) else (As.l0 k a0 a1 a3 (Int.tmod a2 a0) (wrap64 (Int.tdiv a2 a0)) ([] : List Int) (-1))
set_option maxHeartbeats 8000000 in
set_option maxRecDepth 100000 in
theorem As.calls (k : Nat) (a0 : Int) (a1 : Int) (a2 : Int) (a3 : Int) (r : List Int) (w : World) (h : As.f k a0 a1 a2 a3 = some r) :
  Calls Try.prog 35 #[.int .i64 a0, .int .i64 a1, .int .i64 a2, .int .i64 a3] w fun e w' => ∃ v0_ : Value, e = .returned (v0_) ∧ Kd.R (Kd.int .i64) 3 w' w.heap.size (fun _ => True) v0_ r ∧ Below w.heap.size w w' := by
 have HB := Aa.mk (Below.refl w.heap.size w)
 have H : (if a0 = 0 then (none) else (As.l0 k a0 a1 a3 (Int.tmod a2 a0) (wrap64 (Int.tdiv a2 a0)) ([] : List Int) (-1))) = some r := h
 clear h
 by_cases c5 : a0 = 0
 ·rw [if_pos c5] at H
  exact absurd H (by simp)
 ·rw [if_neg c5] at H
  have aU : (a0 == 0) = false := beq_eq_false_iff_ne.mpr c5
  have bf : (a0 != 0) = true := bne_iff_ne.mpr c5
  have H' := Aa.mk H
  clear H
  go_enter Try.func35, Try.ntmps35
  go_wp2
  repeat (go_quiet (fail); try go_wp2)
  go_loopg [11, 12] k (fun kq v11 v12 w' => ∃ (av : List Int) (ab : Int), v12 = .int .i64 ab ∧ Aa (As.l0 kq a0 a1 a3 (Int.tmod a2 a0) (wrap64 (Int.tdiv a2 a0)) av ab = some r) ∧ Aa (kq ≤ k) ∧ Aa (Kd.R (Kd.int .i64) 3 w' w.heap.size (fun _ => True) v11 av) ∧ Aa (Below w.heap.size w w'))
  case atStart => exact ⟨(([] : List Int)), ((-1)), (by first | rfl | (simp; done) | (simp [*]; done)), H', ⟨Nat.le_refl _⟩, ⟨by first | exact Kd.C5 _ _ _ _ _ | exact Kd.N_nil _ _ _ _ _ | exact Kd.V_nil _ _ _ _ _ | exact Kd.Q_nil _ _ _ _ _ | exact Kd.S_nil _ _ _ _ _⟩, ⟨by repeat (first | (with_reducible first | exact HB.out | apply Af | apply Ac | apply Ai) | exact HB.out)⟩⟩
  case round =>
   clear H'
   try clear p2
   try clear c3
   try clear c5
   try clear aU
   try clear bf
   obtain ⟨av, ab, rfl, HA, HK1, ac, HB⟩ := hrel
   cases gk with
   | zero => exact absurd HA.out (by simp [As.l0])
   | succ k1 =>
    have H := HA.out
    clear HA
    simp only [As.l0] at H
    by_cases c6 : ab ≤ 1
    ·rw [if_pos c6] at H
     have aV : decide (ab ≤ 1) = true := decide_eq_true c6
     clear c6
     have H' := Aa.mk H
     clear H
     go_wp2
     repeat (go_quiet (fail); try go_wp2)
     go_loopg [11, 13] k1 (fun kq v11 v13 w' => ∃ (ae : List Int) (aa : Int), v13 = .int .i64 aa ∧ Aa (As.l1 kq a0 a1 a3 (Int.tmod a2 a0) (wrap64 (Int.tdiv a2 a0)) ae ab aa = some r) ∧ Aa (kq ≤ k1) ∧ Aa (Kd.R (Kd.int .i64) 3 w' w.heap.size (fun _ => True) v11 ae) ∧ Aa (Below w.heap.size w w'))
     case atStart => exact ⟨(av), ((-1)), (by first | rfl | (simp; done) | (simp [*]; done)), H', ⟨Nat.le_refl _⟩, ⟨by exact rU <| ac.out⟩, ⟨by repeat (first | (with_reducible first | exact HB.out | apply Af | apply Ac | apply Ai) | exact HB.out)⟩⟩
     case round =>
      clear H'
      try clear p2
      try clear c3
      try clear c5
      try clear aU
      try clear bf
      try clear c6
      try clear aV
      try clear p6
      try clear p2
      obtain ⟨ae, aa, rfl, HA, HK2, ac, HB⟩ := hrel
      cases gk with
      | zero => exact absurd HA.out (by simp [As.l1])
      | succ k2 =>
       have H := HA.out
       clear HA
       simp only [As.l1] at H
       by_cases c7 : aa ≤ 1
       ·rw [if_pos c7] at H
        have b3 : decide (aa ≤ 1) = true := decide_eq_true c7
        clear c7
        by_cases c8 : aa = 0
        ·rw [if_pos c8] at H
         have b4 : (aa == 0) = true := beq_iff_eq.mpr c8
         have b5 : (aa != 0) = false := bne_eq_false_iff_eq.mpr c8
         clear c8
         by_cases c9 : ab = 0
         ·rw [if_pos c9] at H
          have b6 : (ab == 0) = true := beq_iff_eq.mpr c9
          have b7 : (ab != 0) = false := bne_eq_false_iff_eq.mpr c9
          clear c9
          have H' := Aa.mk H
          clear H
          go_wp2
          repeat (go_quiet (fail); try go_wp2)
          go_roundg k2
          case measure => have := HK1.out; have := HK2.out; omega
          case rel => exact ⟨(ae), (wrap64 (aa + 1)), (by first | rfl | (simp; done) | (simp [*]; done)), H', ⟨by have := HK1.out; have := HK2.out; omega⟩, ⟨by exact rU <| ac.out⟩, ⟨by repeat (first | (with_reducible first | exact HB.out | apply Af | apply Ac | apply Ai) | exact HB.out)⟩⟩
         ·rw [if_neg c9] at H
          have b6 : (ab == 0) = false := beq_eq_false_iff_ne.mpr c9
          have b7 : (ab != 0) = true := bne_iff_ne.mpr c9
          by_cases c10 : a3 = 4
          ·rw [if_pos c10] at H
           have bg : (a3 == 4) = true := beq_iff_eq.mpr c10
           have bh : (a3 != 4) = false := bne_eq_false_iff_eq.mpr c10
           clear c10
           by_cases c11 : (wrap64 ((Int.tmod a2 a0) + aa)) < 0
           ·rw [if_pos c11] at H
            have bj : decide ((wrap64 ((Int.tmod a2 a0) + aa)) < 0) = true := decide_eq_true c11
            clear c11
            have H' := Aa.mk H
            clear H
            go_wp2
            repeat (go_quiet (fail); try go_wp2)
            go_roundg k2
            case measure => have := HK1.out; have := HK2.out; omega
            case rel => exact ⟨(ae), (wrap64 (aa + 1)), (by first | rfl | (simp; done) | (simp [*]; done)), H', ⟨by have := HK1.out; have := HK2.out; omega⟩, ⟨by exact rU <| ac.out⟩, ⟨by repeat (first | (with_reducible first | exact HB.out | apply Af | apply Ac | apply Ai) | exact HB.out)⟩⟩
           ·rw [if_neg c11] at H
            have bj : decide ((wrap64 ((Int.tmod a2 a0) + aa)) < 0) = false := decide_eq_false c11
            clear c11
            by_cases c12 : (wrap64 ((Int.tmod a2 a0) + aa)) ≥ a0
            ·rw [if_pos c12] at H
             have bk : decide (a0 ≤ (wrap64 ((Int.tmod a2 a0) + aa))) = true := decide_eq_true c12
             clear c12
             have H' := Aa.mk H
             clear H
             go_wp2
             repeat (go_quiet (fail); try go_wp2)
             go_roundg k2
             case measure => have := HK1.out; have := HK2.out; omega
             case rel => exact ⟨(ae), (wrap64 (aa + 1)), (by first | rfl | (simp; done) | (simp [*]; done)), H', ⟨by have := HK1.out; have := HK2.out; omega⟩, ⟨by exact rU <| ac.out⟩, ⟨by repeat (first | (with_reducible first | exact HB.out | apply Af | apply Ac | apply Ai) | exact HB.out)⟩⟩
            ·rw [if_neg c12] at H
             have bk : decide (a0 ≤ (wrap64 ((Int.tmod a2 a0) + aa))) = false := decide_eq_false c12
             clear c12
             by_cases c13 : (wrap64 ((wrap64 (Int.tdiv a2 a0)) + ab)) < 0
             ·rw [if_pos c13] at H
              have bl : decide ((wrap64 ((wrap64 (Int.tdiv a2 a0)) + ab)) < 0) = true := decide_eq_true c13
              clear c13
              have H' := Aa.mk H
              clear H
              go_wp2
              repeat (go_quiet (fail); try go_wp2)
              go_roundg k2
              case measure => have := HK1.out; have := HK2.out; omega
              case rel => exact ⟨(ae), (wrap64 (aa + 1)), (by first | rfl | (simp; done) | (simp [*]; done)), H', ⟨by have := HK1.out; have := HK2.out; omega⟩, ⟨by exact rU <| ac.out⟩, ⟨by repeat (first | (with_reducible first | exact HB.out | apply Af | apply Ac | apply Ai) | exact HB.out)⟩⟩
             ·rw [if_neg c13] at H
              have bl : decide ((wrap64 ((wrap64 (Int.tdiv a2 a0)) + ab)) < 0) = false := decide_eq_false c13
              clear c13
              by_cases c14 : (wrap64 ((wrap64 (Int.tdiv a2 a0)) + ab)) ≥ a1
              ·rw [if_pos c14] at H
               have bm : decide (a1 ≤ (wrap64 ((wrap64 (Int.tdiv a2 a0)) + ab))) = true := decide_eq_true c14
               clear c14
               have H' := Aa.mk H
               clear H
               go_wp2
               repeat (go_quiet (fail); try go_wp2)
               go_roundg k2
               case measure => have := HK1.out; have := HK2.out; omega
               case rel => exact ⟨(ae), (wrap64 (aa + 1)), (by first | rfl | (simp; done) | (simp [*]; done)), H', ⟨by have := HK1.out; have := HK2.out; omega⟩, ⟨by exact rU <| ac.out⟩, ⟨by repeat (first | (with_reducible first | exact HB.out | apply Af | apply Ac | apply Ai) | exact HB.out)⟩⟩
              ·rw [if_neg c14] at H
               have bm : decide (a1 ≤ (wrap64 ((wrap64 (Int.tdiv a2 a0)) + ab))) = false := decide_eq_false c14
               clear c14
               by_cases c15 : ae.length < 17592186044416
               ·rw [if_pos c15] at H
                have LMc15 := Aa.mk c15
                clear c15
                obtain ⟨b8, ay⟩ : ∃ y_ : List Int, y_ = (ae ++ [wrap64 ((wrap64 ((wrap64 ((wrap64 ((wrap64 (Int.tdiv a2 a0)) + ab)) * a0)) + (Int.tmod a2 a0))) + aa)]) := ⟨_, rfl⟩
                (try rw [Option.bind_some] at H); try rw [← ay] at H
                have az := Aa.mk ay
                clear ay
                have H' := Aa.mk H
                clear H
                go_wp2_with (first | ((with_reducible refine Ck (b := .append) (xs := #[.tmp 75, .tmp 85]) rfl ?_); at_builtin; refine Kd.Cz (Kd.int .i64) (w0 := w) w.heap.size rfl (.tmp 75) (.tmp 85) 31 3 (.int .i64 0) 8 rfl Try.underlying31 info3 rfl (by decide) (by omega) u11 ae (wrap64 ((wrap64 ((wrap64 ((wrap64 ((wrap64 (Int.tdiv a2 a0)) + ab)) * a0)) + (Int.tmod a2 a0))) + aa)) [.int .i64 (wrap64 ((wrap64 ((wrap64 ((wrap64 ((wrap64 (Int.tdiv a2 a0)) + ab)) * a0)) + (Int.tmod a2 a0))) + aa))] (fun _ => True) (fun _ => False) rfl rfl ?aP (fun _ hk => hk.elim) ?aF ?aO ?aB ?aS ?aL ?_; (case aP => exact rfl); (case aB => exact (lU HB.out)); (case aF => exact (fun _ _ => trivial)); (case aO => exact (by exact rU <| ac.out)); (case aS => exact (An (lU HB.out))); (case aL => have := LMc15.out; omega); intro v102 w16 ho hb hg hat; rw [← az.out] at ho; have n0_ := Aa.mk (hb); have n1_ := Aa.mk (ho); clear HB; clear ac; have HB := n0_; have aA := n1_; clear n0_ n1_; clear ho hb hg hat))
                repeat (go_quiet (first | ((with_reducible refine Ck (b := .append) (xs := #[.tmp 75, .tmp 85]) rfl ?_); at_builtin; refine Kd.Cz (Kd.int .i64) (w0 := w) w.heap.size rfl (.tmp 75) (.tmp 85) 31 3 (.int .i64 0) 8 rfl Try.underlying31 info3 rfl (by decide) (by omega) u11 ae (wrap64 ((wrap64 ((wrap64 ((wrap64 ((wrap64 (Int.tdiv a2 a0)) + ab)) * a0)) + (Int.tmod a2 a0))) + aa)) [.int .i64 (wrap64 ((wrap64 ((wrap64 ((wrap64 ((wrap64 (Int.tdiv a2 a0)) + ab)) * a0)) + (Int.tmod a2 a0))) + aa))] (fun _ => True) (fun _ => False) rfl rfl ?aP (fun _ hk => hk.elim) ?aF ?aO ?aB ?aS ?aL ?_; (case aP => exact rfl); (case aB => exact (lU HB.out)); (case aF => exact (fun _ _ => trivial)); (case aO => exact (by exact rU <| ac.out)); (case aS => exact (An (lU HB.out))); (case aL => have := LMc15.out; omega); intro v102 w16 ho hb hg hat; rw [← az.out] at ho; have n0_ := Aa.mk (hb); have n1_ := Aa.mk (ho); clear HB; clear ac; have HB := n0_; have aA := n1_; clear n0_ n1_; clear ho hb hg hat)); try go_wp2_with (first | ((with_reducible refine Ck (b := .append) (xs := #[.tmp 75, .tmp 85]) rfl ?_); at_builtin; refine Kd.Cz (Kd.int .i64) (w0 := w) w.heap.size rfl (.tmp 75) (.tmp 85) 31 3 (.int .i64 0) 8 rfl Try.underlying31 info3 rfl (by decide) (by omega) u11 ae (wrap64 ((wrap64 ((wrap64 ((wrap64 ((wrap64 (Int.tdiv a2 a0)) + ab)) * a0)) + (Int.tmod a2 a0))) + aa)) [.int .i64 (wrap64 ((wrap64 ((wrap64 ((wrap64 ((wrap64 (Int.tdiv a2 a0)) + ab)) * a0)) + (Int.tmod a2 a0))) + aa))] (fun _ => True) (fun _ => False) rfl rfl ?aP (fun _ hk => hk.elim) ?aF ?aO ?aB ?aS ?aL ?_; (case aP => exact rfl); (case aB => exact (lU HB.out)); (case aF => exact (fun _ _ => trivial)); (case aO => exact (by exact rU <| ac.out)); (case aS => exact (An (lU HB.out))); (case aL => have := LMc15.out; omega); intro v102 w16 ho hb hg hat; rw [← az.out] at ho; have n0_ := Aa.mk (hb); have n1_ := Aa.mk (ho); clear HB; clear ac; have HB := n0_; have aA := n1_; clear n0_ n1_; clear ho hb hg hat)))
                go_roundg k2
                case measure => have := HK1.out; have := HK2.out; omega
                case rel => exact ⟨(b8), (wrap64 (aa + 1)), (by first | rfl | (simp; done) | (simp [*]; done)), H', ⟨by have := HK1.out; have := HK2.out; omega⟩, ⟨by exact rU <| aA.out⟩, ⟨by repeat (first | (with_reducible first | exact HB.out | apply Af | apply Ac | apply Ai) | exact HB.out)⟩⟩
               ·rw [if_neg c15] at H
                exact absurd H (by simp)
          ·rw [if_neg c10] at H
           have bg : (a3 == 4) = false := beq_eq_false_iff_ne.mpr c10
           have bh : (a3 != 4) = true := bne_iff_ne.mpr c10
           by_cases c17 : (wrap64 ((Int.tmod a2 a0) + aa)) < 0
           ·rw [if_pos c17] at H
            have bo : decide ((wrap64 ((Int.tmod a2 a0) + aa)) < 0) = true := decide_eq_true c17
            clear c17
            have H' := Aa.mk H
            clear H
            go_wp2
            repeat (go_quiet (fail); try go_wp2)
            go_roundg k2
            case measure => have := HK1.out; have := HK2.out; omega
            case rel => exact ⟨(ae), (wrap64 (aa + 1)), (by first | rfl | (simp; done) | (simp [*]; done)), H', ⟨by have := HK1.out; have := HK2.out; omega⟩, ⟨by exact rU <| ac.out⟩, ⟨by repeat (first | (with_reducible first | exact HB.out | apply Af | apply Ac | apply Ai) | exact HB.out)⟩⟩
           ·rw [if_neg c17] at H
            have bo : decide ((wrap64 ((Int.tmod a2 a0) + aa)) < 0) = false := decide_eq_false c17
            clear c17
            by_cases c18 : (wrap64 ((Int.tmod a2 a0) + aa)) ≥ a0
            ·rw [if_pos c18] at H
             have bp : decide (a0 ≤ (wrap64 ((Int.tmod a2 a0) + aa))) = true := decide_eq_true c18
             clear c18
             have H' := Aa.mk H
             clear H
             go_wp2
             repeat (go_quiet (fail); try go_wp2)
             go_roundg k2
             case measure => have := HK1.out; have := HK2.out; omega
             case rel => exact ⟨(ae), (wrap64 (aa + 1)), (by first | rfl | (simp; done) | (simp [*]; done)), H', ⟨by have := HK1.out; have := HK2.out; omega⟩, ⟨by exact rU <| ac.out⟩, ⟨by repeat (first | (with_reducible first | exact HB.out | apply Af | apply Ac | apply Ai) | exact HB.out)⟩⟩
            ·rw [if_neg c18] at H
             have bp : decide (a0 ≤ (wrap64 ((Int.tmod a2 a0) + aa))) = false := decide_eq_false c18
             clear c18
             by_cases c19 : (wrap64 ((wrap64 (Int.tdiv a2 a0)) + ab)) < 0
             ·rw [if_pos c19] at H
              have bq : decide ((wrap64 ((wrap64 (Int.tdiv a2 a0)) + ab)) < 0) = true := decide_eq_true c19
              clear c19
              have H' := Aa.mk H
              clear H
              go_wp2
              repeat (go_quiet (fail); try go_wp2)
              go_roundg k2
              case measure => have := HK1.out; have := HK2.out; omega
              case rel => exact ⟨(ae), (wrap64 (aa + 1)), (by first | rfl | (simp; done) | (simp [*]; done)), H', ⟨by have := HK1.out; have := HK2.out; omega⟩, ⟨by exact rU <| ac.out⟩, ⟨by repeat (first | (with_reducible first | exact HB.out | apply Af | apply Ac | apply Ai) | exact HB.out)⟩⟩
             ·rw [if_neg c19] at H
              have bq : decide ((wrap64 ((wrap64 (Int.tdiv a2 a0)) + ab)) < 0) = false := decide_eq_false c19
              clear c19
              by_cases c20 : (wrap64 ((wrap64 (Int.tdiv a2 a0)) + ab)) ≥ a1
              ·rw [if_pos c20] at H
               have br : decide (a1 ≤ (wrap64 ((wrap64 (Int.tdiv a2 a0)) + ab))) = true := decide_eq_true c20
               clear c20
               have H' := Aa.mk H
               clear H
               go_wp2
               repeat (go_quiet (fail); try go_wp2)
               go_roundg k2
               case measure => have := HK1.out; have := HK2.out; omega
               case rel => exact ⟨(ae), (wrap64 (aa + 1)), (by first | rfl | (simp; done) | (simp [*]; done)), H', ⟨by have := HK1.out; have := HK2.out; omega⟩, ⟨by exact rU <| ac.out⟩, ⟨by repeat (first | (with_reducible first | exact HB.out | apply Af | apply Ac | apply Ai) | exact HB.out)⟩⟩
              ·rw [if_neg c20] at H
               have br : decide (a1 ≤ (wrap64 ((wrap64 (Int.tdiv a2 a0)) + ab))) = false := decide_eq_false c20
               clear c20
               by_cases c21 : ae.length < 17592186044416
               ·rw [if_pos c21] at H
                have LMc21 := Aa.mk c21
                clear c21
                obtain ⟨b9, aC⟩ : ∃ y_ : List Int, y_ = (ae ++ [wrap64 ((wrap64 ((wrap64 ((wrap64 ((wrap64 (Int.tdiv a2 a0)) + ab)) * a0)) + (Int.tmod a2 a0))) + aa)]) := ⟨_, rfl⟩
                (try rw [Option.bind_some] at H); try rw [← aC] at H
                have aD := Aa.mk aC
                clear aC
                have H' := Aa.mk H
                clear H
                go_wp2_with (first | ((with_reducible refine Ck (b := .append) (xs := #[.tmp 75, .tmp 85]) rfl ?_); at_builtin; refine Kd.Cz (Kd.int .i64) (w0 := w) w.heap.size rfl (.tmp 75) (.tmp 85) 31 3 (.int .i64 0) 8 rfl Try.underlying31 info3 rfl (by decide) (by omega) u11 ae (wrap64 ((wrap64 ((wrap64 ((wrap64 ((wrap64 (Int.tdiv a2 a0)) + ab)) * a0)) + (Int.tmod a2 a0))) + aa)) [.int .i64 (wrap64 ((wrap64 ((wrap64 ((wrap64 ((wrap64 (Int.tdiv a2 a0)) + ab)) * a0)) + (Int.tmod a2 a0))) + aa))] (fun _ => True) (fun _ => False) rfl rfl ?aP (fun _ hk => hk.elim) ?aF ?aO ?aB ?aS ?aL ?_; (case aP => exact rfl); (case aB => exact (lU HB.out)); (case aF => exact (fun _ _ => trivial)); (case aO => exact (by exact rU <| ac.out)); (case aS => exact (An (lU HB.out))); (case aL => have := LMc21.out; omega); intro v105 w22 ho hb hg hat; rw [← aD.out] at ho; have n0_ := Aa.mk (hb); have n1_ := Aa.mk (ho); clear HB; clear ac; have HB := n0_; have aE := n1_; clear n0_ n1_; clear ho hb hg hat))
                repeat (go_quiet (first | ((with_reducible refine Ck (b := .append) (xs := #[.tmp 75, .tmp 85]) rfl ?_); at_builtin; refine Kd.Cz (Kd.int .i64) (w0 := w) w.heap.size rfl (.tmp 75) (.tmp 85) 31 3 (.int .i64 0) 8 rfl Try.underlying31 info3 rfl (by decide) (by omega) u11 ae (wrap64 ((wrap64 ((wrap64 ((wrap64 ((wrap64 (Int.tdiv a2 a0)) + ab)) * a0)) + (Int.tmod a2 a0))) + aa)) [.int .i64 (wrap64 ((wrap64 ((wrap64 ((wrap64 ((wrap64 (Int.tdiv a2 a0)) + ab)) * a0)) + (Int.tmod a2 a0))) + aa))] (fun _ => True) (fun _ => False) rfl rfl ?aP (fun _ hk => hk.elim) ?aF ?aO ?aB ?aS ?aL ?_; (case aP => exact rfl); (case aB => exact (lU HB.out)); (case aF => exact (fun _ _ => trivial)); (case aO => exact (by exact rU <| ac.out)); (case aS => exact (An (lU HB.out))); (case aL => have := LMc21.out; omega); intro v105 w22 ho hb hg hat; rw [← aD.out] at ho; have n0_ := Aa.mk (hb); have n1_ := Aa.mk (ho); clear HB; clear ac; have HB := n0_; have aE := n1_; clear n0_ n1_; clear ho hb hg hat)); try go_wp2_with (first | ((with_reducible refine Ck (b := .append) (xs := #[.tmp 75, .tmp 85]) rfl ?_); at_builtin; refine Kd.Cz (Kd.int .i64) (w0 := w) w.heap.size rfl (.tmp 75) (.tmp 85) 31 3 (.int .i64 0) 8 rfl Try.underlying31 info3 rfl (by decide) (by omega) u11 ae (wrap64 ((wrap64 ((wrap64 ((wrap64 ((wrap64 (Int.tdiv a2 a0)) + ab)) * a0)) + (Int.tmod a2 a0))) + aa)) [.int .i64 (wrap64 ((wrap64 ((wrap64 ((wrap64 ((wrap64 (Int.tdiv a2 a0)) + ab)) * a0)) + (Int.tmod a2 a0))) + aa))] (fun _ => True) (fun _ => False) rfl rfl ?aP (fun _ hk => hk.elim) ?aF ?aO ?aB ?aS ?aL ?_; (case aP => exact rfl); (case aB => exact (lU HB.out)); (case aF => exact (fun _ _ => trivial)); (case aO => exact (by exact rU <| ac.out)); (case aS => exact (An (lU HB.out))); (case aL => have := LMc21.out; omega); intro v105 w22 ho hb hg hat; rw [← aD.out] at ho; have n0_ := Aa.mk (hb); have n1_ := Aa.mk (ho); clear HB; clear ac; have HB := n0_; have aE := n1_; clear n0_ n1_; clear ho hb hg hat)))
                go_roundg k2
                case measure => have := HK1.out; have := HK2.out; omega
                case rel => exact ⟨(b9), (wrap64 (aa + 1)), (by first | rfl | (simp; done) | (simp [*]; done)), H', ⟨by have := HK1.out; have := HK2.out; omega⟩, ⟨by exact rU <| aE.out⟩, ⟨by repeat (first | (with_reducible first | exact HB.out | apply Af | apply Ac | apply Ai) | exact HB.out)⟩⟩
               ·rw [if_neg c21] at H
                exact absurd H (by simp)
        ·rw [if_neg c8] at H
         have b4 : (aa == 0) = false := beq_eq_false_iff_ne.mpr c8
         have b5 : (aa != 0) = true := bne_iff_ne.mpr c8
         by_cases c23 : a3 = 4
         ·rw [if_pos c23] at H
          have bs : (a3 == 4) = true := beq_iff_eq.mpr c23
          have bt : (a3 != 4) = false := bne_eq_false_iff_eq.mpr c23
          clear c23
          by_cases c24 : ab = 0
          ·rw [if_pos c24] at H
           have bu : (ab == 0) = true := beq_iff_eq.mpr c24
           have bv : (ab != 0) = false := bne_eq_false_iff_eq.mpr c24
           clear c24
           by_cases c25 : (wrap64 ((Int.tmod a2 a0) + aa)) < 0
           ·rw [if_pos c25] at H
            have bw : decide ((wrap64 ((Int.tmod a2 a0) + aa)) < 0) = true := decide_eq_true c25
            clear c25
            have H' := Aa.mk H
            clear H
            go_wp2
            repeat (go_quiet (fail); try go_wp2)
            go_roundg k2
            case measure => have := HK1.out; have := HK2.out; omega
            case rel => exact ⟨(ae), (wrap64 (aa + 1)), (by first | rfl | (simp; done) | (simp [*]; done)), H', ⟨by have := HK1.out; have := HK2.out; omega⟩, ⟨by exact rU <| ac.out⟩, ⟨by repeat (first | (with_reducible first | exact HB.out | apply Af | apply Ac | apply Ai) | exact HB.out)⟩⟩
           ·rw [if_neg c25] at H
            have bw : decide ((wrap64 ((Int.tmod a2 a0) + aa)) < 0) = false := decide_eq_false c25
            clear c25
            by_cases c26 : (wrap64 ((Int.tmod a2 a0) + aa)) ≥ a0
            ·rw [if_pos c26] at H
             have bz : decide (a0 ≤ (wrap64 ((Int.tmod a2 a0) + aa))) = true := decide_eq_true c26
             clear c26
             have H' := Aa.mk H
             clear H
             go_wp2
             repeat (go_quiet (fail); try go_wp2)
             go_roundg k2
             case measure => have := HK1.out; have := HK2.out; omega
             case rel => exact ⟨(ae), (wrap64 (aa + 1)), (by first | rfl | (simp; done) | (simp [*]; done)), H', ⟨by have := HK1.out; have := HK2.out; omega⟩, ⟨by exact rU <| ac.out⟩, ⟨by repeat (first | (with_reducible first | exact HB.out | apply Af | apply Ac | apply Ai) | exact HB.out)⟩⟩
            ·rw [if_neg c26] at H
             have bz : decide (a0 ≤ (wrap64 ((Int.tmod a2 a0) + aa))) = false := decide_eq_false c26
             clear c26
             by_cases c27 : (wrap64 ((wrap64 (Int.tdiv a2 a0)) + ab)) < 0
             ·rw [if_pos c27] at H
              have bB : decide ((wrap64 ((wrap64 (Int.tdiv a2 a0)) + ab)) < 0) = true := decide_eq_true c27
              clear c27
              have H' := Aa.mk H
              clear H
              go_wp2
              repeat (go_quiet (fail); try go_wp2)
              go_roundg k2
              case measure => have := HK1.out; have := HK2.out; omega
              case rel => exact ⟨(ae), (wrap64 (aa + 1)), (by first | rfl | (simp; done) | (simp [*]; done)), H', ⟨by have := HK1.out; have := HK2.out; omega⟩, ⟨by exact rU <| ac.out⟩, ⟨by repeat (first | (with_reducible first | exact HB.out | apply Af | apply Ac | apply Ai) | exact HB.out)⟩⟩
             ·rw [if_neg c27] at H
              have bB : decide ((wrap64 ((wrap64 (Int.tdiv a2 a0)) + ab)) < 0) = false := decide_eq_false c27
              clear c27
              by_cases c28 : (wrap64 ((wrap64 (Int.tdiv a2 a0)) + ab)) ≥ a1
              ·rw [if_pos c28] at H
               have bC : decide (a1 ≤ (wrap64 ((wrap64 (Int.tdiv a2 a0)) + ab))) = true := decide_eq_true c28
               clear c28
               have H' := Aa.mk H
               clear H
               go_wp2
               repeat (go_quiet (fail); try go_wp2)
               go_roundg k2
               case measure => have := HK1.out; have := HK2.out; omega
               case rel => exact ⟨(ae), (wrap64 (aa + 1)), (by first | rfl | (simp; done) | (simp [*]; done)), H', ⟨by have := HK1.out; have := HK2.out; omega⟩, ⟨by exact rU <| ac.out⟩, ⟨by repeat (first | (with_reducible first | exact HB.out | apply Af | apply Ac | apply Ai) | exact HB.out)⟩⟩
              ·rw [if_neg c28] at H
               have bC : decide (a1 ≤ (wrap64 ((wrap64 (Int.tdiv a2 a0)) + ab))) = false := decide_eq_false c28
               clear c28
               by_cases c29 : ae.length < 17592186044416
               ·rw [if_pos c29] at H
                have LMc29 := Aa.mk c29
                clear c29
                obtain ⟨cd, aG⟩ : ∃ y_ : List Int, y_ = (ae ++ [wrap64 ((wrap64 ((wrap64 ((wrap64 ((wrap64 (Int.tdiv a2 a0)) + ab)) * a0)) + (Int.tmod a2 a0))) + aa)]) := ⟨_, rfl⟩
                (try rw [Option.bind_some] at H); try rw [← aG] at H
                have aH := Aa.mk aG
                clear aG
                have H' := Aa.mk H
                clear H
                go_wp2_with (first | ((with_reducible refine Ck (b := .append) (xs := #[.tmp 75, .tmp 85]) rfl ?_); at_builtin; refine Kd.Cz (Kd.int .i64) (w0 := w) w.heap.size rfl (.tmp 75) (.tmp 85) 31 3 (.int .i64 0) 8 rfl Try.underlying31 info3 rfl (by decide) (by omega) u11 ae (wrap64 ((wrap64 ((wrap64 ((wrap64 ((wrap64 (Int.tdiv a2 a0)) + ab)) * a0)) + (Int.tmod a2 a0))) + aa)) [.int .i64 (wrap64 ((wrap64 ((wrap64 ((wrap64 ((wrap64 (Int.tdiv a2 a0)) + ab)) * a0)) + (Int.tmod a2 a0))) + aa))] (fun _ => True) (fun _ => False) rfl rfl ?aP (fun _ hk => hk.elim) ?aF ?aO ?aB ?aS ?aL ?_; (case aP => exact rfl); (case aB => exact (lU HB.out)); (case aF => exact (fun _ _ => trivial)); (case aO => exact (by exact rU <| ac.out)); (case aS => exact (An (lU HB.out))); (case aL => have := LMc29.out; omega); intro v108 w30 ho hb hg hat; rw [← aH.out] at ho; have n0_ := Aa.mk (hb); have n1_ := Aa.mk (ho); clear HB; clear ac; have HB := n0_; have aI := n1_; clear n0_ n1_; clear ho hb hg hat))
                repeat (go_quiet (first | ((with_reducible refine Ck (b := .append) (xs := #[.tmp 75, .tmp 85]) rfl ?_); at_builtin; refine Kd.Cz (Kd.int .i64) (w0 := w) w.heap.size rfl (.tmp 75) (.tmp 85) 31 3 (.int .i64 0) 8 rfl Try.underlying31 info3 rfl (by decide) (by omega) u11 ae (wrap64 ((wrap64 ((wrap64 ((wrap64 ((wrap64 (Int.tdiv a2 a0)) + ab)) * a0)) + (Int.tmod a2 a0))) + aa)) [.int .i64 (wrap64 ((wrap64 ((wrap64 ((wrap64 ((wrap64 (Int.tdiv a2 a0)) + ab)) * a0)) + (Int.tmod a2 a0))) + aa))] (fun _ => True) (fun _ => False) rfl rfl ?aP (fun _ hk => hk.elim) ?aF ?aO ?aB ?aS ?aL ?_; (case aP => exact rfl); (case aB => exact (lU HB.out)); (case aF => exact (fun _ _ => trivial)); (case aO => exact (by exact rU <| ac.out)); (case aS => exact (An (lU HB.out))); (case aL => have := LMc29.out; omega); intro v108 w30 ho hb hg hat; rw [← aH.out] at ho; have n0_ := Aa.mk (hb); have n1_ := Aa.mk (ho); clear HB; clear ac; have HB := n0_; have aI := n1_; clear n0_ n1_; clear ho hb hg hat)); try go_wp2_with (first | ((with_reducible refine Ck (b := .append) (xs := #[.tmp 75, .tmp 85]) rfl ?_); at_builtin; refine Kd.Cz (Kd.int .i64) (w0 := w) w.heap.size rfl (.tmp 75) (.tmp 85) 31 3 (.int .i64 0) 8 rfl Try.underlying31 info3 rfl (by decide) (by omega) u11 ae (wrap64 ((wrap64 ((wrap64 ((wrap64 ((wrap64 (Int.tdiv a2 a0)) + ab)) * a0)) + (Int.tmod a2 a0))) + aa)) [.int .i64 (wrap64 ((wrap64 ((wrap64 ((wrap64 ((wrap64 (Int.tdiv a2 a0)) + ab)) * a0)) + (Int.tmod a2 a0))) + aa))] (fun _ => True) (fun _ => False) rfl rfl ?aP (fun _ hk => hk.elim) ?aF ?aO ?aB ?aS ?aL ?_; (case aP => exact rfl); (case aB => exact (lU HB.out)); (case aF => exact (fun _ _ => trivial)); (case aO => exact (by exact rU <| ac.out)); (case aS => exact (An (lU HB.out))); (case aL => have := LMc29.out; omega); intro v108 w30 ho hb hg hat; rw [← aH.out] at ho; have n0_ := Aa.mk (hb); have n1_ := Aa.mk (ho); clear HB; clear ac; have HB := n0_; have aI := n1_; clear n0_ n1_; clear ho hb hg hat)))
                go_roundg k2
                case measure => have := HK1.out; have := HK2.out; omega
                case rel => exact ⟨(cd), (wrap64 (aa + 1)), (by first | rfl | (simp; done) | (simp [*]; done)), H', ⟨by have := HK1.out; have := HK2.out; omega⟩, ⟨by exact rU <| aI.out⟩, ⟨by repeat (first | (with_reducible first | exact HB.out | apply Af | apply Ac | apply Ai) | exact HB.out)⟩⟩
               ·rw [if_neg c29] at H
                exact absurd H (by simp)
          ·rw [if_neg c24] at H
           have bu : (ab == 0) = false := beq_eq_false_iff_ne.mpr c24
           have bv : (ab != 0) = true := bne_iff_ne.mpr c24
           have H' := Aa.mk H
           clear H
           go_wp2
           repeat (go_quiet (fail); try go_wp2)
           go_roundg k2
           case measure => have := HK1.out; have := HK2.out; omega
           case rel => exact ⟨(ae), (wrap64 (aa + 1)), (by first | rfl | (simp; done) | (simp [*]; done)), H', ⟨by have := HK1.out; have := HK2.out; omega⟩, ⟨by exact rU <| ac.out⟩, ⟨by repeat (first | (with_reducible first | exact HB.out | apply Af | apply Ac | apply Ai) | exact HB.out)⟩⟩
         ·rw [if_neg c23] at H
          have bs : (a3 == 4) = false := beq_eq_false_iff_ne.mpr c23
          have bt : (a3 != 4) = true := bne_iff_ne.mpr c23
          by_cases c31 : (wrap64 ((Int.tmod a2 a0) + aa)) < 0
          ·rw [if_pos c31] at H
           have bD : decide ((wrap64 ((Int.tmod a2 a0) + aa)) < 0) = true := decide_eq_true c31
           clear c31
           have H' := Aa.mk H
           clear H
           go_wp2
           repeat (go_quiet (fail); try go_wp2)
           go_roundg k2
           case measure => have := HK1.out; have := HK2.out; omega
           case rel => exact ⟨(ae), (wrap64 (aa + 1)), (by first | rfl | (simp; done) | (simp [*]; done)), H', ⟨by have := HK1.out; have := HK2.out; omega⟩, ⟨by exact rU <| ac.out⟩, ⟨by repeat (first | (with_reducible first | exact HB.out | apply Af | apply Ac | apply Ai) | exact HB.out)⟩⟩
          ·rw [if_neg c31] at H
           have bD : decide ((wrap64 ((Int.tmod a2 a0) + aa)) < 0) = false := decide_eq_false c31
           clear c31
           by_cases c32 : (wrap64 ((Int.tmod a2 a0) + aa)) ≥ a0
           ·rw [if_pos c32] at H
            have bE : decide (a0 ≤ (wrap64 ((Int.tmod a2 a0) + aa))) = true := decide_eq_true c32
            clear c32
            have H' := Aa.mk H
            clear H
            go_wp2
            repeat (go_quiet (fail); try go_wp2)
            go_roundg k2
            case measure => have := HK1.out; have := HK2.out; omega
            case rel => exact ⟨(ae), (wrap64 (aa + 1)), (by first | rfl | (simp; done) | (simp [*]; done)), H', ⟨by have := HK1.out; have := HK2.out; omega⟩, ⟨by exact rU <| ac.out⟩, ⟨by repeat (first | (with_reducible first | exact HB.out | apply Af | apply Ac | apply Ai) | exact HB.out)⟩⟩
           ·rw [if_neg c32] at H
            have bE : decide (a0 ≤ (wrap64 ((Int.tmod a2 a0) + aa))) = false := decide_eq_false c32
            clear c32
            by_cases c33 : (wrap64 ((wrap64 (Int.tdiv a2 a0)) + ab)) < 0
            ·rw [if_pos c33] at H
             have bF : decide ((wrap64 ((wrap64 (Int.tdiv a2 a0)) + ab)) < 0) = true := decide_eq_true c33
             clear c33
             have H' := Aa.mk H
             clear H
             go_wp2
             repeat (go_quiet (fail); try go_wp2)
             go_roundg k2
             case measure => have := HK1.out; have := HK2.out; omega
             case rel => exact ⟨(ae), (wrap64 (aa + 1)), (by first | rfl | (simp; done) | (simp [*]; done)), H', ⟨by have := HK1.out; have := HK2.out; omega⟩, ⟨by exact rU <| ac.out⟩, ⟨by repeat (first | (with_reducible first | exact HB.out | apply Af | apply Ac | apply Ai) | exact HB.out)⟩⟩
            ·rw [if_neg c33] at H
             have bF : decide ((wrap64 ((wrap64 (Int.tdiv a2 a0)) + ab)) < 0) = false := decide_eq_false c33
             clear c33
             by_cases c34 : (wrap64 ((wrap64 (Int.tdiv a2 a0)) + ab)) ≥ a1
             ·rw [if_pos c34] at H
              have bG : decide (a1 ≤ (wrap64 ((wrap64 (Int.tdiv a2 a0)) + ab))) = true := decide_eq_true c34
              clear c34
              have H' := Aa.mk H
              clear H
              go_wp2
              repeat (go_quiet (fail); try go_wp2)
              go_roundg k2
              case measure => have := HK1.out; have := HK2.out; omega
              case rel => exact ⟨(ae), (wrap64 (aa + 1)), (by first | rfl | (simp; done) | (simp [*]; done)), H', ⟨by have := HK1.out; have := HK2.out; omega⟩, ⟨by exact rU <| ac.out⟩, ⟨by repeat (first | (with_reducible first | exact HB.out | apply Af | apply Ac | apply Ai) | exact HB.out)⟩⟩
             ·rw [if_neg c34] at H
              have bG : decide (a1 ≤ (wrap64 ((wrap64 (Int.tdiv a2 a0)) + ab))) = false := decide_eq_false c34
              clear c34
              by_cases c35 : ae.length < 17592186044416
              ·rw [if_pos c35] at H
               have LMc35 := Aa.mk c35
               clear c35
               obtain ⟨cg, aJ⟩ : ∃ y_ : List Int, y_ = (ae ++ [wrap64 ((wrap64 ((wrap64 ((wrap64 ((wrap64 (Int.tdiv a2 a0)) + ab)) * a0)) + (Int.tmod a2 a0))) + aa)]) := ⟨_, rfl⟩
               (try rw [Option.bind_some] at H); try rw [← aJ] at H
               have aK := Aa.mk aJ
               clear aJ
               have H' := Aa.mk H
               clear H
               go_wp2_with (first | ((with_reducible refine Ck (b := .append) (xs := #[.tmp 75, .tmp 85]) rfl ?_); at_builtin; refine Kd.Cz (Kd.int .i64) (w0 := w) w.heap.size rfl (.tmp 75) (.tmp 85) 31 3 (.int .i64 0) 8 rfl Try.underlying31 info3 rfl (by decide) (by omega) u11 ae (wrap64 ((wrap64 ((wrap64 ((wrap64 ((wrap64 (Int.tdiv a2 a0)) + ab)) * a0)) + (Int.tmod a2 a0))) + aa)) [.int .i64 (wrap64 ((wrap64 ((wrap64 ((wrap64 ((wrap64 (Int.tdiv a2 a0)) + ab)) * a0)) + (Int.tmod a2 a0))) + aa))] (fun _ => True) (fun _ => False) rfl rfl ?aP (fun _ hk => hk.elim) ?aF ?aO ?aB ?aS ?aL ?_; (case aP => exact rfl); (case aB => exact (lU HB.out)); (case aF => exact (fun _ _ => trivial)); (case aO => exact (by exact rU <| ac.out)); (case aS => exact (An (lU HB.out))); (case aL => have := LMc35.out; omega); intro v111 w36 ho hb hg hat; rw [← aK.out] at ho; have n0_ := Aa.mk (hb); have n1_ := Aa.mk (ho); clear HB; clear ac; have HB := n0_; have aM := n1_; clear n0_ n1_; clear ho hb hg hat))
               repeat (go_quiet (first | ((with_reducible refine Ck (b := .append) (xs := #[.tmp 75, .tmp 85]) rfl ?_); at_builtin; refine Kd.Cz (Kd.int .i64) (w0 := w) w.heap.size rfl (.tmp 75) (.tmp 85) 31 3 (.int .i64 0) 8 rfl Try.underlying31 info3 rfl (by decide) (by omega) u11 ae (wrap64 ((wrap64 ((wrap64 ((wrap64 ((wrap64 (Int.tdiv a2 a0)) + ab)) * a0)) + (Int.tmod a2 a0))) + aa)) [.int .i64 (wrap64 ((wrap64 ((wrap64 ((wrap64 ((wrap64 (Int.tdiv a2 a0)) + ab)) * a0)) + (Int.tmod a2 a0))) + aa))] (fun _ => True) (fun _ => False) rfl rfl ?aP (fun _ hk => hk.elim) ?aF ?aO ?aB ?aS ?aL ?_; (case aP => exact rfl); (case aB => exact (lU HB.out)); (case aF => exact (fun _ _ => trivial)); (case aO => exact (by exact rU <| ac.out)); (case aS => exact (An (lU HB.out))); (case aL => have := LMc35.out; omega); intro v111 w36 ho hb hg hat; rw [← aK.out] at ho; have n0_ := Aa.mk (hb); have n1_ := Aa.mk (ho); clear HB; clear ac; have HB := n0_; have aM := n1_; clear n0_ n1_; clear ho hb hg hat)); try go_wp2_with (first | ((with_reducible refine Ck (b := .append) (xs := #[.tmp 75, .tmp 85]) rfl ?_); at_builtin; refine Kd.Cz (Kd.int .i64) (w0 := w) w.heap.size rfl (.tmp 75) (.tmp 85) 31 3 (.int .i64 0) 8 rfl Try.underlying31 info3 rfl (by decide) (by omega) u11 ae (wrap64 ((wrap64 ((wrap64 ((wrap64 ((wrap64 (Int.tdiv a2 a0)) + ab)) * a0)) + (Int.tmod a2 a0))) + aa)) [.int .i64 (wrap64 ((wrap64 ((wrap64 ((wrap64 ((wrap64 (Int.tdiv a2 a0)) + ab)) * a0)) + (Int.tmod a2 a0))) + aa))] (fun _ => True) (fun _ => False) rfl rfl ?aP (fun _ hk => hk.elim) ?aF ?aO ?aB ?aS ?aL ?_; (case aP => exact rfl); (case aB => exact (lU HB.out)); (case aF => exact (fun _ _ => trivial)); (case aO => exact (by exact rU <| ac.out)); (case aS => exact (An (lU HB.out))); (case aL => have := LMc35.out; omega); intro v111 w36 ho hb hg hat; rw [← aK.out] at ho; have n0_ := Aa.mk (hb); have n1_ := Aa.mk (ho); clear HB; clear ac; have HB := n0_; have aM := n1_; clear n0_ n1_; clear ho hb hg hat)))
               go_roundg k2
               case measure => have := HK1.out; have := HK2.out; omega
               case rel => exact ⟨(cg), (wrap64 (aa + 1)), (by first | rfl | (simp; done) | (simp [*]; done)), H', ⟨by have := HK1.out; have := HK2.out; omega⟩, ⟨by exact rU <| aM.out⟩, ⟨by repeat (first | (with_reducible first | exact HB.out | apply Af | apply Ac | apply Ai) | exact HB.out)⟩⟩
              ·rw [if_neg c35] at H
               exact absurd H (by simp)
       ·rw [if_neg c7] at H
        have b3 : decide (aa ≤ 1) = false := decide_eq_false c7
        clear c7
        have H' := Aa.mk H
        clear H
        go_wp2
        repeat (go_quiet (fail); try go_wp2)
        go_roundg k2
        case measure => have := HK1.out; have := HK2.out; omega
        case rel => exact ⟨(ae), (wrap64 (ab + 1)), (by first | rfl | (simp; done) | (simp [*]; done)), H', ⟨by have := HK1.out; have := HK2.out; omega⟩, ⟨by exact rU <| ac.out⟩, ⟨by repeat (first | (with_reducible first | exact HB.out | apply Af | apply Ac | apply Ai) | exact HB.out)⟩⟩
    ·rw [if_neg c6] at H
     have aV : decide (ab ≤ 1) = false := decide_eq_false c6
     clear c6
     obtain rfl := Option.some.inj H
     go_wp2
     repeat (go_quiet (fail); try go_wp2)
     go_ret
     exact ⟨_, by first | rfl | (simp [Bd, Bc] <;> rfl) | (simp [*, Bd, Bc] <;> rfl), by exact rU <| ac.out, by repeat (first | (with_reducible first | exact HB.out | apply Af | apply Ac | apply Ai) | exact HB.out)⟩

def Cm.f (a0 : Int) (a1 : Int) : Option (Bool) := if a0 ≥ 1 then (if a0 ≤ 1024 then (if a1 ≥ 1 then (if a1 ≤ 1024 then (some (decide ((wrap64 (a0 * a1)) ≤ 65536))) else (some false)) else (some false)) else (some false)) else (some false)
set_option maxHeartbeats 8000000 in
set_option maxRecDepth 100000 in
theorem Cm.calls (a0 : Int) (a1 : Int) (r : Bool) (w : World) (h : Cm.f a0 a1 = some r) :
  Calls Try.prog 90 #[.int .i64 a0, .int .i64 a1] w fun e w' => e = .returned (.bool r) ∧ Drawn0 w w' := by
 have H : (if a0 ≥ 1 then (if a0 ≤ 1024 then (if a1 ≥ 1 then (if a1 ≤ 1024 then (some (decide ((wrap64 (a0 * a1)) ≤ 65536))) else (some false)) else (some false)) else (some false)) else (some false)) = some r := h
 clear h
 by_cases c3 : a0 ≥ 1
 ·rw [if_pos c3] at H
  have ck : decide (1 ≤ a0) = true := decide_eq_true c3
  clear c3
  by_cases c4 : a0 ≤ 1024
  ·rw [if_pos c4] at H
   have aN : decide (a0 ≤ 1024) = true := decide_eq_true c4
   clear c4
   by_cases c5 : a1 ≥ 1
   ·rw [if_pos c5] at H
    have aU : decide (1 ≤ a1) = true := decide_eq_true c5
    clear c5
    by_cases c6 : a1 ≤ 1024
    ·rw [if_pos c6] at H
     have aV : decide (a1 ≤ 1024) = true := decide_eq_true c6
     clear c6
     obtain rfl := Option.some.inj H
     go_enter Try.func90, Try.ntmps90
     go_wp2
     go_ret
     exact ⟨by first | rfl | (simp; done) | (simp [*]; done), by repeat (first | exact Drawn0.refl _ | apply Drawn0.step)⟩
    ·rw [if_neg c6] at H
     have aV : decide (a1 ≤ 1024) = false := decide_eq_false c6
     clear c6
     obtain rfl := Option.some.inj H
     go_enter Try.func90, Try.ntmps90
     go_wp2
     go_ret
     exact ⟨by first | rfl | (simp; done) | (simp [*]; done), by repeat (first | exact Drawn0.refl _ | apply Drawn0.step)⟩
   ·rw [if_neg c5] at H
    have aU : decide (1 ≤ a1) = false := decide_eq_false c5
    clear c5
    obtain rfl := Option.some.inj H
    go_enter Try.func90, Try.ntmps90
    go_wp2
    go_ret
    exact ⟨by first | rfl | (simp; done) | (simp [*]; done), by repeat (first | exact Drawn0.refl _ | apply Drawn0.step)⟩
  ·rw [if_neg c4] at H
   have aN : decide (a0 ≤ 1024) = false := decide_eq_false c4
   clear c4
   obtain rfl := Option.some.inj H
   go_enter Try.func90, Try.ntmps90
   go_wp2
   go_ret
   exact ⟨by first | rfl | (simp; done) | (simp [*]; done), by repeat (first | exact Drawn0.refl _ | apply Drawn0.step)⟩
 ·rw [if_neg c3] at H
  have ck : decide (1 ≤ a0) = false := decide_eq_false c3
  clear c3
  obtain rfl := Option.some.inj H
  go_enter Try.func90, Try.ntmps90
  go_wp2
  go_ret
  exact ⟨by first | rfl | (simp; done) | (simp [*]; done), by repeat (first | exact Drawn0.refl _ | apply Drawn0.step)⟩

def Ch.f (af : Int) (ag : Int) (ai : List Bool) : Option (Int) := (Cm.f af ag).bind fun aQ => (if aQ = true then (if (ai.length : Int) = (wrap64 (af * ag)) then (some 0) else (some 301)) else (some 300))
set_option maxHeartbeats 8000000 in
set_option maxRecDepth 100000 in
theorem Ch.calls (af : Int) (ag : Int) (am : Option Addr) (an : Nat) (ai : List Bool) (r : Int) (w : World) (aq : Kd.C Kd.bool w am ai.length ai) (ar : ai.length ≤ an) (h : Ch.f af ag ai = some r) :
  Calls Try.prog 47 #[.agg #[.int .i64 af, .int .i64 ag, .slice am ai.length an]] w fun e w' => e = .returned (.int .i64 r) ∧ Below w.heap.size w w' := by
 have hu50 := Try.underlying50
 have aw := Aa.mk aq
 have ax := Aa.mk ar
 clear aq ar
 have HB := Aa.mk (Below.refl w.heap.size w)
 have H : ((Cm.f af ag).bind fun aQ => (if aQ = true then (if (ai.length : Int) = (wrap64 (af * ag)) then (some 0) else (some 301)) else (some 300))) = some r := h
 clear h
 replace H := Option.bind_eq_some_iff.mp H
 obtain ⟨aQ, A20, H⟩ := H
 try dsimp only at H
 have A2 := Aa.mk A20
 clear A20
 by_cases c3 : aQ = true
 ·subst c3
  have H1 := H
  rw [if_pos rfl] at H1
  clear H
  have H := H1
  clear H1
  by_cases c4 : (ai.length : Int) = (wrap64 (af * ag))
  ·rw [if_pos c4] at H
   have aN : ((ai.length : Int) == (wrap64 (af * ag))) = true := beq_iff_eq.mpr c4
   have aY : ((ai.length : Int) != (wrap64 (af * ag))) = false := bne_eq_false_iff_eq.mpr c4
   clear c4
   obtain rfl := Option.some.inj H
   go_enter Try.func47, Try.ntmps47
   go_wp2_with (first | ((with_reducible refine Br (N := 1) rfl ?_); refine Bt ?hg (N := 1) ?hd (cs := #[.int .i64 af, .int .i64 ag, .slice am ai.length an]) (t := 50) ?hr ?_; (case hd => rfl); (case hg => rfl); (case hr => first | (go_simp; done) | (go_simp; rfl)); intro al hg w5 hbox hb; have n0_ := Aa.mk (At (lU HB.out) hb); have n1_ := Aa.mk (hbox); have n2_ := Aa.mk ((by rw [hg]; exact (An (lU HB.out)) : w.heap.size ≤ al)); have n3_ := Aa.mk ((by rw [hg]; exact (An (lU HB.out)) : w.heap.size ≤ al)); clear HB; have HB := n0_; have aj := n1_; have aW := n2_; have au := n3_; clear n0_ n1_ n2_ n3_; clear hb hbox hg; have cp : w5.cell? ⟨al, 0, none⟩ = some (.int .i64 af) := (Ad aj.out 0).trans rfl; have cr : w5.cell? ⟨al, 1, none⟩ = some (.int .i64 ag) := (Ad aj.out 1).trans rfl; have ct : w5.cell? ⟨al, 2, none⟩ = some (.slice am ai.length an) := (Ad aj.out 2).trans rfl; have cu := Ah aj.out 0; have cx := Ah aj.out 1; have cy := Ah aj.out 2) | ((with_reducible refine Bo (f := 90) rfl ?_); refine Cd (some 7) rfl rfl Try.func90 (by kernel_rfl) rfl #[.int .i64 af, .int .i64 ag] rfl (by (try simp only [List.map_toArray, List.map_cons, List.map_nil]); first | done | rfl | (simp only [List.length_drop, List.length_take]; rfl)) ?_; (with_reducible refine (Cm.calls af ag true _ A2.out).mono ?_); rintro e w' ⟨rfl, ⟨nd, rfl⟩⟩; refine ⟨_, rfl, ?_⟩))
   go_ret
   exact ⟨by first | rfl | (simp [Bd, Bc] <;> rfl) | (simp [*, Bd, Bc] <;> rfl), by repeat (first | (with_reducible first | exact HB.out | apply Af | apply Ac | apply Ai | refine Ag ?_ au.out) | exact HB.out)⟩
  ·rw [if_neg c4] at H
   have aN : ((ai.length : Int) == (wrap64 (af * ag))) = false := beq_eq_false_iff_ne.mpr c4
   have aY : ((ai.length : Int) != (wrap64 (af * ag))) = true := bne_iff_ne.mpr c4
   obtain rfl := Option.some.inj H
   go_enter Try.func47, Try.ntmps47
   go_wp2_with (first | ((with_reducible refine Br (N := 1) rfl ?_); refine Bt ?hg (N := 1) ?hd (cs := #[.int .i64 af, .int .i64 ag, .slice am ai.length an]) (t := 50) ?hr ?_; (case hd => rfl); (case hg => rfl); (case hr => first | (go_simp; done) | (go_simp; rfl)); intro al hg w7 hbox hb; have n0_ := Aa.mk (At (lU HB.out) hb); have n1_ := Aa.mk (hbox); have n2_ := Aa.mk ((by rw [hg]; exact (An (lU HB.out)) : w.heap.size ≤ al)); have n3_ := Aa.mk ((by rw [hg]; exact (An (lU HB.out)) : w.heap.size ≤ al)); clear HB; have HB := n0_; have aj := n1_; have aW := n2_; have au := n3_; clear n0_ n1_ n2_ n3_; clear hb hbox hg; have aZ : w7.cell? ⟨al, 0, none⟩ = some (.int .i64 af) := (Ad aj.out 0).trans rfl; have ba : w7.cell? ⟨al, 1, none⟩ = some (.int .i64 ag) := (Ad aj.out 1).trans rfl; have bb : w7.cell? ⟨al, 2, none⟩ = some (.slice am ai.length an) := (Ad aj.out 2).trans rfl; have bc := Ah aj.out 0; have bd := Ah aj.out 1; have be := Ah aj.out 2) | ((with_reducible refine Bo (f := 90) rfl ?_); refine Cd (some 7) rfl rfl Try.func90 (by kernel_rfl) rfl #[.int .i64 af, .int .i64 ag] rfl (by (try simp only [List.map_toArray, List.map_cons, List.map_nil]); first | done | rfl | (simp only [List.length_drop, List.length_take]; rfl)) ?_; (with_reducible refine (Cm.calls af ag true _ A2.out).mono ?_); rintro e w' ⟨rfl, ⟨nd, rfl⟩⟩; refine ⟨_, rfl, ?_⟩))
   go_ret
   exact ⟨by first | rfl | (simp [Bd, Bc] <;> rfl) | (simp [*, Bd, Bc] <;> rfl), by repeat (first | (with_reducible first | exact HB.out | apply Af | apply Ac | apply Ai | refine Ag ?_ au.out) | exact HB.out)⟩
 ·replace c3 := Bool.eq_false_iff.mpr c3
  subst c3
  have H1 := H
  rw [if_neg (show ¬ (false = true) by decide)] at H1
  clear H
  have H := H1
  clear H1
  obtain rfl := Option.some.inj H
  go_enter Try.func47, Try.ntmps47
  go_wp2_with (first | ((with_reducible refine Br (N := 1) rfl ?_); refine Bt ?hg (N := 1) ?hd (cs := #[.int .i64 af, .int .i64 ag, .slice am ai.length an]) (t := 50) ?hr ?_; (case hd => rfl); (case hg => rfl); (case hr => first | (go_simp; done) | (go_simp; rfl)); intro al hg w9 hbox hb; have n0_ := Aa.mk (At (lU HB.out) hb); have n1_ := Aa.mk (hbox); have n2_ := Aa.mk ((by rw [hg]; exact (An (lU HB.out)) : w.heap.size ≤ al)); have n3_ := Aa.mk ((by rw [hg]; exact (An (lU HB.out)) : w.heap.size ≤ al)); clear HB; have HB := n0_; have aj := n1_; have aW := n2_; have au := n3_; clear n0_ n1_ n2_ n3_; clear hb hbox hg; have bH : w9.cell? ⟨al, 0, none⟩ = some (.int .i64 af) := (Ad aj.out 0).trans rfl; have bI : w9.cell? ⟨al, 1, none⟩ = some (.int .i64 ag) := (Ad aj.out 1).trans rfl; have bJ : w9.cell? ⟨al, 2, none⟩ = some (.slice am ai.length an) := (Ad aj.out 2).trans rfl; have bK := Ah aj.out 0; have bL := Ah aj.out 1; have bM := Ah aj.out 2) | ((with_reducible refine Bo (f := 90) rfl ?_); refine Cd (some 7) rfl rfl Try.func90 (by kernel_rfl) rfl #[.int .i64 af, .int .i64 ag] rfl (by (try simp only [List.map_toArray, List.map_cons, List.map_nil]); first | done | rfl | (simp only [List.length_drop, List.length_take]; rfl)) ?_; (with_reducible refine (Cm.calls af ag false _ A2.out).mono ?_); rintro e w' ⟨rfl, ⟨nd, rfl⟩⟩; refine ⟨_, rfl, ?_⟩))
  go_ret
  exact ⟨by first | rfl | (simp [Bd, Bc] <;> rfl) | (simp [*, Bd, Bc] <;> rfl), by repeat (first | (with_reducible first | exact HB.out | apply Af | apply Ac | apply Ai | refine Ag ?_ au.out) | exact HB.out)⟩

def Cp.f (a0 : Int) : Option (Bool) := if a0 = 4 then (some true) else (some (a0 == 8))
set_option maxHeartbeats 8000000 in
set_option maxRecDepth 100000 in
theorem Cp.calls (a0 : Int) (r : Bool) (w : World) (h : Cp.f a0 = some r) :
  Calls Try.prog 63 #[.int .i64 a0] w fun e w' => e = .returned (.bool r) ∧ Drawn0 w w' := by
 have H : (if a0 = 4 then (some true) else (some (a0 == 8))) = some r := h
 clear h
 by_cases c2 : a0 = 4
 ·rw [if_pos c2] at H
  have cz : (a0 == 4) = true := beq_iff_eq.mpr c2
  have cA : (a0 != 4) = false := bne_eq_false_iff_eq.mpr c2
  clear c2
  obtain rfl := Option.some.inj H
  go_enter Try.func63, Try.ntmps63
  go_wp2
  go_ret
  exact ⟨by first | rfl | (simp; done) | (simp [*]; done), by repeat (first | exact Drawn0.refl _ | apply Drawn0.step)⟩
 ·rw [if_neg c2] at H
  have cz : (a0 == 4) = false := beq_eq_false_iff_ne.mpr c2
  have cA : (a0 != 4) = true := bne_iff_ne.mpr c2
  obtain rfl := Option.some.inj H
  go_enter Try.func63, Try.ntmps63
  go_wp2
  go_ret
  exact ⟨by first | rfl | (simp; done) | (simp [*]; done), by repeat (first | exact Drawn0.refl _ | apply Drawn0.step)⟩

def Ci.f (af : Int) (ag : Int) (ai : List Bool) (a1 : Int) : Option (Int) := (Ch.f af ag ai).bind fun ao => (if ao = 0 then ((Cp.f a1).bind fun aT => (if aT = true then (some ao) else (some 302))) else (some ao))
set_option maxHeartbeats 8000000 in
set_option maxRecDepth 100000 in
theorem Ci.calls (af : Int) (ag : Int) (am : Option Addr) (an : Nat) (ai : List Bool) (a1 : Int) (r : Int) (w : World) (aq : Kd.C Kd.bool w am ai.length ai) (ar : ai.length ≤ an) (h : Ci.f af ag ai a1 = some r) :
  Calls Try.prog 70 #[.agg #[.int .i64 af, .int .i64 ag, .slice am ai.length an], .int .i64 a1] w fun e w' => e = .returned (.int .i64 r) ∧ Below w.heap.size w w' := by
 have hu50 := Try.underlying50
 have aw := Aa.mk aq
 have ax := Aa.mk ar
 clear aq ar
 have HB := Aa.mk (Below.refl w.heap.size w)
 have H : ((Ch.f af ag ai).bind fun ao => (if ao = 0 then ((Cp.f a1).bind fun aT => (if aT = true then (some ao) else (some 302))) else (some ao))) = some r := h
 clear h
 replace H := Option.bind_eq_some_iff.mp H
 obtain ⟨ao, A30, H⟩ := H
 try dsimp only at H
 have A3 := Aa.mk A30
 clear A30
 by_cases c4 : ao = 0
 ·rw [if_pos c4] at H
  have aN : (ao == 0) = true := beq_iff_eq.mpr c4
  have aY : (ao != 0) = false := bne_eq_false_iff_eq.mpr c4
  clear c4
  replace H := Option.bind_eq_some_iff.mp H
  obtain ⟨aT, A50, H⟩ := H
  try dsimp only at H
  have A5 := Aa.mk A50
  clear A50
  by_cases c6 : aT = true
  ·subst c6
   have H1 := H
   rw [if_pos rfl] at H1
   clear H
   have H := H1
   clear H1
   obtain rfl := Option.some.inj H
   go_enter Try.func70, Try.ntmps70
   go_wp2_with (first | ((with_reducible refine Br (N := 2) rfl ?_); refine Bt ?hg (N := 2) ?hd (cs := #[.int .i64 af, .int .i64 ag, .slice am ai.length an]) (t := 50) ?hr ?_; (case hd => rfl); (case hg => rfl); (case hr => first | (go_simp; done) | (go_simp; rfl)); intro ak hg w7 hbox hb; have n0_ := Aa.mk (At (lU HB.out) hb); have n1_ := Aa.mk (hbox); have n2_ := Aa.mk ((by rw [hg]; exact (An (lU HB.out)) : w.heap.size ≤ ak)); have n3_ := Aa.mk ((by rw [hg]; exact (An (lU HB.out)) : w.heap.size ≤ ak)); clear HB; have HB := n0_; have ah := n1_; have aX := n2_; have ap := n3_; clear n0_ n1_ n2_ n3_; clear hb hbox hg; have aZ : w7.cell? ⟨ak, 0, none⟩ = some (.int .i64 af) := (Ad ah.out 0).trans rfl; have ba : w7.cell? ⟨ak, 1, none⟩ = some (.int .i64 ag) := (Ad ah.out 1).trans rfl; have bb : w7.cell? ⟨ak, 2, none⟩ = some (.slice am ai.length an) := (Ad ah.out 2).trans rfl; have bc := Ah ah.out 0; have bd := Ah ah.out 1; have be := Ah ah.out 2) | ((with_reducible refine Bo (f := 47) rfl ?_); refine Cd (some 7) rfl rfl Try.func47 (by kernel_rfl) rfl #[.agg #[.int .i64 af, .int .i64 ag, .slice am ai.length an]] rfl (by (try simp only [List.map_toArray, List.map_cons, List.map_nil]); first | done | rfl | (simp only [List.length_drop, List.length_take]; rfl)) ?_; (with_reducible refine (Ch.calls af ag _ _ ai ao _ ?side1 ?side2 A3.out).mono ?_); (case side1 => repeat (first | exact (Kd.B8 aw.out HB.out) | (with_reducible refine Kd.Bu ?_ _) | (with_reducible refine Kd.B4 ?_ _) | (with_reducible refine Kd.Cb ?_))); (case side2 => exact ax.out); rintro e w9 ⟨rfl, hb⟩; refine ⟨_, rfl, ?_⟩; have n0_ := Aa.mk (Ap (g := ak) (o := .cells #[.int .i64 af, .int .i64 ag, .slice am ai.length an] 50 (0, 0)) (by exact bU <| ah.out) hb); have n1_ := Aa.mk (At (by repeat (first | (with_reducible first | exact HB.out | apply Af | apply Ac | apply Ai | refine Ag ?_ ap.out) | exact HB.out)) hb); clear ah; clear HB; have ah := n0_; have HB := n1_; clear n0_ n1_; (try clear hb); (try clear hb2); (try clear hk); (try clear hi)) | (go_at_call 63; (with_reducible refine (Cp.calls a1 true _ A5.out).mono ?_); rintro e w' ⟨rfl, ⟨nd, rfl⟩⟩))
   go_ret
   exact ⟨by first | rfl | (simp [Bd, Bc] <;> rfl) | (simp [*, Bd, Bc] <;> rfl), by repeat (first | (with_reducible first | exact HB.out | apply Af | apply Ac | apply Ai | refine Ag ?_ ap.out) | exact HB.out)⟩
  ·replace c6 := Bool.eq_false_iff.mpr c6
   subst c6
   have H1 := H
   rw [if_neg (show ¬ (false = true) by decide)] at H1
   clear H
   have H := H1
   clear H1
   obtain rfl := Option.some.inj H
   go_enter Try.func70, Try.ntmps70
   go_wp2_with (first | ((with_reducible refine Br (N := 2) rfl ?_); refine Bt ?hg (N := 2) ?hd (cs := #[.int .i64 af, .int .i64 ag, .slice am ai.length an]) (t := 50) ?hr ?_; (case hd => rfl); (case hg => rfl); (case hr => first | (go_simp; done) | (go_simp; rfl)); intro ak hg w10 hbox hb; have n0_ := Aa.mk (At (lU HB.out) hb); have n1_ := Aa.mk (hbox); have n2_ := Aa.mk ((by rw [hg]; exact (An (lU HB.out)) : w.heap.size ≤ ak)); have n3_ := Aa.mk ((by rw [hg]; exact (An (lU HB.out)) : w.heap.size ≤ ak)); clear HB; have HB := n0_; have ah := n1_; have aX := n2_; have ap := n3_; clear n0_ n1_ n2_ n3_; clear hb hbox hg; have bN : w10.cell? ⟨ak, 0, none⟩ = some (.int .i64 af) := (Ad ah.out 0).trans rfl; have bO : w10.cell? ⟨ak, 1, none⟩ = some (.int .i64 ag) := (Ad ah.out 1).trans rfl; have bP : w10.cell? ⟨ak, 2, none⟩ = some (.slice am ai.length an) := (Ad ah.out 2).trans rfl; have bQ := Ah ah.out 0; have bR := Ah ah.out 1; have bS := Ah ah.out 2) | ((with_reducible refine Bo (f := 47) rfl ?_); refine Cd (some 7) rfl rfl Try.func47 (by kernel_rfl) rfl #[.agg #[.int .i64 af, .int .i64 ag, .slice am ai.length an]] rfl (by (try simp only [List.map_toArray, List.map_cons, List.map_nil]); first | done | rfl | (simp only [List.length_drop, List.length_take]; rfl)) ?_; (with_reducible refine (Ch.calls af ag _ _ ai ao _ ?side1 ?side2 A3.out).mono ?_); (case side1 => repeat (first | exact (Kd.B8 aw.out HB.out) | (with_reducible refine Kd.Bu ?_ _) | (with_reducible refine Kd.B4 ?_ _) | (with_reducible refine Kd.Cb ?_))); (case side2 => exact ax.out); rintro e w12 ⟨rfl, hb⟩; refine ⟨_, rfl, ?_⟩; have n0_ := Aa.mk (Ap (g := ak) (o := .cells #[.int .i64 af, .int .i64 ag, .slice am ai.length an] 50 (0, 0)) (by exact bU <| ah.out) hb); have n1_ := Aa.mk (At (by repeat (first | (with_reducible first | exact HB.out | apply Af | apply Ac | apply Ai | refine Ag ?_ ap.out) | exact HB.out)) hb); clear ah; clear HB; have ah := n0_; have HB := n1_; clear n0_ n1_; (try clear hb); (try clear hb2); (try clear hk); (try clear hi)) | (go_at_call 63; (with_reducible refine (Cp.calls a1 false _ A5.out).mono ?_); rintro e w' ⟨rfl, ⟨nd, rfl⟩⟩))
   go_ret
   exact ⟨by first | rfl | (simp [Bd, Bc] <;> rfl) | (simp [*, Bd, Bc] <;> rfl), by repeat (first | (with_reducible first | exact HB.out | apply Af | apply Ac | apply Ai | refine Ag ?_ ap.out) | exact HB.out)⟩
 ·rw [if_neg c4] at H
  have aN : (ao == 0) = false := beq_eq_false_iff_ne.mpr c4
  have aY : (ao != 0) = true := bne_iff_ne.mpr c4
  obtain rfl := Option.some.inj H
  go_enter Try.func70, Try.ntmps70
  go_wp2_with (first | ((with_reducible refine Br (N := 2) rfl ?_); refine Bt ?hg (N := 2) ?hd (cs := #[.int .i64 af, .int .i64 ag, .slice am ai.length an]) (t := 50) ?hr ?_; (case hd => rfl); (case hg => rfl); (case hr => first | (go_simp; done) | (go_simp; rfl)); intro ak hg w13 hbox hb; have n0_ := Aa.mk (At (lU HB.out) hb); have n1_ := Aa.mk (hbox); have n2_ := Aa.mk ((by rw [hg]; exact (An (lU HB.out)) : w.heap.size ≤ ak)); have n3_ := Aa.mk ((by rw [hg]; exact (An (lU HB.out)) : w.heap.size ≤ ak)); clear HB; have HB := n0_; have ah := n1_; have aX := n2_; have ap := n3_; clear n0_ n1_ n2_ n3_; clear hb hbox hg; have bT : w13.cell? ⟨ak, 0, none⟩ = some (.int .i64 af) := (Ad ah.out 0).trans rfl; have bV : w13.cell? ⟨ak, 1, none⟩ = some (.int .i64 ag) := (Ad ah.out 1).trans rfl; have bW : w13.cell? ⟨ak, 2, none⟩ = some (.slice am ai.length an) := (Ad ah.out 2).trans rfl; have bX := Ah ah.out 0; have bY := Ah ah.out 1; have bZ := Ah ah.out 2) | ((with_reducible refine Bo (f := 47) rfl ?_); refine Cd (some 7) rfl rfl Try.func47 (by kernel_rfl) rfl #[.agg #[.int .i64 af, .int .i64 ag, .slice am ai.length an]] rfl (by (try simp only [List.map_toArray, List.map_cons, List.map_nil]); first | done | rfl | (simp only [List.length_drop, List.length_take]; rfl)) ?_; (with_reducible refine (Ch.calls af ag _ _ ai ao _ ?side1 ?side2 A3.out).mono ?_); (case side1 => repeat (first | exact (Kd.B8 aw.out HB.out) | (with_reducible refine Kd.Bu ?_ _) | (with_reducible refine Kd.B4 ?_ _) | (with_reducible refine Kd.Cb ?_))); (case side2 => exact ax.out); rintro e w15 ⟨rfl, hb⟩; refine ⟨_, rfl, ?_⟩; have n0_ := Aa.mk (Ap (g := ak) (o := .cells #[.int .i64 af, .int .i64 ag, .slice am ai.length an] 50 (0, 0)) (by exact bU <| ah.out) hb); have n1_ := Aa.mk (At (by repeat (first | (with_reducible first | exact HB.out | apply Af | apply Ac | apply Ai | refine Ag ?_ ap.out) | exact HB.out)) hb); clear ah; clear HB; have ah := n0_; have HB := n1_; clear n0_ n1_; (try clear hb); (try clear hb2); (try clear hk); (try clear hi)))
  go_ret
  exact ⟨by first | rfl | (simp [Bd, Bc] <;> rfl) | (simp [*, Bd, Bc] <;> rfl), by repeat (first | (with_reducible first | exact HB.out | apply Af | apply Ac | apply Ai | refine Ag ?_ ap.out) | exact HB.out)⟩

end Go.Proofs.Yteamphcehoaleaa.PFP

