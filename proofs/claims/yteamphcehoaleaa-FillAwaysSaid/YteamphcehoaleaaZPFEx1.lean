import Derived.Test.YteamphcehoaleaaZWAt
import Derived.Test.YteamphcehoaleaaZPFEx0
namespace Go.Proofs.Yteamphcehoaleaa.PFE
open Go.Proofs.Yteamphcehoaleaa.PFA
open Go.RowKit Go.Proofs.YteamphcehoaleaaW.PrintWords Go.Proofs.YteamphcehoaleaaW.PrintLast Go.Proofs.YteamphcehoaleaaW.PrintMore
attribute [local go_sem] max2_int min2_int max_two min_two max_three min_three max_four min_four
set_option linter.unusedVariables false
set_option linter.unusedSimpArgs false

mutual
def At.l0 : Nat → Int → Int → Int → Int → Int → List Int → Int → Option (List Int)
 | 0, _, _, _, _, _, _, _ => none
 | k + 1, x0, x1, x3, x9, x10, x11, x12 => if x12 ≤ 1 then (At.l1 k x0 x1 x3 x9 x10 x11 x12 (-1)) else (some x11)
def At.l1 : Nat → Int → Int → Int → Int → Int → List Int → Int → Int → Option (List Int)
 | 0, _, _, _, _, _, _, _, _ => none
 | k + 1, x0, x1, x3, x9, x10, x11, x12, x13 => if x13 ≤ 1 then (if x13 = 0 then (if x12 = 0 then (At.l1 k x0 x1 x3 x9 x10 x11 x12 (wrap64 (x13 + 1))) else (if x3 = 4 then (if (wrap64 (x9 + x13)) < 0 then (At.l1 k x0 x1 x3 x9 x10 x11 x12 (wrap64 (x13 + 1))) else (if (wrap64 (x9 + x13)) ≥ x0 then (At.l1 k x0 x1 x3 x9 x10 x11 x12 (wrap64 (x13 + 1))) else (if (wrap64 (x10 + x12)) < 0 then (At.l1 k x0 x1 x3 x9 x10 x11 x12 (wrap64 (x13 + 1))) else (if (wrap64 (x10 + x12)) ≥ x1 then (At.l1 k x0 x1 x3 x9 x10 x11 x12 (wrap64 (x13 + 1))) else (if x11.length < 17592186044416 then (At.l1 k x0 x1 x3 x9 x10 (x11 ++ [wrap64 ((wrap64 ((wrap64 ((wrap64 (x10 + x12)) * x0)) + x9)) + x13)]) x12 (wrap64 (x13 + 1))) else (none)))))) else (if (wrap64 (x9 + x13)) < 0 then (At.l1 k x0 x1 x3 x9 x10 x11 x12 (wrap64 (x13 + 1))) else (if (wrap64 (x9 + x13)) ≥ x0 then (At.l1 k x0 x1 x3 x9 x10 x11 x12 (wrap64 (x13 + 1))) else (if (wrap64 (x10 + x12)) < 0 then (At.l1 k x0 x1 x3 x9 x10 x11 x12 (wrap64 (x13 + 1))) else (if (wrap64 (x10 + x12)) ≥ x1 then (At.l1 k x0 x1 x3 x9 x10 x11 x12 (wrap64 (x13 + 1))) else (if x11.length < 17592186044416 then (At.l1 k x0 x1 x3 x9 x10 (x11 ++ [wrap64 ((wrap64 ((wrap64 ((wrap64 (x10 + x12)) * x0)) + x9)) + x13)]) x12 (wrap64 (x13 + 1))) else (none)))))))) else (if x3 = 4 then (if x12 = 0 then (if (wrap64 (x9 + x13)) < 0 then (At.l1 k x0 x1 x3 x9 x10 x11 x12 (wrap64 (x13 + 1))) else (if (wrap64 (x9 + x13)) ≥ x0 then (At.l1 k x0 x1 x3 x9 x10 x11 x12 (wrap64 (x13 + 1))) else (if (wrap64 (x10 + x12)) < 0 then (At.l1 k x0 x1 x3 x9 x10 x11 x12 (wrap64 (x13 + 1))) else (if (wrap64 (x10 + x12)) ≥ x1 then (At.l1 k x0 x1 x3 x9 x10 x11 x12 (wrap64 (x13 + 1))) else (if x11.length < 17592186044416 then (At.l1 k x0 x1 x3 x9 x10 (x11 ++ [wrap64 ((wrap64 ((wrap64 ((wrap64 (x10 + x12)) * x0)) + x9)) + x13)]) x12 (wrap64 (x13 + 1))) else (none)))))) else (At.l1 k x0 x1 x3 x9 x10 x11 x12 (wrap64 (x13 + 1)))) else (if (wrap64 (x9 + x13)) < 0 then (At.l1 k x0 x1 x3 x9 x10 x11 x12 (wrap64 (x13 + 1))) else (if (wrap64 (x9 + x13)) ≥ x0 then (At.l1 k x0 x1 x3 x9 x10 x11 x12 (wrap64 (x13 + 1))) else (if (wrap64 (x10 + x12)) < 0 then (At.l1 k x0 x1 x3 x9 x10 x11 x12 (wrap64 (x13 + 1))) else (if (wrap64 (x10 + x12)) ≥ x1 then (At.l1 k x0 x1 x3 x9 x10 x11 x12 (wrap64 (x13 + 1))) else (if x11.length < 17592186044416 then (At.l1 k x0 x1 x3 x9 x10 (x11 ++ [wrap64 ((wrap64 ((wrap64 ((wrap64 (x10 + x12)) * x0)) + x9)) + x13)]) x12 (wrap64 (x13 + 1))) else (none)))))))) else (At.l0 k x0 x1 x3 x9 x10 x11 (wrap64 (x12 + 1)))
end
def At.f (k : Nat) (a0 : Int) (a1 : Int) (a2 : Int) (a3 : Int) : Option (List Int) := if a0 = 0 then (none) else (At.l0 k a0 a1 a3 (Int.tmod a2 a0) (wrap64 (Int.tdiv a2 a0)) ([] : List Int) (-1))
set_option maxHeartbeats 8000000 in
set_option maxRecDepth 100000 in
theorem At.calls (k : Nat) (a0 : Int) (a1 : Int) (a2 : Int) (a3 : Int) (r : List Int) (w : World) (h : At.f k a0 a1 a2 a3 = some r) :
  Calls Try.prog 35 #[.int .i64 a0, .int .i64 a1, .int .i64 a2, .int .i64 a3] w fun e w' => ∃ v0_ : Value, e = .returned (v0_) ∧ Kd.R (Kd.int .i64) 3 w' w.heap.size (fun _ => True) v0_ r ∧ Below w.heap.size w w' := by
 have HB := Aa.mk (Below.refl w.heap.size w)
 have H : (if a0 = 0 then (none) else (At.l0 k a0 a1 a3 (Int.tmod a2 a0) (wrap64 (Int.tdiv a2 a0)) ([] : List Int) (-1))) = some r := h
 clear h
 by_cases c5 : a0 = 0
 ·rw [if_pos c5] at H
  exact absurd H (by simp)
 ·rw [if_neg c5] at H
  have ak : (a0 == 0) = false := beq_eq_false_iff_ne.mpr c5
  have al : (a0 != 0) = true := bne_iff_ne.mpr c5
  have H' := Aa.mk H
  clear H
  go_enter Try.func35, Try.ntmps35
  go_wp2
  repeat (go_quiet (fail); try go_wp2)
  go_loopg [11, 12] k (fun kq v11 v12 w' => ∃ (af : List Int) (ab : Int), v12 = .int .i64 ab ∧ Aa (At.l0 kq a0 a1 a3 (Int.tmod a2 a0) (wrap64 (Int.tdiv a2 a0)) af ab = some r) ∧ Aa (kq ≤ k) ∧ Aa (Kd.R (Kd.int .i64) 3 w' w.heap.size (fun _ => True) v11 af) ∧ Aa (Below w.heap.size w w'))
  case atStart => exact ⟨(([] : List Int)), ((-1)), (by first | rfl | (simp; done) | (simp [*]; done)), H', ⟨Nat.le_refl _⟩, ⟨by first | exact Kd.C8 _ _ _ _ _ | exact Kd.N_nil _ _ _ _ _ | exact Kd.V_nil _ _ _ _ _ | exact Kd.Q_nil _ _ _ _ _ | exact Kd.S_nil _ _ _ _ _⟩, ⟨by repeat (first | (with_reducible first | exact HB.out | apply Ae | apply Ac | apply Ah) | exact HB.out)⟩⟩
  case round =>
   clear H'
   try clear p2
   try clear c3
   try clear c5
   try clear ak
   try clear al
   obtain ⟨af, ab, rfl, HA, HK1, ae, HB⟩ := hrel
   cases gk with
   | zero => exact absurd HA.out (by simp [At.l0])
   | succ k1 =>
    have H := HA.out
    clear HA
    simp only [At.l0] at H
    by_cases c6 : ab ≤ 1
    ·rw [if_pos c6] at H
     have am : decide (ab ≤ 1) = true := decide_eq_true c6
     clear c6
     have H' := Aa.mk H
     clear H
     go_wp2
     repeat (go_quiet (fail); try go_wp2)
     go_loopg [11, 13] k1 (fun kq v11 v13 w' => ∃ (ac : List Int) (aa : Int), v13 = .int .i64 aa ∧ Aa (At.l1 kq a0 a1 a3 (Int.tmod a2 a0) (wrap64 (Int.tdiv a2 a0)) ac ab aa = some r) ∧ Aa (kq ≤ k1) ∧ Aa (Kd.R (Kd.int .i64) 3 w' w.heap.size (fun _ => True) v11 ac) ∧ Aa (Below w.heap.size w w'))
     case atStart => exact ⟨(af), ((-1)), (by first | rfl | (simp; done) | (simp [*]; done)), H', ⟨Nat.le_refl _⟩, ⟨by exact rU <| ae.out⟩, ⟨by repeat (first | (with_reducible first | exact HB.out | apply Ae | apply Ac | apply Ah) | exact HB.out)⟩⟩
     case round =>
      clear H'
      try clear p2
      try clear c3
      try clear c5
      try clear ak
      try clear al
      try clear c6
      try clear am
      try clear p6
      try clear p2
      obtain ⟨ac, aa, rfl, HA, HK2, ae, HB⟩ := hrel
      cases gk with
      | zero => exact absurd HA.out (by simp [At.l1])
      | succ k2 =>
       have H := HA.out
       clear HA
       simp only [At.l1] at H
       by_cases c7 : aa ≤ 1
       ·rw [if_pos c7] at H
        have ba : decide (aa ≤ 1) = true := decide_eq_true c7
        clear c7
        by_cases c8 : aa = 0
        ·rw [if_pos c8] at H
         have bb : (aa == 0) = true := beq_iff_eq.mpr c8
         have bc : (aa != 0) = false := bne_eq_false_iff_eq.mpr c8
         clear c8
         by_cases c9 : ab = 0
         ·rw [if_pos c9] at H
          have bd : (ab == 0) = true := beq_iff_eq.mpr c9
          have be : (ab != 0) = false := bne_eq_false_iff_eq.mpr c9
          clear c9
          have H' := Aa.mk H
          clear H
          go_wp2
          repeat (go_quiet (fail); try go_wp2)
          go_roundg k2
          case measure => have := HK1.out; have := HK2.out; omega
          case rel => exact ⟨(ac), (wrap64 (aa + 1)), (by first | rfl | (simp; done) | (simp [*]; done)), H', ⟨by have := HK1.out; have := HK2.out; omega⟩, ⟨by exact rU <| ae.out⟩, ⟨by repeat (first | (with_reducible first | exact HB.out | apply Ae | apply Ac | apply Ah) | exact HB.out)⟩⟩
         ·rw [if_neg c9] at H
          have bd : (ab == 0) = false := beq_eq_false_iff_ne.mpr c9
          have be : (ab != 0) = true := bne_iff_ne.mpr c9
          by_cases c10 : a3 = 4
          ·rw [if_pos c10] at H
           have an : (a3 == 4) = true := beq_iff_eq.mpr c10
           have ao : (a3 != 4) = false := bne_eq_false_iff_eq.mpr c10
           clear c10
           by_cases c11 : (wrap64 ((Int.tmod a2 a0) + aa)) < 0
           ·rw [if_pos c11] at H
            have ap : decide ((wrap64 ((Int.tmod a2 a0) + aa)) < 0) = true := decide_eq_true c11
            clear c11
            have H' := Aa.mk H
            clear H
            go_wp2
            repeat (go_quiet (fail); try go_wp2)
            go_roundg k2
            case measure => have := HK1.out; have := HK2.out; omega
            case rel => exact ⟨(ac), (wrap64 (aa + 1)), (by first | rfl | (simp; done) | (simp [*]; done)), H', ⟨by have := HK1.out; have := HK2.out; omega⟩, ⟨by exact rU <| ae.out⟩, ⟨by repeat (first | (with_reducible first | exact HB.out | apply Ae | apply Ac | apply Ah) | exact HB.out)⟩⟩
           ·rw [if_neg c11] at H
            have ap : decide ((wrap64 ((Int.tmod a2 a0) + aa)) < 0) = false := decide_eq_false c11
            clear c11
            by_cases c12 : (wrap64 ((Int.tmod a2 a0) + aa)) ≥ a0
            ·rw [if_pos c12] at H
             have aq : decide (a0 ≤ (wrap64 ((Int.tmod a2 a0) + aa))) = true := decide_eq_true c12
             clear c12
             have H' := Aa.mk H
             clear H
             go_wp2
             repeat (go_quiet (fail); try go_wp2)
             go_roundg k2
             case measure => have := HK1.out; have := HK2.out; omega
             case rel => exact ⟨(ac), (wrap64 (aa + 1)), (by first | rfl | (simp; done) | (simp [*]; done)), H', ⟨by have := HK1.out; have := HK2.out; omega⟩, ⟨by exact rU <| ae.out⟩, ⟨by repeat (first | (with_reducible first | exact HB.out | apply Ae | apply Ac | apply Ah) | exact HB.out)⟩⟩
            ·rw [if_neg c12] at H
             have aq : decide (a0 ≤ (wrap64 ((Int.tmod a2 a0) + aa))) = false := decide_eq_false c12
             clear c12
             by_cases c13 : (wrap64 ((wrap64 (Int.tdiv a2 a0)) + ab)) < 0
             ·rw [if_pos c13] at H
              have ar : decide ((wrap64 ((wrap64 (Int.tdiv a2 a0)) + ab)) < 0) = true := decide_eq_true c13
              clear c13
              have H' := Aa.mk H
              clear H
              go_wp2
              repeat (go_quiet (fail); try go_wp2)
              go_roundg k2
              case measure => have := HK1.out; have := HK2.out; omega
              case rel => exact ⟨(ac), (wrap64 (aa + 1)), (by first | rfl | (simp; done) | (simp [*]; done)), H', ⟨by have := HK1.out; have := HK2.out; omega⟩, ⟨by exact rU <| ae.out⟩, ⟨by repeat (first | (with_reducible first | exact HB.out | apply Ae | apply Ac | apply Ah) | exact HB.out)⟩⟩
             ·rw [if_neg c13] at H
              have ar : decide ((wrap64 ((wrap64 (Int.tdiv a2 a0)) + ab)) < 0) = false := decide_eq_false c13
              clear c13
              by_cases c14 : (wrap64 ((wrap64 (Int.tdiv a2 a0)) + ab)) ≥ a1
              ·rw [if_pos c14] at H
               have au : decide (a1 ≤ (wrap64 ((wrap64 (Int.tdiv a2 a0)) + ab))) = true := decide_eq_true c14
               clear c14
               have H' := Aa.mk H
               clear H
               go_wp2
               repeat (go_quiet (fail); try go_wp2)
               go_roundg k2
               case measure => have := HK1.out; have := HK2.out; omega
               case rel => exact ⟨(ac), (wrap64 (aa + 1)), (by first | rfl | (simp; done) | (simp [*]; done)), H', ⟨by have := HK1.out; have := HK2.out; omega⟩, ⟨by exact rU <| ae.out⟩, ⟨by repeat (first | (with_reducible first | exact HB.out | apply Ae | apply Ac | apply Ah) | exact HB.out)⟩⟩
              ·rw [if_neg c14] at H
               have au : decide (a1 ≤ (wrap64 ((wrap64 (Int.tdiv a2 a0)) + ab))) = false := decide_eq_false c14
               clear c14
               by_cases c15 : ac.length < 17592186044416
               ·rw [if_pos c15] at H
                have LMc15 := Aa.mk c15
                clear c15
                obtain ⟨bf, ag⟩ : ∃ y_ : List Int, y_ = (ac ++ [wrap64 ((wrap64 ((wrap64 ((wrap64 ((wrap64 (Int.tdiv a2 a0)) + ab)) * a0)) + (Int.tmod a2 a0))) + aa)]) := ⟨_, rfl⟩
                (try rw [Option.bind_some] at H); try rw [← ag] at H
                have av := Aa.mk ag
                clear ag
                have H' := Aa.mk H
                clear H
                go_wp2_with (((with_reducible refine Cu (b := .append) (xs := #[.tmp 75, .tmp 85]) rfl ?_); at_builtin; refine Kd.Dk (Kd.int .i64) (w0 := w) w.heap.size rfl (.tmp 75) (.tmp 85) 31 3 (.int .i64 0) 8 rfl Try.underlying31 info3 rfl (by decide) (by omega) u11 ac (wrap64 ((wrap64 ((wrap64 ((wrap64 ((wrap64 (Int.tdiv a2 a0)) + ab)) * a0)) + (Int.tmod a2 a0))) + aa)) [.int .i64 (wrap64 ((wrap64 ((wrap64 ((wrap64 ((wrap64 (Int.tdiv a2 a0)) + ab)) * a0)) + (Int.tmod a2 a0))) + aa))] (fun _ => True) (fun _ => False) rfl rfl ?aP (fun _ hk => hk.elim) ?aF ?aO ?aB ?aS ?aL ?_; (case aP => exact rfl); (case aB => exact (lU HB.out)); (case aF => exact (fun _ _ => trivial)); (case aO => exact (by exact rU <| ae.out)); (case aS => exact (An (lU HB.out))); (case aL => have := LMc15.out; omega); intro v102 w16 ho hb hg hat; rw [← av.out] at ho; have n0_ := Aa.mk (hb); have n1_ := Aa.mk (ho); clear HB; clear ae; have HB := n0_; have aw := n1_; clear n0_ n1_; clear ho hb hg hat))
                repeat (go_quiet (fail); try go_wp2_with (fail))
                go_roundg k2
                case measure => have := HK1.out; have := HK2.out; omega
                case rel => exact ⟨(bf), (wrap64 (aa + 1)), (by first | rfl | (simp; done) | (simp [*]; done)), H', ⟨by have := HK1.out; have := HK2.out; omega⟩, ⟨by exact rU <| aw.out⟩, ⟨by repeat (first | (with_reducible first | exact HB.out | apply Ae | apply Ac | apply Ah) | exact HB.out)⟩⟩
               ·rw [if_neg c15] at H
                exact absurd H (by simp)
          ·rw [if_neg c10] at H
           have an : (a3 == 4) = false := beq_eq_false_iff_ne.mpr c10
           have ao : (a3 != 4) = true := bne_iff_ne.mpr c10
           by_cases c17 : (wrap64 ((Int.tmod a2 a0) + aa)) < 0
           ·rw [if_pos c17] at H
            have ax : decide ((wrap64 ((Int.tmod a2 a0) + aa)) < 0) = true := decide_eq_true c17
            clear c17
            have H' := Aa.mk H
            clear H
            go_wp2
            repeat (go_quiet (fail); try go_wp2)
            go_roundg k2
            case measure => have := HK1.out; have := HK2.out; omega
            case rel => exact ⟨(ac), (wrap64 (aa + 1)), (by first | rfl | (simp; done) | (simp [*]; done)), H', ⟨by have := HK1.out; have := HK2.out; omega⟩, ⟨by exact rU <| ae.out⟩, ⟨by repeat (first | (with_reducible first | exact HB.out | apply Ae | apply Ac | apply Ah) | exact HB.out)⟩⟩
           ·rw [if_neg c17] at H
            have ax : decide ((wrap64 ((Int.tmod a2 a0) + aa)) < 0) = false := decide_eq_false c17
            clear c17
            by_cases c18 : (wrap64 ((Int.tmod a2 a0) + aa)) ≥ a0
            ·rw [if_pos c18] at H
             have ay : decide (a0 ≤ (wrap64 ((Int.tmod a2 a0) + aa))) = true := decide_eq_true c18
             clear c18
             have H' := Aa.mk H
             clear H
             go_wp2
             repeat (go_quiet (fail); try go_wp2)
             go_roundg k2
             case measure => have := HK1.out; have := HK2.out; omega
             case rel => exact ⟨(ac), (wrap64 (aa + 1)), (by first | rfl | (simp; done) | (simp [*]; done)), H', ⟨by have := HK1.out; have := HK2.out; omega⟩, ⟨by exact rU <| ae.out⟩, ⟨by repeat (first | (with_reducible first | exact HB.out | apply Ae | apply Ac | apply Ah) | exact HB.out)⟩⟩
            ·rw [if_neg c18] at H
             have ay : decide (a0 ≤ (wrap64 ((Int.tmod a2 a0) + aa))) = false := decide_eq_false c18
             clear c18
             by_cases c19 : (wrap64 ((wrap64 (Int.tdiv a2 a0)) + ab)) < 0
             ·rw [if_pos c19] at H
              have az : decide ((wrap64 ((wrap64 (Int.tdiv a2 a0)) + ab)) < 0) = true := decide_eq_true c19
              clear c19
              have H' := Aa.mk H
              clear H
              go_wp2
              repeat (go_quiet (fail); try go_wp2)
              go_roundg k2
              case measure => have := HK1.out; have := HK2.out; omega
              case rel => exact ⟨(ac), (wrap64 (aa + 1)), (by first | rfl | (simp; done) | (simp [*]; done)), H', ⟨by have := HK1.out; have := HK2.out; omega⟩, ⟨by exact rU <| ae.out⟩, ⟨by repeat (first | (with_reducible first | exact HB.out | apply Ae | apply Ac | apply Ah) | exact HB.out)⟩⟩
             ·rw [if_neg c19] at H
              have az : decide ((wrap64 ((wrap64 (Int.tdiv a2 a0)) + ab)) < 0) = false := decide_eq_false c19
              clear c19
              by_cases c20 : (wrap64 ((wrap64 (Int.tdiv a2 a0)) + ab)) ≥ a1
              ·rw [if_pos c20] at H
               have aA : decide (a1 ≤ (wrap64 ((wrap64 (Int.tdiv a2 a0)) + ab))) = true := decide_eq_true c20
               clear c20
               have H' := Aa.mk H
               clear H
               go_wp2
               repeat (go_quiet (fail); try go_wp2)
               go_roundg k2
               case measure => have := HK1.out; have := HK2.out; omega
               case rel => exact ⟨(ac), (wrap64 (aa + 1)), (by first | rfl | (simp; done) | (simp [*]; done)), H', ⟨by have := HK1.out; have := HK2.out; omega⟩, ⟨by exact rU <| ae.out⟩, ⟨by repeat (first | (with_reducible first | exact HB.out | apply Ae | apply Ac | apply Ah) | exact HB.out)⟩⟩
              ·rw [if_neg c20] at H
               have aA : decide (a1 ≤ (wrap64 ((wrap64 (Int.tdiv a2 a0)) + ab))) = false := decide_eq_false c20
               clear c20
               by_cases c21 : ac.length < 17592186044416
               ·rw [if_pos c21] at H
                have LMc21 := Aa.mk c21
                clear c21
                obtain ⟨bg, ah⟩ : ∃ y_ : List Int, y_ = (ac ++ [wrap64 ((wrap64 ((wrap64 ((wrap64 ((wrap64 (Int.tdiv a2 a0)) + ab)) * a0)) + (Int.tmod a2 a0))) + aa)]) := ⟨_, rfl⟩
                (try rw [Option.bind_some] at H); try rw [← ah] at H
                have aC := Aa.mk ah
                clear ah
                have H' := Aa.mk H
                clear H
                go_wp2_with (((with_reducible refine Cu (b := .append) (xs := #[.tmp 75, .tmp 85]) rfl ?_); at_builtin; refine Kd.Dk (Kd.int .i64) (w0 := w) w.heap.size rfl (.tmp 75) (.tmp 85) 31 3 (.int .i64 0) 8 rfl Try.underlying31 info3 rfl (by decide) (by omega) u11 ac (wrap64 ((wrap64 ((wrap64 ((wrap64 ((wrap64 (Int.tdiv a2 a0)) + ab)) * a0)) + (Int.tmod a2 a0))) + aa)) [.int .i64 (wrap64 ((wrap64 ((wrap64 ((wrap64 ((wrap64 (Int.tdiv a2 a0)) + ab)) * a0)) + (Int.tmod a2 a0))) + aa))] (fun _ => True) (fun _ => False) rfl rfl ?aP (fun _ hk => hk.elim) ?aF ?aO ?aB ?aS ?aL ?_; (case aP => exact rfl); (case aB => exact (lU HB.out)); (case aF => exact (fun _ _ => trivial)); (case aO => exact (by exact rU <| ae.out)); (case aS => exact (An (lU HB.out))); (case aL => have := LMc21.out; omega); intro v105 w22 ho hb hg hat; rw [← aC.out] at ho; have n0_ := Aa.mk (hb); have n1_ := Aa.mk (ho); clear HB; clear ae; have HB := n0_; have aD := n1_; clear n0_ n1_; clear ho hb hg hat))
                repeat (go_quiet (fail); try go_wp2_with (fail))
                go_roundg k2
                case measure => have := HK1.out; have := HK2.out; omega
                case rel => exact ⟨(bg), (wrap64 (aa + 1)), (by first | rfl | (simp; done) | (simp [*]; done)), H', ⟨by have := HK1.out; have := HK2.out; omega⟩, ⟨by exact rU <| aD.out⟩, ⟨by repeat (first | (with_reducible first | exact HB.out | apply Ae | apply Ac | apply Ah) | exact HB.out)⟩⟩
               ·rw [if_neg c21] at H
                exact absurd H (by simp)
        ·rw [if_neg c8] at H
         have bb : (aa == 0) = false := beq_eq_false_iff_ne.mpr c8
         have bc : (aa != 0) = true := bne_iff_ne.mpr c8
         by_cases c23 : a3 = 4
         ·rw [if_pos c23] at H
          have aE : (a3 == 4) = true := beq_iff_eq.mpr c23
          have aG : (a3 != 4) = false := bne_eq_false_iff_eq.mpr c23
          clear c23
          by_cases c24 : ab = 0
          ·rw [if_pos c24] at H
           have aH : (ab == 0) = true := beq_iff_eq.mpr c24
           have aI : (ab != 0) = false := bne_eq_false_iff_eq.mpr c24
           clear c24
           by_cases c25 : (wrap64 ((Int.tmod a2 a0) + aa)) < 0
           ·rw [if_pos c25] at H
            have aJ : decide ((wrap64 ((Int.tmod a2 a0) + aa)) < 0) = true := decide_eq_true c25
            clear c25
            have H' := Aa.mk H
            clear H
            go_wp2
            repeat (go_quiet (fail); try go_wp2)
            go_roundg k2
            case measure => have := HK1.out; have := HK2.out; omega
            case rel => exact ⟨(ac), (wrap64 (aa + 1)), (by first | rfl | (simp; done) | (simp [*]; done)), H', ⟨by have := HK1.out; have := HK2.out; omega⟩, ⟨by exact rU <| ae.out⟩, ⟨by repeat (first | (with_reducible first | exact HB.out | apply Ae | apply Ac | apply Ah) | exact HB.out)⟩⟩
           ·rw [if_neg c25] at H
            have aJ : decide ((wrap64 ((Int.tmod a2 a0) + aa)) < 0) = false := decide_eq_false c25
            clear c25
            by_cases c26 : (wrap64 ((Int.tmod a2 a0) + aa)) ≥ a0
            ·rw [if_pos c26] at H
             have aK : decide (a0 ≤ (wrap64 ((Int.tmod a2 a0) + aa))) = true := decide_eq_true c26
             clear c26
             have H' := Aa.mk H
             clear H
             go_wp2
             repeat (go_quiet (fail); try go_wp2)
             go_roundg k2
             case measure => have := HK1.out; have := HK2.out; omega
             case rel => exact ⟨(ac), (wrap64 (aa + 1)), (by first | rfl | (simp; done) | (simp [*]; done)), H', ⟨by have := HK1.out; have := HK2.out; omega⟩, ⟨by exact rU <| ae.out⟩, ⟨by repeat (first | (with_reducible first | exact HB.out | apply Ae | apply Ac | apply Ah) | exact HB.out)⟩⟩
            ·rw [if_neg c26] at H
             have aK : decide (a0 ≤ (wrap64 ((Int.tmod a2 a0) + aa))) = false := decide_eq_false c26
             clear c26
             by_cases c27 : (wrap64 ((wrap64 (Int.tdiv a2 a0)) + ab)) < 0
             ·rw [if_pos c27] at H
              have aM : decide ((wrap64 ((wrap64 (Int.tdiv a2 a0)) + ab)) < 0) = true := decide_eq_true c27
              clear c27
              have H' := Aa.mk H
              clear H
              go_wp2
              repeat (go_quiet (fail); try go_wp2)
              go_roundg k2
              case measure => have := HK1.out; have := HK2.out; omega
              case rel => exact ⟨(ac), (wrap64 (aa + 1)), (by first | rfl | (simp; done) | (simp [*]; done)), H', ⟨by have := HK1.out; have := HK2.out; omega⟩, ⟨by exact rU <| ae.out⟩, ⟨by repeat (first | (with_reducible first | exact HB.out | apply Ae | apply Ac | apply Ah) | exact HB.out)⟩⟩
             ·rw [if_neg c27] at H
              have aM : decide ((wrap64 ((wrap64 (Int.tdiv a2 a0)) + ab)) < 0) = false := decide_eq_false c27
              clear c27
              by_cases c28 : (wrap64 ((wrap64 (Int.tdiv a2 a0)) + ab)) ≥ a1
              ·rw [if_pos c28] at H
               have aN : decide (a1 ≤ (wrap64 ((wrap64 (Int.tdiv a2 a0)) + ab))) = true := decide_eq_true c28
               clear c28
               have H' := Aa.mk H
               clear H
               go_wp2
               repeat (go_quiet (fail); try go_wp2)
               go_roundg k2
               case measure => have := HK1.out; have := HK2.out; omega
               case rel => exact ⟨(ac), (wrap64 (aa + 1)), (by first | rfl | (simp; done) | (simp [*]; done)), H', ⟨by have := HK1.out; have := HK2.out; omega⟩, ⟨by exact rU <| ae.out⟩, ⟨by repeat (first | (with_reducible first | exact HB.out | apply Ae | apply Ac | apply Ah) | exact HB.out)⟩⟩
              ·rw [if_neg c28] at H
               have aN : decide (a1 ≤ (wrap64 ((wrap64 (Int.tdiv a2 a0)) + ab))) = false := decide_eq_false c28
               clear c28
               by_cases c29 : ac.length < 17592186044416
               ·rw [if_pos c29] at H
                have LMc29 := Aa.mk c29
                clear c29
                obtain ⟨bh, ai⟩ : ∃ y_ : List Int, y_ = (ac ++ [wrap64 ((wrap64 ((wrap64 ((wrap64 ((wrap64 (Int.tdiv a2 a0)) + ab)) * a0)) + (Int.tmod a2 a0))) + aa)]) := ⟨_, rfl⟩
                (try rw [Option.bind_some] at H); try rw [← ai] at H
                have aQ := Aa.mk ai
                clear ai
                have H' := Aa.mk H
                clear H
                go_wp2_with (((with_reducible refine Cu (b := .append) (xs := #[.tmp 75, .tmp 85]) rfl ?_); at_builtin; refine Kd.Dk (Kd.int .i64) (w0 := w) w.heap.size rfl (.tmp 75) (.tmp 85) 31 3 (.int .i64 0) 8 rfl Try.underlying31 info3 rfl (by decide) (by omega) u11 ac (wrap64 ((wrap64 ((wrap64 ((wrap64 ((wrap64 (Int.tdiv a2 a0)) + ab)) * a0)) + (Int.tmod a2 a0))) + aa)) [.int .i64 (wrap64 ((wrap64 ((wrap64 ((wrap64 ((wrap64 (Int.tdiv a2 a0)) + ab)) * a0)) + (Int.tmod a2 a0))) + aa))] (fun _ => True) (fun _ => False) rfl rfl ?aP (fun _ hk => hk.elim) ?aF ?aO ?aB ?aS ?aL ?_; (case aP => exact rfl); (case aB => exact (lU HB.out)); (case aF => exact (fun _ _ => trivial)); (case aO => exact (by exact rU <| ae.out)); (case aS => exact (An (lU HB.out))); (case aL => have := LMc29.out; omega); intro v108 w30 ho hb hg hat; rw [← aQ.out] at ho; have n0_ := Aa.mk (hb); have n1_ := Aa.mk (ho); clear HB; clear ae; have HB := n0_; have aT := n1_; clear n0_ n1_; clear ho hb hg hat))
                repeat (go_quiet (fail); try go_wp2_with (fail))
                go_roundg k2
                case measure => have := HK1.out; have := HK2.out; omega
                case rel => exact ⟨(bh), (wrap64 (aa + 1)), (by first | rfl | (simp; done) | (simp [*]; done)), H', ⟨by have := HK1.out; have := HK2.out; omega⟩, ⟨by exact rU <| aT.out⟩, ⟨by repeat (first | (with_reducible first | exact HB.out | apply Ae | apply Ac | apply Ah) | exact HB.out)⟩⟩
               ·rw [if_neg c29] at H
                exact absurd H (by simp)
          ·rw [if_neg c24] at H
           have aH : (ab == 0) = false := beq_eq_false_iff_ne.mpr c24
           have aI : (ab != 0) = true := bne_iff_ne.mpr c24
           have H' := Aa.mk H
           clear H
           go_wp2
           repeat (go_quiet (fail); try go_wp2)
           go_roundg k2
           case measure => have := HK1.out; have := HK2.out; omega
           case rel => exact ⟨(ac), (wrap64 (aa + 1)), (by first | rfl | (simp; done) | (simp [*]; done)), H', ⟨by have := HK1.out; have := HK2.out; omega⟩, ⟨by exact rU <| ae.out⟩, ⟨by repeat (first | (with_reducible first | exact HB.out | apply Ae | apply Ac | apply Ah) | exact HB.out)⟩⟩
         ·rw [if_neg c23] at H
          have aE : (a3 == 4) = false := beq_eq_false_iff_ne.mpr c23
          have aG : (a3 != 4) = true := bne_iff_ne.mpr c23
          by_cases c31 : (wrap64 ((Int.tmod a2 a0) + aa)) < 0
          ·rw [if_pos c31] at H
           have aU : decide ((wrap64 ((Int.tmod a2 a0) + aa)) < 0) = true := decide_eq_true c31
           clear c31
           have H' := Aa.mk H
           clear H
           go_wp2
           repeat (go_quiet (fail); try go_wp2)
           go_roundg k2
           case measure => have := HK1.out; have := HK2.out; omega
           case rel => exact ⟨(ac), (wrap64 (aa + 1)), (by first | rfl | (simp; done) | (simp [*]; done)), H', ⟨by have := HK1.out; have := HK2.out; omega⟩, ⟨by exact rU <| ae.out⟩, ⟨by repeat (first | (with_reducible first | exact HB.out | apply Ae | apply Ac | apply Ah) | exact HB.out)⟩⟩
          ·rw [if_neg c31] at H
           have aU : decide ((wrap64 ((Int.tmod a2 a0) + aa)) < 0) = false := decide_eq_false c31
           clear c31
           by_cases c32 : (wrap64 ((Int.tmod a2 a0) + aa)) ≥ a0
           ·rw [if_pos c32] at H
            have aV : decide (a0 ≤ (wrap64 ((Int.tmod a2 a0) + aa))) = true := decide_eq_true c32
            clear c32
            have H' := Aa.mk H
            clear H
            go_wp2
            repeat (go_quiet (fail); try go_wp2)
            go_roundg k2
            case measure => have := HK1.out; have := HK2.out; omega
            case rel => exact ⟨(ac), (wrap64 (aa + 1)), (by first | rfl | (simp; done) | (simp [*]; done)), H', ⟨by have := HK1.out; have := HK2.out; omega⟩, ⟨by exact rU <| ae.out⟩, ⟨by repeat (first | (with_reducible first | exact HB.out | apply Ae | apply Ac | apply Ah) | exact HB.out)⟩⟩
           ·rw [if_neg c32] at H
            have aV : decide (a0 ≤ (wrap64 ((Int.tmod a2 a0) + aa))) = false := decide_eq_false c32
            clear c32
            by_cases c33 : (wrap64 ((wrap64 (Int.tdiv a2 a0)) + ab)) < 0
            ·rw [if_pos c33] at H
             have aW : decide ((wrap64 ((wrap64 (Int.tdiv a2 a0)) + ab)) < 0) = true := decide_eq_true c33
             clear c33
             have H' := Aa.mk H
             clear H
             go_wp2
             repeat (go_quiet (fail); try go_wp2)
             go_roundg k2
             case measure => have := HK1.out; have := HK2.out; omega
             case rel => exact ⟨(ac), (wrap64 (aa + 1)), (by first | rfl | (simp; done) | (simp [*]; done)), H', ⟨by have := HK1.out; have := HK2.out; omega⟩, ⟨by exact rU <| ae.out⟩, ⟨by repeat (first | (with_reducible first | exact HB.out | apply Ae | apply Ac | apply Ah) | exact HB.out)⟩⟩
            ·rw [if_neg c33] at H
             have aW : decide ((wrap64 ((wrap64 (Int.tdiv a2 a0)) + ab)) < 0) = false := decide_eq_false c33
             clear c33
             by_cases c34 : (wrap64 ((wrap64 (Int.tdiv a2 a0)) + ab)) ≥ a1
             ·rw [if_pos c34] at H
              have aX : decide (a1 ≤ (wrap64 ((wrap64 (Int.tdiv a2 a0)) + ab))) = true := decide_eq_true c34
              clear c34
              have H' := Aa.mk H
              clear H
              go_wp2
              repeat (go_quiet (fail); try go_wp2)
              go_roundg k2
              case measure => have := HK1.out; have := HK2.out; omega
              case rel => exact ⟨(ac), (wrap64 (aa + 1)), (by first | rfl | (simp; done) | (simp [*]; done)), H', ⟨by have := HK1.out; have := HK2.out; omega⟩, ⟨by exact rU <| ae.out⟩, ⟨by repeat (first | (with_reducible first | exact HB.out | apply Ae | apply Ac | apply Ah) | exact HB.out)⟩⟩
             ·rw [if_neg c34] at H
              have aX : decide (a1 ≤ (wrap64 ((wrap64 (Int.tdiv a2 a0)) + ab))) = false := decide_eq_false c34
              clear c34
              by_cases c35 : ac.length < 17592186044416
              ·rw [if_pos c35] at H
               have LMc35 := Aa.mk c35
               clear c35
               obtain ⟨bj, aj⟩ : ∃ y_ : List Int, y_ = (ac ++ [wrap64 ((wrap64 ((wrap64 ((wrap64 ((wrap64 (Int.tdiv a2 a0)) + ab)) * a0)) + (Int.tmod a2 a0))) + aa)]) := ⟨_, rfl⟩
               (try rw [Option.bind_some] at H); try rw [← aj] at H
               have aY := Aa.mk aj
               clear aj
               have H' := Aa.mk H
               clear H
               go_wp2_with (((with_reducible refine Cu (b := .append) (xs := #[.tmp 75, .tmp 85]) rfl ?_); at_builtin; refine Kd.Dk (Kd.int .i64) (w0 := w) w.heap.size rfl (.tmp 75) (.tmp 85) 31 3 (.int .i64 0) 8 rfl Try.underlying31 info3 rfl (by decide) (by omega) u11 ac (wrap64 ((wrap64 ((wrap64 ((wrap64 ((wrap64 (Int.tdiv a2 a0)) + ab)) * a0)) + (Int.tmod a2 a0))) + aa)) [.int .i64 (wrap64 ((wrap64 ((wrap64 ((wrap64 ((wrap64 (Int.tdiv a2 a0)) + ab)) * a0)) + (Int.tmod a2 a0))) + aa))] (fun _ => True) (fun _ => False) rfl rfl ?aP (fun _ hk => hk.elim) ?aF ?aO ?aB ?aS ?aL ?_; (case aP => exact rfl); (case aB => exact (lU HB.out)); (case aF => exact (fun _ _ => trivial)); (case aO => exact (by exact rU <| ae.out)); (case aS => exact (An (lU HB.out))); (case aL => have := LMc35.out; omega); intro v111 w36 ho hb hg hat; rw [← aY.out] at ho; have n0_ := Aa.mk (hb); have n1_ := Aa.mk (ho); clear HB; clear ae; have HB := n0_; have aZ := n1_; clear n0_ n1_; clear ho hb hg hat))
               repeat (go_quiet (fail); try go_wp2_with (fail))
               go_roundg k2
               case measure => have := HK1.out; have := HK2.out; omega
               case rel => exact ⟨(bj), (wrap64 (aa + 1)), (by first | rfl | (simp; done) | (simp [*]; done)), H', ⟨by have := HK1.out; have := HK2.out; omega⟩, ⟨by exact rU <| aZ.out⟩, ⟨by repeat (first | (with_reducible first | exact HB.out | apply Ae | apply Ac | apply Ah) | exact HB.out)⟩⟩
              ·rw [if_neg c35] at H
               exact absurd H (by simp)
       ·rw [if_neg c7] at H
        have ba : decide (aa ≤ 1) = false := decide_eq_false c7
        clear c7
        have H' := Aa.mk H
        clear H
        go_wp2
        repeat (go_quiet (fail); try go_wp2)
        go_roundg k2
        case measure => have := HK1.out; have := HK2.out; omega
        case rel => exact ⟨(ac), (wrap64 (ab + 1)), (by first | rfl | (simp; done) | (simp [*]; done)), H', ⟨by have := HK1.out; have := HK2.out; omega⟩, ⟨by exact rU <| ae.out⟩, ⟨by repeat (first | (with_reducible first | exact HB.out | apply Ae | apply Ac | apply Ah) | exact HB.out)⟩⟩
    ·rw [if_neg c6] at H
     have am : decide (ab ≤ 1) = false := decide_eq_false c6
     clear c6
     obtain rfl := Option.some.inj H
     go_wp2
     repeat (go_quiet (fail); try go_wp2)
     go_ret
     exact ⟨_, by first | rfl | (simp [Be, Bd] <;> rfl) | (simp [*, Be, Bd] <;> rfl), by exact rU <| ae.out, by repeat (first | (with_reducible first | exact HB.out | apply Ae | apply Ac | apply Ah) | exact HB.out)⟩

end Go.Proofs.Yteamphcehoaleaa.PFE

