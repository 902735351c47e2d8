import Derived.Test.YteamphcehoaleaaZWAt
import Derived.Test.YteamphcehoaleaaZPFAx0
import Derived.Test.YteamphcehoaleaaZPFAx1
import Derived.Test.YteamphcehoaleaaZPFAx2
import Derived.Test.YteamphcehoaleaaZPFAx4
namespace Go.Proofs.Yteamphcehoaleaa.PFA
open Go.RowKit Go.Proofs.YteamphcehoaleaaW.PrintWords Go.Proofs.YteamphcehoaleaaW.PrintLast Go.Proofs.YteamphcehoaleaaW.PrintMore
attribute [local go_sem] max2_int min2_int max_two min_two max_three min_three max_four min_four   -- for this text's walks alone
set_option linter.unusedVariables false
set_option linter.unusedSimpArgs false

attribute [local go_sem high] eqA101
def Bu.l0 : Nat → Int → List (S101) → List Bool → Int → Int → Option ((List (S101)))
 | 0, _, _, _, _, _ => none
 | k + 1, x1, x5, x20, x21, x22 => if x22 < x21 then (if 0 ≤ x22 then (if x22 < (x20.length : Int) then (if rdOf false x20 x22 = true then (if (x5.length : Int) > 0 then (if 0 ≤ (wrap64 ((x5.length : Int) - 1)) then (if (wrap64 ((x5.length : Int) - 1)) < (x5.length : Int) then (if ((rd_T101 x5 (wrap64 ((x5.length : Int) - 1))).f2) = x22 then (Bu.l0 k x1 (x5.set ((wrap64 ((x5.length : Int) - 1)) : Int).toNat (⟨(rd_T101 x5 (wrap64 ((x5.length : Int) - 1))).f0, (rd_T101 x5 (wrap64 ((x5.length : Int) - 1))).f1, wrap64 (((rd_T101 x5 (wrap64 ((x5.length : Int) - 1))).f2) + 1), (rd_T101 x5 (wrap64 ((x5.length : Int) - 1))).f3⟩ : S101)) x20 x21 (wrap64 (x22 + 1))) else (if x5.length < 4398046511104 then (Bu.l0 k x1 (x5 ++ [(⟨x22, x1, wrap64 (x22 + 1), wrap64 (x1 + 1)⟩ : S101)]) x20 x21 (wrap64 (x22 + 1))) else (none))) else (none)) else (none)) else (if x5.length < 4398046511104 then (Bu.l0 k x1 (x5 ++ [(⟨x22, x1, wrap64 (x22 + 1), wrap64 (x1 + 1)⟩ : S101)]) x20 x21 (wrap64 (x22 + 1))) else (none))) else (Bu.l0 k x1 x5 x20 x21 (wrap64 (x22 + 1)))) else (none)) else (none)) else (some x5)
def Bu.f (k : Nat) (a0_0 : Int) (a0_1 : Int) (l0_2 : List Bool) (a1 : Int) : Option ((List (S101))) := if 0 ≤ (wrap64 (a1 * a0_0)) then (if (wrap64 (a1 * a0_0)) ≤ (wrap64 ((wrap64 (a1 + 1)) * a0_0)) then (if (wrap64 ((wrap64 (a1 + 1)) * a0_0)) ≤ (l0_2.length : Int) then (Bu.l0 k a1 ([] : List (S101)) ((l0_2.take ((wrap64 ((wrap64 (a1 + 1)) * a0_0)) : Int).toNat).drop ((wrap64 (a1 * a0_0)) : Int).toNat) (((l0_2.take ((wrap64 ((wrap64 (a1 + 1)) * a0_0)) : Int).toNat).drop ((wrap64 (a1 * a0_0)) : Int).toNat).length : Int) 0) else (none)) else (none)) else (none)
theorem Bu.mono_l : ∀ k, (∀ y0 y1 y2 y3 y4, LeO (Bu.l0 k y0 y1 y2 y3 y4) (Bu.l0 (k + 1) y0 y1 y2 y3 y4))
 | 0 => fun _ _ _ _ _ r h => by simp [Bu.l0] at h
 | k + 1 => by
  have ih0 := Bu.mono_l k
  ·intro y0 y1 y2 y3 y4
   unfold Bu.l0
   repeat' first
   | (with_reducible exact ih0 _ _ _ _ _)
   | (with_reducible exact LeO.refl _)
   | (with_reducible exact LeO.none _)
   | (with_reducible refine LeO.ite ?_ ?_)
   | (with_reducible refine LeO.bind ?_ (fun _ => ?_))
   | exact ih0 _ _ _ _ _
   | exact LeO.none _
   | refine LeO.ite ?_ ?_
   | refine LeO.bind ?_ (fun _ => ?_)
theorem Bu.mono : ∀ a0 a1 a2 a3 k, LeO (Bu.f k a0 a1 a2 a3) (Bu.f (k + 1) a0 a1 a2 a3) := by
 intro a0 a1 a2 a3 k
 have ih0 := Bu.mono_l k
 unfold Bu.f
 repeat' first
   | (with_reducible exact ih0 _ _ _ _ _)
   | (with_reducible exact LeO.refl _)
   | (with_reducible exact LeO.none _)
   | (with_reducible refine LeO.ite ?_ ?_)
   | (with_reducible refine LeO.bind ?_ (fun _ => ?_))
   | exact ih0 _ _ _ _ _
   | exact LeO.none _
   | refine LeO.ite ?_ ?_
   | refine LeO.bind ?_ (fun _ => ?_)
set_option maxHeartbeats 8000000 in
set_option maxRecDepth 100000 in
theorem Bu.calls (k : Nat) (a0_0 : Int) (a0_1 : Int) (A0_2 : Option Addr) (c0_2 : Nat) (l0_2 : List Bool) (a1 : Int) (r : List (S101)) (w : World) (hr0_2 : Kd.C Kd.bool w A0_2 l0_2.length l0_2) (hc0_2 : l0_2.length ≤ c0_2) (h : Bu.f k a0_0 a0_1 l0_2 a1 = some r) :
  Calls Try.prog 96 #[.agg #[.int .i64 a0_0, .int .i64 a0_1, .slice A0_2 l0_2.length c0_2], .int .i64 a1] w fun e w' => ∃ v0_ : Value, e = .returned (v0_) ∧ Kd.R k101 101 w' w.heap.size (fun _ => True) v0_ r ∧ Below w.heap.size w w' := by
 have hu50 := Try.underlying50
 have hu101 := Try.underlying101
 have HR0_2 := Aa.mk hr0_2
 have HC0_2 := Aa.mk hc0_2
 clear hr0_2 hc0_2
 have HB := Aa.mk (Below.refl w.heap.size w)
 have H : (if 0 ≤ (wrap64 (a1 * a0_0)) then (if (wrap64 (a1 * a0_0)) ≤ (wrap64 ((wrap64 (a1 + 1)) * a0_0)) then (if (wrap64 ((wrap64 (a1 + 1)) * a0_0)) ≤ (l0_2.length : Int) then (Bu.l0 k a1 ([] : List (S101)) ((l0_2.take ((wrap64 ((wrap64 (a1 + 1)) * a0_0)) : Int).toNat).drop ((wrap64 (a1 * a0_0)) : Int).toNat) (((l0_2.take ((wrap64 ((wrap64 (a1 + 1)) * a0_0)) : Int).toNat).drop ((wrap64 (a1 * a0_0)) : Int).toNat).length : Int) 0) else (none)) else (none)) else (none)) = some r := h
 clear h
 obtain ⟨ji3, hji3⟩ : ∃ j_ : Int, (wrap64 (a1 * a0_0)) = j_ := ⟨_, rfl⟩
 replace H : (if 0 ≤ (ji3) then (if (ji3) ≤ (wrap64 ((wrap64 (a1 + 1)) * a0_0)) then (if (wrap64 ((wrap64 (a1 + 1)) * a0_0)) ≤ (l0_2.length : Int) then (Bu.l0 k a1 ([] : List (S101)) ((l0_2.take ((wrap64 ((wrap64 (a1 + 1)) * a0_0)) : Int).toNat).drop ((ji3) : Int).toNat) (((l0_2.take ((wrap64 ((wrap64 (a1 + 1)) * a0_0)) : Int).toNat).drop ((ji3) : Int).toNat).length : Int) 0) else (none)) else (none)) else (none)) = some r := by first | (rw [hji3] at H; exact H) | (simp only [hji3] at H ⊢; exact H)
 have hji3w : (IntKind.i64.wrap (a1 * a0_0)) = ji3 := (i64_w _).trans hji3
 by_cases c4 : 0 ≤ (ji3)
 ·rw [if_pos c4] at H
  have c4b0 := eq_true c4
  have c4b1 : decide (0 ≤ (ji3)) = true := decide_eq_true c4
  clear c4
  by_cases c5 : (ji3) ≤ (wrap64 ((wrap64 (a1 + 1)) * a0_0))
  ·rw [if_pos c5] at H
   have c5b0 := eq_true c5
   have c5b1 : decide ((ji3) ≤ (wrap64 ((wrap64 (a1 + 1)) * a0_0))) = true := decide_eq_true c5
   by_cases c6 : (wrap64 ((wrap64 (a1 + 1)) * a0_0)) ≤ (l0_2.length : Int)
   ·rw [if_pos c6] at H
    have c6b0 := eq_true c6
    have c6b1 : decide ((wrap64 ((wrap64 (a1 + 1)) * a0_0)) ≤ (l0_2.length : Int)) = true := decide_eq_true c6
    have H' := Aa.mk H
    clear H
    have hlen6 := Aa.mk (show ((l0_2.take ((wrap64 ((wrap64 (a1 + 1)) * a0_0)) : Int).toNat).drop ((ji3) : Int).toNat).length = (wrap64 ((wrap64 (a1 + 1)) * a0_0)).toNat - ji3.toNat from by rw [List.length_drop, List.length_take, Nat.min_eq_left (Int.toNat_le.mpr c6)])
    go_enter Try.func96, Try.ntmps96
    go_wp2_with (((with_reducible refine Bk (N := 2) rfl ?_); refine Bp ?hg (N := 2) ?hd (cs := #[.int .i64 a0_0, .int .i64 a0_1, .slice A0_2 l0_2.length c0_2]) (t := 50) ?hr ?_; (case hd => rfl); (case hg => rfl); (case hr => first | (go_simp; done) | (go_simp; rfl)); intro gb161 hg w7 hbox hb; have n0_ := Aa.mk (Ar (lU HB.out) hb); have n1_ := Aa.mk (hbox); have n2_ := Aa.mk ((by rw [hg]; exact (Ak (lU HB.out)) : w.heap.size ≤ gb161)); have n3_ := Aa.mk ((by rw [hg]; exact (Ak (lU HB.out)) : w.heap.size ≤ gb161)); clear HB; have HB := n0_; have BK161 := n1_; have GW161 := n2_; have GE161 := n3_; clear n0_ n1_ n2_ n3_; clear hb hbox hg; have hcz8_0 : w7.cell? ⟨gb161, 0, none⟩ = some (.int .i64 a0_0) := (Ae BK161.out 0).trans rfl; have hcz8_1 : w7.cell? ⟨gb161, 1, none⟩ = some (.int .i64 a0_1) := (Ae BK161.out 1).trans rfl; have hcz8_2 : w7.cell? ⟨gb161, 2, none⟩ = some (.slice A0_2 l0_2.length c0_2) := (Ae BK161.out 2).trans rfl; have hfz8_0 := Ag BK161.out 0; have hfz8_1 := Ag BK161.out 1; have hfz8_2 := Ag BK161.out 2; obtain ⟨i09, hi09, _, hsz9, _⟩ := info_parts info4; obtain ⟨A9, hcut9, hA9, hC9⟩ := print_mid_of (P := Try.prog) Value.bool false 48 4 .i64 .i64 Try.underlying48 hi09 hsz9 A0_2 c0_2 l0_2 (ji3) (wrap64 ((wrap64 (a1 + 1)) * a0_0)) (of_decide_eq_true (by first | (with_reducible assumption) | assumption)) (by first | omega | exact of_decide_eq_true (by first | (with_reducible assumption) | assumption)) (of_decide_eq_true (by first | (with_reducible assumption) | assumption)) HC0_2.out; have HR162 := Aa.mk (Kd.C_of_reads (h1 := fun _ => rfl) (hA9 _ (Kd.C1 HR0_2.out))); have HC162 := Aa.mk hC9; clear hA9 hC9 hi09 hsz9))
    rw [← hlen6.out]
    obtain ⟨yS, hyS⟩ : ∃ y_, y_ = ((l0_2.take ((wrap64 ((wrap64 (a1 + 1)) * a0_0)) : Int).toNat).drop ((ji3) : Int).toNat) := ⟨_, rfl⟩
    rw [← hyS] at H' HR162 HC162 ⊢
    clear hyS hlen6
    go_loopg [5, 22] k (fun kq v5 v22 w' => ∃ (x5_1 : List (S101)) (x22_1 : Int), v22 = .int .i64 x22_1 ∧ Aa (Bu.l0 kq a1 x5_1 yS (yS.length : Int) x22_1 = some r) ∧ Aa (kq ≤ k) ∧ Aa (Kd.R k101 101 w' w.heap.size (fun _ => True) v5 x5_1) ∧ Aa (w'.heap[gb161]? = some (.cells #[.int .i64 a0_0, .int .i64 a0_1, (.slice A0_2 l0_2.length c0_2)] 50 (0, 0))) ∧ Aa (Below w.heap.size w w'))
    case atStart => exact ⟨(([] : List (S101))), (0), (by first | rfl | (simp; done) | (simp [*]; done)), H', ⟨Nat.le_refl _⟩, ⟨by first | exact Kd.Cu _ _ _ _ _ | exact Kd.N_nil _ _ _ _ _ | exact Kd.V_nil _ _ _ _ _ | exact Kd.Q_nil _ _ _ _ _ | exact Kd.S_nil _ _ _ _ _⟩, ⟨by exact bU <| BK161.out⟩, ⟨by repeat (first | (with_reducible first | exact HB.out | apply Ad | apply Ac | apply Ah | refine Af ?_ GE161.out) | exact HB.out)⟩⟩
    case round =>
     clear H'
     try clear p2
     try clear c4
     try clear c4b0
     try clear c4b1
     try clear c5
     try clear c5b0
     try clear c5b1
     try clear c6
     try clear c6b0
     try clear c6b1
     try clear p6
     try clear c9
     try clear hcz8_0
     try clear hcz8_1
     try clear hcz8_2
     try clear hfz8_0
     try clear hfz8_1
     try clear hfz8_2
     obtain ⟨x5_1, x22_1, rfl, HA, HK1, HO_5, BK161, HB⟩ := hrel
     cases gk with
     | zero => exact absurd HA.out (by simp [Bu.l0])
     | succ k1 =>
      have H := HA.out
      clear HA
      simp only [Bu.l0] at H
      by_cases c10 : x22_1 < (yS.length : Int)
      ·rw [if_pos c10] at H
       have c10b0 : decide (x22_1 < (yS.length : Int)) = true := decide_eq_true c10
       clear c10
       by_cases c11 : 0 ≤ x22_1
       ·rw [if_pos c11] at H
        have c11b0 : decide (0 ≤ x22_1) = true := decide_eq_true c11
        clear c11
        by_cases c12 : x22_1 < (yS.length : Int)
        ·rw [if_pos c12] at H
         have c12b0 : decide (x22_1 < (yS.length : Int)) = true := decide_eq_true c12
         clear c12
         obtain ⟨bq13, hbq13⟩ : ∃ b_ : Bool, b_ = (rdOf false yS x22_1) := ⟨_, rfl⟩
         replace H : (if bq13 = true then (if (x5_1.length : Int) > 0 then (if 0 ≤ (wrap64 ((x5_1.length : Int) - 1)) then (if (wrap64 ((x5_1.length : Int) - 1)) < (x5_1.length : Int) then (if ((rd_T101 x5_1 (wrap64 ((x5_1.length : Int) - 1))).f2) = x22_1 then (Bu.l0 k1 a1 (x5_1.set ((wrap64 ((x5_1.length : Int) - 1)) : Int).toNat (⟨(rd_T101 x5_1 (wrap64 ((x5_1.length : Int) - 1))).f0, (rd_T101 x5_1 (wrap64 ((x5_1.length : Int) - 1))).f1, wrap64 (((rd_T101 x5_1 (wrap64 ((x5_1.length : Int) - 1))).f2) + 1), (rd_T101 x5_1 (wrap64 ((x5_1.length : Int) - 1))).f3⟩ : S101)) yS (yS.length : Int) (wrap64 (x22_1 + 1))) else (if x5_1.length < 4398046511104 then (Bu.l0 k1 a1 (x5_1 ++ [(⟨x22_1, a1, wrap64 (x22_1 + 1), wrap64 (a1 + 1)⟩ : S101)]) yS (yS.length : Int) (wrap64 (x22_1 + 1))) else (none))) else (none)) else (none)) else (if x5_1.length < 4398046511104 then (Bu.l0 k1 a1 (x5_1 ++ [(⟨x22_1, a1, wrap64 (x22_1 + 1), wrap64 (a1 + 1)⟩ : S101)]) yS (yS.length : Int) (wrap64 (x22_1 + 1))) else (none))) else (Bu.l0 k1 a1 x5_1 yS (yS.length : Int) (wrap64 (x22_1 + 1)))) = some r := by rw [← hbq13] at H; exact H
         have Nbq13 := Aa.mk hbq13
         clear hbq13
         by_cases c14 : bq13 = true
         ·subst c14
          have H1 : (if (x5_1.length : Int) > 0 then (if 0 ≤ (wrap64 ((x5_1.length : Int) - 1)) then (if (wrap64 ((x5_1.length : Int) - 1)) < (x5_1.length : Int) then (if ((rd_T101 x5_1 (wrap64 ((x5_1.length : Int) - 1))).f2) = x22_1 then (Bu.l0 k1 a1 (x5_1.set ((wrap64 ((x5_1.length : Int) - 1)) : Int).toNat (⟨(rd_T101 x5_1 (wrap64 ((x5_1.length : Int) - 1))).f0, (rd_T101 x5_1 (wrap64 ((x5_1.length : Int) - 1))).f1, wrap64 (((rd_T101 x5_1 (wrap64 ((x5_1.length : Int) - 1))).f2) + 1), (rd_T101 x5_1 (wrap64 ((x5_1.length : Int) - 1))).f3⟩ : S101)) yS (yS.length : Int) (wrap64 (x22_1 + 1))) else (if x5_1.length < 4398046511104 then (Bu.l0 k1 a1 (x5_1 ++ [(⟨x22_1, a1, wrap64 (x22_1 + 1), wrap64 (a1 + 1)⟩ : S101)]) yS (yS.length : Int) (wrap64 (x22_1 + 1))) else (none))) else (none)) else (none)) else (if x5_1.length < 4398046511104 then (Bu.l0 k1 a1 (x5_1 ++ [(⟨x22_1, a1, wrap64 (x22_1 + 1), wrap64 (a1 + 1)⟩ : S101)]) yS (yS.length : Int) (wrap64 (x22_1 + 1))) else (none))) = some r := by rw [if_pos rfl] at H; exact H
          clear H
          have H := H1
          clear H1
          by_cases c15 : (x5_1.length : Int) > 0
          ·rw [if_pos c15] at H
           have c15b0 : decide (0 < (x5_1.length : Int)) = true := decide_eq_true c15
           have c15b1 : decide (0 < x5_1.length) = true := decide_eq_true (by omega)
           clear c15
           obtain ⟨ji16, hji16⟩ : ∃ j_ : Int, (wrap64 ((x5_1.length : Int) - 1)) = j_ := ⟨_, rfl⟩
           replace H : (if 0 ≤ (ji16) then (if (ji16) < (x5_1.length : Int) then (if ((rd_T101 x5_1 (ji16)).f2) = x22_1 then (Bu.l0 k1 a1 (x5_1.set ((ji16) : Int).toNat (⟨(rd_T101 x5_1 (ji16)).f0, (rd_T101 x5_1 (ji16)).f1, wrap64 (((rd_T101 x5_1 (ji16)).f2) + 1), (rd_T101 x5_1 (ji16)).f3⟩ : S101)) yS (yS.length : Int) (wrap64 (x22_1 + 1))) else (if x5_1.length < 4398046511104 then (Bu.l0 k1 a1 (x5_1 ++ [(⟨x22_1, a1, wrap64 (x22_1 + 1), wrap64 (a1 + 1)⟩ : S101)]) yS (yS.length : Int) (wrap64 (x22_1 + 1))) else (none))) else (none)) else (none)) = some r := by first | (rw [hji16] at H; exact H) | (simp only [hji16] at H ⊢; exact H)
           have hji16w : (IntKind.i64.wrap ((x5_1.length : Int) - 1)) = ji16 := (i64_w _).trans hji16
           by_cases c17 : 0 ≤ (ji16)
           ·rw [if_pos c17] at H
            have c17b0 : decide (0 ≤ (ji16)) = true := decide_eq_true c17
            clear c17
            by_cases c18 : (ji16) < (x5_1.length : Int)
            ·rw [if_pos c18] at H
             have c18b0 : decide ((ji16) < (x5_1.length : Int)) = true := decide_eq_true c18
             clear c18
             by_cases c19 : ((rd_T101 x5_1 (ji16)).f2) = x22_1
             ·rw [if_pos c19] at H
              have c19b0 : (((rd_T101 x5_1 (ji16)).f2) == x22_1) = true := beq_iff_eq.mpr c19
              have c19b1 : (((rd_T101 x5_1 (ji16)).f2) != x22_1) = false := bne_eq_false_iff_eq.mpr c19
              clear c19
              obtain ⟨y166, hy166⟩ : ∃ y_ : List (S101), y_ = (x5_1.set ((ji16) : Int).toNat (⟨(rd_T101 x5_1 (ji16)).f0, (rd_T101 x5_1 (ji16)).f1, wrap64 (((rd_T101 x5_1 (ji16)).f2) + 1), (rd_T101 x5_1 (ji16)).f3⟩ : S101)) := ⟨_, rfl⟩
              replace H : (Bu.l0 k1 a1 y166 yS (yS.length : Int) (wrap64 (x22_1 + 1))) = some r := by first | (rw [hy166]; with_reducible exact H) | (have H2_ := (Option.bind_some _ _).symm.trans H; rw [hy166]; with_reducible exact H2_) | (have H2_ := (Option.bind_some _ _).symm.trans H; with_reducible exact H2_) | with_reducible exact H | (rw [hy166]; exact H) | exact H
              have Ny166 := Aa.mk hy166
              clear hy166
              have H' := Aa.mk H
              clear H
              have p163 : 0 ≤ (x22_1 : Int) := of_decide_eq_true (by first | (with_reducible assumption) | assumption)
              have q163 : x22_1 < (yS.length : Int) := of_decide_eq_true (by first | (with_reducible assumption) | assumption)
              obtain ⟨ad163, e163, hx163_0⟩ := Kd.at_bool HR162.out x22_1 p163 q163
              (try rw [← Nbq13.out] at hx163_0)
              cases e163
              replace hx163_0 := (HB.out.cell (World.block_lt_of_cell? w _ hx163_0)).trans hx163_0
              replace p163 := eq_true p163
              replace q163 := eq_true q163
              obtain ⟨Ao21, co21, eo21⟩ := Kd.Bz HO_5.out
              subst eo21
              have p164 : 0 ≤ ((ji16) : Int) := of_decide_eq_true (by first | (with_reducible assumption) | assumption)
              have q164 : (ji16) < (x5_1.length : Int) := of_decide_eq_true (by first | (with_reducible assumption) | assumption)
              obtain ⟨ad164, e164, hx164_0, hx164_1, hx164_2, hx164_3⟩ := at_T101 (Kd.Aw HO_5.out).2.2 (ji16) p164 q164
              cases e164
              replace p164 := eq_true p164
              replace q164 := eq_true q164
              have p165 : 0 ≤ ((ji16) : Int) := of_decide_eq_true (by first | (with_reducible assumption) | assumption)
              have q165 : (ji16) < (x5_1.length : Int) := of_decide_eq_true (by first | (with_reducible assumption) | assumption)
              obtain ⟨ad165, e165, hx165_0, hx165_1, hx165_2, hx165_3⟩ := at_T101 (Kd.Aw HO_5.out).2.2 (ji16) p165 q165
              obtain rfl : ad164 = ad165 := (by injection e165)
              replace p165 := eq_true p165
              replace q165 := eq_true q165
              have p20 : 0 ≤ ((ji16) : Int) := of_decide_eq_true (by first | (with_reducible assumption) | assumption)
              have q20 : ((ji16) : Int) < ((x5_1.length : Int) : Int) := of_decide_eq_true (by first | (with_reducible assumption) | assumption)
              obtain ⟨go20, co20, eo20, gb20, gl20, cl20, HG20⟩ := Kd.Df HO_5.out (by omega)
              (first | cases eo20 | (injection eo20 with ea_ en_ ec_; (first | subst ea_ | (injection ea_ with ea_; subst ea_)); subst ec_; clear en_))
              have GB20 := Aa.mk gb20
              have GG20 := Aa.mk HG20
              clear gb20 gl20 HG20
              (first | simp only [add_plain] at hx164_0 | skip)
              (first | simp only [add_plain] at hx164_1 | skip)
              (first | simp only [add_plain] at hx164_2 | skip)
              (first | simp only [add_plain] at hx164_3 | skip)
              (first | simp only [add_plain] at hx165_0 | skip)
              (first | simp only [add_plain] at hx165_1 | skip)
              (first | simp only [add_plain] at hx165_2 | skip)
              (first | simp only [add_plain] at hx165_3 | skip)
              obtain ⟨ce20, hcl20, hM20, hcc20, hfr20⟩ := Kd.R_elem HO_5.out z101 ((ji16) : Int) p20 q20
              obtain rfl := k101_openM hM20
              have hx20_0 : wr.cell? ⟨go20, ((ji16) : Int).toNat * 4, none⟩ = some (.int .i64 ((rd_T101 x5_1 (ji16)).f0)) := hcc20 0 _ rfl
              have hx20_1 : wr.cell? ⟨go20, ((ji16) : Int).toNat * 4 + 1, none⟩ = some (.int .i64 ((rd_T101 x5_1 (ji16)).f1)) := hcc20 1 _ rfl
              have hx20_2 : wr.cell? ⟨go20, ((ji16) : Int).toNat * 4 + 2, none⟩ = some (.int .i64 ((rd_T101 x5_1 (ji16)).f2)) := hcc20 2 _ rfl
              have hx20_3 : wr.cell? ⟨go20, ((ji16) : Int).toNat * 4 + 3, none⟩ = some (.int .i64 ((rd_T101 x5_1 (ji16)).f3)) := hcc20 3 _ rfl
              have hf20_0 : wr.frozen? ⟨go20, ((ji16) : Int).toNat * 4, none⟩ = false := hfr20 0
              have hf20_1 : wr.frozen? ⟨go20, ((ji16) : Int).toNat * 4 + 1, none⟩ = false := hfr20 1
              have hf20_2 : wr.frozen? ⟨go20, ((ji16) : Int).toNat * 4 + 2, none⟩ = false := hfr20 2
              have hf20_3 : wr.frozen? ⟨go20, ((ji16) : Int).toNat * 4 + 3, none⟩ = false := hfr20 3
              clear hcl20 hcc20 hfr20 hM20
              replace p20 := eq_true p20
              replace q20 := eq_true q20
              have HX22 := Aa.mk (show Kd.R k101 101 wr w.heap.size (fun _ => True) (.slice (some ⟨go20, 0, none⟩) x5_1.length co21) x5_1 from (by exact rU <| HO_5.out))
              obtain ⟨ce22, hcl22, hM22, hcc22, hfr22⟩ := Kd.R_elem HX22.out z101 ((ji16) : Int) (of_decide_eq_true (by first | (with_reducible assumption) | assumption)) (by have h_ : ((ji16) : Int) < ((x5_1.length : Int) : Int) := of_decide_eq_true (by first | (with_reducible assumption) | assumption); first | exact h_ | (have e_ := (Kd.Aw HO_5.out).1; omega) | simpa using h_)
              obtain rfl := k101_openM hM22
              have HP22 := Kd.R_seg HX22.out ((ji16) : Int) (of_decide_eq_true (by first | (with_reducible assumption) | assumption)) (by have h_ : ((ji16) : Int) < ((x5_1.length : Int) : Int) := of_decide_eq_true (by first | (with_reducible assumption) | assumption); first | exact h_ | (have e_ := (Kd.Aw HO_5.out).1; omega) | simpa using h_) (seg := [.int .i64 (wrap64 (((rd_T101 x5_1 (ji16)).f2) + 1))]) (j := 2) hcl22 hcc22 (show 3 ≤ 4 from by decide) (x' := (⟨(rd_T101 x5_1 (ji16)).f0, (rd_T101 x5_1 (ji16)).f1, wrap64 (((rd_T101 x5_1 (ji16)).f2) + 1), (rd_T101 x5_1 (ji16)).f3⟩ : S101)) (k101_mkM _ _ _ (⟨(rd_T101 x5_1 (ji16)).f0, (rd_T101 x5_1 (ji16)).f1, wrap64 (((rd_T101 x5_1 (ji16)).f2) + 1), (rd_T101 x5_1 (ji16)).f3⟩ : S101) ) (fun _ hk => hk)
              have hx22_2 := hcc22 2 _ rfl
              (try simp only [show (k101).sz = 4 from rfl, Nat.mul_one, Nat.add_zero] at hx22_2)
              have hf22_2 := hfr22 2
              (try simp only [show (k101).sz = 4 from rfl, Nat.mul_one, Nat.add_zero] at hf22_2)
              clear hcl22 hcc22 hfr22 hM22
              go_wp2_with (((with_reducible refine Cq (t := 3) (p := 63) rfl ?_); refine store_event (t := 3) (p := 63) (v := ?vo_w23) (w1 := (wr.setCell ⟨go20, ((ji16) : Int).toNat * 4 + 2, none⟩ (.int .i64 (wrap64 (((rd_T101 x5_1 (ji16)).f2) + 1))))) ?hg ?ho ?hn ?hr ?_; (case ho => rfl); (case hg => rfl); (case hn => rfl); (case hr => first | (go_simp; done) | (go_simp; rfl)); intro w23 hw; have hg : wr.grownBy w23 (some go20) := (by rw [hw]; exact HP22.2); have hp_ : Kd.R k101 101 w23 w.heap.size (fun _ => True) (.slice (some ⟨go20, 0, none⟩) x5_1.length co21) y166 := (by rw [hw, Ny166.out]; exact HP22.1); clear HP22; have n0_ := Aa.mk (hp_); have n1_ := Aa.mk (Bs (g := gb161) (o := .cells #[.int .i64 a0_0, .int .i64 a0_1, .slice A0_2 l0_2.length c0_2] 50 (0, 0)) (by exact bU <| BK161.out) hg (Kd.Db HO_5.out BK161.out (by decide))); have n2_ := Aa.mk ((by rw [hw]; exact Af (HB.out) GB20.out : Below w.heap.size w w23)); clear HO_5; clear BK161; clear HB; have HO_5 := n0_; have BK161 := n1_; have HB := n2_; clear n0_ n1_ n2_; clear hg hw hp_))
              go_roundg k1
              case measure => have := HK1.out; omega
              case rel => exact ⟨(y166), (wrap64 (x22_1 + 1)), (by first | rfl | (simp; done) | (simp [*]; done)), H', ⟨by have := HK1.out; omega⟩, ⟨by exact rU <| HO_5.out⟩, ⟨by exact bU <| BK161.out⟩, ⟨by repeat (first | (with_reducible first | exact HB.out | apply Ad | apply Ac | apply Ah | refine Af ?_ GE161.out) | exact HB.out)⟩⟩
             ·rw [if_neg c19] at H
              have c19b0 : (((rd_T101 x5_1 (ji16)).f2) == x22_1) = false := beq_eq_false_iff_ne.mpr c19
              have c19b1 : (((rd_T101 x5_1 (ji16)).f2) != x22_1) = true := bne_iff_ne.mpr c19
              by_cases c24 : x5_1.length < 4398046511104
              ·rw [if_pos c24] at H
               have LMc24 := Aa.mk c24
               clear c24
               obtain ⟨y167, hy167⟩ : ∃ y_ : List (S101), y_ = (x5_1 ++ [(⟨x22_1, a1, wrap64 (x22_1 + 1), wrap64 (a1 + 1)⟩ : S101)]) := ⟨_, rfl⟩
               replace H : (Bu.l0 k1 a1 y167 yS (yS.length : Int) (wrap64 (x22_1 + 1))) = some r := by first | (rw [hy167]; with_reducible exact H) | (have H2_ := (Option.bind_some _ _).symm.trans H; rw [hy167]; with_reducible exact H2_) | (have H2_ := (Option.bind_some _ _).symm.trans H; with_reducible exact H2_) | with_reducible exact H | (rw [hy167]; exact H) | exact H
               have Ny167 := Aa.mk hy167
               clear hy167
               have H' := Aa.mk H
               clear H
               have p163 : 0 ≤ (x22_1 : Int) := of_decide_eq_true (by first | (with_reducible assumption) | assumption)
               have q163 : x22_1 < (yS.length : Int) := of_decide_eq_true (by first | (with_reducible assumption) | assumption)
               obtain ⟨ad163, e163, hx163_0⟩ := Kd.at_bool HR162.out x22_1 p163 q163
               (try rw [← Nbq13.out] at hx163_0)
               cases e163
               replace hx163_0 := (HB.out.cell (World.block_lt_of_cell? w _ hx163_0)).trans hx163_0
               replace p163 := eq_true p163
               replace q163 := eq_true q163
               obtain ⟨Ao25, co25, eo25⟩ := Kd.Bz HO_5.out
               subst eo25
               have p164 : 0 ≤ ((ji16) : Int) := of_decide_eq_true (by first | (with_reducible assumption) | assumption)
               have q164 : (ji16) < (x5_1.length : Int) := of_decide_eq_true (by first | (with_reducible assumption) | assumption)
               obtain ⟨ad164, e164, hx164_0, hx164_1, hx164_2, hx164_3⟩ := at_T101 (Kd.Aw HO_5.out).2.2 (ji16) p164 q164
               cases e164
               replace p164 := eq_true p164
               replace q164 := eq_true q164
               go_wp2_with (((with_reducible refine Cf (b := .append) (xs := #[.tmp 29, .tmp 37]) rfl ?_); at_builtin; refine Kd.Cv k101 (w0 := w) w.heap.size rfl (.tmp 29) (.tmp 37) 96 101 (.agg #[(.int .i64 0), (.int .i64 0), (.int .i64 0), (.int .i64 0)]) 32 rfl Try.underlying96 info101 rfl (by decide) (by omega) (.slice (some ad164) x5_1.length co25) x5_1 (⟨x22_1, a1, wrap64 (x22_1 + 1), wrap64 (a1 + 1)⟩ : S101) [.int .i64 x22_1, .int .i64 a1, .int .i64 (wrap64 (x22_1 + 1)), .int .i64 (wrap64 (a1 + 1))] (fun _ => True) (fun _ => False) rfl rfl ?aP (fun _ hk => hk.elim) ?aF ?aO ?aB ?aS ?aL ?_; (case aP => exact k101_mkM _ _ _ (⟨x22_1, a1, wrap64 (x22_1 + 1), wrap64 (a1 + 1)⟩ : S101)); (case aB => exact (by repeat (first | (with_reducible first | exact HB.out | apply Ad | apply Ac | apply Ah | refine Af ?_ GE161.out) | exact HB.out))); (case aF => exact (fun _ _ => trivial)); (case aO => exact (by exact rU <| HO_5.out)); (case aS => exact (Ak (by repeat (first | (with_reducible first | exact HB.out | apply Ad | apply Ac | apply Ah | refine Af ?_ GE161.out) | exact HB.out)))); (case aL => have := LMc24.out; omega); intro v168 w26 ho hb hg hat; rw [← Ny167.out] at ho; have n0_ := Aa.mk (Bs (g := gb161) (o := .cells #[.int .i64 a0_0, .int .i64 a0_1, .slice A0_2 l0_2.length c0_2] 50 (0, 0)) (by exact bU <| BK161.out) hg (Kd.Db HO_5.out BK161.out (by decide))); have n1_ := Aa.mk (hb); have n2_ := Aa.mk (ho); clear BK161; clear HB; clear HO_5; have BK161 := n0_; have HB := n1_; have HO169 := n2_; clear n0_ n1_ n2_; clear ho hb hg hat))
               go_roundg k1
               case measure => have := HK1.out; omega
               case rel => exact ⟨(y167), (wrap64 (x22_1 + 1)), (by first | rfl | (simp; done) | (simp [*]; done)), H', ⟨by have := HK1.out; omega⟩, ⟨by exact rU <| HO169.out⟩, ⟨by exact bU <| BK161.out⟩, ⟨by repeat (first | (with_reducible first | exact HB.out | apply Ad | apply Ac | apply Ah | refine Af ?_ GE161.out) | exact HB.out)⟩⟩
              ·rw [if_neg c24] at H
               exact absurd H (by simp)
            ·rw [if_neg c18] at H
             exact absurd H (by simp)
           ·rw [if_neg c17] at H
            exact absurd H (by simp)
          ·rw [if_neg c15] at H
           have c15b0 : decide (0 < (x5_1.length : Int)) = false := decide_eq_false c15
           have c15b1 : decide (0 < x5_1.length) = false := decide_eq_false (by omega)
           clear c15
           by_cases c27 : x5_1.length < 4398046511104
           ·rw [if_pos c27] at H
            have LMc27 := Aa.mk c27
            clear c27
            obtain ⟨y170, hy170⟩ : ∃ y_ : List (S101), y_ = (x5_1 ++ [(⟨x22_1, a1, wrap64 (x22_1 + 1), wrap64 (a1 + 1)⟩ : S101)]) := ⟨_, rfl⟩
            replace H : (Bu.l0 k1 a1 y170 yS (yS.length : Int) (wrap64 (x22_1 + 1))) = some r := by first | (rw [hy170]; with_reducible exact H) | (have H2_ := (Option.bind_some _ _).symm.trans H; rw [hy170]; with_reducible exact H2_) | (have H2_ := (Option.bind_some _ _).symm.trans H; with_reducible exact H2_) | with_reducible exact H | (rw [hy170]; exact H) | exact H
            have Ny170 := Aa.mk hy170
            clear hy170
            have H' := Aa.mk H
            clear H
            have p163 : 0 ≤ (x22_1 : Int) := of_decide_eq_true (by first | (with_reducible assumption) | assumption)
            have q163 : x22_1 < (yS.length : Int) := of_decide_eq_true (by first | (with_reducible assumption) | assumption)
            obtain ⟨ad163, e163, hx163_0⟩ := Kd.at_bool HR162.out x22_1 p163 q163
            (try rw [← Nbq13.out] at hx163_0)
            cases e163
            replace hx163_0 := (HB.out.cell (World.block_lt_of_cell? w _ hx163_0)).trans hx163_0
            replace p163 := eq_true p163
            replace q163 := eq_true q163
            obtain ⟨Ao28, co28, eo28⟩ := Kd.Bz HO_5.out
            subst eo28
            go_wp2_with (((with_reducible refine Cf (b := .append) (xs := #[.tmp 29, .tmp 37]) rfl ?_); at_builtin; refine Kd.Cv k101 (w0 := w) w.heap.size rfl (.tmp 29) (.tmp 37) 96 101 (.agg #[(.int .i64 0), (.int .i64 0), (.int .i64 0), (.int .i64 0)]) 32 rfl Try.underlying96 info101 rfl (by decide) (by omega) (.slice Ao28 x5_1.length co28) x5_1 (⟨x22_1, a1, wrap64 (x22_1 + 1), wrap64 (a1 + 1)⟩ : S101) [.int .i64 x22_1, .int .i64 a1, .int .i64 (wrap64 (x22_1 + 1)), .int .i64 (wrap64 (a1 + 1))] (fun _ => True) (fun _ => False) rfl rfl ?aP (fun _ hk => hk.elim) ?aF ?aO ?aB ?aS ?aL ?_; (case aP => exact k101_mkM _ _ _ (⟨x22_1, a1, wrap64 (x22_1 + 1), wrap64 (a1 + 1)⟩ : S101)); (case aB => exact (by repeat (first | (with_reducible first | exact HB.out | apply Ad | apply Ac | apply Ah | refine Af ?_ GE161.out) | exact HB.out))); (case aF => exact (fun _ _ => trivial)); (case aO => exact (by exact rU <| HO_5.out)); (case aS => exact (Ak (by repeat (first | (with_reducible first | exact HB.out | apply Ad | apply Ac | apply Ah | refine Af ?_ GE161.out) | exact HB.out)))); (case aL => have := LMc27.out; omega); intro v171 w29 ho hb hg hat; rw [← Ny170.out] at ho; have n0_ := Aa.mk (Bs (g := gb161) (o := .cells #[.int .i64 a0_0, .int .i64 a0_1, .slice A0_2 l0_2.length c0_2] 50 (0, 0)) (by exact bU <| BK161.out) hg (Kd.Db HO_5.out BK161.out (by decide))); have n1_ := Aa.mk (hb); have n2_ := Aa.mk (ho); clear BK161; clear HB; clear HO_5; have BK161 := n0_; have HB := n1_; have HO172 := n2_; clear n0_ n1_ n2_; clear ho hb hg hat))
            go_roundg k1
            case measure => have := HK1.out; omega
            case rel => exact ⟨(y170), (wrap64 (x22_1 + 1)), (by first | rfl | (simp; done) | (simp [*]; done)), H', ⟨by have := HK1.out; omega⟩, ⟨by exact rU <| HO172.out⟩, ⟨by exact bU <| BK161.out⟩, ⟨by repeat (first | (with_reducible first | exact HB.out | apply Ad | apply Ac | apply Ah | refine Af ?_ GE161.out) | exact HB.out)⟩⟩
           ·rw [if_neg c27] at H
            exact absurd H (by simp)
         ·replace c14 := Bool.eq_false_iff.mpr c14
          subst c14
          have H1 : (Bu.l0 k1 a1 x5_1 yS (yS.length : Int) (wrap64 (x22_1 + 1))) = some r := by rw [if_neg (show ¬ (false = true) by decide)] at H; exact H
          clear H
          have H := H1
          clear H1
          have H' := Aa.mk H
          clear H
          have p163 : 0 ≤ (x22_1 : Int) := of_decide_eq_true (by first | (with_reducible assumption) | assumption)
          have q163 : x22_1 < (yS.length : Int) := of_decide_eq_true (by first | (with_reducible assumption) | assumption)
          obtain ⟨ad163, e163, hx163_0⟩ := Kd.at_bool HR162.out x22_1 p163 q163
          (try rw [← Nbq13.out] at hx163_0)
          cases e163
          replace hx163_0 := (HB.out.cell (World.block_lt_of_cell? w _ hx163_0)).trans hx163_0
          replace p163 := eq_true p163
          replace q163 := eq_true q163
          obtain ⟨Ao30, co30, eo30⟩ := Kd.Bz HO_5.out
          subst eo30
          go_wp2
          go_roundg k1
          case measure => have := HK1.out; omega
          case rel => exact ⟨(x5_1), (wrap64 (x22_1 + 1)), (by first | rfl | (simp; done) | (simp [*]; done)), H', ⟨by have := HK1.out; omega⟩, ⟨by exact rU <| HO_5.out⟩, ⟨by exact bU <| BK161.out⟩, ⟨by repeat (first | (with_reducible first | exact HB.out | apply Ad | apply Ac | apply Ah | refine Af ?_ GE161.out) | exact HB.out)⟩⟩
        ·rw [if_neg c12] at H
         exact absurd H (by simp)
       ·rw [if_neg c11] at H
        exact absurd H (by simp)
      ·rw [if_neg c10] at H
       have c10b0 : decide (x22_1 < (yS.length : Int)) = false := decide_eq_false c10
       clear c10
       obtain rfl := Option.some.inj H
       go_wp2
       go_ret
       exact ⟨_, by first | rfl | (simp [Az, Ba] <;> rfl) | (simp only [← hji3]; first | rfl | (simp [Az, Ba] <;> rfl)) | (simp [*, Az, Ba] <;> rfl), by exact rU <| HO_5.out, by repeat (first | (with_reducible first | exact HB.out | apply Ad | apply Ac | apply Ah | refine Af ?_ GE161.out) | exact HB.out)⟩
   ·rw [if_neg c6] at H
    exact absurd H (by simp)
  ·rw [if_neg c5] at H
   exact absurd H (by simp)
 ·rw [if_neg c4] at H
  exact absurd H (by simp)

mutual
def Bq.l0 : Nat → List (S101) → List (S101) → Int → Int → Int → Int → List Bool → Option ((List (S101)) × Int)
 | 0, _, _, _, _, _, _, _ => none
 | k + 1, x5, x6, x16, x17, x174000, x174001, x174002 => if x17 < x16 then ((Bu.f k x174000 x174001 x174002 x17).bind fun t178 => ((B9.f k x6 t178).bind fun t181 => (if t181 = true then (Bq.l1 k x5 x6 x16 x17 (x6.length : Int) 0 x174000 x174001 x174002) else (if x5.length + x6.length < 4398046511104 then (Bq.l0 k (x5 ++ x6) t178 x16 (wrap64 (x17 + 1)) x174000 x174001 x174002) else (none))))) else (if x5.length + x6.length < 4398046511104 then (some ((x5 ++ x6), 0)) else (none))
def Bq.l1 : Nat → List (S101) → List (S101) → Int → Int → Int → Int → Int → Int → List Bool → Option ((List (S101)) × Int)
 | 0, _, _, _, _, _, _, _, _, _ => none
 | k + 1, x5, x6, x16, x17, x32, x33, x174000, x174001, x174002 => if x33 < x32 then (if 0 ≤ x33 then (if x33 < (x6.length : Int) then (Bq.l1 k x5 (x6.set (x33 : Int).toNat (⟨(rd_T101 x6 x33).f0, (rd_T101 x6 x33).f1, (rd_T101 x6 x33).f2, wrap64 (((rd_T101 x6 x33).f3) + 1)⟩ : S101)) x16 x17 x32 (wrap64 (x33 + 1)) x174000 x174001 x174002) else (none)) else (none)) else (Bq.l0 k x5 x6 x16 (wrap64 (x17 + 1)) x174000 x174001 x174002)
end
def Bq.f (k : Nat) (a0_0 : Int) (a0_1 : Int) (l0_2 : List Bool) : Option ((List (S101)) × Int) := (Cp.f a0_0 a0_1 l0_2).bind fun t174 => (if t174 = 0 then (Bq.l0 k ([] : List (S101)) ([] : List (S101)) a0_1 0 a0_0 a0_1 l0_2) else (some (([] : List (S101)), t174)))
theorem Bq.mono_l : ∀ k, (∀ y0 y1 y2 y3 y4 y5 y6, LeO (Bq.l0 k y0 y1 y2 y3 y4 y5 y6) (Bq.l0 (k + 1) y0 y1 y2 y3 y4 y5 y6)) ∧ (∀ y0 y1 y2 y3 y4 y5 y6 y7 y8, LeO (Bq.l1 k y0 y1 y2 y3 y4 y5 y6 y7 y8) (Bq.l1 (k + 1) y0 y1 y2 y3 y4 y5 y6 y7 y8))
 | 0 => ⟨fun _ _ _ _ _ _ _ r h => by simp [Bq.l0] at h, fun _ _ _ _ _ _ _ _ _ r h => by simp [Bq.l1] at h⟩
 | k + 1 => by
  obtain ⟨ih0, ih1⟩ := Bq.mono_l k
  refine ⟨?_, ?_⟩
  ·intro y0 y1 y2 y3 y4 y5 y6
   unfold Bq.l0
   repeat' first
   | (with_reducible exact ih0 _ _ _ _ _ _ _)
   | (with_reducible exact ih1 _ _ _ _ _ _ _ _ _)
   | (with_reducible exact B9.mono _ _ _)
   | (with_reducible exact Bu.mono _ _ _ _ _)
   | (with_reducible exact LeO.refl _)
   | (with_reducible exact LeO.none _)
   | (with_reducible refine LeO.ite ?_ ?_)
   | (with_reducible refine LeO.bind ?_ (fun _ => ?_))
   | exact ih0 _ _ _ _ _ _ _
   | exact ih1 _ _ _ _ _ _ _ _ _
   | exact B9.mono _ _ _
   | exact Bu.mono _ _ _ _ _
   | exact LeO.none _
   | refine LeO.ite ?_ ?_
   | refine LeO.bind ?_ (fun _ => ?_)
  ·intro y0 y1 y2 y3 y4 y5 y6 y7 y8
   unfold Bq.l1
   repeat' first
   | (with_reducible exact ih0 _ _ _ _ _ _ _)
   | (with_reducible exact ih1 _ _ _ _ _ _ _ _ _)
   | (with_reducible exact B9.mono _ _ _)
   | (with_reducible exact Bu.mono _ _ _ _ _)
   | (with_reducible exact LeO.refl _)
   | (with_reducible exact LeO.none _)
   | (with_reducible refine LeO.ite ?_ ?_)
   | (with_reducible refine LeO.bind ?_ (fun _ => ?_))
   | exact ih0 _ _ _ _ _ _ _
   | exact ih1 _ _ _ _ _ _ _ _ _
   | exact B9.mono _ _ _
   | exact Bu.mono _ _ _ _ _
   | exact LeO.none _
   | refine LeO.ite ?_ ?_
   | refine LeO.bind ?_ (fun _ => ?_)
theorem Bq.mono : ∀ a0 a1 a2 k, LeO (Bq.f k a0 a1 a2) (Bq.f (k + 1) a0 a1 a2) := by
 intro a0 a1 a2 k
 obtain ⟨ih0, ih1⟩ := Bq.mono_l k
 unfold Bq.f
 repeat' first
   | (with_reducible exact ih0 _ _ _ _ _ _ _)
   | (with_reducible exact ih1 _ _ _ _ _ _ _ _ _)
   | (with_reducible exact B9.mono _ _ _)
   | (with_reducible exact Bu.mono _ _ _ _ _)
   | (with_reducible exact LeO.refl _)
   | (with_reducible exact LeO.none _)
   | (with_reducible refine LeO.ite ?_ ?_)
   | (with_reducible refine LeO.bind ?_ (fun _ => ?_))
   | exact ih0 _ _ _ _ _ _ _
   | exact ih1 _ _ _ _ _ _ _ _ _
   | exact B9.mono _ _ _
   | exact Bu.mono _ _ _ _ _
   | exact LeO.none _
   | refine LeO.ite ?_ ?_
   | refine LeO.bind ?_ (fun _ => ?_)
set_option maxHeartbeats 8000000 in
set_option maxRecDepth 100000 in
theorem Bq.calls (k : Nat) (a0_0 : Int) (a0_1 : Int) (A0_2 : Option Addr) (c0_2 : Nat) (l0_2 : List Bool) (r1 : List (S101)) (r2 : Int) (w : World) (hr0_2 : Kd.C Kd.bool w A0_2 l0_2.length l0_2) (hc0_2 : l0_2.length ≤ c0_2) (h : Bq.f k a0_0 a0_1 l0_2 = some (r1, r2)) :
  Calls Try.prog 59 #[.agg #[.int .i64 a0_0, .int .i64 a0_1, .slice A0_2 l0_2.length c0_2]] w fun e w' => ∃ v0_ : Value, e = .returned (.tuple #[v0_, .int .i64 r2]) ∧ Kd.R k101 101 w' w.heap.size (fun _ => True) v0_ r1 ∧ Below w.heap.size w w' := by
 have hu50 := Try.underlying50
 have HR0_2 := Aa.mk hr0_2
 have HC0_2 := Aa.mk hc0_2
 clear hr0_2 hc0_2
 have HB := Aa.mk (Below.refl w.heap.size w)
 have H : ((Cp.f a0_0 a0_1 l0_2).bind fun t174 => (if t174 = 0 then (Bq.l0 k ([] : List (S101)) ([] : List (S101)) a0_1 0 a0_0 a0_1 l0_2) else (some (([] : List (S101)), t174)))) = some (r1, r2) := h
 clear h
 replace H := Option.bind_eq_some_iff.mp H
 obtain ⟨t174, A20, H⟩ := H
 replace H : (if t174 = 0 then (Bq.l0 k ([] : List (S101)) ([] : List (S101)) a0_1 0 a0_0 a0_1 l0_2) else (some (([] : List (S101)), t174))) = some (r1, r2) := H
 have A2 := Aa.mk A20
 clear A20
 by_cases c3 : t174 = 0
 ·rw [if_pos c3] at H
  have c3b0 : (t174 == 0) = true := beq_iff_eq.mpr c3
  have c3b1 : (t174 != 0) = false := bne_eq_false_iff_eq.mpr c3
  clear c3
  have H' := Aa.mk H
  clear H
  go_enter Try.func59, Try.ntmps59
  go_wp2_with (first | ((with_reducible refine Bk (N := 1) rfl ?_); refine Bp ?hg (N := 1) ?hd (cs := #[.int .i64 a0_0, .int .i64 a0_1, .slice A0_2 l0_2.length c0_2]) (t := 50) ?hr ?_; (case hd => rfl); (case hg => rfl); (case hr => first | (go_simp; done) | (go_simp; rfl)); intro gb173 hg w4 hbox hb; have n0_ := Aa.mk (Ar (lU HB.out) hb); have n1_ := Aa.mk (hbox); have n2_ := Aa.mk ((by rw [hg]; exact (Ak (lU HB.out)) : w.heap.size ≤ gb173)); have n3_ := Aa.mk ((by rw [hg]; exact (Ak (lU HB.out)) : w.heap.size ≤ gb173)); clear HB; have HB := n0_; have BK173 := n1_; have GW173 := n2_; have GE173 := n3_; clear n0_ n1_ n2_ n3_; clear hb hbox hg; have hcz5_0 : w4.cell? ⟨gb173, 0, none⟩ = some (.int .i64 a0_0) := (Ae BK173.out 0).trans rfl; have hcz5_1 : w4.cell? ⟨gb173, 1, none⟩ = some (.int .i64 a0_1) := (Ae BK173.out 1).trans rfl; have hcz5_2 : w4.cell? ⟨gb173, 2, none⟩ = some (.slice A0_2 l0_2.length c0_2) := (Ae BK173.out 2).trans rfl; have hfz5_0 := Ag BK173.out 0; have hfz5_1 := Ag BK173.out 1; have hfz5_2 := Ag BK173.out 2) | ((with_reducible refine Bn (f := 46) rfl ?_); refine Ca (some 11) rfl rfl Try.func46 (by kernel_rfl) rfl #[.agg #[.int .i64 a0_0, .int .i64 a0_1, .slice A0_2 l0_2.length c0_2]] rfl (by (try simp only [List.map_toArray, List.map_cons, List.map_nil]); first | done | rfl | (simp only [List.length_drop, List.length_take]; rfl)) ?_; (with_reducible refine (Cp.calls a0_0 a0_1 _ _ l0_2 t174 _ ?side1 ?side2 A2.out).mono ?_); (case side1 => repeat (first | exact (Kd.Ce HR0_2.out HB.out) | (with_reducible refine Kd.Bt ?_ _) | (with_reducible refine Kd.B3 ?_ _) | (with_reducible refine Kd.B8 ?_))); (case side2 => exact HC0_2.out); rintro e w6 ⟨rfl, hb⟩; refine ⟨_, rfl, ?_⟩; have n0_ := Aa.mk (An (g := gb173) (o := .cells #[.int .i64 a0_0, .int .i64 a0_1, .slice A0_2 l0_2.length c0_2] 50 (0, 0)) (by exact bU <| BK173.out) hb); have n1_ := Aa.mk (Ar (by repeat (first | (with_reducible first | exact HB.out | apply Ad | apply Ac | apply Ah | refine Af ?_ GE173.out) | exact HB.out)) hb); clear BK173; clear HB; have BK173 := n0_; have HB := n1_; clear n0_ n1_; (try clear hb); (try clear hb2); (try clear hk); (try clear hi); have hcz7_0 : w6.cell? ⟨gb173, 0, none⟩ = some (.int .i64 a0_0) := (Ae BK173.out 0).trans rfl; have hcz7_1 : w6.cell? ⟨gb173, 1, none⟩ = some (.int .i64 a0_1) := (Ae BK173.out 1).trans rfl; have hcz7_2 : w6.cell? ⟨gb173, 2, none⟩ = some (.slice A0_2 l0_2.length c0_2) := (Ae BK173.out 2).trans rfl; have hfz7_0 := Ag BK173.out 0; have hfz7_1 := Ag BK173.out 1; have hfz7_2 := Ag BK173.out 2))
  go_loopg [5, 6, 17] k (fun kq v5 v6 v17 w' => ∃ (x5_1 : List (S101)) (x6_1 : List (S101)) (x17_1 : Int), v17 = .int .i64 x17_1 ∧ Aa (Bq.l0 kq x5_1 x6_1 a0_1 x17_1 a0_0 a0_1 l0_2 = some (r1, r2)) ∧ Aa (kq ≤ k) ∧ Aa (Kd.R k101 101 w' w.heap.size (fun k_ => some k_ ≠ (v6 : Value).ownBlock) v5 x5_1) ∧ Aa (Kd.R k101 101 w' w.heap.size (fun k_ => some k_ ≠ (v5 : Value).ownBlock) v6 x6_1) ∧ Aa (w'.heap[gb173]? = some (.cells #[.int .i64 a0_0, .int .i64 a0_1, (.slice A0_2 l0_2.length c0_2)] 50 (0, 0))) ∧ Aa (Below w.heap.size w w'))
  case atStart => exact ⟨(([] : List (S101))), (([] : List (S101))), (0), (by first | rfl | (simp; done) | (simp [*]; done)), H', ⟨Nat.le_refl _⟩, ⟨by first | exact Kd.Cu _ _ _ _ _ | exact Kd.N_nil _ _ _ _ _ | exact Kd.V_nil _ _ _ _ _ | exact Kd.Q_nil _ _ _ _ _ | exact Kd.S_nil _ _ _ _ _⟩, ⟨by first | exact Kd.Cu _ _ _ _ _ | exact Kd.N_nil _ _ _ _ _ | exact Kd.V_nil _ _ _ _ _ | exact Kd.Q_nil _ _ _ _ _ | exact Kd.S_nil _ _ _ _ _⟩, ⟨by exact bU <| BK173.out⟩, ⟨by repeat (first | (with_reducible first | exact HB.out | apply Ad | apply Ac | apply Ah | refine Af ?_ GE173.out) | exact HB.out)⟩⟩
  case round =>
   clear H'
   try clear p2
   try clear c3
   try clear c3b0
   try clear c3b1
   try clear c4
   try clear c5
   try clear hcz5_0
   try clear hcz5_1
   try clear hcz5_2
   try clear hcz7_0
   try clear hcz7_1
   try clear hcz7_2
   try clear hfz5_0
   try clear hfz5_1
   try clear hfz5_2
   try clear hfz7_0
   try clear hfz7_1
   try clear hfz7_2
   obtain ⟨x5_1, x6_1, x17_1, rfl, HA, HK1, HO_5, HO_6, BK173, HB⟩ := hrel
   cases gk with
   | zero => exact absurd HA.out (by simp [Bq.l0])
   | succ k1 =>
    have H := HA.out
    clear HA
    simp only [Bq.l0] at H
    by_cases c8 : x17_1 < a0_1
    ·rw [if_pos c8] at H
     have c8b0 : decide (x17_1 < a0_1) = true := decide_eq_true c8
     clear c8
     replace H := Option.bind_eq_some_iff.mp H
     obtain ⟨t178, A90, H⟩ := H
     replace H : ((B9.f k1 x6_1 t178).bind fun t181 => (if t181 = true then (Bq.l1 k1 x5_1 x6_1 a0_1 x17_1 (x6_1.length : Int) 0 a0_0 a0_1 l0_2) else (if x5_1.length + x6_1.length < 4398046511104 then (Bq.l0 k1 (x5_1 ++ x6_1) t178 a0_1 (wrap64 (x17_1 + 1)) a0_0 a0_1 l0_2) else (none)))) = some (r1, r2) := H
     have A9 := Aa.mk A90
     clear A90
     replace H := Option.bind_eq_some_iff.mp H
     obtain ⟨t181, A100, H⟩ := H
     replace H : (if t181 = true then (Bq.l1 k1 x5_1 x6_1 a0_1 x17_1 (x6_1.length : Int) 0 a0_0 a0_1 l0_2) else (if x5_1.length + x6_1.length < 4398046511104 then (Bq.l0 k1 (x5_1 ++ x6_1) t178 a0_1 (wrap64 (x17_1 + 1)) a0_0 a0_1 l0_2) else (none))) = some (r1, r2) := H
     have A10 := Aa.mk A100
     clear A100
     by_cases c11 : t181 = true
     ·subst c11
      have H1 : (Bq.l1 k1 x5_1 x6_1 a0_1 x17_1 (x6_1.length : Int) 0 a0_0 a0_1 l0_2) = some (r1, r2) := by rw [if_pos rfl] at H; exact H
      clear H
      have H := H1
      clear H1
      have H' := Aa.mk H
      clear H
      have hcz12_0 : wr.cell? ⟨gb173, 0, none⟩ = some (.int .i64 a0_0) := (Ae BK173.out 0).trans rfl
      have hcz12_1 : wr.cell? ⟨gb173, 1, none⟩ = some (.int .i64 a0_1) := (Ae BK173.out 1).trans rfl
      have hcz12_2 : wr.cell? ⟨gb173, 2, none⟩ = some (.slice A0_2 l0_2.length c0_2) := (Ae BK173.out 2).trans rfl
      have hfz12_0 := Ag BK173.out 0
      have hfz12_1 := Ag BK173.out 1
      have hfz12_2 := Ag BK173.out 2
      go_wp2_with (first | ((with_reducible refine Bn (f := 96) rfl ?_); refine Ca (some 22) rfl rfl Try.func96 (by kernel_rfl) rfl #[.agg #[.int .i64 a0_0, .int .i64 a0_1, .slice A0_2 l0_2.length c0_2], .int .i64 x17_1] rfl (by (try simp only [List.map_toArray, List.map_cons, List.map_nil]); first | done | rfl | (simp only [List.length_drop, List.length_take]; rfl)) ?_; (with_reducible refine (Bu.calls k1 a0_0 a0_1 _ _ l0_2 x17_1 t178 _ ?side1 ?side2 A9.out).mono ?_); (case side1 => repeat (first | exact (Kd.Ce HR0_2.out HB.out) | (with_reducible refine Kd.Bt ?_ _) | (with_reducible refine Kd.B3 ?_ _) | (with_reducible refine Kd.B8 ?_))); (case side2 => exact HC0_2.out); rintro e w13 ⟨v179, rfl, ho0, hb⟩; refine ⟨_, rfl, ?_⟩; have n0_ := Aa.mk (Kd.B0 (by exact rU <| HO_5.out) (Kd.Cd ho0) hb); have n1_ := Aa.mk (Kd.B0 (by exact rU <| HO_6.out) (Kd.Cd ho0) hb); have n2_ := Aa.mk (Kd.B6 (Kd.Cc (Kd.Cc ho0 (Kd.Cs (by exact rU <| HO_5.out))) (Kd.Cs (by exact rU <| HO_6.out))) (Ak (by repeat (first | (with_reducible first | exact HB.out | apply Ad | apply Ac | apply Ah | refine Af ?_ GE173.out) | exact HB.out)))); have n3_ := Aa.mk (An (g := gb173) (o := .cells #[.int .i64 a0_0, .int .i64 a0_1, .slice A0_2 l0_2.length c0_2] 50 (0, 0)) (by exact bU <| BK173.out) hb); have n4_ := Aa.mk (Ar (by repeat (first | (with_reducible first | exact HB.out | apply Ad | apply Ac | apply Ah | refine Af ?_ GE173.out) | exact HB.out)) hb); clear HO_5; clear HO_6; clear BK173; clear HB; have HO_5 := n0_; have HO_6 := n1_; have HO180 := n2_; have BK173 := n3_; have HB := n4_; clear n0_ n1_ n2_ n3_ n4_; (try clear hb); (try clear hb2); (try clear hk); (try clear hi); (try clear ho0); obtain ⟨Ao14, co14, eo14⟩ := Kd.Bz HO_6.out; subst eo14; obtain ⟨Ao15, co15, eo15⟩ := Kd.Bz HO180.out; subst eo15) | ((with_reducible refine Bn (f := 97) rfl ?_); refine Ca (some 25) rfl rfl Try.func97 (by kernel_rfl) rfl #[.slice Ao14 x6_1.length co14, .slice Ao15 t178.length co15] rfl (by (try simp only [List.map_toArray, List.map_cons, List.map_nil]); first | done | rfl | (simp only [List.length_drop, List.length_take]; rfl)) ?_; (with_reducible refine (B9.calls k1 _ _ x6_1 _ _ t178 true _ ?side1 ?side2 ?side3 ?side4 A10.out).mono ?_); (case side1 => repeat (first | exact (Kd.Aw HO_6.out).2.2 | (with_reducible refine Kd.Bt ?_ _) | (with_reducible refine Kd.B3 ?_ _) | (with_reducible refine Kd.B8 ?_))); (case side2 => exact (Kd.Aw HO_6.out).2.1); (case side3 => repeat (first | exact (Kd.Aw HO180.out).2.2 | (with_reducible refine Kd.Bt ?_ _) | (with_reducible refine Kd.B3 ?_ _) | (with_reducible refine Kd.B8 ?_))); (case side4 => exact (Kd.Aw HO180.out).2.1); rintro e w16 ⟨rfl, hb⟩; refine ⟨_, rfl, ?_⟩; have n0_ := Aa.mk (Kd.Au (by exact rU <| HO_5.out) hb); have n1_ := Aa.mk (Kd.Au (by exact rU <| HO_6.out) hb); have n2_ := Aa.mk (Kd.Au (by exact rU <| HO180.out) hb); have n3_ := Aa.mk (An (g := gb173) (o := .cells #[.int .i64 a0_0, .int .i64 a0_1, .slice A0_2 l0_2.length c0_2] 50 (0, 0)) (by exact bU <| BK173.out) hb); have n4_ := Aa.mk (Ar (by repeat (first | (with_reducible first | exact HB.out | apply Ad | apply Ac | apply Ah | refine Af ?_ GE173.out) | exact HB.out)) hb); clear HO_5; clear HO_6; clear HO180; clear BK173; clear HB; have HO_5 := n0_; have HO_6 := n1_; have HO180 := n2_; have BK173 := n3_; have HB := n4_; clear n0_ n1_ n2_ n3_ n4_; (try clear hb); (try clear hb2); (try clear hk); (try clear hi)))
      go_loopg [33] k1 (fun kq v33 w' => ∃ (x6_2 : List (S101)) (x33_2 : Int), v33 = .int .i64 x33_2 ∧ Aa (Bq.l1 kq x5_1 x6_2 a0_1 x17_1 (x6_1.length : Int) x33_2 a0_0 a0_1 l0_2 = some (r1, r2)) ∧ Aa (kq ≤ k1) ∧ Aa (Kd.R k101 101 w' w.heap.size (fun k_ => some k_ ≠ ((.slice Ao14 x6_1.length co14) : Value).ownBlock) u5 x5_1) ∧ Aa (Kd.R k101 101 w' w.heap.size (fun k_ => some k_ ≠ (u5 : Value).ownBlock) (.slice Ao14 x6_1.length co14) x6_2) ∧ Aa (w'.heap[gb173]? = some (.cells #[.int .i64 a0_0, .int .i64 a0_1, (.slice A0_2 l0_2.length c0_2)] 50 (0, 0))) ∧ Aa (Below w.heap.size w w'))
      case atStart => exact ⟨(x6_1), (0), (by first | rfl | (simp; done) | (simp [*]; done)), H', ⟨Nat.le_refl _⟩, ⟨by exact rU <| Kd.Bj HO_5.out (fun _ hk => hk.1)⟩, ⟨by exact rU <| Kd.Bj HO_6.out (fun _ hk => hk.1)⟩, ⟨by exact bU <| BK173.out⟩, ⟨by repeat (first | (with_reducible first | exact HB.out | apply Ad | apply Ac | apply Ah | refine Af ?_ GE173.out) | exact HB.out)⟩⟩
      case round =>
       clear H'
       try clear c1
       try clear p2
       try clear c3
       try clear c3b0
       try clear c3b1
       try clear c4
       try clear c5
       try clear p6
       try clear c8
       try clear c8b0
       try clear c9
       try clear c11
       try clear hcz12_0
       try clear hcz12_1
       try clear hcz12_2
       try clear hcz5_0
       try clear hcz5_1
       try clear hcz5_2
       try clear hcz7_0
       try clear hcz7_1
       try clear hcz7_2
       try clear hfz12_0
       try clear hfz12_1
       try clear hfz12_2
       try clear hfz5_0
       try clear hfz5_1
       try clear hfz5_2
       try clear hfz7_0
       try clear hfz7_1
       try clear hfz7_2
       try clear p2
       obtain ⟨x6_2, x33_2, rfl, HA, HK2, HO_5, HO_6, BK173, HB⟩ := hrel
       have hl6_2 := (Kd.Aw HO_6.out).1
       rw [hl6_2] at HO_6
       (try simp only [hl6_2])
       (try simp only [hl6_2] at BK173)
       (try simp only [hl6_2] at HO_5)
       cases gk with
       | zero => exact absurd HA.out (by simp [Bq.l1])
       | succ k2 =>
        have H := HA.out
        clear HA
        simp only [Bq.l1] at H
        by_cases c17 : x33_2 < (x6_1.length : Int)
        ·rw [if_pos c17] at H
         have c17b0 : decide (x33_2 < (x6_1.length : Int)) = true := decide_eq_true c17
         rw [hl6_2] at c17b0
         clear c17
         by_cases c18 : 0 ≤ x33_2
         ·rw [if_pos c18] at H
          have c18b0 : decide (0 ≤ x33_2) = true := decide_eq_true c18
          clear c18
          by_cases c19 : x33_2 < (x6_2.length : Int)
          ·rw [if_pos c19] at H
           have c19b0 : decide (x33_2 < (x6_2.length : Int)) = true := decide_eq_true c19
           clear c19
           obtain ⟨y186, hy186⟩ : ∃ y_ : List (S101), y_ = (x6_2.set (x33_2 : Int).toNat (⟨(rd_T101 x6_2 x33_2).f0, (rd_T101 x6_2 x33_2).f1, (rd_T101 x6_2 x33_2).f2, wrap64 (((rd_T101 x6_2 x33_2).f3) + 1)⟩ : S101)) := ⟨_, rfl⟩
           replace H : (Bq.l1 k2 x5_1 y186 a0_1 x17_1 (x6_1.length : Int) (wrap64 (x33_2 + 1)) a0_0 a0_1 l0_2) = some (r1, r2) := by first | (rw [hy186]; with_reducible exact H) | (have H2_ := (Option.bind_some _ _).symm.trans H; rw [hy186]; with_reducible exact H2_) | (have H2_ := (Option.bind_some _ _).symm.trans H; with_reducible exact H2_) | with_reducible exact H | (rw [hy186]; exact H) | exact H
           have Ny186 := Aa.mk hy186
           clear hy186
           have H' := Aa.mk H
           clear H
           have p185 : 0 ≤ (x33_2 : Int) := of_decide_eq_true (by first | (with_reducible assumption) | assumption)
           have q185 : x33_2 < (x6_2.length : Int) := of_decide_eq_true (by first | (with_reducible assumption) | assumption)
           obtain ⟨ad185, e185, hx185_0, hx185_1, hx185_2, hx185_3⟩ := at_T101 (Kd.Aw HO_6.out).2.2 x33_2 p185 q185
           cases e185
           replace p185 := eq_true p185
           replace q185 := eq_true q185
           have p20 : 0 ≤ (x33_2 : Int) := of_decide_eq_true (by first | (with_reducible assumption) | assumption)
           have q20 : (x33_2 : Int) < ((x6_2.length : Int) : Int) := of_decide_eq_true (by first | (with_reducible assumption) | assumption)
           obtain ⟨go20, co20, eo20, gb20, gl20, cl20, HG20⟩ := Kd.Df HO_6.out (by omega)
           (first | cases eo20 | (injection eo20 with ea_ en_ ec_; (first | subst ea_ | (injection ea_ with ea_; subst ea_)); subst ec_; clear en_))
           have GB20 := Aa.mk gb20
           have GG20 := Aa.mk HG20
           clear gb20 gl20 HG20
           (first | simp only [add_plain] at hx185_0 | skip)
           (first | simp only [add_plain] at hx185_1 | skip)
           (first | simp only [add_plain] at hx185_2 | skip)
           (first | simp only [add_plain] at hx185_3 | skip)
           obtain ⟨ce20, hcl20, hM20, hcc20, hfr20⟩ := Kd.R_elem HO_6.out z101 (x33_2 : Int) p20 q20
           obtain rfl := k101_openM hM20
           have hx20_0 : wr.cell? ⟨go20, (x33_2 : Int).toNat * 4, none⟩ = some (.int .i64 ((rd_T101 x6_2 x33_2).f0)) := hcc20 0 _ rfl
           have hx20_1 : wr.cell? ⟨go20, (x33_2 : Int).toNat * 4 + 1, none⟩ = some (.int .i64 ((rd_T101 x6_2 x33_2).f1)) := hcc20 1 _ rfl
           have hx20_2 : wr.cell? ⟨go20, (x33_2 : Int).toNat * 4 + 2, none⟩ = some (.int .i64 ((rd_T101 x6_2 x33_2).f2)) := hcc20 2 _ rfl
           have hx20_3 : wr.cell? ⟨go20, (x33_2 : Int).toNat * 4 + 3, none⟩ = some (.int .i64 ((rd_T101 x6_2 x33_2).f3)) := hcc20 3 _ rfl
           have hf20_0 : wr.frozen? ⟨go20, (x33_2 : Int).toNat * 4, none⟩ = false := hfr20 0
           have hf20_1 : wr.frozen? ⟨go20, (x33_2 : Int).toNat * 4 + 1, none⟩ = false := hfr20 1
           have hf20_2 : wr.frozen? ⟨go20, (x33_2 : Int).toNat * 4 + 2, none⟩ = false := hfr20 2
           have hf20_3 : wr.frozen? ⟨go20, (x33_2 : Int).toNat * 4 + 3, none⟩ = false := hfr20 3
           clear hcl20 hcc20 hfr20 hM20
           replace p20 := eq_true p20
           replace q20 := eq_true q20
           have HX21 := Aa.mk (show Kd.R k101 101 wr w.heap.size (fun k_ => some k_ ≠ (u5 : Value).ownBlock) (.slice (some ⟨go20, 0, none⟩) x6_2.length co14) x6_2 from (by exact rU <| HO_6.out))
           obtain ⟨ce21, hcl21, hM21, hcc21, hfr21⟩ := Kd.R_elem HX21.out z101 (x33_2 : Int) (of_decide_eq_true (by first | (with_reducible assumption) | assumption)) (by have h_ : (x33_2 : Int) < ((x6_2.length : Int) : Int) := of_decide_eq_true (by first | (with_reducible assumption) | assumption); first | exact h_ | (have e_ := (Kd.Aw HO_6.out).1; omega) | simpa using h_)
           obtain rfl := k101_openM hM21
           have HP21 := Kd.R_seg HX21.out (x33_2 : Int) (of_decide_eq_true (by first | (with_reducible assumption) | assumption)) (by have h_ : (x33_2 : Int) < ((x6_2.length : Int) : Int) := of_decide_eq_true (by first | (with_reducible assumption) | assumption); first | exact h_ | (have e_ := (Kd.Aw HO_6.out).1; omega) | simpa using h_) (seg := [.int .i64 (wrap64 (((rd_T101 x6_2 x33_2).f3) + 1))]) (j := 3) hcl21 hcc21 (show 4 ≤ 4 from by decide) (x' := (⟨(rd_T101 x6_2 x33_2).f0, (rd_T101 x6_2 x33_2).f1, (rd_T101 x6_2 x33_2).f2, wrap64 (((rd_T101 x6_2 x33_2).f3) + 1)⟩ : S101)) (k101_mkM _ _ _ (⟨(rd_T101 x6_2 x33_2).f0, (rd_T101 x6_2 x33_2).f1, (rd_T101 x6_2 x33_2).f2, wrap64 (((rd_T101 x6_2 x33_2).f3) + 1)⟩ : S101) ) (fun _ hk => hk)
           have hx21_3 := hcc21 3 _ rfl
           (try simp only [show (k101).sz = 4 from rfl, Nat.mul_one, Nat.add_zero] at hx21_3)
           have hf21_3 := hfr21 3
           (try simp only [show (k101).sz = 4 from rfl, Nat.mul_one, Nat.add_zero] at hf21_3)
           clear hcl21 hcc21 hfr21 hM21
           go_wp2_with (((with_reducible refine Cq (t := 3) (p := 43) rfl ?_); refine store_event (t := 3) (p := 43) (v := ?vo_w22) (w1 := (wr.setCell ⟨go20, (x33_2 : Int).toNat * 4 + 3, none⟩ (.int .i64 (wrap64 (((rd_T101 x6_2 x33_2).f3) + 1))))) ?hg ?ho ?hn ?hr ?_; (case ho => rfl); (case hg => rfl); (case hn => rfl); (case hr => first | (go_simp; done) | (go_simp; rfl)); intro w22 hw; have hg : wr.grownBy w22 (some go20) := (by rw [hw]; exact HP21.2); have hp_ : Kd.R k101 101 w22 w.heap.size (fun k_ => some k_ ≠ (u5 : Value).ownBlock) (.slice (some ⟨go20, 0, none⟩) x6_2.length co14) y186 := (by rw [hw, Ny186.out]; exact HP21.1); clear HP21; have n0_ := Aa.mk (Kd.C4 (v := (.slice (some ⟨go20, 0, none⟩) x6_2.length co14)) (v1 := (.slice (some ⟨go20, 0, none⟩) x6_2.length co14)) (ok := (fun _ => True)) (by exact rU <| Kd.Bj HO_5.out (fun _ hk => ⟨trivial, hk⟩)) hg (.inl rfl)); have n1_ := Aa.mk (hp_); have n2_ := Aa.mk (Bs (g := gb173) (o := .cells #[.int .i64 a0_0, .int .i64 a0_1, .slice A0_2 l0_2.length c0_2] 50 (0, 0)) (by exact bU <| BK173.out) hg (Kd.Db HO_6.out BK173.out (by decide))); have n3_ := Aa.mk ((by rw [hw]; exact Af (HB.out) GB20.out : Below w.heap.size w w22)); clear HO_5; clear HO_6; clear BK173; clear HB; have HO_5 := n0_; have HO_6 := n1_; have BK173 := n2_; have HB := n3_; clear n0_ n1_ n2_ n3_; clear hg hw hp_))
           (try simp only [← hl6_2])
           go_roundg k2
           case measure => have := HK1.out; have := HK2.out; omega
           case rel => exact ⟨(y186), (wrap64 (x33_2 + 1)), (by first | rfl | (simp; done) | (simp [*]; done)), H', ⟨by have := HK1.out; have := HK2.out; omega⟩, ⟨by (try simp only [hl6_2]); exact rU <| Kd.Bj HO_5.out (fun _ hk => hk.2)⟩, ⟨by (try simp only [hl6_2]); exact rU <| HO_6.out⟩, ⟨by (try simp only [hl6_2]); exact bU <| BK173.out⟩, ⟨by repeat (first | (with_reducible first | exact HB.out | apply Ad | apply Ac | apply Ah | refine Af ?_ GE173.out) | exact HB.out)⟩⟩
          ·rw [if_neg c19] at H
           exact absurd H (by simp)
         ·rw [if_neg c18] at H
          exact absurd H (by simp)
        ·rw [if_neg c17] at H
         have c17b0 : decide (x33_2 < (x6_1.length : Int)) = false := decide_eq_false c17
         rw [hl6_2] at c17b0
         clear c17
         have H' := Aa.mk H
         clear H
         go_wp2
         (try simp only [← hl6_2])
         go_roundg k2
         case measure => have := HK1.out; have := HK2.out; omega
         case rel => exact ⟨(x5_1), (x6_2), (wrap64 (x17_1 + 1)), (by first | rfl | (simp; done) | (simp [*]; done)), H', ⟨by have := HK1.out; have := HK2.out; omega⟩, ⟨by (try simp only [hl6_2]); exact rU <| HO_5.out⟩, ⟨by (try simp only [hl6_2]); exact rU <| HO_6.out⟩, ⟨by (try simp only [hl6_2]); exact bU <| BK173.out⟩, ⟨by repeat (first | (with_reducible first | exact HB.out | apply Ad | apply Ac | apply Ah | refine Af ?_ GE173.out) | exact HB.out)⟩⟩
     ·replace c11 := Bool.eq_false_iff.mpr c11
      subst c11
      have H1 : (if x5_1.length + x6_1.length < 4398046511104 then (Bq.l0 k1 (x5_1 ++ x6_1) t178 a0_1 (wrap64 (x17_1 + 1)) a0_0 a0_1 l0_2) else (none)) = some (r1, r2) := by rw [if_neg (show ¬ (false = true) by decide)] at H; exact H
      clear H
      have H := H1
      clear H1
      by_cases c23 : x5_1.length + x6_1.length < 4398046511104
      ·rw [if_pos c23] at H
       have LMc23 := Aa.mk c23
       clear c23
       obtain ⟨y182, hy182⟩ : ∃ y_ : List (S101), y_ = (x5_1 ++ x6_1) := ⟨_, rfl⟩
       replace H : (Bq.l0 k1 y182 t178 a0_1 (wrap64 (x17_1 + 1)) a0_0 a0_1 l0_2) = some (r1, r2) := by first | (rw [hy182]; with_reducible exact H) | (have H2_ := (Option.bind_some _ _).symm.trans H; rw [hy182]; with_reducible exact H2_) | (have H2_ := (Option.bind_some _ _).symm.trans H; with_reducible exact H2_) | with_reducible exact H | (rw [hy182]; exact H) | exact H
       have Ny182 := Aa.mk hy182
       clear hy182
       have H' := Aa.mk H
       clear H
       have hcz24_0 : wr.cell? ⟨gb173, 0, none⟩ = some (.int .i64 a0_0) := (Ae BK173.out 0).trans rfl
       have hcz24_1 : wr.cell? ⟨gb173, 1, none⟩ = some (.int .i64 a0_1) := (Ae BK173.out 1).trans rfl
       have hcz24_2 : wr.cell? ⟨gb173, 2, none⟩ = some (.slice A0_2 l0_2.length c0_2) := (Ae BK173.out 2).trans rfl
       have hfz24_0 := Ag BK173.out 0
       have hfz24_1 := Ag BK173.out 1
       have hfz24_2 := Ag BK173.out 2
       go_wp2_with (first | ((with_reducible refine Bn (f := 96) rfl ?_); refine Ca (some 22) rfl rfl Try.func96 (by kernel_rfl) rfl #[.agg #[.int .i64 a0_0, .int .i64 a0_1, .slice A0_2 l0_2.length c0_2], .int .i64 x17_1] rfl (by (try simp only [List.map_toArray, List.map_cons, List.map_nil]); first | done | rfl | (simp only [List.length_drop, List.length_take]; rfl)) ?_; (with_reducible refine (Bu.calls k1 a0_0 a0_1 _ _ l0_2 x17_1 t178 _ ?side1 ?side2 A9.out).mono ?_); (case side1 => repeat (first | exact (Kd.Ce HR0_2.out HB.out) | (with_reducible refine Kd.Bt ?_ _) | (with_reducible refine Kd.B3 ?_ _) | (with_reducible refine Kd.B8 ?_))); (case side2 => exact HC0_2.out); rintro e w25 ⟨v179, rfl, ho0, hb⟩; refine ⟨_, rfl, ?_⟩; have n0_ := Aa.mk (Kd.B0 (by exact rU <| HO_5.out) (Kd.Cd ho0) hb); have n1_ := Aa.mk (Kd.B0 (by exact rU <| HO_6.out) (Kd.Cd ho0) hb); have n2_ := Aa.mk (Kd.B6 (Kd.Cc (Kd.Cc ho0 (Kd.Cs (by exact rU <| HO_5.out))) (Kd.Cs (by exact rU <| HO_6.out))) (Ak (by repeat (first | (with_reducible first | exact HB.out | apply Ad | apply Ac | apply Ah | refine Af ?_ GE173.out) | exact HB.out)))); have n3_ := Aa.mk (An (g := gb173) (o := .cells #[.int .i64 a0_0, .int .i64 a0_1, .slice A0_2 l0_2.length c0_2] 50 (0, 0)) (by exact bU <| BK173.out) hb); have n4_ := Aa.mk (Ar (by repeat (first | (with_reducible first | exact HB.out | apply Ad | apply Ac | apply Ah | refine Af ?_ GE173.out) | exact HB.out)) hb); clear HO_5; clear HO_6; clear BK173; clear HB; have HO_5 := n0_; have HO_6 := n1_; have HO180 := n2_; have BK173 := n3_; have HB := n4_; clear n0_ n1_ n2_ n3_ n4_; (try clear hb); (try clear hb2); (try clear hk); (try clear hi); (try clear ho0); obtain ⟨Ao26, co26, eo26⟩ := Kd.Bz HO_6.out; subst eo26; obtain ⟨Ao27, co27, eo27⟩ := Kd.Bz HO180.out; subst eo27) | ((with_reducible refine Bn (f := 97) rfl ?_); refine Ca (some 25) rfl rfl Try.func97 (by kernel_rfl) rfl #[.slice Ao26 x6_1.length co26, .slice Ao27 t178.length co27] rfl (by (try simp only [List.map_toArray, List.map_cons, List.map_nil]); first | done | rfl | (simp only [List.length_drop, List.length_take]; rfl)) ?_; (with_reducible refine (B9.calls k1 _ _ x6_1 _ _ t178 false _ ?side1 ?side2 ?side3 ?side4 A10.out).mono ?_); (case side1 => repeat (first | exact (Kd.Aw HO_6.out).2.2 | (with_reducible refine Kd.Bt ?_ _) | (with_reducible refine Kd.B3 ?_ _) | (with_reducible refine Kd.B8 ?_))); (case side2 => exact (Kd.Aw HO_6.out).2.1); (case side3 => repeat (first | exact (Kd.Aw HO180.out).2.2 | (with_reducible refine Kd.Bt ?_ _) | (with_reducible refine Kd.B3 ?_ _) | (with_reducible refine Kd.B8 ?_))); (case side4 => exact (Kd.Aw HO180.out).2.1); rintro e w28 ⟨rfl, hb⟩; refine ⟨_, rfl, ?_⟩; have n0_ := Aa.mk (Kd.Au (by exact rU <| HO_5.out) hb); have n1_ := Aa.mk (Kd.Au (by exact rU <| HO_6.out) hb); have n2_ := Aa.mk (Kd.Au (by exact rU <| HO180.out) hb); have n3_ := Aa.mk (An (g := gb173) (o := .cells #[.int .i64 a0_0, .int .i64 a0_1, .slice A0_2 l0_2.length c0_2] 50 (0, 0)) (by exact bU <| BK173.out) hb); have n4_ := Aa.mk (Ar (by repeat (first | (with_reducible first | exact HB.out | apply Ad | apply Ac | apply Ah | refine Af ?_ GE173.out) | exact HB.out)) hb); clear HO_5; clear HO_6; clear HO180; clear BK173; clear HB; have HO_5 := n0_; have HO_6 := n1_; have HO180 := n2_; have BK173 := n3_; have HB := n4_; clear n0_ n1_ n2_ n3_ n4_; (try clear hb); (try clear hb2); (try clear hk); (try clear hi)) | ((with_reducible refine Cf (b := .append) (xs := #[.tmp 27, .tmp 28]) rfl ?_); at_builtin; refine Kd.R_append_rows k101 (w0 := w) w.heap.size rfl (.tmp 27) (.tmp 28) 96 101 (.agg #[(.int .i64 0), (.int .i64 0), (.int .i64 0), (.int .i64 0)]) 32 rfl Try.underlying96 info101 rfl (by decide) (by omega) u5 x5_1 x6_1 _ _ _ (fun k_ => some k_ ≠ (.slice Ao26 x6_1.length co26 : Value).ownBlock ∧ some k_ ≠ (.slice Ao27 t178.length co27 : Value).ownBlock) (fun _ => False) rfl rfl ?aO ?aR (fun _ _ h => h) (fun _ h => h.elim) ?aF ?aB ?aS ?aL ?_; (case aR => repeat (first | exact (Kd.Aw HO_6.out).2.2 | (with_reducible refine Kd.Bt ?_ _) | (with_reducible refine Kd.B3 ?_ _) | (with_reducible refine Kd.B8 ?_))); (case aB => exact (by repeat (first | (with_reducible first | exact HB.out | apply Ad | apply Ac | apply Ah | refine Af ?_ GE173.out) | exact HB.out))); (case aF => exact (fun k_ hk => ⟨Kd.fresh' (Kd.Cs (by exact rU <| HO_6.out)) k_ hk, Kd.fresh' (Kd.Cs (by exact rU <| HO180.out)) k_ hk⟩)); (case aO => exact (by exact rU <| HO_5.out)); (case aS => exact (Ak (by repeat (first | (with_reducible first | exact HB.out | apply Ad | apply Ac | apply Ah | refine Af ?_ GE173.out) | exact HB.out)))); (case aL => have := LMc23.out; omega); intro v183 w29 ho hb hg hat; rw [← Ny182.out] at ho; have n0_ := Aa.mk (Kd.C4 (ok := (fun k_ => some k_ ≠ (.slice Ao27 t178.length co27 : Value).ownBlock)) (by exact rU <| Kd.Bj HO_6.out (fun _ hk => ⟨hk.2, hk.1⟩)) hg hat); have n1_ := Aa.mk (Bs (g := gb173) (o := .cells #[.int .i64 a0_0, .int .i64 a0_1, .slice A0_2 l0_2.length c0_2] 50 (0, 0)) (by exact bU <| BK173.out) hg (Kd.Db HO_5.out BK173.out (by decide))); have n2_ := Aa.mk (Kd.C4 (ok := (fun k_ => some k_ ≠ (.slice Ao26 x6_1.length co26 : Value).ownBlock)) (by exact rU <| Kd.Bj HO180.out (fun _ hk => ⟨hk.2, hk.1.2⟩)) hg hat); have n3_ := Aa.mk (hb); have n4_ := Aa.mk (ho); clear HO_6; clear BK173; clear HO180; clear HB; clear HO_5; have HO_6 := n0_; have BK173 := n1_; have HO180 := n2_; have HB := n3_; have HO184 := n4_; clear n0_ n1_ n2_ n3_ n4_; clear ho hb hg hat))
       go_roundg k1
       case measure => have := HK1.out; omega
       case rel => exact ⟨(y182), (t178), (wrap64 (x17_1 + 1)), (by first | rfl | (simp; done) | (simp [*]; done)), H', ⟨by have := HK1.out; omega⟩, ⟨by exact rU <| Kd.Bj HO184.out (fun _ hk => hk.2)⟩, ⟨by exact rU <| Kd.Bj HO180.out (fun _ hk => hk.2)⟩, ⟨by exact bU <| BK173.out⟩, ⟨by repeat (first | (with_reducible first | exact HB.out | apply Ad | apply Ac | apply Ah | refine Af ?_ GE173.out) | exact HB.out)⟩⟩
      ·rw [if_neg c23] at H
       exact absurd H (by simp)
    ·rw [if_neg c8] at H
     have c8b0 : decide (x17_1 < a0_1) = false := decide_eq_false c8
     clear c8
     by_cases c30 : x5_1.length + x6_1.length < 4398046511104
     ·rw [if_pos c30] at H
      have LMc30 := Aa.mk c30
      clear c30
      obtain ⟨y175, hy175⟩ : ∃ y_ : List (S101), y_ = (x5_1 ++ x6_1) := ⟨_, rfl⟩
      replace H : (some (y175, 0)) = some (r1, r2) := by first | (rw [hy175]; with_reducible exact H) | (have H2_ := (Option.bind_some _ _).symm.trans H; rw [hy175]; with_reducible exact H2_) | (have H2_ := (Option.bind_some _ _).symm.trans H; with_reducible exact H2_) | with_reducible exact H | (rw [hy175]; exact H) | exact H
      have Ny175 := Aa.mk hy175
      clear hy175
      simp only [Option.some.injEq, Prod.mk.injEq] at H
      obtain ⟨rfl, rfl⟩ := H
      obtain ⟨Ao32, co32, eo32⟩ := Kd.Bz HO_6.out
      subst eo32
      go_wp2_with (((with_reducible refine Cf (b := .append) (xs := #[.tmp 46, .tmp 47]) rfl ?_); at_builtin; refine Kd.R_append_rows k101 (w0 := w) w.heap.size rfl (.tmp 46) (.tmp 47) 96 101 (.agg #[(.int .i64 0), (.int .i64 0), (.int .i64 0), (.int .i64 0)]) 32 rfl Try.underlying96 info101 rfl (by decide) (by omega) u5 x5_1 x6_1 _ _ _ (fun k_ => some k_ ≠ (.slice Ao32 x6_1.length co32 : Value).ownBlock) (fun _ => False) rfl rfl ?aO ?aR (fun _ _ h => h) (fun _ h => h.elim) ?aF ?aB ?aS ?aL ?_; (case aR => repeat (first | exact (Kd.Aw HO_6.out).2.2 | (with_reducible refine Kd.Bt ?_ _) | (with_reducible refine Kd.B3 ?_ _) | (with_reducible refine Kd.B8 ?_))); (case aB => exact (by repeat (first | (with_reducible first | exact HB.out | apply Ad | apply Ac | apply Ah | refine Af ?_ GE173.out) | exact HB.out))); (case aF => exact (fun k_ hk => Kd.fresh' (Kd.Cs (by exact rU <| HO_6.out)) k_ hk)); (case aO => exact (by exact rU <| HO_5.out)); (case aS => exact (Ak (by repeat (first | (with_reducible first | exact HB.out | apply Ad | apply Ac | apply Ah | refine Af ?_ GE173.out) | exact HB.out)))); (case aL => have := LMc30.out; omega); intro v176 w31 ho hb hg hat; rw [← Ny175.out] at ho; have n0_ := Aa.mk (Kd.C4 (ok := (fun _ => True)) (by exact rU <| Kd.Bj HO_6.out (fun _ hk => ⟨trivial, hk⟩)) hg hat); have n1_ := Aa.mk (Bs (g := gb173) (o := .cells #[.int .i64 a0_0, .int .i64 a0_1, .slice A0_2 l0_2.length c0_2] 50 (0, 0)) (by exact bU <| BK173.out) hg (Kd.Db HO_5.out BK173.out (by decide))); have n2_ := Aa.mk (hb); have n3_ := Aa.mk (ho); clear HO_6; clear BK173; clear HB; clear HO_5; have HO_6 := n0_; have BK173 := n1_; have HB := n2_; have HO177 := n3_; clear n0_ n1_ n2_ n3_; clear ho hb hg hat))
      go_ret2
      exact ⟨_, by first | rfl | (simp [Az, Ba] <;> rfl) | (simp [*, Az, Ba] <;> rfl), by exact rU <| Kd.Bj HO177.out (fun _ hk => trivial), by repeat (first | (with_reducible first | exact HB.out | apply Ad | apply Ac | apply Ah | refine Af ?_ GE173.out) | exact HB.out)⟩
     ·rw [if_neg c30] at H
      exact absurd H (by simp)
 ·rw [if_neg c3] at H
  have c3b0 : (t174 == 0) = false := beq_eq_false_iff_ne.mpr c3
  have c3b1 : (t174 != 0) = true := bne_iff_ne.mpr c3
  simp only [Option.some.injEq, Prod.mk.injEq] at H
  obtain ⟨rfl, rfl⟩ := H
  go_enter Try.func59, Try.ntmps59
  go_wp2_with (first | ((with_reducible refine Bk (N := 1) rfl ?_); refine Bp ?hg (N := 1) ?hd (cs := #[.int .i64 a0_0, .int .i64 a0_1, .slice A0_2 l0_2.length c0_2]) (t := 50) ?hr ?_; (case hd => rfl); (case hg => rfl); (case hr => first | (go_simp; done) | (go_simp; rfl)); intro gb173 hg w33 hbox hb; have n0_ := Aa.mk (Ar (lU HB.out) hb); have n1_ := Aa.mk (hbox); have n2_ := Aa.mk ((by rw [hg]; exact (Ak (lU HB.out)) : w.heap.size ≤ gb173)); have n3_ := Aa.mk ((by rw [hg]; exact (Ak (lU HB.out)) : w.heap.size ≤ gb173)); clear HB; have HB := n0_; have BK173 := n1_; have GW173 := n2_; have GE173 := n3_; clear n0_ n1_ n2_ n3_; clear hb hbox hg; have hcz34_0 : w33.cell? ⟨gb173, 0, none⟩ = some (.int .i64 a0_0) := (Ae BK173.out 0).trans rfl; have hcz34_1 : w33.cell? ⟨gb173, 1, none⟩ = some (.int .i64 a0_1) := (Ae BK173.out 1).trans rfl; have hcz34_2 : w33.cell? ⟨gb173, 2, none⟩ = some (.slice A0_2 l0_2.length c0_2) := (Ae BK173.out 2).trans rfl; have hfz34_0 := Ag BK173.out 0; have hfz34_1 := Ag BK173.out 1; have hfz34_2 := Ag BK173.out 2) | ((with_reducible refine Bn (f := 46) rfl ?_); refine Ca (some 11) rfl rfl Try.func46 (by kernel_rfl) rfl #[.agg #[.int .i64 a0_0, .int .i64 a0_1, .slice A0_2 l0_2.length c0_2]] rfl (by (try simp only [List.map_toArray, List.map_cons, List.map_nil]); first | done | rfl | (simp only [List.length_drop, List.length_take]; rfl)) ?_; (with_reducible refine (Cp.calls a0_0 a0_1 _ _ l0_2 t174 _ ?side1 ?side2 A2.out).mono ?_); (case side1 => repeat (first | exact (Kd.Ce HR0_2.out HB.out) | (with_reducible refine Kd.Bt ?_ _) | (with_reducible refine Kd.B3 ?_ _) | (with_reducible refine Kd.B8 ?_))); (case side2 => exact HC0_2.out); rintro e w35 ⟨rfl, hb⟩; refine ⟨_, rfl, ?_⟩; have n0_ := Aa.mk (An (g := gb173) (o := .cells #[.int .i64 a0_0, .int .i64 a0_1, .slice A0_2 l0_2.length c0_2] 50 (0, 0)) (by exact bU <| BK173.out) hb); have n1_ := Aa.mk (Ar (by repeat (first | (with_reducible first | exact HB.out | apply Ad | apply Ac | apply Ah | refine Af ?_ GE173.out) | exact HB.out)) hb); clear BK173; clear HB; have BK173 := n0_; have HB := n1_; clear n0_ n1_; (try clear hb); (try clear hb2); (try clear hk); (try clear hi)))
  go_ret2
  exact ⟨_, by first | rfl | (simp [Az, Ba] <;> rfl) | (simp [*, Az, Ba] <;> rfl), by first | exact Kd.Cu _ _ _ _ _ | exact Kd.N_nil _ _ _ _ _ | exact Kd.V_nil _ _ _ _ _ | exact Kd.Q_nil _ _ _ _ _ | exact Kd.S_nil _ _ _ _ _, by repeat (first | (with_reducible first | exact HB.out | apply Ad | apply Ac | apply Ah | refine Af ?_ GE173.out) | exact HB.out)⟩

def Bh.l0 : Nat → List (S101) → List (S101) → Int → Option (Bool)
 | 0, _, _, _ => none
 | k + 1, x0, x1, x5 => if x5 < (x0.length : Int) then (if 0 ≤ x5 then (if x5 < (x1.length : Int) then (if (!(((rd_T101 x0 x5).f0) == ((rd_T101 x1 x5).f0)) || (!(((rd_T101 x0 x5).f1) == ((rd_T101 x1 x5).f1)) || (!(((rd_T101 x0 x5).f2) == ((rd_T101 x1 x5).f2)) || (!(((rd_T101 x0 x5).f3) == ((rd_T101 x1 x5).f3)))))) = true then (some false) else (Bh.l0 k x0 x1 (wrap64 (x5 + 1)))) else (none)) else (none)) else (some true)
def Bh.f (k : Nat) (l0 : List (S101)) (l1 : List (S101)) : Option (Bool) := if (l0.length : Int) = (l1.length : Int) then (Bh.l0 k l0 l1 0) else (some false)
theorem Bh.mono_l : ∀ k, (∀ y0 y1 y2, LeO (Bh.l0 k y0 y1 y2) (Bh.l0 (k + 1) y0 y1 y2))
 | 0 => fun _ _ _ r h => by simp [Bh.l0] at h
 | k + 1 => by
  have ih0 := Bh.mono_l k
  ·intro y0 y1 y2
   unfold Bh.l0
   repeat' first
   | (with_reducible exact ih0 _ _ _)
   | (with_reducible exact LeO.refl _)
   | (with_reducible exact LeO.none _)
   | (with_reducible refine LeO.ite ?_ ?_)
   | (with_reducible refine LeO.bind ?_ (fun _ => ?_))
   | exact ih0 _ _ _
   | exact LeO.none _
   | refine LeO.ite ?_ ?_
   | refine LeO.bind ?_ (fun _ => ?_)
theorem Bh.mono : ∀ a0 a1 k, LeO (Bh.f k a0 a1) (Bh.f (k + 1) a0 a1) := by
 intro a0 a1 k
 have ih0 := Bh.mono_l k
 unfold Bh.f
 repeat' first
   | (with_reducible exact ih0 _ _ _)
   | (with_reducible exact LeO.refl _)
   | (with_reducible exact LeO.none _)
   | (with_reducible refine LeO.ite ?_ ?_)
   | (with_reducible refine LeO.bind ?_ (fun _ => ?_))
   | exact ih0 _ _ _
   | exact LeO.none _
   | refine LeO.ite ?_ ?_
   | refine LeO.bind ?_ (fun _ => ?_)
set_option maxHeartbeats 8000000 in
set_option maxRecDepth 100000 in
theorem Bh.calls (k : Nat) (A0 : Option Addr) (c0 : Nat) (l0 : List (S101)) (A1 : Option Addr) (c1 : Nat) (l1 : List (S101)) (r : Bool) (w : World) (hr0 : Kd.C k101 w A0 l0.length l0) (hc0 : l0.length ≤ c0) (hr1 : Kd.C k101 w A1 l1.length l1) (hc1 : l1.length ≤ c1) (h : Bh.f k l0 l1 = some r) :
  Calls Try.prog 60 #[.slice A0 l0.length c0, .slice A1 l1.length c1] w fun e w' => e = .returned (.bool r) ∧ Drawn0 w w' := by
 have hu101 := Try.underlying101
 have HR0 := Aa.mk hr0
 have HC0 := Aa.mk hc0
 clear hr0 hc0
 have HR1 := Aa.mk hr1
 have HC1 := Aa.mk hc1
 clear hr1 hc1
 have H : (if (l0.length : Int) = (l1.length : Int) then (Bh.l0 k l0 l1 0) else (some false)) = some r := h
 clear h
 by_cases c3 : (l0.length : Int) = (l1.length : Int)
 ·rw [if_pos c3] at H
  have c3b0 : ((l0.length : Int) == (l1.length : Int)) = true := beq_iff_eq.mpr c3
  have c3b1 : ((l0.length : Int) != (l1.length : Int)) = false := bne_eq_false_iff_eq.mpr c3
  have c3b2 : (l0.length == l1.length) = true := by first | simpa using c3 | (simp at c3 ⊢; omega)
  clear c3
  have H' := Aa.mk H
  clear H
  go_enter Try.func60, Try.ntmps60
  go_wp2
  repeat (go_quiet (fail); try go_wp2)
  go_loopg [5] k (fun kq v5 w' => ∃ (x5_1 : Int), v5 = .int .i64 x5_1 ∧ Aa (Bh.l0 kq l0 l1 x5_1 = some r) ∧ Aa (kq ≤ k) ∧ Drawn0 w w')
  case atStart => exact ⟨(0), (by first | rfl | (simp; done) | (simp [*]; done)), H', ⟨Nat.le_refl _⟩, by repeat (first | exact Drawn0.refl _ | apply Drawn0.step)⟩
  case round =>
   clear H'
   try clear c1
   try clear p2
   try clear c3
   try clear c3b0
   try clear c3b1
   try clear c3b2
   obtain ⟨x5_1, rfl, HA, HK1, ⟨m1, rfl⟩⟩ := hrel
   cases gk with
   | zero => exact absurd HA.out (by simp [Bh.l0])
   | succ k1 =>
    have H := HA.out
    clear HA
    simp only [Bh.l0] at H
    by_cases c4 : x5_1 < (l0.length : Int)
    ·rw [if_pos c4] at H
     have c4b0 : decide (x5_1 < (l0.length : Int)) = true := decide_eq_true c4
     clear c4
     by_cases c5 : 0 ≤ x5_1
     ·rw [if_pos c5] at H
      have c5b0 : decide (0 ≤ x5_1) = true := decide_eq_true c5
      clear c5
      by_cases c6 : x5_1 < (l1.length : Int)
      ·rw [if_pos c6] at H
       have c6b0 : decide (x5_1 < (l1.length : Int)) = true := decide_eq_true c6
       clear c6
       by_cases c7 : (!(((rd_T101 l0 x5_1).f0) == ((rd_T101 l1 x5_1).f0)) || (!(((rd_T101 l0 x5_1).f1) == ((rd_T101 l1 x5_1).f1)) || (!(((rd_T101 l0 x5_1).f2) == ((rd_T101 l1 x5_1).f2)) || (!(((rd_T101 l0 x5_1).f3) == ((rd_T101 l1 x5_1).f3)))))) = true
       ·rw [if_pos c7] at H
        have c7b0 : (!(((rd_T101 l0 x5_1).f0) == ((rd_T101 l1 x5_1).f0)) || (!(((rd_T101 l0 x5_1).f1) == ((rd_T101 l1 x5_1).f1)) || (!(((rd_T101 l0 x5_1).f2) == ((rd_T101 l1 x5_1).f2)) || (!(((rd_T101 l0 x5_1).f3) == ((rd_T101 l1 x5_1).f3)))))) = true := c7
        clear c7
        obtain rfl := Option.some.inj H
        have p187 : 0 ≤ (x5_1 : Int) := of_decide_eq_true (by first | (with_reducible assumption) | assumption)
        have q187 : x5_1 < (l0.length : Int) := of_decide_eq_true (by first | (with_reducible assumption) | assumption)
        obtain ⟨ad187, e187, hx187_0, hx187_1, hx187_2, hx187_3⟩ := at_T101 HR0.out x5_1 p187 q187
        cases e187
        replace p187 := eq_true p187
        replace q187 := eq_true q187
        have p188 : 0 ≤ (x5_1 : Int) := of_decide_eq_true (by first | (with_reducible assumption) | assumption)
        have q188 : x5_1 < (l1.length : Int) := of_decide_eq_true (by first | (with_reducible assumption) | assumption)
        obtain ⟨ad188, e188, hx188_0, hx188_1, hx188_2, hx188_3⟩ := at_T101 HR1.out x5_1 p188 q188
        cases e188
        replace p188 := eq_true p188
        replace q188 := eq_true q188
        go_wp2
        repeat (go_quiet (fail); try go_wp2)
        go_ret
        exact ⟨by first | rfl | (simp; done) | (simp [*]; done), by repeat (first | exact Drawn0.refl _ | apply Drawn0.step)⟩
       ·rw [if_neg c7] at H
        have c7b0 : (!(((rd_T101 l0 x5_1).f0) == ((rd_T101 l1 x5_1).f0)) || (!(((rd_T101 l0 x5_1).f1) == ((rd_T101 l1 x5_1).f1)) || (!(((rd_T101 l0 x5_1).f2) == ((rd_T101 l1 x5_1).f2)) || (!(((rd_T101 l0 x5_1).f3) == ((rd_T101 l1 x5_1).f3)))))) = false := by simpa using c7
        clear c7
        have H' := Aa.mk H
        clear H
        have p187 : 0 ≤ (x5_1 : Int) := of_decide_eq_true (by first | (with_reducible assumption) | assumption)
        have q187 : x5_1 < (l0.length : Int) := of_decide_eq_true (by first | (with_reducible assumption) | assumption)
        obtain ⟨ad187, e187, hx187_0, hx187_1, hx187_2, hx187_3⟩ := at_T101 HR0.out x5_1 p187 q187
        cases e187
        replace p187 := eq_true p187
        replace q187 := eq_true q187
        have p188 : 0 ≤ (x5_1 : Int) := of_decide_eq_true (by first | (with_reducible assumption) | assumption)
        have q188 : x5_1 < (l1.length : Int) := of_decide_eq_true (by first | (with_reducible assumption) | assumption)
        obtain ⟨ad188, e188, hx188_0, hx188_1, hx188_2, hx188_3⟩ := at_T101 HR1.out x5_1 p188 q188
        cases e188
        replace p188 := eq_true p188
        replace q188 := eq_true q188
        go_wp2
        repeat (go_quiet (fail); try go_wp2)
        go_roundg k1
        case measure => have := HK1.out; omega
        case rel => exact ⟨(wrap64 (x5_1 + 1)), (by first | rfl | (simp; done) | (simp [*]; done)), H', ⟨by have := HK1.out; omega⟩, by repeat (first | exact Drawn0.refl _ | apply Drawn0.step)⟩
      ·rw [if_neg c6] at H
       exact absurd H (by simp)
     ·rw [if_neg c5] at H
      exact absurd H (by simp)
    ·rw [if_neg c4] at H
     have c4b0 : decide (x5_1 < (l0.length : Int)) = false := decide_eq_false c4
     clear c4
     obtain rfl := Option.some.inj H
     go_wp2
     repeat (go_quiet (fail); try go_wp2)
     go_ret
     exact ⟨by first | rfl | (simp; done) | (simp [*]; done), by repeat (first | exact Drawn0.refl _ | apply Drawn0.step)⟩
 ·rw [if_neg c3] at H
  have c3b0 : ((l0.length : Int) == (l1.length : Int)) = false := beq_eq_false_iff_ne.mpr c3
  have c3b1 : ((l0.length : Int) != (l1.length : Int)) = true := bne_iff_ne.mpr c3
  have c3b2 : (l0.length == l1.length) = false := by first | simpa using c3 | (simp at c3 ⊢; omega)
  obtain rfl := Option.some.inj H
  go_enter Try.func60, Try.ntmps60
  go_wp2
  repeat (go_quiet (fail); try go_wp2)
  go_ret
  exact ⟨by first | rfl | (simp; done) | (simp [*]; done), by repeat (first | exact Drawn0.refl _ | apply Drawn0.step)⟩

end Go.Proofs.Yteamphcehoaleaa.PFA

