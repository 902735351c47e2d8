import Derived.Test.YteamphcehoaleaaZWAt
import Derived.Test.YteamphcehoaleaaZPFAx0
import Derived.Test.YteamphcehoaleaaZPFAx1
import Derived.Test.YteamphcehoaleaaZPFAx2
import Derived.Test.YteamphcehoaleaaZPFAx4
namespace Go.Proofs.Yteamphcehoaleaa.PFA
open Go.RowKit Go.Proofs.YteamphcehoaleaaW.PrintWords Go.Proofs.YteamphcehoaleaaW.PrintLast Go.Proofs.YteamphcehoaleaaW.PrintMore
attribute [local go_sem] max2_int min2_int max_two min_two max_three min_three max_four min_four
set_option linter.unusedVariables false
set_option linter.unusedSimpArgs false

attribute [local go_sem high] eqA101
def B2.l0 : Nat → Int → List (S101) → List Bool → Int → Int → Option ((List (S101)))
 | 0, _, _, _, _, _ => none
 | k + 1, x1, x5, x20, x21, x22 => if x22 < x21 then (if 0 ≤ x22 then (if x22 < (x20.length : Int) then (if rdOf false x20 x22 = true then (if (x5.length : Int) > 0 then (if 0 ≤ (wrap64 ((x5.length : Int) - 1)) then (if (wrap64 ((x5.length : Int) - 1)) < (x5.length : Int) then (if ((rd_T101 x5 (wrap64 ((x5.length : Int) - 1))).f2) = x22 then (B2.l0 k x1 (x5.set ((wrap64 ((x5.length : Int) - 1)) : Int).toNat (⟨(rd_T101 x5 (wrap64 ((x5.length : Int) - 1))).f0, (rd_T101 x5 (wrap64 ((x5.length : Int) - 1))).f1, wrap64 (((rd_T101 x5 (wrap64 ((x5.length : Int) - 1))).f2) + 1), (rd_T101 x5 (wrap64 ((x5.length : Int) - 1))).f3⟩ : S101)) x20 x21 (wrap64 (x22 + 1))) else (if x5.length < 4398046511104 then (B2.l0 k x1 (x5 ++ [(⟨x22, x1, wrap64 (x22 + 1), wrap64 (x1 + 1)⟩ : S101)]) x20 x21 (wrap64 (x22 + 1))) else (none))) else (none)) else (none)) else (if x5.length < 4398046511104 then (B2.l0 k x1 (x5 ++ [(⟨x22, x1, wrap64 (x22 + 1), wrap64 (x1 + 1)⟩ : S101)]) x20 x21 (wrap64 (x22 + 1))) else (none))) else (B2.l0 k x1 x5 x20 x21 (wrap64 (x22 + 1)))) else (none)) else (none)) else (some x5)
def B2.f (k : Nat) (ae : Int) (aj : Int) (ag : List Bool) (a1 : Int) : Option ((List (S101))) := if 0 ≤ (wrap64 (a1 * ae)) then (if (wrap64 (a1 * ae)) ≤ (wrap64 ((wrap64 (a1 + 1)) * ae)) then (if (wrap64 ((wrap64 (a1 + 1)) * ae)) ≤ (ag.length : Int) then (B2.l0 k a1 ([] : List (S101)) ((ag.take ((wrap64 ((wrap64 (a1 + 1)) * ae)) : Int).toNat).drop ((wrap64 (a1 * ae)) : Int).toNat) (((ag.take ((wrap64 ((wrap64 (a1 + 1)) * ae)) : Int).toNat).drop ((wrap64 (a1 * ae)) : Int).toNat).length : Int) 0) else (none)) else (none)) else (none)
theorem B2.mono_l : ∀ k, (∀ y0 y1 y2 y3 y4, LeO (B2.l0 k y0 y1 y2 y3 y4) (B2.l0 (k + 1) y0 y1 y2 y3 y4))
 | 0 => fun _ _ _ _ _ r h => by simp [B2.l0] at h
 | k + 1 => by
  have ih0 := B2.mono_l k
  ·intro y0 y1 y2 y3 y4
   unfold B2.l0
   repeat' first
   | (with_reducible exact ih0 _ _ _ _ _)
   | (with_reducible exact LeO.refl _)
   | (with_reducible exact LeO.none _)
   | (with_reducible refine LeO.ite ?_ ?_)
   | (with_reducible refine LeO.bind ?_ (fun _ => ?_))
   | exact ih0 _ _ _ _ _
   | exact LeO.none _
   | refine LeO.ite ?_ ?_
   | refine LeO.bind ?_ (fun _ => ?_)
theorem B2.mono : ∀ a0 a1 a2 a3 k, LeO (B2.f k a0 a1 a2 a3) (B2.f (k + 1) a0 a1 a2 a3) := by
 intro a0 a1 a2 a3 k
 have ih0 := B2.mono_l k
 unfold B2.f
 repeat' first
   | (with_reducible exact ih0 _ _ _ _ _)
   | (with_reducible exact LeO.refl _)
   | (with_reducible exact LeO.none _)
   | (with_reducible refine LeO.ite ?_ ?_)
   | (with_reducible refine LeO.bind ?_ (fun _ => ?_))
   | exact ih0 _ _ _ _ _
   | exact LeO.none _
   | refine LeO.ite ?_ ?_
   | refine LeO.bind ?_ (fun _ => ?_)
set_option maxHeartbeats 8000000 in
set_option maxRecDepth 100000 in
theorem B2.calls (k : Nat) (ae : Int) (aj : Int) (ao : Option Addr) (ap : Nat) (ag : List Bool) (a1 : Int) (r : List (S101)) (w : World) (aM : Kd.C Kd.bool w ao ag.length ag) (aN : ag.length ≤ ap) (h : B2.f k ae aj ag a1 = some r) :
  Calls Try.prog 96 #[.agg #[.int .i64 ae, .int .i64 aj, .slice ao ag.length ap], .int .i64 a1] w fun e w' => ∃ v0_ : Value, e = .returned (v0_) ∧ Kd.R k101 101 w' w.heap.size (fun _ => True) v0_ r ∧ Below w.heap.size w w' := by
 have hu50 := Try.underlying50
 have hu101 := Try.underlying101
 have aJ := Aa.mk aM
 have aK := Aa.mk aN
 clear aM aN
 have HB := Aa.mk (Below.refl w.heap.size w)
 have H : (if 0 ≤ (wrap64 (a1 * ae)) then (if (wrap64 (a1 * ae)) ≤ (wrap64 ((wrap64 (a1 + 1)) * ae)) then (if (wrap64 ((wrap64 (a1 + 1)) * ae)) ≤ (ag.length : Int) then (B2.l0 k a1 ([] : List (S101)) ((ag.take ((wrap64 ((wrap64 (a1 + 1)) * ae)) : Int).toNat).drop ((wrap64 (a1 * ae)) : Int).toNat) (((ag.take ((wrap64 ((wrap64 (a1 + 1)) * ae)) : Int).toNat).drop ((wrap64 (a1 * ae)) : Int).toNat).length : Int) 0) else (none)) else (none)) else (none)) = some r := h
 clear h
 obtain ⟨ji3, bK⟩ : ∃ j_ : Int, (wrap64 (a1 * ae)) = j_ := ⟨_, rfl⟩
 replace H : (if 0 ≤ (ji3) then (if (ji3) ≤ (wrap64 ((wrap64 (a1 + 1)) * ae)) then (if (wrap64 ((wrap64 (a1 + 1)) * ae)) ≤ (ag.length : Int) then (B2.l0 k a1 ([] : List (S101)) ((ag.take ((wrap64 ((wrap64 (a1 + 1)) * ae)) : Int).toNat).drop ((ji3) : Int).toNat) (((ag.take ((wrap64 ((wrap64 (a1 + 1)) * ae)) : Int).toNat).drop ((ji3) : Int).toNat).length : Int) 0) else (none)) else (none)) else (none)) = some r := by first | (rw [bK] at H; exact H) | (simp only [bK] at H ⊢; exact H)
 have hji3w : (IntKind.i64.wrap (a1 * ae)) = ji3 := (i64_w _).trans bK
 by_cases c4 : 0 ≤ (ji3)
 ·rw [if_pos c4] at H
  have cg := eq_true c4
  have dP : decide (0 ≤ (ji3)) = true := decide_eq_true c4
  clear c4
  by_cases c5 : (ji3) ≤ (wrap64 ((wrap64 (a1 + 1)) * ae))
  ·rw [if_pos c5] at H
   have cY := eq_true c5
   have dQ : decide ((ji3) ≤ (wrap64 ((wrap64 (a1 + 1)) * ae))) = true := decide_eq_true c5
   by_cases c6 : (wrap64 ((wrap64 (a1 + 1)) * ae)) ≤ (ag.length : Int)
   ·rw [if_pos c6] at H
    have cZ := eq_true c6
    have dR : decide ((wrap64 ((wrap64 (a1 + 1)) * ae)) ≤ (ag.length : Int)) = true := decide_eq_true c6
    have H' := Aa.mk H
    clear H
    have hlen6 := Aa.mk (show ((ag.take ((wrap64 ((wrap64 (a1 + 1)) * ae)) : Int).toNat).drop ((ji3) : Int).toNat).length = (wrap64 ((wrap64 (a1 + 1)) * ae)).toNat - ji3.toNat from by rw [List.length_drop, List.length_take, Nat.min_eq_left (Int.toNat_le.mpr c6)])
    go_enter Try.func96, Try.ntmps96
    go_wp2_with (((with_reducible refine Bq (N := 2) rfl ?_); refine Bt ?hg (N := 2) ?hd (cs := #[.int .i64 ae, .int .i64 aj, .slice ao ag.length ap]) (t := 50) ?hr ?_; (case hd => rfl); (case hg => rfl); (case hr => first | (go_simp; done) | (go_simp; rfl)); intro aG hg w7 hbox hb; have n0_ := Aa.mk (Au (lU HB.out) hb); have n1_ := Aa.mk (hbox); have n2_ := Aa.mk ((by rw [hg]; exact (An (lU HB.out)) : w.heap.size ≤ aG)); have n3_ := Aa.mk ((by rw [hg]; exact (An (lU HB.out)) : w.heap.size ≤ aG)); clear HB; have HB := n0_; have an := n1_; have eo := n2_; have aC := n3_; clear n0_ n1_ n2_ n3_; clear hb hbox hg; have ck : w7.cell? ⟨aG, 0, none⟩ = some (.int .i64 ae) := (Ad an.out 0).trans rfl; have cp : w7.cell? ⟨aG, 1, none⟩ = some (.int .i64 aj) := (Ad an.out 1).trans rfl; have cr : w7.cell? ⟨aG, 2, none⟩ = some (.slice ao ag.length ap) := (Ad an.out 2).trans rfl; have ct := Af an.out 0; have cu := Af an.out 1; have cx := Af an.out 2; obtain ⟨i09, hi09, _, hsz9, _⟩ := info_parts info4; obtain ⟨A9, hcut9, hA9, hC9⟩ := print_mid_of (P := Try.prog) Value.bool false 48 4 .i64 .i64 Try.underlying48 hi09 hsz9 ao ap ag (ji3) (wrap64 ((wrap64 (a1 + 1)) * ae)) (of_decide_eq_true (by with_reducible assumption)) (by first | omega | exact of_decide_eq_true (by with_reducible assumption)) (of_decide_eq_true (by with_reducible assumption)) aK.out; have HR162 := Aa.mk (Kd.C_of_reads (h1 := fun _ => rfl) (hA9 _ (Kd.C7 aJ.out))); have HC162 := Aa.mk hC9; clear hA9 hC9 hi09 hsz9))
    rw [← hlen6.out]
    obtain ⟨yS, hyS⟩ : ∃ y_, y_ = ((ag.take ((wrap64 ((wrap64 (a1 + 1)) * ae)) : Int).toNat).drop ((ji3) : Int).toNat) := ⟨_, rfl⟩
    rw [← hyS] at H' HR162 HC162 ⊢
    clear hyS hlen6
    go_loopg [5, 22] k (fun kq v5 v22 w' => ∃ (aa : List (S101)) (ac : Int), v22 = .int .i64 ac ∧ Aa (B2.l0 kq a1 aa yS (yS.length : Int) ac = some r) ∧ Aa (kq ≤ k) ∧ Aa (Kd.R k101 101 w' w.heap.size (fun _ => True) v5 aa) ∧ Aa (w'.heap[aG]? = some (.cells #[.int .i64 ae, .int .i64 aj, (.slice ao ag.length ap)] 50 (0, 0))) ∧ Aa (Below w.heap.size w w'))
    case atStart => exact ⟨(([] : List (S101))), (0), (by first | rfl | (simp; done) | (simp [*]; done)), H', ⟨Nat.le_refl _⟩, ⟨by first | exact Kd.C8 _ _ _ _ _ | exact Kd.N_nil _ _ _ _ _ | exact Kd.V_nil _ _ _ _ _ | exact Kd.Q_nil _ _ _ _ _ | exact Kd.S_nil _ _ _ _ _⟩, ⟨by exact bU <| an.out⟩, ⟨by repeat (first | (with_reducible first | exact HB.out | apply Ae | apply Ac | apply Ah | refine Ag ?_ aC.out) | exact HB.out)⟩⟩
    case round =>
     clear H'
     try clear p2
     try clear c4
     try clear cg
     try clear dP
     try clear c5
     try clear cY
     try clear dQ
     try clear c6
     try clear cZ
     try clear dR
     try clear p6
     try clear c9
     try clear ck
     try clear cp
     try clear cr
     try clear ct
     try clear cu
     try clear cx
     obtain ⟨aa, ac, rfl, HA, HK1, ai, an, HB⟩ := hrel
     cases gk with
     | zero => exact absurd HA.out (by simp [B2.l0])
     | succ k1 =>
      have H := HA.out
      clear HA
      simp only [B2.l0] at H
      by_cases c10 : ac < (yS.length : Int)
      ·rw [if_pos c10] at H
       have da : decide (ac < (yS.length : Int)) = true := decide_eq_true c10
       clear c10
       by_cases c11 : 0 ≤ ac
       ·rw [if_pos c11] at H
        have ep : decide (0 ≤ ac) = true := decide_eq_true c11
        clear c11
        by_cases c12 : ac < (yS.length : Int)
        ·rw [if_pos c12] at H
         have er : decide (ac < (yS.length : Int)) = true := decide_eq_true c12
         clear c12
         obtain ⟨bq13, bh⟩ : ∃ b_ : Bool, b_ = (rdOf false yS ac) := ⟨_, rfl⟩
         replace H : (if bq13 = true then (if (aa.length : Int) > 0 then (if 0 ≤ (wrap64 ((aa.length : Int) - 1)) then (if (wrap64 ((aa.length : Int) - 1)) < (aa.length : Int) then (if ((rd_T101 aa (wrap64 ((aa.length : Int) - 1))).f2) = ac then (B2.l0 k1 a1 (aa.set ((wrap64 ((aa.length : Int) - 1)) : Int).toNat (⟨(rd_T101 aa (wrap64 ((aa.length : Int) - 1))).f0, (rd_T101 aa (wrap64 ((aa.length : Int) - 1))).f1, wrap64 (((rd_T101 aa (wrap64 ((aa.length : Int) - 1))).f2) + 1), (rd_T101 aa (wrap64 ((aa.length : Int) - 1))).f3⟩ : S101)) yS (yS.length : Int) (wrap64 (ac + 1))) else (if aa.length < 4398046511104 then (B2.l0 k1 a1 (aa ++ [(⟨ac, a1, wrap64 (ac + 1), wrap64 (a1 + 1)⟩ : S101)]) yS (yS.length : Int) (wrap64 (ac + 1))) else (none))) else (none)) else (none)) else (if aa.length < 4398046511104 then (B2.l0 k1 a1 (aa ++ [(⟨ac, a1, wrap64 (ac + 1), wrap64 (a1 + 1)⟩ : S101)]) yS (yS.length : Int) (wrap64 (ac + 1))) else (none))) else (B2.l0 k1 a1 aa yS (yS.length : Int) (wrap64 (ac + 1)))) = some r := by rw [← bh] at H; exact H
         have aZ := Aa.mk bh
         clear bh
         by_cases c14 : bq13 = true
         ·subst c14
          have H1 := H
          rw [if_pos rfl] at H1
          clear H
          have H := H1
          clear H1
          by_cases c15 : (aa.length : Int) > 0
          ·rw [if_pos c15] at H
           have db : decide (0 < (aa.length : Int)) = true := decide_eq_true c15
           have dc : decide (0 < aa.length) = true := decide_eq_true (by omega)
           clear c15
           obtain ⟨ah, bj⟩ : ∃ j_ : Int, (wrap64 ((aa.length : Int) - 1)) = j_ := ⟨_, rfl⟩
           replace H : (if 0 ≤ (ah) then (if (ah) < (aa.length : Int) then (if ((rd_T101 aa (ah)).f2) = ac then (B2.l0 k1 a1 (aa.set ((ah) : Int).toNat (⟨(rd_T101 aa (ah)).f0, (rd_T101 aa (ah)).f1, wrap64 (((rd_T101 aa (ah)).f2) + 1), (rd_T101 aa (ah)).f3⟩ : S101)) yS (yS.length : Int) (wrap64 (ac + 1))) else (if aa.length < 4398046511104 then (B2.l0 k1 a1 (aa ++ [(⟨ac, a1, wrap64 (ac + 1), wrap64 (a1 + 1)⟩ : S101)]) yS (yS.length : Int) (wrap64 (ac + 1))) else (none))) else (none)) else (none)) = some r := by first | (rw [bj] at H; exact H) | (simp only [bj] at H ⊢; exact H)
           have hji16w : (IntKind.i64.wrap ((aa.length : Int) - 1)) = ah := (i64_w _).trans bj
           by_cases c17 : 0 ≤ (ah)
           ·rw [if_pos c17] at H
            have ba : decide (0 ≤ (ah)) = true := decide_eq_true c17
            clear c17
            by_cases c18 : (ah) < (aa.length : Int)
            ·rw [if_pos c18] at H
             have dd : decide ((ah) < (aa.length : Int)) = true := decide_eq_true c18
             clear c18
             by_cases c19 : ((rd_T101 aa (ah)).f2) = ac
             ·rw [if_pos c19] at H
              have ce : (((rd_T101 aa (ah)).f2) == ac) = true := beq_iff_eq.mpr c19
              have de : (((rd_T101 aa (ah)).f2) != ac) = false := bne_eq_false_iff_eq.mpr c19
              clear c19
              obtain ⟨df, bk⟩ : ∃ y_ : List (S101), y_ = (aa.set ((ah) : Int).toNat (⟨(rd_T101 aa (ah)).f0, (rd_T101 aa (ah)).f1, wrap64 (((rd_T101 aa (ah)).f2) + 1), (rd_T101 aa (ah)).f3⟩ : S101)) := ⟨_, rfl⟩
              (try rw [Option.bind_some] at H); try rw [← bk] at H
              have dg := Aa.mk bk
              clear bk
              have H' := Aa.mk H
              clear H
              have aD : 0 ≤ (ac : Int) := of_decide_eq_true (by with_reducible assumption)
              have aE : ac < (yS.length : Int) := of_decide_eq_true (by with_reducible assumption)
              obtain ⟨bl, e163, ak⟩ := Kd.at_bool HR162.out ac aD aE
              (try rw [← aZ.out] at ak)
              cases e163
              replace ak := (HB.out.cell (World.block_lt_of_cell? w _ ak)).trans ak
              replace aD := eq_true aD
              replace aE := eq_true aE
              obtain ⟨ew, dh, dS⟩ := Kd.B0 ai.out
              subst dS
              have aQ : 0 ≤ ((ah) : Int) := of_decide_eq_true (by with_reducible assumption)
              have aT : (ah) < (aa.length : Int) := of_decide_eq_true (by with_reducible assumption)
              obtain ⟨bm, e164, bb, bc, bd, be⟩ := at_T101 (Kd.Ba ai.out).2.2 (ah) aQ aT
              cases e164
              replace aQ := eq_true aQ
              replace aT := eq_true aT
              have cy : 0 ≤ ((ah) : Int) := of_decide_eq_true (by with_reducible assumption)
              have cz : (ah) < (aa.length : Int) := of_decide_eq_true (by with_reducible assumption)
              obtain ⟨di, e165, bL, bM, bN, bO⟩ := at_T101 (Kd.Ba ai.out).2.2 (ah) cy cz
              obtain rfl : bm = di := (by injection e165)
              replace cy := eq_true cy
              replace cz := eq_true cz
              have p20 : 0 ≤ ((ah) : Int) := of_decide_eq_true (by with_reducible assumption)
              have q20 : ((ah) : Int) < ((aa.length : Int) : Int) := of_decide_eq_true (by with_reducible assumption)
              obtain ⟨go20, dT, bo, bp, gl20, cl20, HG20⟩ := Kd.Dd ai.out (by omega)
              (first | cases bo | (injection bo with ea_ en_ ec_; (first | subst ea_ | (injection ea_ with ea_; subst ea_)); subst ec_; clear en_))
              have GB20 := Aa.mk bp
              have GG20 := Aa.mk HG20
              clear bp gl20 HG20
              (first | simp only [add_plain] at bb | skip)
              (first | simp only [add_plain] at bc | skip)
              (first | simp only [add_plain] at bd | skip)
              (first | simp only [add_plain] at be | skip)
              (first | simp only [add_plain] at bL | skip)
              (first | simp only [add_plain] at bM | skip)
              (first | simp only [add_plain] at bN | skip)
              (first | simp only [add_plain] at bO | skip)
              obtain ⟨ce20, hcl20, hM20, hcc20, hfr20⟩ := Kd.R_elem ai.out z101 ((ah) : Int) p20 q20
              obtain rfl := k101_openM hM20
              have cA : wr.cell? ⟨go20, ((ah) : Int).toNat * 4, none⟩ = some (.int .i64 ((rd_T101 aa (ah)).f0)) := hcc20 0 _ rfl
              have cB : wr.cell? ⟨go20, ((ah) : Int).toNat * 4 + 1, none⟩ = some (.int .i64 ((rd_T101 aa (ah)).f1)) := hcc20 1 _ rfl
              have cC : wr.cell? ⟨go20, ((ah) : Int).toNat * 4 + 2, none⟩ = some (.int .i64 ((rd_T101 aa (ah)).f2)) := hcc20 2 _ rfl
              have cD : wr.cell? ⟨go20, ((ah) : Int).toNat * 4 + 3, none⟩ = some (.int .i64 ((rd_T101 aa (ah)).f3)) := hcc20 3 _ rfl
              have cE : wr.frozen? ⟨go20, ((ah) : Int).toNat * 4, none⟩ = false := hfr20 0
              have cF : wr.frozen? ⟨go20, ((ah) : Int).toNat * 4 + 1, none⟩ = false := hfr20 1
              have cG : wr.frozen? ⟨go20, ((ah) : Int).toNat * 4 + 2, none⟩ = false := hfr20 2
              have cH : wr.frozen? ⟨go20, ((ah) : Int).toNat * 4 + 3, none⟩ = false := hfr20 3
              clear hcl20 hcc20 hfr20 hM20
              replace p20 := eq_true p20
              replace q20 := eq_true q20
              have HX22 := Aa.mk (show Kd.R k101 101 wr w.heap.size (fun _ => True) (.slice (some ⟨go20, 0, none⟩) aa.length dh) aa from (by exact rU <| ai.out))
              obtain ⟨ce22, hcl22, hM22, hcc22, hfr22⟩ := Kd.R_elem HX22.out z101 ((ah) : Int) (of_decide_eq_true (by with_reducible assumption)) (by have h_ : ((ah) : Int) < ((aa.length : Int) : Int) := of_decide_eq_true (by with_reducible assumption); first | exact h_ | (have e_ := (Kd.Ba ai.out).1; omega) | simpa using h_)
              obtain rfl := k101_openM hM22
              have cI := Kd.R_seg HX22.out ((ah) : Int) (of_decide_eq_true (by with_reducible assumption)) (by have h_ : ((ah) : Int) < ((aa.length : Int) : Int) := of_decide_eq_true (by with_reducible assumption); first | exact h_ | (have e_ := (Kd.Ba ai.out).1; omega) | simpa using h_) (seg := [.int .i64 (wrap64 (((rd_T101 aa (ah)).f2) + 1))]) (j := 2) hcl22 hcc22 (show 3 ≤ 4 from by decide) (x' := (⟨(rd_T101 aa (ah)).f0, (rd_T101 aa (ah)).f1, wrap64 (((rd_T101 aa (ah)).f2) + 1), (rd_T101 aa (ah)).f3⟩ : S101)) (k101_mkM _ _ _ (⟨(rd_T101 aa (ah)).f0, (rd_T101 aa (ah)).f1, wrap64 (((rd_T101 aa (ah)).f2) + 1), (rd_T101 aa (ah)).f3⟩ : S101) ) (fun _ hk => hk)
              have cJ := hcc22 2 _ rfl
              (try simp only [show (k101).sz = 4 from rfl, Nat.mul_one, Nat.add_zero] at cJ)
              have cK := hfr22 2
              (try simp only [show (k101).sz = 4 from rfl, Nat.mul_one, Nat.add_zero] at cK)
              clear hcl22 hcc22 hfr22 hM22
              go_wp2_with (((with_reducible refine Cq (t := 3) (p := 63) rfl ?_); refine store_event (t := 3) (p := 63) (v := ?vo_w23) (w1 := (wr.setCell ⟨go20, ((ah) : Int).toNat * 4 + 2, none⟩ (.int .i64 (wrap64 (((rd_T101 aa (ah)).f2) + 1))))) ?hg ?ho ?hn ?hr ?_; (case ho => rfl); (case hg => rfl); (case hn => rfl); (case hr => first | (go_simp; done) | (go_simp; rfl)); intro w23 hw; have hg : wr.grownBy w23 (some go20) := (by rw [hw]; exact cI.2); have hp_ : Kd.R k101 101 w23 w.heap.size (fun _ => True) (.slice (some ⟨go20, 0, none⟩) aa.length dh) df := (by rw [hw, dg.out]; exact cI.1); clear cI; have n0_ := Aa.mk (hp_); have n1_ := Aa.mk (Bu (g := aG) (o := .cells #[.int .i64 ae, .int .i64 aj, .slice ao ag.length ap] 50 (0, 0)) (by exact bU <| an.out) hg (Kd.De ai.out an.out (by decide))); have n2_ := Aa.mk ((by rw [hw]; exact Ag (HB.out) GB20.out : Below w.heap.size w w23)); clear ai; clear an; clear HB; have ai := n0_; have an := n1_; have HB := n2_; clear n0_ n1_ n2_; clear hg hw hp_))
              go_roundg k1
              case measure => have := HK1.out; omega
              case rel => exact ⟨(df), (wrap64 (ac + 1)), (by first | rfl | (simp; done) | (simp [*]; done)), H', ⟨by have := HK1.out; omega⟩, ⟨by exact rU <| ai.out⟩, ⟨by exact bU <| an.out⟩, ⟨by repeat (first | (with_reducible first | exact HB.out | apply Ae | apply Ac | apply Ah | refine Ag ?_ aC.out) | exact HB.out)⟩⟩
             ·rw [if_neg c19] at H
              have ce : (((rd_T101 aa (ah)).f2) == ac) = false := beq_eq_false_iff_ne.mpr c19
              have de : (((rd_T101 aa (ah)).f2) != ac) = true := bne_iff_ne.mpr c19
              by_cases c24 : aa.length < 4398046511104
              ·rw [if_pos c24] at H
               have LMc24 := Aa.mk c24
               clear c24
               obtain ⟨dU, bq⟩ : ∃ y_ : List (S101), y_ = (aa ++ [(⟨ac, a1, wrap64 (ac + 1), wrap64 (a1 + 1)⟩ : S101)]) := ⟨_, rfl⟩
               (try rw [Option.bind_some] at H); try rw [← bq] at H
               have dj := Aa.mk bq
               clear bq
               have H' := Aa.mk H
               clear H
               have aD : 0 ≤ (ac : Int) := of_decide_eq_true (by with_reducible assumption)
               have aE : ac < (yS.length : Int) := of_decide_eq_true (by with_reducible assumption)
               obtain ⟨bl, e163, ak⟩ := Kd.at_bool HR162.out ac aD aE
               (try rw [← aZ.out] at ak)
               cases e163
               replace ak := (HB.out.cell (World.block_lt_of_cell? w _ ak)).trans ak
               replace aD := eq_true aD
               replace aE := eq_true aE
               obtain ⟨ez, dV, dW⟩ := Kd.B0 ai.out
               subst dW
               have aQ : 0 ≤ ((ah) : Int) := of_decide_eq_true (by with_reducible assumption)
               have aT : (ah) < (aa.length : Int) := of_decide_eq_true (by with_reducible assumption)
               obtain ⟨bm, e164, bb, bc, bd, be⟩ := at_T101 (Kd.Ba ai.out).2.2 (ah) aQ aT
               cases e164
               replace aQ := eq_true aQ
               replace aT := eq_true aT
               go_wp2_with (((with_reducible refine Cu (b := .append) (xs := #[.tmp 29, .tmp 37]) rfl ?_); at_builtin; refine Kd.Dk k101 (w0 := w) w.heap.size rfl (.tmp 29) (.tmp 37) 96 101 (.agg #[(.int .i64 0), (.int .i64 0), (.int .i64 0), (.int .i64 0)]) 32 rfl Try.underlying96 info101 rfl (by decide) (by omega) (.slice (some bm) aa.length dV) aa (⟨ac, a1, wrap64 (ac + 1), wrap64 (a1 + 1)⟩ : S101) [.int .i64 ac, .int .i64 a1, .int .i64 (wrap64 (ac + 1)), .int .i64 (wrap64 (a1 + 1))] (fun _ => True) (fun _ => False) rfl rfl ?aP (fun _ hk => hk.elim) ?aF ?aO ?aB ?aS ?aL ?_; (case aP => exact k101_mkM _ _ _ (⟨ac, a1, wrap64 (ac + 1), wrap64 (a1 + 1)⟩ : S101)); (case aB => exact (by repeat (first | (with_reducible first | exact HB.out | apply Ae | apply Ac | apply Ah | refine Ag ?_ aC.out) | exact HB.out))); (case aF => exact (fun _ _ => trivial)); (case aO => exact (by exact rU <| ai.out)); (case aS => exact (An (by repeat (first | (with_reducible first | exact HB.out | apply Ae | apply Ac | apply Ah | refine Ag ?_ aC.out) | exact HB.out)))); (case aL => have := LMc24.out; omega); intro v168 w26 ho hb hg hat; rw [← dj.out] at ho; have n0_ := Aa.mk (Bu (g := aG) (o := .cells #[.int .i64 ae, .int .i64 aj, .slice ao ag.length ap] 50 (0, 0)) (by exact bU <| an.out) hg (Kd.De ai.out an.out (by decide))); have n1_ := Aa.mk (hb); have n2_ := Aa.mk (ho); clear an; clear HB; clear ai; have an := n0_; have HB := n1_; have dk := n2_; clear n0_ n1_ n2_; clear ho hb hg hat))
               go_roundg k1
               case measure => have := HK1.out; omega
               case rel => exact ⟨(dU), (wrap64 (ac + 1)), (by first | rfl | (simp; done) | (simp [*]; done)), H', ⟨by have := HK1.out; omega⟩, ⟨by exact rU <| dk.out⟩, ⟨by exact bU <| an.out⟩, ⟨by repeat (first | (with_reducible first | exact HB.out | apply Ae | apply Ac | apply Ah | refine Ag ?_ aC.out) | exact HB.out)⟩⟩
              ·rw [if_neg c24] at H
               exact absurd H (by simp)
            ·rw [if_neg c18] at H
             exact absurd H (by simp)
           ·rw [if_neg c17] at H
            exact absurd H (by simp)
          ·rw [if_neg c15] at H
           have db : decide (0 < (aa.length : Int)) = false := decide_eq_false c15
           have dc : decide (0 < aa.length) = false := decide_eq_false (by omega)
           clear c15
           by_cases c27 : aa.length < 4398046511104
           ·rw [if_pos c27] at H
            have LMc27 := Aa.mk c27
            clear c27
            obtain ⟨dX, br⟩ : ∃ y_ : List (S101), y_ = (aa ++ [(⟨ac, a1, wrap64 (ac + 1), wrap64 (a1 + 1)⟩ : S101)]) := ⟨_, rfl⟩
            (try rw [Option.bind_some] at H); try rw [← br] at H
            have dl := Aa.mk br
            clear br
            have H' := Aa.mk H
            clear H
            have aD : 0 ≤ (ac : Int) := of_decide_eq_true (by with_reducible assumption)
            have aE : ac < (yS.length : Int) := of_decide_eq_true (by with_reducible assumption)
            obtain ⟨bl, e163, ak⟩ := Kd.at_bool HR162.out ac aD aE
            (try rw [← aZ.out] at ak)
            cases e163
            replace ak := (HB.out.cell (World.block_lt_of_cell? w _ ak)).trans ak
            replace aD := eq_true aD
            replace aE := eq_true aE
            obtain ⟨dY, dZ, d5⟩ := Kd.B0 ai.out
            subst d5
            go_wp2_with (((with_reducible refine Cu (b := .append) (xs := #[.tmp 29, .tmp 37]) rfl ?_); at_builtin; refine Kd.Dk k101 (w0 := w) w.heap.size rfl (.tmp 29) (.tmp 37) 96 101 (.agg #[(.int .i64 0), (.int .i64 0), (.int .i64 0), (.int .i64 0)]) 32 rfl Try.underlying96 info101 rfl (by decide) (by omega) (.slice dY aa.length dZ) aa (⟨ac, a1, wrap64 (ac + 1), wrap64 (a1 + 1)⟩ : S101) [.int .i64 ac, .int .i64 a1, .int .i64 (wrap64 (ac + 1)), .int .i64 (wrap64 (a1 + 1))] (fun _ => True) (fun _ => False) rfl rfl ?aP (fun _ hk => hk.elim) ?aF ?aO ?aB ?aS ?aL ?_; (case aP => exact k101_mkM _ _ _ (⟨ac, a1, wrap64 (ac + 1), wrap64 (a1 + 1)⟩ : S101)); (case aB => exact (by repeat (first | (with_reducible first | exact HB.out | apply Ae | apply Ac | apply Ah | refine Ag ?_ aC.out) | exact HB.out))); (case aF => exact (fun _ _ => trivial)); (case aO => exact (by exact rU <| ai.out)); (case aS => exact (An (by repeat (first | (with_reducible first | exact HB.out | apply Ae | apply Ac | apply Ah | refine Ag ?_ aC.out) | exact HB.out)))); (case aL => have := LMc27.out; omega); intro v171 w29 ho hb hg hat; rw [← dl.out] at ho; have n0_ := Aa.mk (Bu (g := aG) (o := .cells #[.int .i64 ae, .int .i64 aj, .slice ao ag.length ap] 50 (0, 0)) (by exact bU <| an.out) hg (Kd.De ai.out an.out (by decide))); have n1_ := Aa.mk (hb); have n2_ := Aa.mk (ho); clear an; clear HB; clear ai; have an := n0_; have HB := n1_; have dn := n2_; clear n0_ n1_ n2_; clear ho hb hg hat))
            go_roundg k1
            case measure => have := HK1.out; omega
            case rel => exact ⟨(dX), (wrap64 (ac + 1)), (by first | rfl | (simp; done) | (simp [*]; done)), H', ⟨by have := HK1.out; omega⟩, ⟨by exact rU <| dn.out⟩, ⟨by exact bU <| an.out⟩, ⟨by repeat (first | (with_reducible first | exact HB.out | apply Ae | apply Ac | apply Ah | refine Ag ?_ aC.out) | exact HB.out)⟩⟩
           ·rw [if_neg c27] at H
            exact absurd H (by simp)
         ·replace c14 := Bool.eq_false_iff.mpr c14
          subst c14
          have H1 := H
          rw [if_neg (show ¬ (false = true) by decide)] at H1
          clear H
          have H := H1
          clear H1
          have H' := Aa.mk H
          clear H
          have aD : 0 ≤ (ac : Int) := of_decide_eq_true (by with_reducible assumption)
          have aE : ac < (yS.length : Int) := of_decide_eq_true (by with_reducible assumption)
          obtain ⟨bl, e163, ak⟩ := Kd.at_bool HR162.out ac aD aE
          (try rw [← aZ.out] at ak)
          cases e163
          replace ak := (HB.out.cell (World.block_lt_of_cell? w _ ak)).trans ak
          replace aD := eq_true aD
          replace aE := eq_true aE
          obtain ⟨eC, eD, d6⟩ := Kd.B0 ai.out
          subst d6
          go_wp2
          go_roundg k1
          case measure => have := HK1.out; omega
          case rel => exact ⟨(aa), (wrap64 (ac + 1)), (by first | rfl | (simp; done) | (simp [*]; done)), H', ⟨by have := HK1.out; omega⟩, ⟨by exact rU <| ai.out⟩, ⟨by exact bU <| an.out⟩, ⟨by repeat (first | (with_reducible first | exact HB.out | apply Ae | apply Ac | apply Ah | refine Ag ?_ aC.out) | exact HB.out)⟩⟩
        ·rw [if_neg c12] at H
         exact absurd H (by simp)
       ·rw [if_neg c11] at H
        exact absurd H (by simp)
      ·rw [if_neg c10] at H
       have da : decide (ac < (yS.length : Int)) = false := decide_eq_false c10
       clear c10
       obtain rfl := Option.some.inj H
       go_wp2
       go_ret
       exact ⟨_, by first | rfl | (simp [Be, Bd] <;> rfl) | (simp only [← bK]; first | rfl | (simp [Be, Bd] <;> rfl)) | (simp [*, Be, Bd] <;> rfl), by exact rU <| ai.out, by repeat (first | (with_reducible first | exact HB.out | apply Ae | apply Ac | apply Ah | refine Ag ?_ aC.out) | exact HB.out)⟩
   ·rw [if_neg c6] at H
    exact absurd H (by simp)
  ·rw [if_neg c5] at H
   exact absurd H (by simp)
 ·rw [if_neg c4] at H
  exact absurd H (by simp)

mutual
def Bs.l0 : Nat → List (S101) → List (S101) → Int → Int → Int → Int → List Bool → Option ((List (S101)) × Int)
 | 0, _, _, _, _, _, _, _ => none
 | k + 1, x5, x6, x16, x17, ay, az, aA => if x17 < x16 then ((B2.f k ay az aA x17).bind fun aI => ((Cj.f k x6 aI).bind fun cL => (if cL = true then (Bs.l1 k x5 x6 x16 x17 (x6.length : Int) 0 ay az aA) else (if x5.length + x6.length < 4398046511104 then (Bs.l0 k (x5 ++ x6) aI x16 (wrap64 (x17 + 1)) ay az aA) else (none))))) else (if x5.length + x6.length < 4398046511104 then (some ((x5 ++ x6), 0)) else (none))
def Bs.l1 : Nat → List (S101) → List (S101) → Int → Int → Int → Int → Int → Int → List Bool → Option ((List (S101)) × Int)
 | 0, _, _, _, _, _, _, _, _, _ => none
 | k + 1, x5, x6, x16, x17, x32, x33, ay, az, aA => if x33 < x32 then (if 0 ≤ x33 then (if x33 < (x6.length : Int) then (Bs.l1 k x5 (x6.set (x33 : Int).toNat (⟨(rd_T101 x6 x33).f0, (rd_T101 x6 x33).f1, (rd_T101 x6 x33).f2, wrap64 (((rd_T101 x6 x33).f3) + 1)⟩ : S101)) x16 x17 x32 (wrap64 (x33 + 1)) ay az aA) else (none)) else (none)) else (Bs.l0 k x5 x6 x16 (wrap64 (x17 + 1)) ay az aA)
end
def Bs.f (k : Nat) (ae : Int) (aj : Int) (ag : List Bool) : Option ((List (S101)) × Int) := (Cn.f ae aj ag).bind fun aH => (if aH = 0 then (Bs.l0 k ([] : List (S101)) ([] : List (S101)) aj 0 ae aj ag) else (some (([] : List (S101)), aH)))
theorem Bs.mono_l : ∀ k, (∀ y0 y1 y2 y3 y4 y5 y6, LeO (Bs.l0 k y0 y1 y2 y3 y4 y5 y6) (Bs.l0 (k + 1) y0 y1 y2 y3 y4 y5 y6)) ∧ (∀ y0 y1 y2 y3 y4 y5 y6 y7 y8, LeO (Bs.l1 k y0 y1 y2 y3 y4 y5 y6 y7 y8) (Bs.l1 (k + 1) y0 y1 y2 y3 y4 y5 y6 y7 y8))
 | 0 => ⟨fun _ _ _ _ _ _ _ r h => by simp [Bs.l0] at h, fun _ _ _ _ _ _ _ _ _ r h => by simp [Bs.l1] at h⟩
 | k + 1 => by
  obtain ⟨ih0, ih1⟩ := Bs.mono_l k
  refine ⟨?_, ?_⟩
  ·intro y0 y1 y2 y3 y4 y5 y6
   unfold Bs.l0
   repeat' first
   | (with_reducible exact ih0 _ _ _ _ _ _ _)
   | (with_reducible exact ih1 _ _ _ _ _ _ _ _ _)
   | (with_reducible exact Cj.mono _ _ _)
   | (with_reducible exact B2.mono _ _ _ _ _)
   | (with_reducible exact LeO.refl _)
   | (with_reducible exact LeO.none _)
   | (with_reducible refine LeO.ite ?_ ?_)
   | (with_reducible refine LeO.bind ?_ (fun _ => ?_))
   | exact ih0 _ _ _ _ _ _ _
   | exact ih1 _ _ _ _ _ _ _ _ _
   | exact Cj.mono _ _ _
   | exact B2.mono _ _ _ _ _
   | exact LeO.none _
   | refine LeO.ite ?_ ?_
   | refine LeO.bind ?_ (fun _ => ?_)
  ·intro y0 y1 y2 y3 y4 y5 y6 y7 y8
   unfold Bs.l1
   repeat' first
   | (with_reducible exact ih0 _ _ _ _ _ _ _)
   | (with_reducible exact ih1 _ _ _ _ _ _ _ _ _)
   | (with_reducible exact Cj.mono _ _ _)
   | (with_reducible exact B2.mono _ _ _ _ _)
   | (with_reducible exact LeO.refl _)
   | (with_reducible exact LeO.none _)
   | (with_reducible refine LeO.ite ?_ ?_)
   | (with_reducible refine LeO.bind ?_ (fun _ => ?_))
   | exact ih0 _ _ _ _ _ _ _
   | exact ih1 _ _ _ _ _ _ _ _ _
   | exact Cj.mono _ _ _
   | exact B2.mono _ _ _ _ _
   | exact LeO.none _
   | refine LeO.ite ?_ ?_
   | refine LeO.bind ?_ (fun _ => ?_)
theorem Bs.mono : ∀ a0 a1 a2 k, LeO (Bs.f k a0 a1 a2) (Bs.f (k + 1) a0 a1 a2) := by
 intro a0 a1 a2 k
 obtain ⟨ih0, ih1⟩ := Bs.mono_l k
 unfold Bs.f
 repeat' first
   | (with_reducible exact ih0 _ _ _ _ _ _ _)
   | (with_reducible exact ih1 _ _ _ _ _ _ _ _ _)
   | (with_reducible exact Cj.mono _ _ _)
   | (with_reducible exact B2.mono _ _ _ _ _)
   | (with_reducible exact LeO.refl _)
   | (with_reducible exact LeO.none _)
   | (with_reducible refine LeO.ite ?_ ?_)
   | (with_reducible refine LeO.bind ?_ (fun _ => ?_))
   | exact ih0 _ _ _ _ _ _ _
   | exact ih1 _ _ _ _ _ _ _ _ _
   | exact Cj.mono _ _ _
   | exact B2.mono _ _ _ _ _
   | exact LeO.none _
   | refine LeO.ite ?_ ?_
   | refine LeO.bind ?_ (fun _ => ?_)
set_option maxHeartbeats 8000000 in
set_option maxRecDepth 100000 in
theorem Bs.calls (k : Nat) (ae : Int) (aj : Int) (ao : Option Addr) (ap : Nat) (ag : List Bool) (r1 : List (S101)) (r2 : Int) (w : World) (aM : Kd.C Kd.bool w ao ag.length ag) (aN : ag.length ≤ ap) (h : Bs.f k ae aj ag = some (r1, r2)) :
  Calls Try.prog 59 #[.agg #[.int .i64 ae, .int .i64 aj, .slice ao ag.length ap]] w fun e w' => ∃ v0_ : Value, e = .returned (.tuple #[v0_, .int .i64 r2]) ∧ Kd.R k101 101 w' w.heap.size (fun _ => True) v0_ r1 ∧ Below w.heap.size w w' := by
 have hu50 := Try.underlying50
 have aJ := Aa.mk aM
 have aK := Aa.mk aN
 clear aM aN
 have HB := Aa.mk (Below.refl w.heap.size w)
 have H : ((Cn.f ae aj ag).bind fun aH => (if aH = 0 then (Bs.l0 k ([] : List (S101)) ([] : List (S101)) aj 0 ae aj ag) else (some (([] : List (S101)), aH)))) = some (r1, r2) := h
 clear h
 replace H := Option.bind_eq_some_iff.mp H
 obtain ⟨aH, A20, H⟩ := H
 try dsimp only at H
 have A2 := Aa.mk A20
 clear A20
 by_cases c3 : aH = 0
 ·rw [if_pos c3] at H
  have bf : (aH == 0) = true := beq_iff_eq.mpr c3
  have bg : (aH != 0) = false := bne_eq_false_iff_eq.mpr c3
  clear c3
  have H' := Aa.mk H
  clear H
  go_enter Try.func59, Try.ntmps59
  go_wp2_with (first | ((with_reducible refine Bq (N := 1) rfl ?_); refine Bt ?hg (N := 1) ?hd (cs := #[.int .i64 ae, .int .i64 aj, .slice ao ag.length ap]) (t := 50) ?hr ?_; (case hd => rfl); (case hg => rfl); (case hr => first | (go_simp; done) | (go_simp; rfl)); intro al hg w4 hbox hb; have n0_ := Aa.mk (Au (lU HB.out) hb); have n1_ := Aa.mk (hbox); have n2_ := Aa.mk ((by rw [hg]; exact (An (lU HB.out)) : w.heap.size ≤ al)); have n3_ := Aa.mk ((by rw [hg]; exact (An (lU HB.out)) : w.heap.size ≤ al)); clear HB; have HB := n0_; have ab := n1_; have dp := n2_; have ar := n3_; clear n0_ n1_ n2_ n3_; clear hb hbox hg; have bs : w4.cell? ⟨al, 0, none⟩ = some (.int .i64 ae) := (Ad ab.out 0).trans rfl; have bt : w4.cell? ⟨al, 1, none⟩ = some (.int .i64 aj) := (Ad ab.out 1).trans rfl; have bu : w4.cell? ⟨al, 2, none⟩ = some (.slice ao ag.length ap) := (Ad ab.out 2).trans rfl; have bv := Af ab.out 0; have bw := Af ab.out 1; have bz := Af ab.out 2) | ((with_reducible refine Br (f := 46) rfl ?_); refine Cm (some 11) rfl rfl Try.func46 (by kernel_rfl) rfl #[.agg #[.int .i64 ae, .int .i64 aj, .slice ao ag.length ap]] rfl (by (try simp only [List.map_toArray, List.map_cons, List.map_nil]); first | done | rfl | (simp only [List.length_drop, List.length_take]; rfl)) ?_; (with_reducible refine (Cn.calls ae aj _ _ ag aH _ ?side1 ?side2 A2.out).mono ?_); (case side1 => repeat (first | exact (Kd.Ce aJ.out HB.out) | (with_reducible refine Kd.Bw ?_ _) | (with_reducible refine Kd.B6 ?_ _) | (with_reducible refine Kd.Cf ?_))); (case side2 => exact aK.out); rintro e w6 ⟨rfl, hb⟩; refine ⟨_, rfl, ?_⟩; have n0_ := Aa.mk (Ao (g := al) (o := .cells #[.int .i64 ae, .int .i64 aj, .slice ao ag.length ap] 50 (0, 0)) (by exact bU <| ab.out) hb); have n1_ := Aa.mk (Au (by repeat (first | (with_reducible first | exact HB.out | apply Ae | apply Ac | apply Ah | refine Ag ?_ ar.out) | exact HB.out)) hb); clear ab; clear HB; have ab := n0_; have HB := n1_; clear n0_ n1_; (try clear hb); (try clear hb2); (try clear hk); (try clear hi); have bB : w6.cell? ⟨al, 0, none⟩ = some (.int .i64 ae) := (Ad ab.out 0).trans rfl; have bC : w6.cell? ⟨al, 1, none⟩ = some (.int .i64 aj) := (Ad ab.out 1).trans rfl; have bD : w6.cell? ⟨al, 2, none⟩ = some (.slice ao ag.length ap) := (Ad ab.out 2).trans rfl; have bE := Af ab.out 0; have bF := Af ab.out 1; have bG := Af ab.out 2))
  go_loopg [5, 6, 17] k (fun kq v5 v6 v17 w' => ∃ (aa : List (S101)) (av : List (S101)) (ax : Int), v17 = .int .i64 ax ∧ Aa (Bs.l0 kq aa av aj ax ae aj ag = some (r1, r2)) ∧ Aa (kq ≤ k) ∧ Aa (Kd.R k101 101 w' w.heap.size (fun k_ => some k_ ≠ (v6 : Value).ownBlock) v5 aa) ∧ Aa (Kd.R k101 101 w' w.heap.size (fun k_ => some k_ ≠ (v5 : Value).ownBlock) v6 av) ∧ Aa (w'.heap[al]? = some (.cells #[.int .i64 ae, .int .i64 aj, (.slice ao ag.length ap)] 50 (0, 0))) ∧ Aa (Below w.heap.size w w'))
  case atStart => exact ⟨(([] : List (S101))), (([] : List (S101))), (0), (by first | rfl | (simp; done) | (simp [*]; done)), H', ⟨Nat.le_refl _⟩, ⟨by first | exact Kd.C8 _ _ _ _ _ | exact Kd.N_nil _ _ _ _ _ | exact Kd.V_nil _ _ _ _ _ | exact Kd.Q_nil _ _ _ _ _ | exact Kd.S_nil _ _ _ _ _⟩, ⟨by first | exact Kd.C8 _ _ _ _ _ | exact Kd.N_nil _ _ _ _ _ | exact Kd.V_nil _ _ _ _ _ | exact Kd.Q_nil _ _ _ _ _ | exact Kd.S_nil _ _ _ _ _⟩, ⟨by exact bU <| ab.out⟩, ⟨by repeat (first | (with_reducible first | exact HB.out | apply Ae | apply Ac | apply Ah | refine Ag ?_ ar.out) | exact HB.out)⟩⟩
  case round =>
   clear H'
   try clear p2
   try clear c3
   try clear bf
   try clear bg
   try clear c4
   try clear c5
   try clear bs
   try clear bt
   try clear bu
   try clear bB
   try clear bC
   try clear bD
   try clear bv
   try clear bw
   try clear bz
   try clear bE
   try clear bF
   try clear bG
   obtain ⟨aa, av, ax, rfl, HA, HK1, ai, am, ab, HB⟩ := hrel
   cases gk with
   | zero => exact absurd HA.out (by simp [Bs.l0])
   | succ k1 =>
    have H := HA.out
    clear HA
    simp only [Bs.l0] at H
    by_cases c8 : ax < aj
    ·rw [if_pos c8] at H
     have dq : decide (ax < aj) = true := decide_eq_true c8
     clear c8
     replace H := Option.bind_eq_some_iff.mp H
     obtain ⟨aI, A90, H⟩ := H
     try dsimp only at H
     have A9 := Aa.mk A90
     clear A90
     replace H := Option.bind_eq_some_iff.mp H
     obtain ⟨cL, A100, H⟩ := H
     try dsimp only at H
     have A10 := Aa.mk A100
     clear A100
     by_cases c11 : cL = true
     ·subst c11
      have H1 := H
      rw [if_pos rfl] at H1
      clear H
      have H := H1
      clear H1
      have H' := Aa.mk H
      clear H
      have bP : wr.cell? ⟨al, 0, none⟩ = some (.int .i64 ae) := (Ad ab.out 0).trans rfl
      have bQ : wr.cell? ⟨al, 1, none⟩ = some (.int .i64 aj) := (Ad ab.out 1).trans rfl
      have bR : wr.cell? ⟨al, 2, none⟩ = some (.slice ao ag.length ap) := (Ad ab.out 2).trans rfl
      have bS := Af ab.out 0
      have bT := Af ab.out 1
      have bV := Af ab.out 2
      go_wp2_with (first | ((with_reducible refine Br (f := 96) rfl ?_); refine Cm (some 22) rfl rfl Try.func96 (by kernel_rfl) rfl #[.agg #[.int .i64 ae, .int .i64 aj, .slice ao ag.length ap], .int .i64 ax] rfl (by (try simp only [List.map_toArray, List.map_cons, List.map_nil]); first | done | rfl | (simp only [List.length_drop, List.length_take]; rfl)) ?_; (with_reducible refine (B2.calls k1 ae aj _ _ ag ax aI _ ?side1 ?side2 A9.out).mono ?_); (case side1 => repeat (first | exact (Kd.Ce aJ.out HB.out) | (with_reducible refine Kd.Bw ?_ _) | (with_reducible refine Kd.B6 ?_ _) | (with_reducible refine Kd.Cf ?_))); (case side2 => exact aK.out); rintro e w13 ⟨v179, rfl, ho0, hb⟩; refine ⟨_, rfl, ?_⟩; have n0_ := Aa.mk (Kd.B7 (by exact rU <| ai.out) (Kd.Ch ho0) hb); have n1_ := Aa.mk (Kd.B7 (by exact rU <| am.out) (Kd.Ch ho0) hb); have n2_ := Aa.mk (Kd.Cc (Kd.Ci (Kd.Ci ho0 (Kd.Cy (by exact rU <| ai.out))) (Kd.Cy (by exact rU <| am.out))) (An (by repeat (first | (with_reducible first | exact HB.out | apply Ae | apply Ac | apply Ah | refine Ag ?_ ar.out) | exact HB.out)))); have n3_ := Aa.mk (Ao (g := al) (o := .cells #[.int .i64 ae, .int .i64 aj, .slice ao ag.length ap] 50 (0, 0)) (by exact bU <| ab.out) hb); have n4_ := Aa.mk (Au (by repeat (first | (with_reducible first | exact HB.out | apply Ae | apply Ac | apply Ah | refine Ag ?_ ar.out) | exact HB.out)) hb); clear ai; clear am; clear ab; clear HB; have ai := n0_; have am := n1_; have au := n2_; have ab := n3_; have HB := n4_; clear n0_ n1_ n2_ n3_ n4_; (try clear hb); (try clear hb2); (try clear hk); (try clear hi); (try clear ho0); obtain ⟨cM, aU, d7⟩ := Kd.B0 am.out; subst d7; obtain ⟨d8, d9, ec⟩ := Kd.B0 au.out; subst ec) | ((with_reducible refine Br (f := 97) rfl ?_); refine Cm (some 25) rfl rfl Try.func97 (by kernel_rfl) rfl #[.slice cM av.length aU, .slice d8 aI.length d9] rfl (by (try simp only [List.map_toArray, List.map_cons, List.map_nil]); first | done | rfl | (simp only [List.length_drop, List.length_take]; rfl)) ?_; (with_reducible refine (Cj.calls k1 _ _ av _ _ aI true _ ?side1 ?side2 ?side3 ?side4 A10.out).mono ?_); (case side1 => repeat (first | exact (Kd.Ba am.out).2.2 | (with_reducible refine Kd.Bw ?_ _) | (with_reducible refine Kd.B6 ?_ _) | (with_reducible refine Kd.Cf ?_))); (case side2 => exact (Kd.Ba am.out).2.1); (case side3 => repeat (first | exact (Kd.Ba au.out).2.2 | (with_reducible refine Kd.Bw ?_ _) | (with_reducible refine Kd.B6 ?_ _) | (with_reducible refine Kd.Cf ?_))); (case side4 => exact (Kd.Ba au.out).2.1); rintro e w16 ⟨rfl, hb⟩; refine ⟨_, rfl, ?_⟩; have n0_ := Aa.mk (Kd.Bc (by exact rU <| ai.out) hb); have n1_ := Aa.mk (Kd.Bc (by exact rU <| am.out) hb); have n2_ := Aa.mk (Kd.Bc (by exact rU <| au.out) hb); have n3_ := Aa.mk (Ao (g := al) (o := .cells #[.int .i64 ae, .int .i64 aj, .slice ao ag.length ap] 50 (0, 0)) (by exact bU <| ab.out) hb); have n4_ := Aa.mk (Au (by repeat (first | (with_reducible first | exact HB.out | apply Ae | apply Ac | apply Ah | refine Ag ?_ ar.out) | exact HB.out)) hb); clear ai; clear am; clear au; clear ab; clear HB; have ai := n0_; have am := n1_; have au := n2_; have ab := n3_; have HB := n4_; clear n0_ n1_ n2_ n3_ n4_; (try clear hb); (try clear hb2); (try clear hk); (try clear hi)))
      go_loopg [33] k1 (fun kq v33 w' => ∃ (aq : List (S101)) (af : Int), v33 = .int .i64 af ∧ Aa (Bs.l1 kq aa aq aj ax (av.length : Int) af ae aj ag = some (r1, r2)) ∧ Aa (kq ≤ k1) ∧ Aa (Kd.R k101 101 w' w.heap.size (fun k_ => some k_ ≠ ((.slice cM av.length aU) : Value).ownBlock) u5 aa) ∧ Aa (Kd.R k101 101 w' w.heap.size (fun k_ => some k_ ≠ (u5 : Value).ownBlock) (.slice cM av.length aU) aq) ∧ Aa (w'.heap[al]? = some (.cells #[.int .i64 ae, .int .i64 aj, (.slice ao ag.length ap)] 50 (0, 0))) ∧ Aa (Below w.heap.size w w'))
      case atStart => exact ⟨(av), (0), (by first | rfl | (simp; done) | (simp [*]; done)), H', ⟨Nat.le_refl _⟩, ⟨by exact rU <| Kd.Bj ai.out (fun _ hk => hk.1)⟩, ⟨by exact rU <| Kd.Bj am.out (fun _ hk => hk.1)⟩, ⟨by exact bU <| ab.out⟩, ⟨by repeat (first | (with_reducible first | exact HB.out | apply Ae | apply Ac | apply Ah | refine Ag ?_ ar.out) | exact HB.out)⟩⟩
      case round =>
       clear H'
       try clear c1
       try clear p2
       try clear c3
       try clear bf
       try clear bg
       try clear c4
       try clear c5
       try clear p6
       try clear c8
       try clear dq
       try clear c9
       try clear c11
       try clear bP
       try clear bQ
       try clear bR
       try clear bs
       try clear bt
       try clear bu
       try clear bB
       try clear bC
       try clear bD
       try clear bS
       try clear bT
       try clear bV
       try clear bv
       try clear bw
       try clear bz
       try clear bE
       try clear bF
       try clear bG
       try clear p2
       obtain ⟨aq, af, rfl, HA, HK2, ai, am, ab, HB⟩ := hrel
       have aw := (Kd.Ba am.out).1
       rw [aw] at am
       (try simp only [aw])
       (try simp only [aw] at ab)
       (try simp only [aw] at ai)
       cases gk with
       | zero => exact absurd HA.out (by simp [Bs.l1])
       | succ k2 =>
        have H := HA.out
        clear HA
        simp only [Bs.l1] at H
        by_cases c17 : af < (av.length : Int)
        ·rw [if_pos c17] at H
         have ba : decide (af < (av.length : Int)) = true := decide_eq_true c17
         rw [aw] at ba
         clear c17
         by_cases c18 : 0 ≤ af
         ·rw [if_pos c18] at H
          have dd : decide (0 ≤ af) = true := decide_eq_true c18
          clear c18
          by_cases c19 : af < (aq.length : Int)
          ·rw [if_pos c19] at H
           have ce : decide (af < (aq.length : Int)) = true := decide_eq_true c19
           clear c19
           obtain ⟨dr, bH⟩ : ∃ y_ : List (S101), y_ = (aq.set (af : Int).toNat (⟨(rd_T101 aq af).f0, (rd_T101 aq af).f1, (rd_T101 aq af).f2, wrap64 (((rd_T101 aq af).f3) + 1)⟩ : S101)) := ⟨_, rfl⟩
           (try rw [Option.bind_some] at H); try rw [← bH] at H
           have dt := Aa.mk bH
           clear bH
           have H' := Aa.mk H
           clear H
           have cO : 0 ≤ (af : Int) := of_decide_eq_true (by with_reducible assumption)
           have cP : af < (aq.length : Int) := of_decide_eq_true (by with_reducible assumption)
           obtain ⟨et, e185, bW, bX, bY, bZ⟩ := at_T101 (Kd.Ba am.out).2.2 af cO cP
           cases e185
           replace cO := eq_true cO
           replace cP := eq_true cP
           have p20 : 0 ≤ (af : Int) := of_decide_eq_true (by with_reducible assumption)
           have q20 : (af : Int) < ((aq.length : Int) : Int) := of_decide_eq_true (by with_reducible assumption)
           obtain ⟨go20, dT, bo, bp, gl20, cl20, HG20⟩ := Kd.Dd am.out (by omega)
           (first | cases bo | (injection bo with ea_ en_ ec_; (first | subst ea_ | (injection ea_ with ea_; subst ea_)); subst ec_; clear en_))
           have GB20 := Aa.mk bp
           have GG20 := Aa.mk HG20
           clear bp gl20 HG20
           (first | simp only [add_plain] at bW | skip)
           (first | simp only [add_plain] at bX | skip)
           (first | simp only [add_plain] at bY | skip)
           (first | simp only [add_plain] at bZ | skip)
           obtain ⟨ce20, hcl20, hM20, hcc20, hfr20⟩ := Kd.R_elem am.out z101 (af : Int) p20 q20
           obtain rfl := k101_openM hM20
           have cA : wr.cell? ⟨go20, (af : Int).toNat * 4, none⟩ = some (.int .i64 ((rd_T101 aq af).f0)) := hcc20 0 _ rfl
           have cB : wr.cell? ⟨go20, (af : Int).toNat * 4 + 1, none⟩ = some (.int .i64 ((rd_T101 aq af).f1)) := hcc20 1 _ rfl
           have cC : wr.cell? ⟨go20, (af : Int).toNat * 4 + 2, none⟩ = some (.int .i64 ((rd_T101 aq af).f2)) := hcc20 2 _ rfl
           have cD : wr.cell? ⟨go20, (af : Int).toNat * 4 + 3, none⟩ = some (.int .i64 ((rd_T101 aq af).f3)) := hcc20 3 _ rfl
           have cE : wr.frozen? ⟨go20, (af : Int).toNat * 4, none⟩ = false := hfr20 0
           have cF : wr.frozen? ⟨go20, (af : Int).toNat * 4 + 1, none⟩ = false := hfr20 1
           have cG : wr.frozen? ⟨go20, (af : Int).toNat * 4 + 2, none⟩ = false := hfr20 2
           have cH : wr.frozen? ⟨go20, (af : Int).toNat * 4 + 3, none⟩ = false := hfr20 3
           clear hcl20 hcc20 hfr20 hM20
           replace p20 := eq_true p20
           replace q20 := eq_true q20
           have HX21 := Aa.mk (show Kd.R k101 101 wr w.heap.size (fun k_ => some k_ ≠ (u5 : Value).ownBlock) (.slice (some ⟨go20, 0, none⟩) aq.length aU) aq from (by exact rU <| am.out))
           obtain ⟨ce21, hcl21, hM21, hcc21, hfr21⟩ := Kd.R_elem HX21.out z101 (af : Int) (of_decide_eq_true (by with_reducible assumption)) (by have h_ : (af : Int) < ((aq.length : Int) : Int) := of_decide_eq_true (by with_reducible assumption); first | exact h_ | (have e_ := (Kd.Ba am.out).1; omega) | simpa using h_)
           obtain rfl := k101_openM hM21
           have cQ := Kd.R_seg HX21.out (af : Int) (of_decide_eq_true (by with_reducible assumption)) (by have h_ : (af : Int) < ((aq.length : Int) : Int) := of_decide_eq_true (by with_reducible assumption); first | exact h_ | (have e_ := (Kd.Ba am.out).1; omega) | simpa using h_) (seg := [.int .i64 (wrap64 (((rd_T101 aq af).f3) + 1))]) (j := 3) hcl21 hcc21 (show 4 ≤ 4 from by decide) (x' := (⟨(rd_T101 aq af).f0, (rd_T101 aq af).f1, (rd_T101 aq af).f2, wrap64 (((rd_T101 aq af).f3) + 1)⟩ : S101)) (k101_mkM _ _ _ (⟨(rd_T101 aq af).f0, (rd_T101 aq af).f1, (rd_T101 aq af).f2, wrap64 (((rd_T101 aq af).f3) + 1)⟩ : S101) ) (fun _ hk => hk)
           have cR := hcc21 3 _ rfl
           (try simp only [show (k101).sz = 4 from rfl, Nat.mul_one, Nat.add_zero] at cR)
           have cS := hfr21 3
           (try simp only [show (k101).sz = 4 from rfl, Nat.mul_one, Nat.add_zero] at cS)
           clear hcl21 hcc21 hfr21 hM21
           go_wp2_with (((with_reducible refine Cq (t := 3) (p := 43) rfl ?_); refine store_event (t := 3) (p := 43) (v := ?vo_w22) (w1 := (wr.setCell ⟨go20, (af : Int).toNat * 4 + 3, none⟩ (.int .i64 (wrap64 (((rd_T101 aq af).f3) + 1))))) ?hg ?ho ?hn ?hr ?_; (case ho => rfl); (case hg => rfl); (case hn => rfl); (case hr => first | (go_simp; done) | (go_simp; rfl)); intro w22 hw; have hg : wr.grownBy w22 (some go20) := (by rw [hw]; exact cQ.2); have hp_ : Kd.R k101 101 w22 w.heap.size (fun k_ => some k_ ≠ (u5 : Value).ownBlock) (.slice (some ⟨go20, 0, none⟩) aq.length aU) dr := (by rw [hw, dt.out]; exact cQ.1); clear cQ; have n0_ := Aa.mk (Kd.C5 (v := (.slice (some ⟨go20, 0, none⟩) aq.length aU)) (v1 := (.slice (some ⟨go20, 0, none⟩) aq.length aU)) (ok := (fun _ => True)) (by exact rU <| Kd.Bj ai.out (fun _ hk => ⟨trivial, hk⟩)) hg (.inl rfl)); have n1_ := Aa.mk (hp_); have n2_ := Aa.mk (Bu (g := al) (o := .cells #[.int .i64 ae, .int .i64 aj, .slice ao ag.length ap] 50 (0, 0)) (by exact bU <| ab.out) hg (Kd.De am.out ab.out (by decide))); have n3_ := Aa.mk ((by rw [hw]; exact Ag (HB.out) GB20.out : Below w.heap.size w w22)); clear ai; clear am; clear ab; clear HB; have ai := n0_; have am := n1_; have ab := n2_; have HB := n3_; clear n0_ n1_ n2_ n3_; clear hg hw hp_))
           (try simp only [← aw])
           go_roundg k2
           case measure => have := HK1.out; have := HK2.out; omega
           case rel => exact ⟨(dr), (wrap64 (af + 1)), (by first | rfl | (simp; done) | (simp [*]; done)), H', ⟨by have := HK1.out; have := HK2.out; omega⟩, ⟨by (try simp only [aw]); exact rU <| Kd.Bj ai.out (fun _ hk => hk.2)⟩, ⟨by (try simp only [aw]); exact rU <| am.out⟩, ⟨by (try simp only [aw]); exact bU <| ab.out⟩, ⟨by repeat (first | (with_reducible first | exact HB.out | apply Ae | apply Ac | apply Ah | refine Ag ?_ ar.out) | exact HB.out)⟩⟩
          ·rw [if_neg c19] at H
           exact absurd H (by simp)
         ·rw [if_neg c18] at H
          exact absurd H (by simp)
        ·rw [if_neg c17] at H
         have ba : decide (af < (av.length : Int)) = false := decide_eq_false c17
         rw [aw] at ba
         clear c17
         have H' := Aa.mk H
         clear H
         go_wp2
         (try simp only [← aw])
         go_roundg k2
         case measure => have := HK1.out; have := HK2.out; omega
         case rel => exact ⟨(aa), (aq), (wrap64 (ax + 1)), (by first | rfl | (simp; done) | (simp [*]; done)), H', ⟨by have := HK1.out; have := HK2.out; omega⟩, ⟨by (try simp only [aw]); exact rU <| ai.out⟩, ⟨by (try simp only [aw]); exact rU <| am.out⟩, ⟨by (try simp only [aw]); exact bU <| ab.out⟩, ⟨by repeat (first | (with_reducible first | exact HB.out | apply Ae | apply Ac | apply Ah | refine Ag ?_ ar.out) | exact HB.out)⟩⟩
     ·replace c11 := Bool.eq_false_iff.mpr c11
      subst c11
      have H1 := H
      rw [if_neg (show ¬ (false = true) by decide)] at H1
      clear H
      have H := H1
      clear H1
      by_cases c23 : aa.length + av.length < 4398046511104
      ·rw [if_pos c23] at H
       have LMc23 := Aa.mk c23
       clear c23
       obtain ⟨ed, bI⟩ : ∃ y_ : List (S101), y_ = (aa ++ av) := ⟨_, rfl⟩
       (try rw [Option.bind_some] at H); try rw [← bI] at H
       have du := Aa.mk bI
       clear bI
       have H' := Aa.mk H
       clear H
       have dD : wr.cell? ⟨al, 0, none⟩ = some (.int .i64 ae) := (Ad ab.out 0).trans rfl
       have dE : wr.cell? ⟨al, 1, none⟩ = some (.int .i64 aj) := (Ad ab.out 1).trans rfl
       have dF : wr.cell? ⟨al, 2, none⟩ = some (.slice ao ag.length ap) := (Ad ab.out 2).trans rfl
       have dG := Af ab.out 0
       have dH := Af ab.out 1
       have dI := Af ab.out 2
       go_wp2_with (first | ((with_reducible refine Br (f := 96) rfl ?_); refine Cm (some 22) rfl rfl Try.func96 (by kernel_rfl) rfl #[.agg #[.int .i64 ae, .int .i64 aj, .slice ao ag.length ap], .int .i64 ax] rfl (by (try simp only [List.map_toArray, List.map_cons, List.map_nil]); first | done | rfl | (simp only [List.length_drop, List.length_take]; rfl)) ?_; (with_reducible refine (B2.calls k1 ae aj _ _ ag ax aI _ ?side1 ?side2 A9.out).mono ?_); (case side1 => repeat (first | exact (Kd.Ce aJ.out HB.out) | (with_reducible refine Kd.Bw ?_ _) | (with_reducible refine Kd.B6 ?_ _) | (with_reducible refine Kd.Cf ?_))); (case side2 => exact aK.out); rintro e w25 ⟨v179, rfl, ho0, hb⟩; refine ⟨_, rfl, ?_⟩; have n0_ := Aa.mk (Kd.B7 (by exact rU <| ai.out) (Kd.Ch ho0) hb); have n1_ := Aa.mk (Kd.B7 (by exact rU <| am.out) (Kd.Ch ho0) hb); have n2_ := Aa.mk (Kd.Cc (Kd.Ci (Kd.Ci ho0 (Kd.Cy (by exact rU <| ai.out))) (Kd.Cy (by exact rU <| am.out))) (An (by repeat (first | (with_reducible first | exact HB.out | apply Ae | apply Ac | apply Ah | refine Ag ?_ ar.out) | exact HB.out)))); have n3_ := Aa.mk (Ao (g := al) (o := .cells #[.int .i64 ae, .int .i64 aj, .slice ao ag.length ap] 50 (0, 0)) (by exact bU <| ab.out) hb); have n4_ := Aa.mk (Au (by repeat (first | (with_reducible first | exact HB.out | apply Ae | apply Ac | apply Ah | refine Ag ?_ ar.out) | exact HB.out)) hb); clear ai; clear am; clear ab; clear HB; have ai := n0_; have am := n1_; have au := n2_; have ab := n3_; have HB := n4_; clear n0_ n1_ n2_ n3_ n4_; (try clear hb); (try clear hb2); (try clear hk); (try clear hi); (try clear ho0); obtain ⟨cU, cV, ee⟩ := Kd.B0 am.out; subst ee; obtain ⟨cW, cX, ef⟩ := Kd.B0 au.out; subst ef) | ((with_reducible refine Br (f := 97) rfl ?_); refine Cm (some 25) rfl rfl Try.func97 (by kernel_rfl) rfl #[.slice cU av.length cV, .slice cW aI.length cX] rfl (by (try simp only [List.map_toArray, List.map_cons, List.map_nil]); first | done | rfl | (simp only [List.length_drop, List.length_take]; rfl)) ?_; (with_reducible refine (Cj.calls k1 _ _ av _ _ aI false _ ?side1 ?side2 ?side3 ?side4 A10.out).mono ?_); (case side1 => repeat (first | exact (Kd.Ba am.out).2.2 | (with_reducible refine Kd.Bw ?_ _) | (with_reducible refine Kd.B6 ?_ _) | (with_reducible refine Kd.Cf ?_))); (case side2 => exact (Kd.Ba am.out).2.1); (case side3 => repeat (first | exact (Kd.Ba au.out).2.2 | (with_reducible refine Kd.Bw ?_ _) | (with_reducible refine Kd.B6 ?_ _) | (with_reducible refine Kd.Cf ?_))); (case side4 => exact (Kd.Ba au.out).2.1); rintro e w28 ⟨rfl, hb⟩; refine ⟨_, rfl, ?_⟩; have n0_ := Aa.mk (Kd.Bc (by exact rU <| ai.out) hb); have n1_ := Aa.mk (Kd.Bc (by exact rU <| am.out) hb); have n2_ := Aa.mk (Kd.Bc (by exact rU <| au.out) hb); have n3_ := Aa.mk (Ao (g := al) (o := .cells #[.int .i64 ae, .int .i64 aj, .slice ao ag.length ap] 50 (0, 0)) (by exact bU <| ab.out) hb); have n4_ := Aa.mk (Au (by repeat (first | (with_reducible first | exact HB.out | apply Ae | apply Ac | apply Ah | refine Ag ?_ ar.out) | exact HB.out)) hb); clear ai; clear am; clear au; clear ab; clear HB; have ai := n0_; have am := n1_; have au := n2_; have ab := n3_; have HB := n4_; clear n0_ n1_ n2_ n3_ n4_; (try clear hb); (try clear hb2); (try clear hk); (try clear hi)) | ((with_reducible refine Cu (b := .append) (xs := #[.tmp 27, .tmp 28]) rfl ?_); at_builtin; refine Kd.R_append_rows k101 (w0 := w) w.heap.size rfl (.tmp 27) (.tmp 28) 96 101 (.agg #[(.int .i64 0), (.int .i64 0), (.int .i64 0), (.int .i64 0)]) 32 rfl Try.underlying96 info101 rfl (by decide) (by omega) u5 aa av _ _ _ (fun k_ => some k_ ≠ (.slice cU av.length cV : Value).ownBlock ∧ some k_ ≠ (.slice cW aI.length cX : Value).ownBlock) (fun _ => False) rfl rfl ?aO ?aR (fun _ _ h => h) (fun _ h => h.elim) ?aF ?aB ?aS ?aL ?_; (case aR => repeat (first | exact (Kd.Ba am.out).2.2 | (with_reducible refine Kd.Bw ?_ _) | (with_reducible refine Kd.B6 ?_ _) | (with_reducible refine Kd.Cf ?_))); (case aB => exact (by repeat (first | (with_reducible first | exact HB.out | apply Ae | apply Ac | apply Ah | refine Ag ?_ ar.out) | exact HB.out))); (case aF => exact (fun k_ hk => ⟨Kd.fresh' (Kd.Cy (by exact rU <| am.out)) k_ hk, Kd.fresh' (Kd.Cy (by exact rU <| au.out)) k_ hk⟩)); (case aO => exact (by exact rU <| ai.out)); (case aS => exact (An (by repeat (first | (with_reducible first | exact HB.out | apply Ae | apply Ac | apply Ah | refine Ag ?_ ar.out) | exact HB.out)))); (case aL => have := LMc23.out; omega); intro v183 w29 ho hb hg hat; rw [← du.out] at ho; have n0_ := Aa.mk (Kd.C5 (ok := (fun k_ => some k_ ≠ (.slice cW aI.length cX : Value).ownBlock)) (by exact rU <| Kd.Bj am.out (fun _ hk => ⟨hk.2, hk.1⟩)) hg hat); have n1_ := Aa.mk (Bu (g := al) (o := .cells #[.int .i64 ae, .int .i64 aj, .slice ao ag.length ap] 50 (0, 0)) (by exact bU <| ab.out) hg (Kd.De ai.out ab.out (by decide))); have n2_ := Aa.mk (Kd.C5 (ok := (fun k_ => some k_ ≠ (.slice cU av.length cV : Value).ownBlock)) (by exact rU <| Kd.Bj au.out (fun _ hk => ⟨hk.2, hk.1.2⟩)) hg hat); have n3_ := Aa.mk (hb); have n4_ := Aa.mk (ho); clear am; clear ab; clear au; clear HB; clear ai; have am := n0_; have ab := n1_; have au := n2_; have HB := n3_; have dv := n4_; clear n0_ n1_ n2_ n3_ n4_; clear ho hb hg hat))
       go_roundg k1
       case measure => have := HK1.out; omega
       case rel => exact ⟨(ed), (aI), (wrap64 (ax + 1)), (by first | rfl | (simp; done) | (simp [*]; done)), H', ⟨by have := HK1.out; omega⟩, ⟨by exact rU <| Kd.Bj dv.out (fun _ hk => hk.2)⟩, ⟨by exact rU <| Kd.Bj au.out (fun _ hk => hk.2)⟩, ⟨by exact bU <| ab.out⟩, ⟨by repeat (first | (with_reducible first | exact HB.out | apply Ae | apply Ac | apply Ah | refine Ag ?_ ar.out) | exact HB.out)⟩⟩
      ·rw [if_neg c23] at H
       exact absurd H (by simp)
    ·rw [if_neg c8] at H
     have dq : decide (ax < aj) = false := decide_eq_false c8
     clear c8
     by_cases c30 : aa.length + av.length < 4398046511104
     ·rw [if_pos c30] at H
      have LMc30 := Aa.mk c30
      clear c30
      obtain ⟨eE, bJ⟩ : ∃ y_ : List (S101), y_ = (aa ++ av) := ⟨_, rfl⟩
      (try rw [Option.bind_some] at H); try rw [← bJ] at H
      have dw := Aa.mk bJ
      clear bJ
      simp only [Option.some.injEq, Prod.mk.injEq] at H
      obtain ⟨rfl, rfl⟩ := H
      obtain ⟨eh, ei, ek⟩ := Kd.B0 am.out
      subst ek
      go_wp2_with (((with_reducible refine Cu (b := .append) (xs := #[.tmp 46, .tmp 47]) rfl ?_); at_builtin; refine Kd.R_append_rows k101 (w0 := w) w.heap.size rfl (.tmp 46) (.tmp 47) 96 101 (.agg #[(.int .i64 0), (.int .i64 0), (.int .i64 0), (.int .i64 0)]) 32 rfl Try.underlying96 info101 rfl (by decide) (by omega) u5 aa av _ _ _ (fun k_ => some k_ ≠ (.slice eh av.length ei : Value).ownBlock) (fun _ => False) rfl rfl ?aO ?aR (fun _ _ h => h) (fun _ h => h.elim) ?aF ?aB ?aS ?aL ?_; (case aR => repeat (first | exact (Kd.Ba am.out).2.2 | (with_reducible refine Kd.Bw ?_ _) | (with_reducible refine Kd.B6 ?_ _) | (with_reducible refine Kd.Cf ?_))); (case aB => exact (by repeat (first | (with_reducible first | exact HB.out | apply Ae | apply Ac | apply Ah | refine Ag ?_ ar.out) | exact HB.out))); (case aF => exact (fun k_ hk => Kd.fresh' (Kd.Cy (by exact rU <| am.out)) k_ hk)); (case aO => exact (by exact rU <| ai.out)); (case aS => exact (An (by repeat (first | (with_reducible first | exact HB.out | apply Ae | apply Ac | apply Ah | refine Ag ?_ ar.out) | exact HB.out)))); (case aL => have := LMc30.out; omega); intro v176 w31 ho hb hg hat; rw [← dw.out] at ho; have n0_ := Aa.mk (Kd.C5 (ok := (fun _ => True)) (by exact rU <| Kd.Bj am.out (fun _ hk => ⟨trivial, hk⟩)) hg hat); have n1_ := Aa.mk (Bu (g := al) (o := .cells #[.int .i64 ae, .int .i64 aj, .slice ao ag.length ap] 50 (0, 0)) (by exact bU <| ab.out) hg (Kd.De ai.out ab.out (by decide))); have n2_ := Aa.mk (hb); have n3_ := Aa.mk (ho); clear am; clear ab; clear HB; clear ai; have am := n0_; have ab := n1_; have HB := n2_; have dz := n3_; clear n0_ n1_ n2_ n3_; clear ho hb hg hat))
      go_ret2
      exact ⟨_, by first | rfl | (simp [Be, Bd] <;> rfl) | (simp [*, Be, Bd] <;> rfl), by exact rU <| Kd.Bj dz.out (fun _ hk => trivial), by repeat (first | (with_reducible first | exact HB.out | apply Ae | apply Ac | apply Ah | refine Ag ?_ ar.out) | exact HB.out)⟩
     ·rw [if_neg c30] at H
      exact absurd H (by simp)
 ·rw [if_neg c3] at H
  have bf : (aH == 0) = false := beq_eq_false_iff_ne.mpr c3
  have bg : (aH != 0) = true := bne_iff_ne.mpr c3
  simp only [Option.some.injEq, Prod.mk.injEq] at H
  obtain ⟨rfl, rfl⟩ := H
  go_enter Try.func59, Try.ntmps59
  go_wp2_with (first | ((with_reducible refine Bq (N := 1) rfl ?_); refine Bt ?hg (N := 1) ?hd (cs := #[.int .i64 ae, .int .i64 aj, .slice ao ag.length ap]) (t := 50) ?hr ?_; (case hd => rfl); (case hg => rfl); (case hr => first | (go_simp; done) | (go_simp; rfl)); intro al hg w33 hbox hb; have n0_ := Aa.mk (Au (lU HB.out) hb); have n1_ := Aa.mk (hbox); have n2_ := Aa.mk ((by rw [hg]; exact (An (lU HB.out)) : w.heap.size ≤ al)); have n3_ := Aa.mk ((by rw [hg]; exact (An (lU HB.out)) : w.heap.size ≤ al)); clear HB; have HB := n0_; have ab := n1_; have dp := n2_; have ar := n3_; clear n0_ n1_ n2_ n3_; clear hb hbox hg; have dJ : w33.cell? ⟨al, 0, none⟩ = some (.int .i64 ae) := (Ad ab.out 0).trans rfl; have dK : w33.cell? ⟨al, 1, none⟩ = some (.int .i64 aj) := (Ad ab.out 1).trans rfl; have dL : w33.cell? ⟨al, 2, none⟩ = some (.slice ao ag.length ap) := (Ad ab.out 2).trans rfl; have dM := Af ab.out 0; have dN := Af ab.out 1; have dO := Af ab.out 2) | ((with_reducible refine Br (f := 46) rfl ?_); refine Cm (some 11) rfl rfl Try.func46 (by kernel_rfl) rfl #[.agg #[.int .i64 ae, .int .i64 aj, .slice ao ag.length ap]] rfl (by (try simp only [List.map_toArray, List.map_cons, List.map_nil]); first | done | rfl | (simp only [List.length_drop, List.length_take]; rfl)) ?_; (with_reducible refine (Cn.calls ae aj _ _ ag aH _ ?side1 ?side2 A2.out).mono ?_); (case side1 => repeat (first | exact (Kd.Ce aJ.out HB.out) | (with_reducible refine Kd.Bw ?_ _) | (with_reducible refine Kd.B6 ?_ _) | (with_reducible refine Kd.Cf ?_))); (case side2 => exact aK.out); rintro e w35 ⟨rfl, hb⟩; refine ⟨_, rfl, ?_⟩; have n0_ := Aa.mk (Ao (g := al) (o := .cells #[.int .i64 ae, .int .i64 aj, .slice ao ag.length ap] 50 (0, 0)) (by exact bU <| ab.out) hb); have n1_ := Aa.mk (Au (by repeat (first | (with_reducible first | exact HB.out | apply Ae | apply Ac | apply Ah | refine Ag ?_ ar.out) | exact HB.out)) hb); clear ab; clear HB; have ab := n0_; have HB := n1_; clear n0_ n1_; (try clear hb); (try clear hb2); (try clear hk); (try clear hi)))
  go_ret2
  exact ⟨_, by first | rfl | (simp [Be, Bd] <;> rfl) | (simp [*, Be, Bd] <;> rfl), by first | exact Kd.C8 _ _ _ _ _ | exact Kd.N_nil _ _ _ _ _ | exact Kd.V_nil _ _ _ _ _ | exact Kd.Q_nil _ _ _ _ _ | exact Kd.S_nil _ _ _ _ _, by repeat (first | (with_reducible first | exact HB.out | apply Ae | apply Ac | apply Ah | refine Ag ?_ ar.out) | exact HB.out)⟩

def Bp.l0 : Nat → List (S101) → List (S101) → Int → Option (Bool)
 | 0, _, _, _ => none
 | k + 1, x0, x1, x5 => if x5 < (x0.length : Int) then (if 0 ≤ x5 then (if x5 < (x1.length : Int) then (if (!(((rd_T101 x0 x5).f0) == ((rd_T101 x1 x5).f0)) || (!(((rd_T101 x0 x5).f1) == ((rd_T101 x1 x5).f1)) || (!(((rd_T101 x0 x5).f2) == ((rd_T101 x1 x5).f2)) || (!(((rd_T101 x0 x5).f3) == ((rd_T101 x1 x5).f3)))))) = true then (some false) else (Bp.l0 k x0 x1 (wrap64 (x5 + 1)))) else (none)) else (none)) else (some true)
def Bp.f (k : Nat) (l0 : List (S101)) (l1 : List (S101)) : Option (Bool) := if (l0.length : Int) = (l1.length : Int) then (Bp.l0 k l0 l1 0) else (some false)
theorem Bp.mono_l : ∀ k, (∀ y0 y1 y2, LeO (Bp.l0 k y0 y1 y2) (Bp.l0 (k + 1) y0 y1 y2))
 | 0 => fun _ _ _ r h => by simp [Bp.l0] at h
 | k + 1 => by
  have ih0 := Bp.mono_l k
  ·intro y0 y1 y2
   unfold Bp.l0
   repeat' first
   | (with_reducible exact ih0 _ _ _)
   | (with_reducible exact LeO.refl _)
   | (with_reducible exact LeO.none _)
   | (with_reducible refine LeO.ite ?_ ?_)
   | (with_reducible refine LeO.bind ?_ (fun _ => ?_))
   | exact ih0 _ _ _
   | exact LeO.none _
   | refine LeO.ite ?_ ?_
   | refine LeO.bind ?_ (fun _ => ?_)
theorem Bp.mono : ∀ a0 a1 k, LeO (Bp.f k a0 a1) (Bp.f (k + 1) a0 a1) := by
 intro a0 a1 k
 have ih0 := Bp.mono_l k
 unfold Bp.f
 repeat' first
   | (with_reducible exact ih0 _ _ _)
   | (with_reducible exact LeO.refl _)
   | (with_reducible exact LeO.none _)
   | (with_reducible refine LeO.ite ?_ ?_)
   | (with_reducible refine LeO.bind ?_ (fun _ => ?_))
   | exact ih0 _ _ _
   | exact LeO.none _
   | refine LeO.ite ?_ ?_
   | refine LeO.bind ?_ (fun _ => ?_)
set_option maxHeartbeats 8000000 in
set_option maxRecDepth 100000 in
theorem Bp.calls (k : Nat) (A0 : Option Addr) (c0 : Nat) (l0 : List (S101)) (A1 : Option Addr) (c1 : Nat) (l1 : List (S101)) (r : Bool) (w : World) (hr0 : Kd.C k101 w A0 l0.length l0) (hc0 : l0.length ≤ c0) (hr1 : Kd.C k101 w A1 l1.length l1) (hc1 : l1.length ≤ c1) (h : Bp.f k l0 l1 = some r) :
  Calls Try.prog 60 #[.slice A0 l0.length c0, .slice A1 l1.length c1] w fun e w' => e = .returned (.bool r) ∧ Drawn0 w w' := by
 have hu101 := Try.underlying101
 have HR0 := Aa.mk hr0
 have HC0 := Aa.mk hc0
 clear hr0 hc0
 have HR1 := Aa.mk hr1
 have HC1 := Aa.mk hc1
 clear hr1 hc1
 have H : (if (l0.length : Int) = (l1.length : Int) then (Bp.l0 k l0 l1 0) else (some false)) = some r := h
 clear h
 by_cases c3 : (l0.length : Int) = (l1.length : Int)
 ·rw [if_pos c3] at H
  have bf : ((l0.length : Int) == (l1.length : Int)) = true := beq_iff_eq.mpr c3
  have bg : ((l0.length : Int) != (l1.length : Int)) = false := bne_eq_false_iff_eq.mpr c3
  have dA : (l0.length == l1.length) = true := by first | simpa using c3 | (simp at c3 ⊢; omega)
  clear c3
  have H' := Aa.mk H
  clear H
  go_enter Try.func60, Try.ntmps60
  go_wp2
  repeat (go_quiet (fail); try go_wp2)
  go_loopg [5] k (fun kq v5 w' => ∃ (aa : Int), v5 = .int .i64 aa ∧ Aa (Bp.l0 kq l0 l1 aa = some r) ∧ Aa (kq ≤ k) ∧ Drawn0 w w')
  case atStart => exact ⟨(0), (by first | rfl | (simp; done) | (simp [*]; done)), H', ⟨Nat.le_refl _⟩, by repeat (first | exact Drawn0.refl _ | apply Drawn0.step)⟩
  case round =>
   clear H'
   try clear c1
   try clear p2
   try clear c3
   try clear bf
   try clear bg
   try clear dA
   obtain ⟨aa, rfl, HA, HK1, ⟨m1, rfl⟩⟩ := hrel
   cases gk with
   | zero => exact absurd HA.out (by simp [Bp.l0])
   | succ k1 =>
    have H := HA.out
    clear HA
    simp only [Bp.l0] at H
    by_cases c4 : aa < (l0.length : Int)
    ·rw [if_pos c4] at H
     have cg : decide (aa < (l0.length : Int)) = true := decide_eq_true c4
     clear c4
     by_cases c5 : 0 ≤ aa
     ·rw [if_pos c5] at H
      have cY : decide (0 ≤ aa) = true := decide_eq_true c5
      clear c5
      by_cases c6 : aa < (l1.length : Int)
      ·rw [if_pos c6] at H
       have cZ : decide (aa < (l1.length : Int)) = true := decide_eq_true c6
       clear c6
       by_cases c7 : (!(((rd_T101 l0 aa).f0) == ((rd_T101 l1 aa).f0)) || (!(((rd_T101 l0 aa).f1) == ((rd_T101 l1 aa).f1)) || (!(((rd_T101 l0 aa).f2) == ((rd_T101 l1 aa).f2)) || (!(((rd_T101 l0 aa).f3) == ((rd_T101 l1 aa).f3)))))) = true
       ·rw [if_pos c7] at H
        have el : (!(((rd_T101 l0 aa).f0) == ((rd_T101 l1 aa).f0)) || (!(((rd_T101 l0 aa).f1) == ((rd_T101 l1 aa).f1)) || (!(((rd_T101 l0 aa).f2) == ((rd_T101 l1 aa).f2)) || (!(((rd_T101 l0 aa).f3) == ((rd_T101 l1 aa).f3)))))) = true := c7
        clear c7
        obtain rfl := Option.some.inj H
        have aV : 0 ≤ (aa : Int) := of_decide_eq_true (by with_reducible assumption)
        have aW : aa < (l0.length : Int) := of_decide_eq_true (by with_reducible assumption)
        obtain ⟨dB, e187, b3, b4, b5, b6⟩ := at_T101 HR0.out aa aV aW
        cases e187
        replace aV := eq_true aV
        replace aW := eq_true aW
        have aX : 0 ≤ (aa : Int) := of_decide_eq_true (by with_reducible assumption)
        have aY : aa < (l1.length : Int) := of_decide_eq_true (by with_reducible assumption)
        obtain ⟨dC, e188, b7, b8, b9, cd⟩ := at_T101 HR1.out aa aX aY
        cases e188
        replace aX := eq_true aX
        replace aY := eq_true aY
        go_wp2
        repeat (go_quiet (fail); try go_wp2)
        go_ret
        exact ⟨by first | rfl | (simp; done) | (simp [*]; done), by repeat (first | exact Drawn0.refl _ | apply Drawn0.step)⟩
       ·rw [if_neg c7] at H
        have el : (!(((rd_T101 l0 aa).f0) == ((rd_T101 l1 aa).f0)) || (!(((rd_T101 l0 aa).f1) == ((rd_T101 l1 aa).f1)) || (!(((rd_T101 l0 aa).f2) == ((rd_T101 l1 aa).f2)) || (!(((rd_T101 l0 aa).f3) == ((rd_T101 l1 aa).f3)))))) = false := by simpa using c7
        clear c7
        have H' := Aa.mk H
        clear H
        have aV : 0 ≤ (aa : Int) := of_decide_eq_true (by with_reducible assumption)
        have aW : aa < (l0.length : Int) := of_decide_eq_true (by with_reducible assumption)
        obtain ⟨dB, e187, b3, b4, b5, b6⟩ := at_T101 HR0.out aa aV aW
        cases e187
        replace aV := eq_true aV
        replace aW := eq_true aW
        have aX : 0 ≤ (aa : Int) := of_decide_eq_true (by with_reducible assumption)
        have aY : aa < (l1.length : Int) := of_decide_eq_true (by with_reducible assumption)
        obtain ⟨dC, e188, b7, b8, b9, cd⟩ := at_T101 HR1.out aa aX aY
        cases e188
        replace aX := eq_true aX
        replace aY := eq_true aY
        go_wp2
        repeat (go_quiet (fail); try go_wp2)
        go_roundg k1
        case measure => have := HK1.out; omega
        case rel => exact ⟨(wrap64 (aa + 1)), (by first | rfl | (simp; done) | (simp [*]; done)), H', ⟨by have := HK1.out; omega⟩, by repeat (first | exact Drawn0.refl _ | apply Drawn0.step)⟩
      ·rw [if_neg c6] at H
       exact absurd H (by simp)
     ·rw [if_neg c5] at H
      exact absurd H (by simp)
    ·rw [if_neg c4] at H
     have cg : decide (aa < (l0.length : Int)) = false := decide_eq_false c4
     clear c4
     obtain rfl := Option.some.inj H
     go_wp2
     repeat (go_quiet (fail); try go_wp2)
     go_ret
     exact ⟨by first | rfl | (simp; done) | (simp [*]; done), by repeat (first | exact Drawn0.refl _ | apply Drawn0.step)⟩
 ·rw [if_neg c3] at H
  have bf : ((l0.length : Int) == (l1.length : Int)) = false := beq_eq_false_iff_ne.mpr c3
  have bg : ((l0.length : Int) != (l1.length : Int)) = true := bne_iff_ne.mpr c3
  have dA : (l0.length == l1.length) = false := by first | simpa using c3 | (simp at c3 ⊢; omega)
  obtain rfl := Option.some.inj H
  go_enter Try.func60, Try.ntmps60
  go_wp2
  repeat (go_quiet (fail); try go_wp2)
  go_ret
  exact ⟨by first | rfl | (simp; done) | (simp [*]; done), by repeat (first | exact Drawn0.refl _ | apply Drawn0.step)⟩

end Go.Proofs.Yteamphcehoaleaa.PFA

