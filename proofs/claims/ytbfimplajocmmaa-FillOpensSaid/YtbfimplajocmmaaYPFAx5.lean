import Derived.Test.YtbfimplajocmmaaYUQ
import Derived.Test.YtbfimplajocmmaaYWAt
import Derived.Test.YtbfimplajocmmaaYPRAx0
import Derived.Test.YtbfimplajocmmaaYPFAx1
import Derived.Test.YtbfimplajocmmaaYPFAx2
import Derived.Test.YtbfimplajocmmaaYPFAx4
namespace Go.Proofs.Ytbfimplajocmmaa.PFA
open Go.RowKit Go.Proofs.YtbfimplajocmmaaW.PrintWords Go.Proofs.YtbfimplajocmmaaW.PrintLast Go.Proofs.YtbfimplajocmmaaW.PrintMore
attribute [local go_sem] max2_int min2_int max_two min_two max_three min_three max_four min_four
set_option linter.unusedVariables false
set_option linter.unusedSimpArgs false

attribute [local go_sem high] eqA86
def B4.l0 : Nat → Int → List (S86) → List Bool → Int → Int → Option ((List (S86)))
 | 0, _, _, _, _, _ => none
 | k + 1, x1, x5, x20, x21, x22 => if x22 < x21 then (if 0 ≤ x22 then (if x22 < (x20.length : Int) then (if rdOf false x20 x22 = true then (if (x5.length : Int) > 0 then (if 0 ≤ (wrap64 ((x5.length : Int) - 1)) then (if (wrap64 ((x5.length : Int) - 1)) < (x5.length : Int) then (if ((rd_T86 x5 (wrap64 ((x5.length : Int) - 1))).f2) = x22 then (B4.l0 k x1 (x5.set ((wrap64 ((x5.length : Int) - 1)) : Int).toNat (⟨(rd_T86 x5 (wrap64 ((x5.length : Int) - 1))).f0, (rd_T86 x5 (wrap64 ((x5.length : Int) - 1))).f1, wrap64 (((rd_T86 x5 (wrap64 ((x5.length : Int) - 1))).f2) + 1), (rd_T86 x5 (wrap64 ((x5.length : Int) - 1))).f3⟩ : S86)) x20 x21 (wrap64 (x22 + 1))) else (if x5.length < 4398046511104 then (B4.l0 k x1 (x5 ++ [(⟨x22, x1, wrap64 (x22 + 1), wrap64 (x1 + 1)⟩ : S86)]) x20 x21 (wrap64 (x22 + 1))) else (none))) else (none)) else (none)) else (if x5.length < 4398046511104 then (B4.l0 k x1 (x5 ++ [(⟨x22, x1, wrap64 (x22 + 1), wrap64 (x1 + 1)⟩ : S86)]) x20 x21 (wrap64 (x22 + 1))) else (none))) else (B4.l0 k x1 x5 x20 x21 (wrap64 (x22 + 1)))) else (none)) else (none)) else (some x5)
def B4.f (k : Nat) (ag : Int) (ak : Int) (ai : List Bool) (a1 : Int) : Option ((List (S86))) := if 0 ≤ (wrap64 (a1 * ag)) then (if (wrap64 (a1 * ag)) ≤ (wrap64 ((wrap64 (a1 + 1)) * ag)) then (if (wrap64 ((wrap64 (a1 + 1)) * ag)) ≤ (ai.length : Int) then (B4.l0 k a1 ([] : List (S86)) ((ai.take ((wrap64 ((wrap64 (a1 + 1)) * ag)) : Int).toNat).drop ((wrap64 (a1 * ag)) : Int).toNat) (((ai.take ((wrap64 ((wrap64 (a1 + 1)) * ag)) : Int).toNat).drop ((wrap64 (a1 * ag)) : Int).toNat).length : Int) 0) else (none)) else (none)) else (none)
theorem B4.mono_l : ∀ k, (∀ y0 y1 y2 y3 y4, LeO (B4.l0 k y0 y1 y2 y3 y4) (B4.l0 (k + 1) y0 y1 y2 y3 y4))
 | 0 => fun _ _ _ _ _ r h => by simp [B4.l0] at h
 | k + 1 => by
  have ih0 := B4.mono_l k
  ·intro y0 y1 y2 y3 y4
   unfold B4.l0
   repeat' first
   | (with_reducible exact ih0 _ _ _ _ _)
   | (with_reducible exact LeO.refl _)
   | (with_reducible exact LeO.none _)
   | (with_reducible refine LeO.ite ?_ ?_)
   | (with_reducible refine LeO.bind ?_ (fun _ => ?_))
   | exact ih0 _ _ _ _ _
   | exact LeO.none _
   | refine LeO.ite ?_ ?_
   | refine LeO.bind ?_ (fun _ => ?_)
theorem B4.mono : ∀ a0 a1 a2 a3 k, LeO (B4.f k a0 a1 a2 a3) (B4.f (k + 1) a0 a1 a2 a3) := by
 intro a0 a1 a2 a3 k; have ih0 := B4.mono_l k; unfold B4.f
 repeat' first
   | (with_reducible exact ih0 _ _ _ _ _)
   | (with_reducible exact LeO.refl _)
   | (with_reducible exact LeO.none _)
   | (with_reducible refine LeO.ite ?_ ?_)
   | (with_reducible refine LeO.bind ?_ (fun _ => ?_))
   | exact ih0 _ _ _ _ _
   | exact LeO.none _
   | refine LeO.ite ?_ ?_
   | refine LeO.bind ?_ (fun _ => ?_)
set_option maxHeartbeats 8000000 in
set_option maxRecDepth 100000 in
theorem B4.calls (k : Nat) (ag : Int) (ak : Int) (aq : Option Addr) (ar : Nat) (ai : List Bool) (a1 : Int) (r : List (S86)) (w : World) (aT : Kd.C Kd.bool w aq ai.length ai) (aU : ai.length ≤ ar) (h : B4.f k ag ak ai a1 = some r) :
  Calls Try.prog 72 #[.agg #[.int .i64 ag, .int .i64 ak, .slice aq ai.length ar], .int .i64 a1] w fun e w' => ∃ v0_ : Value, e = .returned (v0_) ∧ Kd.R k86 86 w' w.heap.size (fun _ => True) v0_ r ∧ Below w.heap.size w w' := by
 have hu27 := Try.underlying27; have hu86 := Try.underlying86; have aN := Ac.mk aT; have aQ := Ac.mk aU; clear aT aU; have HB := Ac.mk (Below.refl w.heap.size w); have H : (if 0 ≤ (wrap64 (a1 * ag)) then (if (wrap64 (a1 * ag)) ≤ (wrap64 ((wrap64 (a1 + 1)) * ag)) then (if (wrap64 ((wrap64 (a1 + 1)) * ag)) ≤ (ai.length : Int) then (B4.l0 k a1 ([] : List (S86)) ((ai.take ((wrap64 ((wrap64 (a1 + 1)) * ag)) : Int).toNat).drop ((wrap64 (a1 * ag)) : Int).toNat) (((ai.take ((wrap64 ((wrap64 (a1 + 1)) * ag)) : Int).toNat).drop ((wrap64 (a1 * ag)) : Int).toNat).length : Int) 0) else (none)) else (none)) else (none)) = some r := h; clear h; obtain ⟨ji3, bO⟩ : ∃ j_ : Int, (wrap64 (a1 * ag)) = j_ := ⟨_, rfl⟩; replace H : (if 0 ≤ (ji3) then (if (ji3) ≤ (wrap64 ((wrap64 (a1 + 1)) * ag)) then (if (wrap64 ((wrap64 (a1 + 1)) * ag)) ≤ (ai.length : Int) then (B4.l0 k a1 ([] : List (S86)) ((ai.take ((wrap64 ((wrap64 (a1 + 1)) * ag)) : Int).toNat).drop ((ji3) : Int).toNat) (((ai.take ((wrap64 ((wrap64 (a1 + 1)) * ag)) : Int).toNat).drop ((ji3) : Int).toNat).length : Int) 0) else (none)) else (none)) else (none)) = some r := by first | (rw [bO] at H; exact H) | (simp only [bO] at H ⊢; exact H)
 have hji3w : (IntKind.i64.wrap (a1 * ag)) = ji3 := (i64_w _).trans bO
 by_cases c4 : 0 ≤ (ji3)
 ·rw [if_pos c4] at H
  have ct := eq_true c4; have dR : decide (0 ≤ (ji3)) = true := decide_eq_true c4; clear c4
  by_cases c5 : (ji3) ≤ (wrap64 ((wrap64 (a1 + 1)) * ag))
  ·rw [if_pos c5] at H
   have da := eq_true c5; have dS : decide ((ji3) ≤ (wrap64 ((wrap64 (a1 + 1)) * ag))) = true := decide_eq_true c5
   by_cases c6 : (wrap64 ((wrap64 (a1 + 1)) * ag)) ≤ (ai.length : Int)
   ·rw [if_pos c6] at H
    have db := eq_true c6; have dT : decide ((wrap64 ((wrap64 (a1 + 1)) * ag)) ≤ (ai.length : Int)) = true := decide_eq_true c6; have H' := Ac.mk H; clear H; have hlen6 := Ac.mk (show ((ai.take ((wrap64 ((wrap64 (a1 + 1)) * ag)) : Int).toNat).drop ((ji3) : Int).toNat).length = (wrap64 ((wrap64 (a1 + 1)) * ag)).toNat - ji3.toNat from by rw [List.length_drop, List.length_take, Nat.min_eq_left (Int.toNat_le.mpr c6)]); go_enter Try.func72, Try.ntmps72
    go_wp2_with (((with_reducible refine Bf (N := 2) rfl ?_); refine Bc ?hg (N := 2) ?hd (cs := #[.int .i64 ag, .int .i64 ak, .slice aq ai.length ar]) (t := 27) ?hr ?_; (case hd => rfl); (case hg => rfl); (case hr => first | (go_simp; done) | (go_simp; rfl)); intro aJ hg w7 hbox hb; have av := Ac.mk (hbox); have ep := Ac.mk ((by rw [hg]; exact (Ak (lU HB.out)) : w.heap.size ≤ aJ)); have aG := Ac.mk ((by rw [hg]; exact (Ak (lU HB.out)) : w.heap.size ≤ aJ)); replace HB := Ac.mk (Aq (lU HB.out) hb); clear hb hbox hg; have cu : w7.cell? ⟨aJ, 0, none⟩ = some (.int .i64 ag) := (Ad av.out 0).trans rfl; have cw : w7.cell? ⟨aJ, 1, none⟩ = some (.int .i64 ak) := (Ad av.out 1).trans rfl; have cx : w7.cell? ⟨aJ, 2, none⟩ = some (.slice aq ai.length ar) := (Ad av.out 2).trans rfl; have cy := Af av.out 0; have cz := Af av.out 1; have cA := Af av.out 2; obtain ⟨i09, hi09, _, hsz9, _⟩ := info_parts info4; obtain ⟨A9, hcut9, hA9, hC9⟩ := print_mid_of (P := Try.prog) Value.bool false 25 4 .i64 .i64 Try.underlying25 hi09 hsz9 aq ar ai (ji3) (wrap64 ((wrap64 (a1 + 1)) * ag)) (of_decide_eq_true (by with_reducible assumption)) (by first | omega | exact of_decide_eq_true (by with_reducible assumption)) (of_decide_eq_true (by with_reducible assumption)) aQ.out; have HR162 := Ac.mk (Kd.C_of_reads (h1 := fun _ => rfl) (hA9 _ (Kd.Cx aN.out))); have HC162 := Ac.mk hC9; clear hA9 hC9 hi09 hsz9))
    rw [← hlen6.out]; obtain ⟨yS, hyS⟩ : ∃ y_, y_ = ((ai.take ((wrap64 ((wrap64 (a1 + 1)) * ag)) : Int).toNat).drop ((ji3) : Int).toNat) := ⟨_, rfl⟩; rw [← hyS] at H' HR162 HC162 ⊢; clear hyS hlen6
    go_loopg [5, 22] k (fun kq v5 v22 w' => ∃ (aa : List (S86)) (ac : Int), v22 = .int .i64 ac ∧ Ac (B4.l0 kq a1 aa yS (yS.length : Int) ac = some r) ∧ Ac (kq ≤ k) ∧ Ac (Kd.R k86 86 w' w.heap.size (fun _ => True) v5 aa) ∧ Ac (w'.heap[aJ]? = some (.cells #[.int .i64 ag, .int .i64 ak, (.slice aq ai.length ar)] 27 (0, 0))) ∧ Ac (Below w.heap.size w w'))
    case atStart => exact ⟨(([] : List (S86))), (0), (by first | rfl | (simp; done) | (simp [*]; done)), H', ⟨Nat.le_refl _⟩, ⟨by first | exact Kd.Ct _ _ _ _ _ | exact Kd.N_nil _ _ _ _ _ | exact Kd.V_nil _ _ _ _ _ | exact Kd.Q_nil _ _ _ _ _ | exact Kd.S_nil _ _ _ _ _⟩, ⟨by exact bU <| av.out⟩, ⟨by repeat (first | (with_reducible first | exact HB.out | apply Ah | apply Ae | apply Ai | refine Ag ?_ aG.out) | exact HB.out)⟩⟩
    case round =>
     clear H'; (try clear p2); (try clear c4); (try clear ct); (try clear dR); (try clear c5); (try clear da); (try clear dS); (try clear c6); (try clear db); (try clear dT); (try clear p6); (try clear c7); (try clear cu); (try clear cw); (try clear cx); (try clear cy); (try clear cz); (try clear cA); obtain ⟨aa, ac, rfl, HA, HK1, an, av, HB⟩ := hrel; cases gk with
     | zero => exact absurd HA.out (by simp [B4.l0])
     | succ k1 =>
      have H := HA.out; clear HA
      simp only [B4.l0] at H
      by_cases c10 : ac < (yS.length : Int)
      ·rw [if_pos c10] at H
       have dc : decide (ac < (yS.length : Int)) = true := decide_eq_true c10; clear c10
       by_cases c11 : 0 ≤ ac
       ·rw [if_pos c11] at H
        have er : decide (0 ≤ ac) = true := decide_eq_true c11; clear c11
        by_cases c12 : ac < (yS.length : Int)
        ·rw [if_pos c12] at H
         have es : decide (ac < (yS.length : Int)) = true := decide_eq_true c12; clear c12; obtain ⟨bq13, bm⟩ : ∃ b_ : Bool, b_ = (rdOf false yS ac) := ⟨_, rfl⟩; replace H : (if bq13 = true then (if (aa.length : Int) > 0 then (if 0 ≤ (wrap64 ((aa.length : Int) - 1)) then (if (wrap64 ((aa.length : Int) - 1)) < (aa.length : Int) then (if ((rd_T86 aa (wrap64 ((aa.length : Int) - 1))).f2) = ac then (B4.l0 k1 a1 (aa.set ((wrap64 ((aa.length : Int) - 1)) : Int).toNat (⟨(rd_T86 aa (wrap64 ((aa.length : Int) - 1))).f0, (rd_T86 aa (wrap64 ((aa.length : Int) - 1))).f1, wrap64 (((rd_T86 aa (wrap64 ((aa.length : Int) - 1))).f2) + 1), (rd_T86 aa (wrap64 ((aa.length : Int) - 1))).f3⟩ : S86)) yS (yS.length : Int) (wrap64 (ac + 1))) else (if aa.length < 4398046511104 then (B4.l0 k1 a1 (aa ++ [(⟨ac, a1, wrap64 (ac + 1), wrap64 (a1 + 1)⟩ : S86)]) yS (yS.length : Int) (wrap64 (ac + 1))) else (none))) else (none)) else (none)) else (if aa.length < 4398046511104 then (B4.l0 k1 a1 (aa ++ [(⟨ac, a1, wrap64 (ac + 1), wrap64 (a1 + 1)⟩ : S86)]) yS (yS.length : Int) (wrap64 (ac + 1))) else (none))) else (B4.l0 k1 a1 aa yS (yS.length : Int) (wrap64 (ac + 1)))) = some r := by rw [← bm] at H; exact H
         have bc := Ac.mk bm; clear bm
         by_cases c14 : bq13 = true
         ·subst c14
          have H1 := H; rw [if_pos rfl] at H1; clear H; have H := H1; clear H1
          by_cases c15 : (aa.length : Int) > 0
          ·rw [if_pos c15] at H
           have dd : decide (0 < (aa.length : Int)) = true := decide_eq_true c15; have de : decide (0 < aa.length) = true := decide_eq_true (by omega); clear c15; obtain ⟨aj, bo⟩ : ∃ j_ : Int, (wrap64 ((aa.length : Int) - 1)) = j_ := ⟨_, rfl⟩; replace H : (if 0 ≤ (aj) then (if (aj) < (aa.length : Int) then (if ((rd_T86 aa (aj)).f2) = ac then (B4.l0 k1 a1 (aa.set ((aj) : Int).toNat (⟨(rd_T86 aa (aj)).f0, (rd_T86 aa (aj)).f1, wrap64 (((rd_T86 aa (aj)).f2) + 1), (rd_T86 aa (aj)).f3⟩ : S86)) yS (yS.length : Int) (wrap64 (ac + 1))) else (if aa.length < 4398046511104 then (B4.l0 k1 a1 (aa ++ [(⟨ac, a1, wrap64 (ac + 1), wrap64 (a1 + 1)⟩ : S86)]) yS (yS.length : Int) (wrap64 (ac + 1))) else (none))) else (none)) else (none)) = some r := by first | (rw [bo] at H; exact H) | (simp only [bo] at H ⊢; exact H)
           have hji16w : (IntKind.i64.wrap ((aa.length : Int) - 1)) = aj := (i64_w _).trans bo
           by_cases c17 : 0 ≤ (aj)
           ·rw [if_pos c17] at H
            have bd : decide (0 ≤ (aj)) = true := decide_eq_true c17; clear c17
            by_cases c18 : (aj) < (aa.length : Int)
            ·rw [if_pos c18] at H
             have df : decide ((aj) < (aa.length : Int)) = true := decide_eq_true c18; clear c18
             by_cases c19 : ((rd_T86 aa (aj)).f2) = ac
             ·rw [if_pos c19] at H
              have cr : (((rd_T86 aa (aj)).f2) == ac) = true := beq_iff_eq.mpr c19; have dg : (((rd_T86 aa (aj)).f2) != ac) = false := bne_eq_false_iff_eq.mpr c19; clear c19; obtain ⟨dh, bp⟩ : ∃ y_ : List (S86), y_ = (aa.set ((aj) : Int).toNat (⟨(rd_T86 aa (aj)).f0, (rd_T86 aa (aj)).f1, wrap64 (((rd_T86 aa (aj)).f2) + 1), (rd_T86 aa (aj)).f3⟩ : S86)) := ⟨_, rfl⟩; (try rw [Option.bind_some] at H); try rw [← bp] at H; have di := Ac.mk bp; clear bp; have H' := Ac.mk H; clear H; have aH : 0 ≤ (ac : Int) := of_decide_eq_true (by with_reducible assumption); have aI : ac < (yS.length : Int) := of_decide_eq_true (by with_reducible assumption); obtain ⟨bq, e163, am⟩ := Kd.at_bool HR162.out ac aH aI; (try rw [← bc.out] at am); cases e163; replace am := (HB.out.cell (World.block_lt_of_cell? w _ am)).trans am; replace aH := eq_true aH; replace aI := eq_true aI; obtain ⟨eu, dj, dU⟩ := Kd.B0 an.out; subst dU; have aV : 0 ≤ ((aj) : Int) := of_decide_eq_true (by with_reducible assumption); have aW : (aj) < (aa.length : Int) := of_decide_eq_true (by with_reducible assumption); obtain ⟨br, e164, be, bf, bg, bh⟩ := at_T86 (Kd.Bn an.out).2.2 (aj) aV aW; cases e164; replace aV := eq_true aV; replace aW := eq_true aW; have cB : 0 ≤ ((aj) : Int) := of_decide_eq_true (by with_reducible assumption); have cC : (aj) < (aa.length : Int) := of_decide_eq_true (by with_reducible assumption); obtain ⟨dk, e165, bP, bQ, bR, bS⟩ := at_T86 (Kd.Bn an.out).2.2 (aj) cB cC; obtain rfl : br = dk := (by injection e165); replace cB := eq_true cB; replace cC := eq_true cC; have p20 : 0 ≤ ((aj) : Int) := of_decide_eq_true (by with_reducible assumption); have q20 : ((aj) : Int) < ((aa.length : Int) : Int) := of_decide_eq_true (by with_reducible assumption); obtain ⟨go20, dV, bs, bt, gl20, cl20, HG20⟩ := Kd.R_form an.out (by omega); (first | cases bs | (injection bs with ea_ en_ ec_; (first | subst ea_ | (injection ea_ with ea_; subst ea_)); subst ec_; clear en_)); have GB20 := Ac.mk bt; have GG20 := Ac.mk HG20; clear bt gl20 HG20; (first | simp only [add_plain] at be | skip); (first | simp only [add_plain] at bf | skip); (first | simp only [add_plain] at bg | skip); (first | simp only [add_plain] at bh | skip); (first | simp only [add_plain] at bP | skip); (first | simp only [add_plain] at bQ | skip); (first | simp only [add_plain] at bR | skip); (first | simp only [add_plain] at bS | skip); obtain ⟨ce20, hcl20, hM20, hcc20, hfr20⟩ := Kd.R_elem an.out z86 ((aj) : Int) p20 q20; obtain rfl := k86_openM hM20; have cD : wr.cell? ⟨go20, ((aj) : Int).toNat * 4, none⟩ = some (.int .i64 ((rd_T86 aa (aj)).f0)) := hcc20 0 _ rfl; have cE : wr.cell? ⟨go20, ((aj) : Int).toNat * 4 + 1, none⟩ = some (.int .i64 ((rd_T86 aa (aj)).f1)) := hcc20 1 _ rfl; have cF : wr.cell? ⟨go20, ((aj) : Int).toNat * 4 + 2, none⟩ = some (.int .i64 ((rd_T86 aa (aj)).f2)) := hcc20 2 _ rfl; have cG : wr.cell? ⟨go20, ((aj) : Int).toNat * 4 + 3, none⟩ = some (.int .i64 ((rd_T86 aa (aj)).f3)) := hcc20 3 _ rfl; have cH : wr.frozen? ⟨go20, ((aj) : Int).toNat * 4, none⟩ = false := hfr20 0; have cI : wr.frozen? ⟨go20, ((aj) : Int).toNat * 4 + 1, none⟩ = false := hfr20 1; have cJ : wr.frozen? ⟨go20, ((aj) : Int).toNat * 4 + 2, none⟩ = false := hfr20 2; have cK : wr.frozen? ⟨go20, ((aj) : Int).toNat * 4 + 3, none⟩ = false := hfr20 3; clear hcl20 hcc20 hfr20 hM20; replace p20 := eq_true p20; replace q20 := eq_true q20; have HX22 := Ac.mk (show Kd.R k86 86 wr w.heap.size (fun _ => True) (.slice (some ⟨go20, 0, none⟩) aa.length dj) aa from (by exact rU <| an.out)); obtain ⟨ce22, hcl22, hM22, hcc22, hfr22⟩ := Kd.R_elem HX22.out z86 ((aj) : Int) (of_decide_eq_true (by with_reducible assumption)) (by have h_ : ((aj) : Int) < ((aa.length : Int) : Int) := of_decide_eq_true (by with_reducible assumption); first | exact h_ | (have e_ := (Kd.Bn an.out).1; omega) | simpa using h_); obtain rfl := k86_openM hM22; have cL := Kd.R_seg HX22.out ((aj) : Int) (of_decide_eq_true (by with_reducible assumption)) (by have h_ : ((aj) : Int) < ((aa.length : Int) : Int) := of_decide_eq_true (by with_reducible assumption); first | exact h_ | (have e_ := (Kd.Bn an.out).1; omega) | simpa using h_) (seg := [.int .i64 (wrap64 (((rd_T86 aa (aj)).f2) + 1))]) (j := 2) hcl22 hcc22 (show 3 ≤ 4 from by decide) (x' := (⟨(rd_T86 aa (aj)).f0, (rd_T86 aa (aj)).f1, wrap64 (((rd_T86 aa (aj)).f2) + 1), (rd_T86 aa (aj)).f3⟩ : S86)) (k86_mkM _ _ _ (⟨(rd_T86 aa (aj)).f0, (rd_T86 aa (aj)).f1, wrap64 (((rd_T86 aa (aj)).f2) + 1), (rd_T86 aa (aj)).f3⟩ : S86) ) (fun _ hk => hk); have cM := hcc22 2 _ rfl; (try simp only [show (k86).sz = 4 from rfl, Nat.mul_one, Nat.add_zero] at cM); have cN := hfr22 2; (try simp only [show (k86).sz = 4 from rfl, Nat.mul_one, Nat.add_zero] at cN); clear hcl22 hcc22 hfr22 hM22
              go_wp2_with (((with_reducible refine Dk (t := 3) (p := 63) rfl ?_); refine store_event (t := 3) (p := 63) (v := ?vo_w23) (w1 := (wr.setCell ⟨go20, ((aj) : Int).toNat * 4 + 2, none⟩ (.int .i64 (wrap64 (((rd_T86 aa (aj)).f2) + 1))))) ?hg ?ho ?hn ?hr ?_; (case ho => rfl); (case hg => rfl); (case hn => rfl); (case hr => first | (go_simp; done) | (go_simp; rfl)); intro w23 hw; have hg : wr.grownBy w23 (some go20) := (by rw [hw]; exact cL.2); have hp_ : Kd.R k86 86 w23 w.heap.size (fun _ => True) (.slice (some ⟨go20, 0, none⟩) aa.length dj) dh := (by rw [hw, di.out]; exact cL.1); clear cL; replace av := Ac.mk (B3 (g := aJ) (o := .cells #[.int .i64 ag, .int .i64 ak, .slice aq ai.length ar] 27 (0, 0)) (by exact bU <| av.out) hg (Kd.Dr an.out av.out (by decide))); replace an := Ac.mk (hp_); replace HB := Ac.mk ((by rw [hw]; exact Ag (HB.out) GB20.out : Below w.heap.size w w23)); clear hg hw hp_))
              go_roundg k1
              case measure => have := HK1.out; omega
              case rel => exact ⟨(dh), (wrap64 (ac + 1)), (by first | rfl | (simp; done) | (simp [*]; done)), H', ⟨by have := HK1.out; omega⟩, ⟨by exact rU <| an.out⟩, ⟨by exact bU <| av.out⟩, ⟨by repeat (first | (with_reducible first | exact HB.out | apply Ah | apply Ae | apply Ai | refine Ag ?_ aG.out) | exact HB.out)⟩⟩
             ·rw [if_neg c19] at H
              have cr : (((rd_T86 aa (aj)).f2) == ac) = false := beq_eq_false_iff_ne.mpr c19; have dg : (((rd_T86 aa (aj)).f2) != ac) = true := bne_iff_ne.mpr c19
              by_cases c24 : aa.length < 4398046511104
              ·rw [if_pos c24] at H
               have LMc24 := Ac.mk c24; clear c24; obtain ⟨dW, bu⟩ : ∃ y_ : List (S86), y_ = (aa ++ [(⟨ac, a1, wrap64 (ac + 1), wrap64 (a1 + 1)⟩ : S86)]) := ⟨_, rfl⟩; (try rw [Option.bind_some] at H); try rw [← bu] at H; have dl := Ac.mk bu; clear bu; have H' := Ac.mk H; clear H; have aH : 0 ≤ (ac : Int) := of_decide_eq_true (by with_reducible assumption); have aI : ac < (yS.length : Int) := of_decide_eq_true (by with_reducible assumption); obtain ⟨bq, e163, am⟩ := Kd.at_bool HR162.out ac aH aI; (try rw [← bc.out] at am); cases e163; replace am := (HB.out.cell (World.block_lt_of_cell? w _ am)).trans am; replace aH := eq_true aH; replace aI := eq_true aI; obtain ⟨ew, dX, dY⟩ := Kd.B0 an.out; subst dY; have aV : 0 ≤ ((aj) : Int) := of_decide_eq_true (by with_reducible assumption); have aW : (aj) < (aa.length : Int) := of_decide_eq_true (by with_reducible assumption); obtain ⟨br, e164, be, bf, bg, bh⟩ := at_T86 (Kd.Bn an.out).2.2 (aj) aV aW; cases e164; replace aV := eq_true aV; replace aW := eq_true aW
               go_wp2_with (((with_reducible refine C5 (b := .append) (xs := #[.tmp 29, .tmp 37]) rfl ?_); at_builtin; refine Kd.Ds k86 (w0 := w) w.heap.size rfl (.tmp 29) (.tmp 37) 79 86 (.agg #[(.int .i64 0), (.int .i64 0), (.int .i64 0), (.int .i64 0)]) 32 rfl Try.underlying79 info86 rfl (by decide) (by omega) (.slice (some br) aa.length dX) aa (⟨ac, a1, wrap64 (ac + 1), wrap64 (a1 + 1)⟩ : S86) [.int .i64 ac, .int .i64 a1, .int .i64 (wrap64 (ac + 1)), .int .i64 (wrap64 (a1 + 1))] (fun _ => True) (fun _ => False) rfl rfl ?aP (fun _ hk => hk.elim) ?aF ?aO ?aB ?aS ?aL ?_; (case aP => exact k86_mkM _ _ _ (⟨ac, a1, wrap64 (ac + 1), wrap64 (a1 + 1)⟩ : S86)); (case aB => exact (by repeat (first | (with_reducible first | exact HB.out | apply Ah | apply Ae | apply Ai | refine Ag ?_ aG.out) | exact HB.out))); (case aF => exact (fun _ _ => trivial)); (case aO => exact (by exact rU <| an.out)); (case aS => exact (Ak (by repeat (first | (with_reducible first | exact HB.out | apply Ah | apply Ae | apply Ai | refine Ag ?_ aG.out) | exact HB.out)))); (case aL => have := LMc24.out; omega); intro v168 w26 ho hb hg hat; rw [← dl.out] at ho; replace av := Ac.mk (B3 (g := aJ) (o := .cells #[.int .i64 ag, .int .i64 ak, .slice aq ai.length ar] 27 (0, 0)) (by exact bU <| av.out) hg (Kd.Dr an.out av.out (by decide))); replace HB := Ac.mk (hb); have dn := Ac.mk (ho); clear an; clear ho hb hg hat))
               go_roundg k1
               case measure => have := HK1.out; omega
               case rel => exact ⟨(dW), (wrap64 (ac + 1)), (by first | rfl | (simp; done) | (simp [*]; done)), H', ⟨by have := HK1.out; omega⟩, ⟨by exact rU <| dn.out⟩, ⟨by exact bU <| av.out⟩, ⟨by repeat (first | (with_reducible first | exact HB.out | apply Ah | apply Ae | apply Ai | refine Ag ?_ aG.out) | exact HB.out)⟩⟩
              ·rw [if_neg c24] at H
               exact absurd H (by simp)
            ·rw [if_neg c18] at H
             exact absurd H (by simp)
           ·rw [if_neg c17] at H
            exact absurd H (by simp)
          ·rw [if_neg c15] at H
           have dd : decide (0 < (aa.length : Int)) = false := decide_eq_false c15; have de : decide (0 < aa.length) = false := decide_eq_false (by omega); clear c15
           by_cases c27 : aa.length < 4398046511104
           ·rw [if_pos c27] at H
            have LMc27 := Ac.mk c27; clear c27; obtain ⟨dZ, bv⟩ : ∃ y_ : List (S86), y_ = (aa ++ [(⟨ac, a1, wrap64 (ac + 1), wrap64 (a1 + 1)⟩ : S86)]) := ⟨_, rfl⟩; (try rw [Option.bind_some] at H); try rw [← bv] at H; have dp := Ac.mk bv; clear bv; have H' := Ac.mk H; clear H; have aH : 0 ≤ (ac : Int) := of_decide_eq_true (by with_reducible assumption); have aI : ac < (yS.length : Int) := of_decide_eq_true (by with_reducible assumption); obtain ⟨bq, e163, am⟩ := Kd.at_bool HR162.out ac aH aI; (try rw [← bc.out] at am); cases e163; replace am := (HB.out.cell (World.block_lt_of_cell? w _ am)).trans am; replace aH := eq_true aH; replace aI := eq_true aI; obtain ⟨d5, d6, d7⟩ := Kd.B0 an.out; subst d7
            go_wp2_with (((with_reducible refine C5 (b := .append) (xs := #[.tmp 29, .tmp 37]) rfl ?_); at_builtin; refine Kd.Ds k86 (w0 := w) w.heap.size rfl (.tmp 29) (.tmp 37) 79 86 (.agg #[(.int .i64 0), (.int .i64 0), (.int .i64 0), (.int .i64 0)]) 32 rfl Try.underlying79 info86 rfl (by decide) (by omega) (.slice d5 aa.length d6) aa (⟨ac, a1, wrap64 (ac + 1), wrap64 (a1 + 1)⟩ : S86) [.int .i64 ac, .int .i64 a1, .int .i64 (wrap64 (ac + 1)), .int .i64 (wrap64 (a1 + 1))] (fun _ => True) (fun _ => False) rfl rfl ?aP (fun _ hk => hk.elim) ?aF ?aO ?aB ?aS ?aL ?_; (case aP => exact k86_mkM _ _ _ (⟨ac, a1, wrap64 (ac + 1), wrap64 (a1 + 1)⟩ : S86)); (case aB => exact (by repeat (first | (with_reducible first | exact HB.out | apply Ah | apply Ae | apply Ai | refine Ag ?_ aG.out) | exact HB.out))); (case aF => exact (fun _ _ => trivial)); (case aO => exact (by exact rU <| an.out)); (case aS => exact (Ak (by repeat (first | (with_reducible first | exact HB.out | apply Ah | apply Ae | apply Ai | refine Ag ?_ aG.out) | exact HB.out)))); (case aL => have := LMc27.out; omega); intro v171 w29 ho hb hg hat; rw [← dp.out] at ho; replace av := Ac.mk (B3 (g := aJ) (o := .cells #[.int .i64 ag, .int .i64 ak, .slice aq ai.length ar] 27 (0, 0)) (by exact bU <| av.out) hg (Kd.Dr an.out av.out (by decide))); replace HB := Ac.mk (hb); have dq := Ac.mk (ho); clear an; clear ho hb hg hat))
            go_roundg k1
            case measure => have := HK1.out; omega
            case rel => exact ⟨(dZ), (wrap64 (ac + 1)), (by first | rfl | (simp; done) | (simp [*]; done)), H', ⟨by have := HK1.out; omega⟩, ⟨by exact rU <| dq.out⟩, ⟨by exact bU <| av.out⟩, ⟨by repeat (first | (with_reducible first | exact HB.out | apply Ah | apply Ae | apply Ai | refine Ag ?_ aG.out) | exact HB.out)⟩⟩
           ·rw [if_neg c27] at H
            exact absurd H (by simp)
         ·replace c14 := Bool.eq_false_iff.mpr c14
          subst c14; have H1 := H; rw [if_neg (show ¬ (false = true) by decide)] at H1; clear H; have H := H1; clear H1; have H' := Ac.mk H; clear H; have aH : 0 ≤ (ac : Int) := of_decide_eq_true (by with_reducible assumption); have aI : ac < (yS.length : Int) := of_decide_eq_true (by with_reducible assumption); obtain ⟨bq, e163, am⟩ := Kd.at_bool HR162.out ac aH aI; (try rw [← bc.out] at am); cases e163; replace am := (HB.out.cell (World.block_lt_of_cell? w _ am)).trans am; replace aH := eq_true aH; replace aI := eq_true aI; obtain ⟨ex, ey, d8⟩ := Kd.B0 an.out; subst d8
          go_wp2
          go_roundg k1
          case measure => have := HK1.out; omega
          case rel => exact ⟨(aa), (wrap64 (ac + 1)), (by first | rfl | (simp; done) | (simp [*]; done)), H', ⟨by have := HK1.out; omega⟩, ⟨by exact rU <| an.out⟩, ⟨by exact bU <| av.out⟩, ⟨by repeat (first | (with_reducible first | exact HB.out | apply Ah | apply Ae | apply Ai | refine Ag ?_ aG.out) | exact HB.out)⟩⟩
        ·rw [if_neg c12] at H
         exact absurd H (by simp)
       ·rw [if_neg c11] at H
        exact absurd H (by simp)
      ·rw [if_neg c10] at H
       have dc : decide (ac < (yS.length : Int)) = false := decide_eq_false c10; clear c10; obtain rfl := Option.some.inj H
       go_wp2
       go_ret
       exact ⟨_, by first | rfl | (simp [At, As] <;> rfl) | (simp only [← bO]; first | rfl | (simp [At, As] <;> rfl)) | (simp [*, At, As] <;> rfl), by exact rU <| an.out, by repeat (first | (with_reducible first | exact HB.out | apply Ah | apply Ae | apply Ai | refine Ag ?_ aG.out) | exact HB.out)⟩
   ·rw [if_neg c6] at H
    exact absurd H (by simp)
  ·rw [if_neg c5] at H
   exact absurd H (by simp)
 ·rw [if_neg c4] at H
  exact absurd H (by simp)

mutual
def Bz.l0 : Nat → List (S86) → List (S86) → Int → Int → Int → Int → List Bool → Option ((List (S86)) × Int)
 | 0, _, _, _, _, _, _, _ => none
 | k + 1, x5, x6, x16, x17, aC, aD, aE => if x17 < x16 then ((B4.f k aC aD aE x17).bind fun aM => ((Cj.f k x6 aM).bind fun cO => (if cO = true then (Bz.l1 k x5 x6 x16 x17 (x6.length : Int) 0 aC aD aE) else (if x5.length + x6.length < 4398046511104 then (Bz.l0 k (x5 ++ x6) aM x16 (wrap64 (x17 + 1)) aC aD aE) else (none))))) else (if x5.length + x6.length < 4398046511104 then (some ((x5 ++ x6), 0)) else (none))
def Bz.l1 : Nat → List (S86) → List (S86) → Int → Int → Int → Int → Int → Int → List Bool → Option ((List (S86)) × Int)
 | 0, _, _, _, _, _, _, _, _, _ => none
 | k + 1, x5, x6, x16, x17, x32, x33, aC, aD, aE => if x33 < x32 then (if 0 ≤ x33 then (if x33 < (x6.length : Int) then (Bz.l1 k x5 (x6.set (x33 : Int).toNat (⟨(rd_T86 x6 x33).f0, (rd_T86 x6 x33).f1, (rd_T86 x6 x33).f2, wrap64 (((rd_T86 x6 x33).f3) + 1)⟩ : S86)) x16 x17 x32 (wrap64 (x33 + 1)) aC aD aE) else (none)) else (none)) else (Bz.l0 k x5 x6 x16 (wrap64 (x17 + 1)) aC aD aE)
end
def Bz.f (k : Nat) (ag : Int) (ak : Int) (ai : List Bool) : Option ((List (S86)) × Int) := (C0.f ag ak ai).bind fun aK => (if aK = 0 then (Bz.l0 k ([] : List (S86)) ([] : List (S86)) ak 0 ag ak ai) else (some (([] : List (S86)), aK)))
theorem Bz.mono_l : ∀ k, (∀ y0 y1 y2 y3 y4 y5 y6, LeO (Bz.l0 k y0 y1 y2 y3 y4 y5 y6) (Bz.l0 (k + 1) y0 y1 y2 y3 y4 y5 y6)) ∧ (∀ y0 y1 y2 y3 y4 y5 y6 y7 y8, LeO (Bz.l1 k y0 y1 y2 y3 y4 y5 y6 y7 y8) (Bz.l1 (k + 1) y0 y1 y2 y3 y4 y5 y6 y7 y8))
 | 0 => ⟨fun _ _ _ _ _ _ _ r h => by simp [Bz.l0] at h, fun _ _ _ _ _ _ _ _ _ r h => by simp [Bz.l1] at h⟩
 | k + 1 => by
  obtain ⟨ih0, ih1⟩ := Bz.mono_l k; refine ⟨?_, ?_⟩
  ·intro y0 y1 y2 y3 y4 y5 y6
   unfold Bz.l0
   repeat' first
   | (with_reducible exact ih0 _ _ _ _ _ _ _)
   | (with_reducible exact ih1 _ _ _ _ _ _ _ _ _)
   | (with_reducible exact Cj.mono _ _ _)
   | (with_reducible exact B4.mono _ _ _ _ _)
   | (with_reducible exact LeO.refl _)
   | (with_reducible exact LeO.none _)
   | (with_reducible refine LeO.ite ?_ ?_)
   | (with_reducible refine LeO.bind ?_ (fun _ => ?_))
   | exact ih0 _ _ _ _ _ _ _
   | exact ih1 _ _ _ _ _ _ _ _ _
   | exact Cj.mono _ _ _
   | exact B4.mono _ _ _ _ _
   | exact LeO.none _
   | refine LeO.ite ?_ ?_
   | refine LeO.bind ?_ (fun _ => ?_)
  ·intro y0 y1 y2 y3 y4 y5 y6 y7 y8
   unfold Bz.l1
   repeat' first
   | (with_reducible exact ih0 _ _ _ _ _ _ _)
   | (with_reducible exact ih1 _ _ _ _ _ _ _ _ _)
   | (with_reducible exact Cj.mono _ _ _)
   | (with_reducible exact B4.mono _ _ _ _ _)
   | (with_reducible exact LeO.refl _)
   | (with_reducible exact LeO.none _)
   | (with_reducible refine LeO.ite ?_ ?_)
   | (with_reducible refine LeO.bind ?_ (fun _ => ?_))
   | exact ih0 _ _ _ _ _ _ _
   | exact ih1 _ _ _ _ _ _ _ _ _
   | exact Cj.mono _ _ _
   | exact B4.mono _ _ _ _ _
   | exact LeO.none _
   | refine LeO.ite ?_ ?_
   | refine LeO.bind ?_ (fun _ => ?_)
theorem Bz.mono : ∀ a0 a1 a2 k, LeO (Bz.f k a0 a1 a2) (Bz.f (k + 1) a0 a1 a2) := by
 intro a0 a1 a2 k; obtain ⟨ih0, ih1⟩ := Bz.mono_l k; unfold Bz.f
 repeat' first
   | (with_reducible exact ih0 _ _ _ _ _ _ _)
   | (with_reducible exact ih1 _ _ _ _ _ _ _ _ _)
   | (with_reducible exact Cj.mono _ _ _)
   | (with_reducible exact B4.mono _ _ _ _ _)
   | (with_reducible exact LeO.refl _)
   | (with_reducible exact LeO.none _)
   | (with_reducible refine LeO.ite ?_ ?_)
   | (with_reducible refine LeO.bind ?_ (fun _ => ?_))
   | exact ih0 _ _ _ _ _ _ _
   | exact ih1 _ _ _ _ _ _ _ _ _
   | exact Cj.mono _ _ _
   | exact B4.mono _ _ _ _ _
   | exact LeO.none _
   | refine LeO.ite ?_ ?_
   | refine LeO.bind ?_ (fun _ => ?_)
set_option maxHeartbeats 8000000 in
set_option maxRecDepth 100000 in
theorem Bz.calls (k : Nat) (ag : Int) (ak : Int) (aq : Option Addr) (ar : Nat) (ai : List Bool) (r1 : List (S86)) (r2 : Int) (w : World) (aT : Kd.C Kd.bool w aq ai.length ai) (aU : ai.length ≤ ar) (h : Bz.f k ag ak ai = some (r1, r2)) :
  Calls Try.prog 39 #[.agg #[.int .i64 ag, .int .i64 ak, .slice aq ai.length ar]] w fun e w' => ∃ v0_ : Value, e = .returned (.tuple #[v0_, .int .i64 r2]) ∧ Kd.R k86 86 w' w.heap.size (fun _ => True) v0_ r1 ∧ Below w.heap.size w w' := by
 have hu27 := Try.underlying27; have aN := Ac.mk aT; have aQ := Ac.mk aU; clear aT aU; have HB := Ac.mk (Below.refl w.heap.size w); have H : ((C0.f ag ak ai).bind fun aK => (if aK = 0 then (Bz.l0 k ([] : List (S86)) ([] : List (S86)) ak 0 ag ak ai) else (some (([] : List (S86)), aK)))) = some (r1, r2) := h; clear h; replace H := Option.bind_eq_some_iff.mp H; obtain ⟨aK, A20, H⟩ := H
 try dsimp only at H
 have A2 := Ac.mk A20; clear A20
 by_cases c3 : aK = 0
 ·rw [if_pos c3] at H
  have bj : (aK == 0) = true := beq_iff_eq.mpr c3; have bl : (aK != 0) = false := bne_eq_false_iff_eq.mpr c3; clear c3; have H' := Ac.mk H; clear H; go_enter Try.func39, Try.ntmps39
  go_wp2_with (first | ((with_reducible refine Bf (N := 1) rfl ?_); refine Bc ?hg (N := 1) ?hd (cs := #[.int .i64 ag, .int .i64 ak, .slice aq ai.length ar]) (t := 27) ?hr ?_; (case hd => rfl); (case hg => rfl); (case hr => first | (go_simp; done) | (go_simp; rfl)); intro ao hg w4 hbox hb; have af := Ac.mk (hbox); have dr := Ac.mk ((by rw [hg]; exact (Ak (lU HB.out)) : w.heap.size ≤ ao)); have aw := Ac.mk ((by rw [hg]; exact (Ak (lU HB.out)) : w.heap.size ≤ ao)); replace HB := Ac.mk (Aq (lU HB.out) hb); clear hb hbox hg; have bw : w4.cell? ⟨ao, 0, none⟩ = some (.int .i64 ag) := (Ad af.out 0).trans rfl; have bz : w4.cell? ⟨ao, 1, none⟩ = some (.int .i64 ak) := (Ad af.out 1).trans rfl; have bB : w4.cell? ⟨ao, 2, none⟩ = some (.slice aq ai.length ar) := (Ad af.out 2).trans rfl; have bC := Af af.out 0; have bD := Af af.out 1; have bE := Af af.out 2) | ((with_reducible refine Be (f := 16) rfl ?_); refine gL (some 11) Try.func16 #[.agg #[.int .i64 ag, .int .i64 ak, .slice aq ai.length ar]] ?_; (with_reducible refine (C0.calls ag ak _ _ ai aK _ ?side1 ?side2 A2.out).mono ?_); (case side1 => repeat (first | exact (Kd.B2 aN.out HB.out) | (with_reducible refine Kd.Bw ?_ _) | (with_reducible refine Kd.B6 ?_ _) | (with_reducible refine Kd.C_drew ?_))); (case side2 => exact aQ.out); rintro e w6 ⟨rfl, hb⟩; refine ⟨_, rfl, ?_⟩; replace af := Ac.mk (An (g := ao) (o := .cells #[.int .i64 ag, .int .i64 ak, .slice aq ai.length ar] 27 (0, 0)) (by exact bU <| af.out) hb); replace HB := Ac.mk (Aq (by repeat (first | (with_reducible first | exact HB.out | apply Ah | apply Ae | apply Ai | refine Ag ?_ aw.out) | exact HB.out)) hb); (try clear hb); (try clear hb2); (try clear hk); (try clear hi); have bF : w6.cell? ⟨ao, 0, none⟩ = some (.int .i64 ag) := (Ad af.out 0).trans rfl; have bG : w6.cell? ⟨ao, 1, none⟩ = some (.int .i64 ak) := (Ad af.out 1).trans rfl; have bH : w6.cell? ⟨ao, 2, none⟩ = some (.slice aq ai.length ar) := (Ad af.out 2).trans rfl; have bI := Af af.out 0; have bJ := Af af.out 1; have bK := Af af.out 2))
  go_loopg [5, 6, 17] k (fun kq v5 v6 v17 w' => ∃ (aa : List (S86)) (ax : List (S86)) (aA : Int), v17 = .int .i64 aA ∧ Ac (Bz.l0 kq aa ax ak aA ag ak ai = some (r1, r2)) ∧ Ac (kq ≤ k) ∧ Ac (Kd.R k86 86 w' w.heap.size (fun k_ => some k_ ≠ (v6 : Value).ownBlock) v5 aa) ∧ Ac (Kd.R k86 86 w' w.heap.size (fun k_ => some k_ ≠ (v5 : Value).ownBlock) v6 ax) ∧ Ac (w'.heap[ao]? = some (.cells #[.int .i64 ag, .int .i64 ak, (.slice aq ai.length ar)] 27 (0, 0))) ∧ Ac (Below w.heap.size w w'))
  case atStart => exact ⟨(([] : List (S86))), (([] : List (S86))), (0), (by first | rfl | (simp; done) | (simp [*]; done)), H', ⟨Nat.le_refl _⟩, ⟨by first | exact Kd.Ct _ _ _ _ _ | exact Kd.N_nil _ _ _ _ _ | exact Kd.V_nil _ _ _ _ _ | exact Kd.Q_nil _ _ _ _ _ | exact Kd.S_nil _ _ _ _ _⟩, ⟨by first | exact Kd.Ct _ _ _ _ _ | exact Kd.N_nil _ _ _ _ _ | exact Kd.V_nil _ _ _ _ _ | exact Kd.Q_nil _ _ _ _ _ | exact Kd.S_nil _ _ _ _ _⟩, ⟨by exact bU <| af.out⟩, ⟨by repeat (first | (with_reducible first | exact HB.out | apply Ah | apply Ae | apply Ai | refine Ag ?_ aw.out) | exact HB.out)⟩⟩
  case round =>
   clear H'; (try clear c1); (try clear p2); (try clear c3); (try clear bj); (try clear bl); (try clear bw); (try clear bz); (try clear bB); (try clear bF); (try clear bG); (try clear bH); (try clear bC); (try clear bD); (try clear bE); (try clear bI); (try clear bJ); (try clear bK); obtain ⟨aa, ax, aA, rfl, HA, HK1, an, ap, af, HB⟩ := hrel; cases gk with
   | zero => exact absurd HA.out (by simp [Bz.l0])
   | succ k1 =>
    have H := HA.out; clear HA
    simp only [Bz.l0] at H
    by_cases c8 : aA < ak
    ·rw [if_pos c8] at H
     have dt : decide (aA < ak) = true := decide_eq_true c8; clear c8; replace H := Option.bind_eq_some_iff.mp H; obtain ⟨aM, A90, H⟩ := H
     try dsimp only at H
     have A9 := Ac.mk A90; clear A90; replace H := Option.bind_eq_some_iff.mp H; obtain ⟨cO, A100, H⟩ := H
     try dsimp only at H
     have A10 := Ac.mk A100; clear A100
     by_cases c11 : cO = true
     ·subst c11
      have H1 := H; rw [if_pos rfl] at H1; clear H; have H := H1; clear H1; have H' := Ac.mk H; clear H; have bT : wr.cell? ⟨ao, 0, none⟩ = some (.int .i64 ag) := (Ad af.out 0).trans rfl; have bV : wr.cell? ⟨ao, 1, none⟩ = some (.int .i64 ak) := (Ad af.out 1).trans rfl; have bW : wr.cell? ⟨ao, 2, none⟩ = some (.slice aq ai.length ar) := (Ad af.out 2).trans rfl; have bX := Af af.out 0; have bY := Af af.out 1; have bZ := Af af.out 2
      go_wp2_with (first | ((with_reducible refine Be (f := 72) rfl ?_); refine gL (some 22) Try.func72 #[.agg #[.int .i64 ag, .int .i64 ak, .slice aq ai.length ar], .int .i64 aA] ?_; (with_reducible refine (B4.calls k1 ag ak _ _ ai aA aM _ ?side1 ?side2 A9.out).mono ?_); (case side1 => repeat (first | exact (Kd.B2 aN.out HB.out) | (with_reducible refine Kd.Bw ?_ _) | (with_reducible refine Kd.B6 ?_ _) | (with_reducible refine Kd.C_drew ?_))); (case side2 => exact aQ.out); rintro e w13 ⟨v179, rfl, ho0, hb⟩; refine ⟨_, rfl, ?_⟩; have ay := Ac.mk (Kd.B9 (Kd.Cn (Kd.Cn ho0 (Kd.C7 (by exact rU <| an.out))) (Kd.C7 (by exact rU <| ap.out))) (Ak (by repeat (first | (with_reducible first | exact HB.out | apply Ah | apply Ae | apply Ai | refine Ag ?_ aw.out) | exact HB.out)))); replace an := Ac.mk (Kd.Cb (by exact rU <| an.out) (Kd.Cm ho0) hb); replace ap := Ac.mk (Kd.Cb (by exact rU <| ap.out) (Kd.Cm ho0) hb); replace af := Ac.mk (An (g := ao) (o := .cells #[.int .i64 ag, .int .i64 ak, .slice aq ai.length ar] 27 (0, 0)) (by exact bU <| af.out) hb); replace HB := Ac.mk (Aq (by repeat (first | (with_reducible first | exact HB.out | apply Ah | apply Ae | apply Ai | refine Ag ?_ aw.out) | exact HB.out)) hb); (try clear hb); (try clear hb2); (try clear hk); (try clear hi); (try clear ho0); obtain ⟨cP, aX, d9⟩ := Kd.B0 ap.out; subst d9; obtain ⟨ec, ed, ee⟩ := Kd.B0 ay.out; subst ee) | ((with_reducible refine Be (f := 73) rfl ?_); refine gL (some 25) Try.func73 #[.slice cP ax.length aX, .slice ec aM.length ed] ?_; (with_reducible refine (Cj.calls k1 _ _ ax _ _ aM true _ ?side1 ?side2 ?side3 ?side4 A10.out).mono ?_); (case side1 => repeat (first | exact (Kd.Bn ap.out).2.2 | (with_reducible refine Kd.Bw ?_ _) | (with_reducible refine Kd.B6 ?_ _) | (with_reducible refine Kd.C_drew ?_))); (case side2 => exact (Kd.Bn ap.out).2.1); (case side3 => repeat (first | exact (Kd.Bn ay.out).2.2 | (with_reducible refine Kd.Bw ?_ _) | (with_reducible refine Kd.B6 ?_ _) | (with_reducible refine Kd.C_drew ?_))); (case side4 => exact (Kd.Bn ay.out).2.1); rintro e w16 ⟨rfl, hb⟩; refine ⟨_, rfl, ?_⟩; replace an := Ac.mk (Kd.Az (by exact rU <| an.out) hb); replace ap := Ac.mk (Kd.Az (by exact rU <| ap.out) hb); replace ay := Ac.mk (Kd.Az (by exact rU <| ay.out) hb); replace af := Ac.mk (An (g := ao) (o := .cells #[.int .i64 ag, .int .i64 ak, .slice aq ai.length ar] 27 (0, 0)) (by exact bU <| af.out) hb); replace HB := Ac.mk (Aq (by repeat (first | (with_reducible first | exact HB.out | apply Ah | apply Ae | apply Ai | refine Ag ?_ aw.out) | exact HB.out)) hb); (try clear hb); (try clear hb2); (try clear hk); (try clear hi)))
      go_loopg [33] k1 (fun kq v33 w' => ∃ (au : List (S86)) (ah : Int), v33 = .int .i64 ah ∧ Ac (Bz.l1 kq aa au ak aA (ax.length : Int) ah ag ak ai = some (r1, r2)) ∧ Ac (kq ≤ k1) ∧ Ac (Kd.R k86 86 w' w.heap.size (fun k_ => some k_ ≠ ((.slice cP ax.length aX) : Value).ownBlock) u5 aa) ∧ Ac (Kd.R k86 86 w' w.heap.size (fun k_ => some k_ ≠ (u5 : Value).ownBlock) (.slice cP ax.length aX) au) ∧ Ac (w'.heap[ao]? = some (.cells #[.int .i64 ag, .int .i64 ak, (.slice aq ai.length ar)] 27 (0, 0))) ∧ Ac (Below w.heap.size w w'))
      case atStart => exact ⟨(ax), (0), (by first | rfl | (simp; done) | (simp [*]; done)), H', ⟨Nat.le_refl _⟩, ⟨by exact rU <| Kd.Bu an.out (fun _ hk => hk.1)⟩, ⟨by exact rU <| Kd.Bu ap.out (fun _ hk => hk.1)⟩, ⟨by exact bU <| af.out⟩, ⟨by repeat (first | (with_reducible first | exact HB.out | apply Ah | apply Ae | apply Ai | refine Ag ?_ aw.out) | exact HB.out)⟩⟩
      case round =>
       clear H'; (try clear c1); (try clear p2); (try clear c3); (try clear bj); (try clear bl); (try clear p6); (try clear c7); (try clear c8); (try clear dt); (try clear c11); (try clear c16); (try clear bT); (try clear bV); (try clear bW); (try clear bw); (try clear bz); (try clear bB); (try clear bF); (try clear bG); (try clear bH); (try clear bX); (try clear bY); (try clear bZ); (try clear bC); (try clear bD); (try clear bE); (try clear bI); (try clear bJ); (try clear bK); (try clear p2); obtain ⟨au, ah, rfl, HA, HK2, an, ap, af, HB⟩ := hrel; have az := (Kd.Bn ap.out).1; rw [az] at ap; (try simp only [az]); (try simp only [az] at af); (try simp only [az] at an); cases gk with
       | zero => exact absurd HA.out (by simp [Bz.l1])
       | succ k2 =>
        have H := HA.out; clear HA
        simp only [Bz.l1] at H
        by_cases c17 : ah < (ax.length : Int)
        ·rw [if_pos c17] at H
         have bd : decide (ah < (ax.length : Int)) = true := decide_eq_true c17; rw [az] at bd; clear c17
         by_cases c18 : 0 ≤ ah
         ·rw [if_pos c18] at H
          have df : decide (0 ≤ ah) = true := decide_eq_true c18; clear c18
          by_cases c19 : ah < (au.length : Int)
          ·rw [if_pos c19] at H
           have cr : decide (ah < (au.length : Int)) = true := decide_eq_true c19; clear c19; obtain ⟨du, bL⟩ : ∃ y_ : List (S86), y_ = (au.set (ah : Int).toNat (⟨(rd_T86 au ah).f0, (rd_T86 au ah).f1, (rd_T86 au ah).f2, wrap64 (((rd_T86 au ah).f3) + 1)⟩ : S86)) := ⟨_, rfl⟩; (try rw [Option.bind_some] at H); try rw [← bL] at H; have dv := Ac.mk bL; clear bL; have H' := Ac.mk H; clear H; have cQ : 0 ≤ (ah : Int) := of_decide_eq_true (by with_reducible assumption); have cR : ah < (au.length : Int) := of_decide_eq_true (by with_reducible assumption); obtain ⟨et, e185, b3, b4, b5, b6⟩ := at_T86 (Kd.Bn ap.out).2.2 ah cQ cR; cases e185; replace cQ := eq_true cQ; replace cR := eq_true cR; have p20 : 0 ≤ (ah : Int) := of_decide_eq_true (by with_reducible assumption); have q20 : (ah : Int) < ((au.length : Int) : Int) := of_decide_eq_true (by with_reducible assumption); obtain ⟨go20, dV, bs, bt, gl20, cl20, HG20⟩ := Kd.R_form ap.out (by omega); (first | cases bs | (injection bs with ea_ en_ ec_; (first | subst ea_ | (injection ea_ with ea_; subst ea_)); subst ec_; clear en_)); have GB20 := Ac.mk bt; have GG20 := Ac.mk HG20; clear bt gl20 HG20; (first | simp only [add_plain] at b3 | skip); (first | simp only [add_plain] at b4 | skip); (first | simp only [add_plain] at b5 | skip); (first | simp only [add_plain] at b6 | skip); obtain ⟨ce20, hcl20, hM20, hcc20, hfr20⟩ := Kd.R_elem ap.out z86 (ah : Int) p20 q20; obtain rfl := k86_openM hM20; have cD : wr.cell? ⟨go20, (ah : Int).toNat * 4, none⟩ = some (.int .i64 ((rd_T86 au ah).f0)) := hcc20 0 _ rfl; have cE : wr.cell? ⟨go20, (ah : Int).toNat * 4 + 1, none⟩ = some (.int .i64 ((rd_T86 au ah).f1)) := hcc20 1 _ rfl; have cF : wr.cell? ⟨go20, (ah : Int).toNat * 4 + 2, none⟩ = some (.int .i64 ((rd_T86 au ah).f2)) := hcc20 2 _ rfl; have cG : wr.cell? ⟨go20, (ah : Int).toNat * 4 + 3, none⟩ = some (.int .i64 ((rd_T86 au ah).f3)) := hcc20 3 _ rfl; have cH : wr.frozen? ⟨go20, (ah : Int).toNat * 4, none⟩ = false := hfr20 0; have cI : wr.frozen? ⟨go20, (ah : Int).toNat * 4 + 1, none⟩ = false := hfr20 1; have cJ : wr.frozen? ⟨go20, (ah : Int).toNat * 4 + 2, none⟩ = false := hfr20 2; have cK : wr.frozen? ⟨go20, (ah : Int).toNat * 4 + 3, none⟩ = false := hfr20 3; clear hcl20 hcc20 hfr20 hM20; replace p20 := eq_true p20; replace q20 := eq_true q20; have HX21 := Ac.mk (show Kd.R k86 86 wr w.heap.size (fun k_ => some k_ ≠ (u5 : Value).ownBlock) (.slice (some ⟨go20, 0, none⟩) au.length aX) au from (by exact rU <| ap.out)); obtain ⟨ce21, hcl21, hM21, hcc21, hfr21⟩ := Kd.R_elem HX21.out z86 (ah : Int) (of_decide_eq_true (by with_reducible assumption)) (by have h_ : (ah : Int) < ((au.length : Int) : Int) := of_decide_eq_true (by with_reducible assumption); first | exact h_ | (have e_ := (Kd.Bn ap.out).1; omega) | simpa using h_); obtain rfl := k86_openM hM21; have cS := Kd.R_seg HX21.out (ah : Int) (of_decide_eq_true (by with_reducible assumption)) (by have h_ : (ah : Int) < ((au.length : Int) : Int) := of_decide_eq_true (by with_reducible assumption); first | exact h_ | (have e_ := (Kd.Bn ap.out).1; omega) | simpa using h_) (seg := [.int .i64 (wrap64 (((rd_T86 au ah).f3) + 1))]) (j := 3) hcl21 hcc21 (show 4 ≤ 4 from by decide) (x' := (⟨(rd_T86 au ah).f0, (rd_T86 au ah).f1, (rd_T86 au ah).f2, wrap64 (((rd_T86 au ah).f3) + 1)⟩ : S86)) (k86_mkM _ _ _ (⟨(rd_T86 au ah).f0, (rd_T86 au ah).f1, (rd_T86 au ah).f2, wrap64 (((rd_T86 au ah).f3) + 1)⟩ : S86) ) (fun _ hk => hk); have cU := hcc21 3 _ rfl; (try simp only [show (k86).sz = 4 from rfl, Nat.mul_one, Nat.add_zero] at cU); have cV := hfr21 3; (try simp only [show (k86).sz = 4 from rfl, Nat.mul_one, Nat.add_zero] at cV); clear hcl21 hcc21 hfr21 hM21
           go_wp2_with (((with_reducible refine Dk (t := 3) (p := 43) rfl ?_); refine store_event (t := 3) (p := 43) (v := ?vo_w22) (w1 := (wr.setCell ⟨go20, (ah : Int).toNat * 4 + 3, none⟩ (.int .i64 (wrap64 (((rd_T86 au ah).f3) + 1))))) ?hg ?ho ?hn ?hr ?_; (case ho => rfl); (case hg => rfl); (case hn => rfl); (case hr => first | (go_simp; done) | (go_simp; rfl)); intro w22 hw; have hg : wr.grownBy w22 (some go20) := (by rw [hw]; exact cS.2); have hp_ : Kd.R k86 86 w22 w.heap.size (fun k_ => some k_ ≠ (u5 : Value).ownBlock) (.slice (some ⟨go20, 0, none⟩) au.length aX) du := (by rw [hw, dv.out]; exact cS.1); clear cS; replace an := Ac.mk (Kd.Dx (v := (.slice (some ⟨go20, 0, none⟩) au.length aX)) (v1 := (.slice (some ⟨go20, 0, none⟩) au.length aX)) (ok := (fun _ => True)) (by exact rU <| Kd.Bu an.out (fun _ hk => ⟨trivial, hk⟩)) hg (.inl rfl)); replace af := Ac.mk (B3 (g := ao) (o := .cells #[.int .i64 ag, .int .i64 ak, .slice aq ai.length ar] 27 (0, 0)) (by exact bU <| af.out) hg (Kd.Dr ap.out af.out (by decide))); replace ap := Ac.mk (hp_); replace HB := Ac.mk ((by rw [hw]; exact Ag (HB.out) GB20.out : Below w.heap.size w w22)); clear hg hw hp_))
           (try simp only [← az])
           go_roundg k2
           case measure => have := HK1.out; have := HK2.out; omega
           case rel => exact ⟨(du), (wrap64 (ah + 1)), (by first | rfl | (simp; done) | (simp [*]; done)), H', ⟨by have := HK1.out; have := HK2.out; omega⟩, ⟨by (try simp only [az]); exact rU <| Kd.Bu an.out (fun _ hk => hk.2)⟩, ⟨by (try simp only [az]); exact rU <| ap.out⟩, ⟨by (try simp only [az]); exact bU <| af.out⟩, ⟨by repeat (first | (with_reducible first | exact HB.out | apply Ah | apply Ae | apply Ai | refine Ag ?_ aw.out) | exact HB.out)⟩⟩
          ·rw [if_neg c19] at H
           exact absurd H (by simp)
         ·rw [if_neg c18] at H
          exact absurd H (by simp)
        ·rw [if_neg c17] at H
         have bd : decide (ah < (ax.length : Int)) = false := decide_eq_false c17; rw [az] at bd; clear c17; have H' := Ac.mk H; clear H
         go_wp2
         (try simp only [← az])
         go_roundg k2
         case measure => have := HK1.out; have := HK2.out; omega
         case rel => exact ⟨(aa), (au), (wrap64 (aA + 1)), (by first | rfl | (simp; done) | (simp [*]; done)), H', ⟨by have := HK1.out; have := HK2.out; omega⟩, ⟨by (try simp only [az]); exact rU <| an.out⟩, ⟨by (try simp only [az]); exact rU <| ap.out⟩, ⟨by (try simp only [az]); exact bU <| af.out⟩, ⟨by repeat (first | (with_reducible first | exact HB.out | apply Ah | apply Ae | apply Ai | refine Ag ?_ aw.out) | exact HB.out)⟩⟩
     ·replace c11 := Bool.eq_false_iff.mpr c11
      subst c11; have H1 := H; rw [if_neg (show ¬ (false = true) by decide)] at H1; clear H; have H := H1; clear H1
      by_cases c23 : aa.length + ax.length < 4398046511104
      ·rw [if_pos c23] at H
       have LMc23 := Ac.mk c23; clear c23; obtain ⟨ef, bM⟩ : ∃ y_ : List (S86), y_ = (aa ++ ax) := ⟨_, rfl⟩; (try rw [Option.bind_some] at H); try rw [← bM] at H; have dw := Ac.mk bM; clear bM; have H' := Ac.mk H; clear H; have dF : wr.cell? ⟨ao, 0, none⟩ = some (.int .i64 ag) := (Ad af.out 0).trans rfl; have dG : wr.cell? ⟨ao, 1, none⟩ = some (.int .i64 ak) := (Ad af.out 1).trans rfl; have dH : wr.cell? ⟨ao, 2, none⟩ = some (.slice aq ai.length ar) := (Ad af.out 2).trans rfl; have dI := Af af.out 0; have dJ := Af af.out 1; have dK := Af af.out 2
       go_wp2_with (first | ((with_reducible refine Be (f := 72) rfl ?_); refine gL (some 22) Try.func72 #[.agg #[.int .i64 ag, .int .i64 ak, .slice aq ai.length ar], .int .i64 aA] ?_; (with_reducible refine (B4.calls k1 ag ak _ _ ai aA aM _ ?side1 ?side2 A9.out).mono ?_); (case side1 => repeat (first | exact (Kd.B2 aN.out HB.out) | (with_reducible refine Kd.Bw ?_ _) | (with_reducible refine Kd.B6 ?_ _) | (with_reducible refine Kd.C_drew ?_))); (case side2 => exact aQ.out); rintro e w25 ⟨v179, rfl, ho0, hb⟩; refine ⟨_, rfl, ?_⟩; have ay := Ac.mk (Kd.B9 (Kd.Cn (Kd.Cn ho0 (Kd.C7 (by exact rU <| an.out))) (Kd.C7 (by exact rU <| ap.out))) (Ak (by repeat (first | (with_reducible first | exact HB.out | apply Ah | apply Ae | apply Ai | refine Ag ?_ aw.out) | exact HB.out)))); replace an := Ac.mk (Kd.Cb (by exact rU <| an.out) (Kd.Cm ho0) hb); replace ap := Ac.mk (Kd.Cb (by exact rU <| ap.out) (Kd.Cm ho0) hb); replace af := Ac.mk (An (g := ao) (o := .cells #[.int .i64 ag, .int .i64 ak, .slice aq ai.length ar] 27 (0, 0)) (by exact bU <| af.out) hb); replace HB := Ac.mk (Aq (by repeat (first | (with_reducible first | exact HB.out | apply Ah | apply Ae | apply Ai | refine Ag ?_ aw.out) | exact HB.out)) hb); (try clear hb); (try clear hb2); (try clear hk); (try clear hi); (try clear ho0); obtain ⟨cW, cX, eh⟩ := Kd.B0 ap.out; subst eh; obtain ⟨cY, cZ, ei⟩ := Kd.B0 ay.out; subst ei) | ((with_reducible refine Be (f := 73) rfl ?_); refine gL (some 25) Try.func73 #[.slice cW ax.length cX, .slice cY aM.length cZ] ?_; (with_reducible refine (Cj.calls k1 _ _ ax _ _ aM false _ ?side1 ?side2 ?side3 ?side4 A10.out).mono ?_); (case side1 => repeat (first | exact (Kd.Bn ap.out).2.2 | (with_reducible refine Kd.Bw ?_ _) | (with_reducible refine Kd.B6 ?_ _) | (with_reducible refine Kd.C_drew ?_))); (case side2 => exact (Kd.Bn ap.out).2.1); (case side3 => repeat (first | exact (Kd.Bn ay.out).2.2 | (with_reducible refine Kd.Bw ?_ _) | (with_reducible refine Kd.B6 ?_ _) | (with_reducible refine Kd.C_drew ?_))); (case side4 => exact (Kd.Bn ay.out).2.1); rintro e w28 ⟨rfl, hb⟩; refine ⟨_, rfl, ?_⟩; replace an := Ac.mk (Kd.Az (by exact rU <| an.out) hb); replace ap := Ac.mk (Kd.Az (by exact rU <| ap.out) hb); replace ay := Ac.mk (Kd.Az (by exact rU <| ay.out) hb); replace af := Ac.mk (An (g := ao) (o := .cells #[.int .i64 ag, .int .i64 ak, .slice aq ai.length ar] 27 (0, 0)) (by exact bU <| af.out) hb); replace HB := Ac.mk (Aq (by repeat (first | (with_reducible first | exact HB.out | apply Ah | apply Ae | apply Ai | refine Ag ?_ aw.out) | exact HB.out)) hb); (try clear hb); (try clear hb2); (try clear hk); (try clear hi)) | ((with_reducible refine C5 (b := .append) (xs := #[.tmp 27, .tmp 28]) rfl ?_); at_builtin; refine Kd.R_append_rows k86 (w0 := w) w.heap.size rfl (.tmp 27) (.tmp 28) 79 86 (.agg #[(.int .i64 0), (.int .i64 0), (.int .i64 0), (.int .i64 0)]) 32 rfl Try.underlying79 info86 rfl (by decide) (by omega) u5 aa ax _ _ _ (fun k_ => some k_ ≠ (.slice cW ax.length cX : Value).ownBlock ∧ some k_ ≠ (.slice cY aM.length cZ : Value).ownBlock) (fun _ => False) rfl rfl ?aO ?aR (fun _ _ h => h) (fun _ h => h.elim) ?aF ?aB ?aS ?aL ?_; (case aR => repeat (first | exact (Kd.Bn ap.out).2.2 | (with_reducible refine Kd.Bw ?_ _) | (with_reducible refine Kd.B6 ?_ _) | (with_reducible refine Kd.C_drew ?_))); (case aB => exact (by repeat (first | (with_reducible first | exact HB.out | apply Ah | apply Ae | apply Ai | refine Ag ?_ aw.out) | exact HB.out))); (case aF => exact (fun k_ hk => ⟨Kd.fresh' (Kd.C7 (by exact rU <| ap.out)) k_ hk, Kd.fresh' (Kd.C7 (by exact rU <| ay.out)) k_ hk⟩)); (case aO => exact (by exact rU <| an.out)); (case aS => exact (Ak (by repeat (first | (with_reducible first | exact HB.out | apply Ah | apply Ae | apply Ai | refine Ag ?_ aw.out) | exact HB.out)))); (case aL => have := LMc23.out; omega); intro v183 w29 ho hb hg hat; rw [← dw.out] at ho; replace ap := Ac.mk (Kd.Dx (ok := (fun k_ => some k_ ≠ (.slice cY aM.length cZ : Value).ownBlock)) (by exact rU <| Kd.Bu ap.out (fun _ hk => ⟨hk.2, hk.1⟩)) hg hat); replace af := Ac.mk (B3 (g := ao) (o := .cells #[.int .i64 ag, .int .i64 ak, .slice aq ai.length ar] 27 (0, 0)) (by exact bU <| af.out) hg (Kd.Dr an.out af.out (by decide))); replace ay := Ac.mk (Kd.Dx (ok := (fun k_ => some k_ ≠ (.slice cW ax.length cX : Value).ownBlock)) (by exact rU <| Kd.Bu ay.out (fun _ hk => ⟨hk.2, hk.1.2⟩)) hg hat); replace HB := Ac.mk (hb); have dz := Ac.mk (ho); clear an; clear ho hb hg hat))
       go_roundg k1
       case measure => have := HK1.out; omega
       case rel => exact ⟨(ef), (aM), (wrap64 (aA + 1)), (by first | rfl | (simp; done) | (simp [*]; done)), H', ⟨by have := HK1.out; omega⟩, ⟨by exact rU <| Kd.Bu dz.out (fun _ hk => hk.2)⟩, ⟨by exact rU <| Kd.Bu ay.out (fun _ hk => hk.2)⟩, ⟨by exact bU <| af.out⟩, ⟨by repeat (first | (with_reducible first | exact HB.out | apply Ah | apply Ae | apply Ai | refine Ag ?_ aw.out) | exact HB.out)⟩⟩
      ·rw [if_neg c23] at H
       exact absurd H (by simp)
    ·rw [if_neg c8] at H
     have dt : decide (aA < ak) = false := decide_eq_false c8; clear c8
     by_cases c30 : aa.length + ax.length < 4398046511104
     ·rw [if_pos c30] at H
      have LMc30 := Ac.mk c30; clear c30; obtain ⟨ez, bN⟩ : ∃ y_ : List (S86), y_ = (aa ++ ax) := ⟨_, rfl⟩; (try rw [Option.bind_some] at H); try rw [← bN] at H; have dA := Ac.mk bN; clear bN
      simp only [Option.some.injEq, Prod.mk.injEq] at H
      obtain ⟨rfl, rfl⟩ := H; obtain ⟨ej, ek, el⟩ := Kd.B0 ap.out; subst el
      go_wp2_with (((with_reducible refine C5 (b := .append) (xs := #[.tmp 46, .tmp 47]) rfl ?_); at_builtin; refine Kd.R_append_rows k86 (w0 := w) w.heap.size rfl (.tmp 46) (.tmp 47) 79 86 (.agg #[(.int .i64 0), (.int .i64 0), (.int .i64 0), (.int .i64 0)]) 32 rfl Try.underlying79 info86 rfl (by decide) (by omega) u5 aa ax _ _ _ (fun k_ => some k_ ≠ (.slice ej ax.length ek : Value).ownBlock) (fun _ => False) rfl rfl ?aO ?aR (fun _ _ h => h) (fun _ h => h.elim) ?aF ?aB ?aS ?aL ?_; (case aR => repeat (first | exact (Kd.Bn ap.out).2.2 | (with_reducible refine Kd.Bw ?_ _) | (with_reducible refine Kd.B6 ?_ _) | (with_reducible refine Kd.C_drew ?_))); (case aB => exact (by repeat (first | (with_reducible first | exact HB.out | apply Ah | apply Ae | apply Ai | refine Ag ?_ aw.out) | exact HB.out))); (case aF => exact (fun k_ hk => Kd.fresh' (Kd.C7 (by exact rU <| ap.out)) k_ hk)); (case aO => exact (by exact rU <| an.out)); (case aS => exact (Ak (by repeat (first | (with_reducible first | exact HB.out | apply Ah | apply Ae | apply Ai | refine Ag ?_ aw.out) | exact HB.out)))); (case aL => have := LMc30.out; omega); intro v176 w31 ho hb hg hat; rw [← dA.out] at ho; replace ap := Ac.mk (Kd.Dx (ok := (fun _ => True)) (by exact rU <| Kd.Bu ap.out (fun _ hk => ⟨trivial, hk⟩)) hg hat); replace af := Ac.mk (B3 (g := ao) (o := .cells #[.int .i64 ag, .int .i64 ak, .slice aq ai.length ar] 27 (0, 0)) (by exact bU <| af.out) hg (Kd.Dr an.out af.out (by decide))); replace HB := Ac.mk (hb); have dB := Ac.mk (ho); clear an; clear ho hb hg hat))
      go_ret2
      exact ⟨_, by first | rfl | (simp [At, As] <;> rfl) | (simp [*, At, As] <;> rfl), by exact rU <| Kd.Bu dB.out (fun _ hk => trivial), by repeat (first | (with_reducible first | exact HB.out | apply Ah | apply Ae | apply Ai | refine Ag ?_ aw.out) | exact HB.out)⟩
     ·rw [if_neg c30] at H
      exact absurd H (by simp)
 ·rw [if_neg c3] at H
  have bj : (aK == 0) = false := beq_eq_false_iff_ne.mpr c3; have bl : (aK != 0) = true := bne_iff_ne.mpr c3
  simp only [Option.some.injEq, Prod.mk.injEq] at H
  obtain ⟨rfl, rfl⟩ := H; go_enter Try.func39, Try.ntmps39
  go_wp2_with (first | ((with_reducible refine Bf (N := 1) rfl ?_); refine Bc ?hg (N := 1) ?hd (cs := #[.int .i64 ag, .int .i64 ak, .slice aq ai.length ar]) (t := 27) ?hr ?_; (case hd => rfl); (case hg => rfl); (case hr => first | (go_simp; done) | (go_simp; rfl)); intro ao hg w33 hbox hb; have af := Ac.mk (hbox); have dr := Ac.mk ((by rw [hg]; exact (Ak (lU HB.out)) : w.heap.size ≤ ao)); have aw := Ac.mk ((by rw [hg]; exact (Ak (lU HB.out)) : w.heap.size ≤ ao)); replace HB := Ac.mk (Aq (lU HB.out) hb); clear hb hbox hg; have dL : w33.cell? ⟨ao, 0, none⟩ = some (.int .i64 ag) := (Ad af.out 0).trans rfl; have dM : w33.cell? ⟨ao, 1, none⟩ = some (.int .i64 ak) := (Ad af.out 1).trans rfl; have dN : w33.cell? ⟨ao, 2, none⟩ = some (.slice aq ai.length ar) := (Ad af.out 2).trans rfl; have dO := Af af.out 0; have dP := Af af.out 1; have dQ := Af af.out 2) | ((with_reducible refine Be (f := 16) rfl ?_); refine gL (some 11) Try.func16 #[.agg #[.int .i64 ag, .int .i64 ak, .slice aq ai.length ar]] ?_; (with_reducible refine (C0.calls ag ak _ _ ai aK _ ?side1 ?side2 A2.out).mono ?_); (case side1 => repeat (first | exact (Kd.B2 aN.out HB.out) | (with_reducible refine Kd.Bw ?_ _) | (with_reducible refine Kd.B6 ?_ _) | (with_reducible refine Kd.C_drew ?_))); (case side2 => exact aQ.out); rintro e w35 ⟨rfl, hb⟩; refine ⟨_, rfl, ?_⟩; replace af := Ac.mk (An (g := ao) (o := .cells #[.int .i64 ag, .int .i64 ak, .slice aq ai.length ar] 27 (0, 0)) (by exact bU <| af.out) hb); replace HB := Ac.mk (Aq (by repeat (first | (with_reducible first | exact HB.out | apply Ah | apply Ae | apply Ai | refine Ag ?_ aw.out) | exact HB.out)) hb); (try clear hb); (try clear hb2); (try clear hk); (try clear hi)))
  go_ret2
  exact ⟨_, by first | rfl | (simp [At, As] <;> rfl) | (simp [*, At, As] <;> rfl), by first | exact Kd.Ct _ _ _ _ _ | exact Kd.N_nil _ _ _ _ _ | exact Kd.V_nil _ _ _ _ _ | exact Kd.Q_nil _ _ _ _ _ | exact Kd.S_nil _ _ _ _ _, by repeat (first | (with_reducible first | exact HB.out | apply Ah | apply Ae | apply Ai | refine Ag ?_ aw.out) | exact HB.out)⟩

def Bt.l0 : Nat → List (S86) → List (S86) → Int → Option (Bool)
 | 0, _, _, _ => none
 | k + 1, x0, x1, x5 => if x5 < (x0.length : Int) then (if 0 ≤ x5 then (if x5 < (x1.length : Int) then (if (!(((rd_T86 x0 x5).f0) == ((rd_T86 x1 x5).f0)) || (!(((rd_T86 x0 x5).f1) == ((rd_T86 x1 x5).f1)) || (!(((rd_T86 x0 x5).f2) == ((rd_T86 x1 x5).f2)) || (!(((rd_T86 x0 x5).f3) == ((rd_T86 x1 x5).f3)))))) = true then (some false) else (Bt.l0 k x0 x1 (wrap64 (x5 + 1)))) else (none)) else (none)) else (some true)
def Bt.f (k : Nat) (l0 : List (S86)) (l1 : List (S86)) : Option (Bool) := if (l0.length : Int) = (l1.length : Int) then (Bt.l0 k l0 l1 0) else (some false)
theorem Bt.mono_l : ∀ k, (∀ y0 y1 y2, LeO (Bt.l0 k y0 y1 y2) (Bt.l0 (k + 1) y0 y1 y2))
 | 0 => fun _ _ _ r h => by simp [Bt.l0] at h
 | k + 1 => by
  have ih0 := Bt.mono_l k
  ·intro y0 y1 y2
   unfold Bt.l0
   repeat' first
   | (with_reducible exact ih0 _ _ _)
   | (with_reducible exact LeO.refl _)
   | (with_reducible exact LeO.none _)
   | (with_reducible refine LeO.ite ?_ ?_)
   | (with_reducible refine LeO.bind ?_ (fun _ => ?_))
   | exact ih0 _ _ _
   | exact LeO.none _
   | refine LeO.ite ?_ ?_
   | refine LeO.bind ?_ (fun _ => ?_)
theorem Bt.mono : ∀ a0 a1 k, LeO (Bt.f k a0 a1) (Bt.f (k + 1) a0 a1) := by
 intro a0 a1 k; have ih0 := Bt.mono_l k; unfold Bt.f
 repeat' first
   | (with_reducible exact ih0 _ _ _)
   | (with_reducible exact LeO.refl _)
   | (with_reducible exact LeO.none _)
   | (with_reducible refine LeO.ite ?_ ?_)
   | (with_reducible refine LeO.bind ?_ (fun _ => ?_))
   | exact ih0 _ _ _
   | exact LeO.none _
   | refine LeO.ite ?_ ?_
   | refine LeO.bind ?_ (fun _ => ?_)
set_option maxHeartbeats 8000000 in
set_option maxRecDepth 100000 in
theorem Bt.calls (k : Nat) (A0 : Option Addr) (c0 : Nat) (l0 : List (S86)) (A1 : Option Addr) (c1 : Nat) (l1 : List (S86)) (r : Bool) (w : World) (hr0 : Kd.C k86 w A0 l0.length l0) (hc0 : l0.length ≤ c0) (hr1 : Kd.C k86 w A1 l1.length l1) (hc1 : l1.length ≤ c1) (h : Bt.f k l0 l1 = some r) :
  Calls Try.prog 42 #[.slice A0 l0.length c0, .slice A1 l1.length c1] w fun e w' => e = .returned (.bool r) ∧ Drawn0 w w' := by
 have hu86 := Try.underlying86; have HR0 := Ac.mk hr0; have HC0 := Ac.mk hc0; clear hr0 hc0; have HR1 := Ac.mk hr1; have HC1 := Ac.mk hc1; clear hr1 hc1; have H : (if (l0.length : Int) = (l1.length : Int) then (Bt.l0 k l0 l1 0) else (some false)) = some r := h; clear h
 by_cases c3 : (l0.length : Int) = (l1.length : Int)
 ·rw [if_pos c3] at H
  have bj : ((l0.length : Int) == (l1.length : Int)) = true := beq_iff_eq.mpr c3; have bl : ((l0.length : Int) != (l1.length : Int)) = false := bne_eq_false_iff_eq.mpr c3; have dC : (l0.length == l1.length) = true := by first | simpa using c3 | (simp at c3 ⊢; omega)
  clear c3; have H' := Ac.mk H; clear H; go_enter Try.func42, Try.ntmps42
  go_wp2
  repeat (go_quiet (fail); try go_wp2)
  go_loopg [5] k (fun kq v5 w' => ∃ (aa : Int), v5 = .int .i64 aa ∧ Ac (Bt.l0 kq l0 l1 aa = some r) ∧ Ac (kq ≤ k) ∧ Drawn0 w w')
  case atStart => exact ⟨(0), (by first | rfl | (simp; done) | (simp [*]; done)), H', ⟨Nat.le_refl _⟩, by repeat (first | exact Drawn0.refl _ | apply Drawn0.step)⟩
  case round =>
   clear H'; (try clear c1); (try clear p2); (try clear c3); (try clear bj); (try clear bl); (try clear dC); obtain ⟨aa, rfl, HA, HK1, ⟨m1, rfl⟩⟩ := hrel; cases gk with
   | zero => exact absurd HA.out (by simp [Bt.l0])
   | succ k1 =>
    have H := HA.out; clear HA
    simp only [Bt.l0] at H
    by_cases c4 : aa < (l0.length : Int)
    ·rw [if_pos c4] at H
     have ct : decide (aa < (l0.length : Int)) = true := decide_eq_true c4; clear c4
     by_cases c5 : 0 ≤ aa
     ·rw [if_pos c5] at H
      have da : decide (0 ≤ aa) = true := decide_eq_true c5; clear c5
      by_cases c6 : aa < (l1.length : Int)
      ·rw [if_pos c6] at H
       have db : decide (aa < (l1.length : Int)) = true := decide_eq_true c6; clear c6
       by_cases c7 : (!(((rd_T86 l0 aa).f0) == ((rd_T86 l1 aa).f0)) || (!(((rd_T86 l0 aa).f1) == ((rd_T86 l1 aa).f1)) || (!(((rd_T86 l0 aa).f2) == ((rd_T86 l1 aa).f2)) || (!(((rd_T86 l0 aa).f3) == ((rd_T86 l1 aa).f3)))))) = true
       ·rw [if_pos c7] at H
        have eo : (!(((rd_T86 l0 aa).f0) == ((rd_T86 l1 aa).f0)) || (!(((rd_T86 l0 aa).f1) == ((rd_T86 l1 aa).f1)) || (!(((rd_T86 l0 aa).f2) == ((rd_T86 l1 aa).f2)) || (!(((rd_T86 l0 aa).f3) == ((rd_T86 l1 aa).f3)))))) = true := c7; clear c7; obtain rfl := Option.some.inj H; have aY : 0 ≤ (aa : Int) := of_decide_eq_true (by with_reducible assumption); have aZ : aa < (l0.length : Int) := of_decide_eq_true (by with_reducible assumption); obtain ⟨dD, e187, b7, b8, b9, cd⟩ := at_T86 HR0.out aa aY aZ; cases e187; replace aY := eq_true aY; replace aZ := eq_true aZ; have ba : 0 ≤ (aa : Int) := of_decide_eq_true (by with_reducible assumption); have bb : aa < (l1.length : Int) := of_decide_eq_true (by with_reducible assumption); obtain ⟨dE, e188, ce, cg, ck, cp⟩ := at_T86 HR1.out aa ba bb; cases e188; replace ba := eq_true ba; replace bb := eq_true bb
        go_wp2
        repeat (go_quiet (fail); try go_wp2)
        go_ret
        exact ⟨by first | rfl | (simp; done) | (simp [*]; done), by repeat (first | exact Drawn0.refl _ | apply Drawn0.step)⟩
       ·rw [if_neg c7] at H
        have eo : (!(((rd_T86 l0 aa).f0) == ((rd_T86 l1 aa).f0)) || (!(((rd_T86 l0 aa).f1) == ((rd_T86 l1 aa).f1)) || (!(((rd_T86 l0 aa).f2) == ((rd_T86 l1 aa).f2)) || (!(((rd_T86 l0 aa).f3) == ((rd_T86 l1 aa).f3)))))) = false := by simpa using c7
        clear c7; have H' := Ac.mk H; clear H; have aY : 0 ≤ (aa : Int) := of_decide_eq_true (by with_reducible assumption); have aZ : aa < (l0.length : Int) := of_decide_eq_true (by with_reducible assumption); obtain ⟨dD, e187, b7, b8, b9, cd⟩ := at_T86 HR0.out aa aY aZ; cases e187; replace aY := eq_true aY; replace aZ := eq_true aZ; have ba : 0 ≤ (aa : Int) := of_decide_eq_true (by with_reducible assumption); have bb : aa < (l1.length : Int) := of_decide_eq_true (by with_reducible assumption); obtain ⟨dE, e188, ce, cg, ck, cp⟩ := at_T86 HR1.out aa ba bb; cases e188; replace ba := eq_true ba; replace bb := eq_true bb
        go_wp2
        repeat (go_quiet (fail); try go_wp2)
        go_roundg k1
        case measure => have := HK1.out; omega
        case rel => exact ⟨(wrap64 (aa + 1)), (by first | rfl | (simp; done) | (simp [*]; done)), H', ⟨by have := HK1.out; omega⟩, by repeat (first | exact Drawn0.refl _ | apply Drawn0.step)⟩
      ·rw [if_neg c6] at H
       exact absurd H (by simp)
     ·rw [if_neg c5] at H
      exact absurd H (by simp)
    ·rw [if_neg c4] at H
     have ct : decide (aa < (l0.length : Int)) = false := decide_eq_false c4; clear c4; obtain rfl := Option.some.inj H
     go_wp2
     repeat (go_quiet (fail); try go_wp2)
     go_ret
     exact ⟨by first | rfl | (simp; done) | (simp [*]; done), by repeat (first | exact Drawn0.refl _ | apply Drawn0.step)⟩
 ·rw [if_neg c3] at H
  have bj : ((l0.length : Int) == (l1.length : Int)) = false := beq_eq_false_iff_ne.mpr c3; have bl : ((l0.length : Int) != (l1.length : Int)) = true := bne_iff_ne.mpr c3; have dC : (l0.length == l1.length) = false := by first | simpa using c3 | (simp at c3 ⊢; omega)
  obtain rfl := Option.some.inj H; go_enter Try.func42, Try.ntmps42
  go_wp2
  repeat (go_quiet (fail); try go_wp2)
  go_ret
  exact ⟨by first | rfl | (simp; done) | (simp [*]; done), by repeat (first | exact Drawn0.refl _ | apply Drawn0.step)⟩

end Go.Proofs.Ytbfimplajocmmaa.PFA


