import Derived.Test.YtbfimplajocmmaaXUQ
import Derived.Test.YtbfimplajocmmaaXWAt
import Derived.Test.YtbfimplajocmmaaXPFAx0
import Derived.Test.YtbfimplajocmmaaXPFAx1
import Derived.Test.YtbfimplajocmmaaXPFAx2
import Derived.Test.YtbfimplajocmmaaXPFAx4
namespace Go.Proofs.Ytbfimplajocmmaa.PFA
open Go.RowKit Go.Proofs.YtbfimplajocmmaaW.PrintWords Go.Proofs.YtbfimplajocmmaaW.PrintLast Go.Proofs.YtbfimplajocmmaaW.PrintMore
attribute [local go_sem] max2_int min2_int max_two min_two max_three min_three max_four min_four
set_option linter.unusedVariables false
set_option linter.unusedSimpArgs false

attribute [local go_sem high] eqA86
def B4.l0 : Nat → Int → List (S86) → List Bool → Int → Int → Option ((List (S86)))
 | 0, _, _, _, _, _ => none
 | k + 1, x1, x5, x20, x21, x22 => if x22 < x21 then (if 0 ≤ x22 then (if x22 < (x20.length : Int) then (if rdOf false x20 x22 = true then (if (x5.length : Int) > 0 then (if 0 ≤ (wrap64 ((x5.length : Int) - 1)) then (if (wrap64 ((x5.length : Int) - 1)) < (x5.length : Int) then (if ((rd_T86 x5 (wrap64 ((x5.length : Int) - 1))).f2) = x22 then (B4.l0 k x1 (x5.set ((wrap64 ((x5.length : Int) - 1)) : Int).toNat (⟨(rd_T86 x5 (wrap64 ((x5.length : Int) - 1))).f0, (rd_T86 x5 (wrap64 ((x5.length : Int) - 1))).f1, wrap64 (((rd_T86 x5 (wrap64 ((x5.length : Int) - 1))).f2) + 1), (rd_T86 x5 (wrap64 ((x5.length : Int) - 1))).f3⟩ : S86)) x20 x21 (wrap64 (x22 + 1))) else (if x5.length < 4398046511104 then (B4.l0 k x1 (x5 ++ [(⟨x22, x1, wrap64 (x22 + 1), wrap64 (x1 + 1)⟩ : S86)]) x20 x21 (wrap64 (x22 + 1))) else (none))) else (none)) else (none)) else (if x5.length < 4398046511104 then (B4.l0 k x1 (x5 ++ [(⟨x22, x1, wrap64 (x22 + 1), wrap64 (x1 + 1)⟩ : S86)]) x20 x21 (wrap64 (x22 + 1))) else (none))) else (B4.l0 k x1 x5 x20 x21 (wrap64 (x22 + 1)))) else (none)) else (none)) else (some x5)
def B4.f (k : Nat) (ae : Int) (ai : Int) (ag : List Bool) (a1 : Int) : Option ((List (S86))) := if 0 ≤ (wrap64 (a1 * ae)) then (if (wrap64 (a1 * ae)) ≤ (wrap64 ((wrap64 (a1 + 1)) * ae)) then (if (wrap64 ((wrap64 (a1 + 1)) * ae)) ≤ (ag.length : Int) then (B4.l0 k a1 ([] : List (S86)) ((ag.take ((wrap64 ((wrap64 (a1 + 1)) * ae)) : Int).toNat).drop ((wrap64 (a1 * ae)) : Int).toNat) (((ag.take ((wrap64 ((wrap64 (a1 + 1)) * ae)) : Int).toNat).drop ((wrap64 (a1 * ae)) : Int).toNat).length : Int) 0) else (none)) else (none)) else (none)
theorem B4.mono_l : ∀ k, (∀ y0 y1 y2 y3 y4, LeO (B4.l0 k y0 y1 y2 y3 y4) (B4.l0 (k + 1) y0 y1 y2 y3 y4))
 | 0 => fun _ _ _ _ _ r h => by simp [B4.l0] at h
 | k + 1 => by
  have ih0 := B4.mono_l k
  ·intro y0 y1 y2 y3 y4
   unfold B4.l0
   repeat' first
   | (with_reducible exact ih0 _ _ _ _ _)
   | (with_reducible exact LeO.refl _)
   | (with_reducible exact LeO.none _)
   | (with_reducible refine LeO.ite ?_ ?_)
   | (with_reducible refine LeO.bind ?_ (fun _ => ?_))
   | exact ih0 _ _ _ _ _
   | exact LeO.none _
   | refine LeO.ite ?_ ?_
   | refine LeO.bind ?_ (fun _ => ?_)
theorem B4.mono : ∀ a0 a1 a2 a3 k, LeO (B4.f k a0 a1 a2 a3) (B4.f (k + 1) a0 a1 a2 a3) := by
 intro a0 a1 a2 a3 k; have ih0 := B4.mono_l k; unfold B4.f
 repeat' first
   | (with_reducible exact ih0 _ _ _ _ _)
   | (with_reducible exact LeO.refl _)
   | (with_reducible exact LeO.none _)
   | (with_reducible refine LeO.ite ?_ ?_)
   | (with_reducible refine LeO.bind ?_ (fun _ => ?_))
   | exact ih0 _ _ _ _ _
   | exact LeO.none _
   | refine LeO.ite ?_ ?_
   | refine LeO.bind ?_ (fun _ => ?_)
set_option maxHeartbeats 8000000 in
set_option maxRecDepth 100000 in
theorem B4.calls (k : Nat) (ae : Int) (ai : Int) (an : Option Addr) (ao : Nat) (ag : List Bool) (a1 : Int) (r : List (S86)) (w : World) (aM : Kd.C Kd.bool w an ag.length ag) (aN : ag.length ≤ ao) (h : B4.f k ae ai ag a1 = some r) :
  Calls Try.prog 72 #[.agg #[.int .i64 ae, .int .i64 ai, .slice an ag.length ao], .int .i64 a1] w fun e w' => ∃ v0_ : Value, e = .returned (v0_) ∧ Kd.R k86 86 w' w.heap.size (fun _ => True) v0_ r ∧ Below w.heap.size w w' := by
 have hu27 := Try.underlying27; have hu86 := Try.underlying86; have aJ := Ae.mk aM; have aK := Ae.mk aN; clear aM aN; have HB := Ae.mk (Below.refl w.heap.size w); have H : (if 0 ≤ (wrap64 (a1 * ae)) then (if (wrap64 (a1 * ae)) ≤ (wrap64 ((wrap64 (a1 + 1)) * ae)) then (if (wrap64 ((wrap64 (a1 + 1)) * ae)) ≤ (ag.length : Int) then (B4.l0 k a1 ([] : List (S86)) ((ag.take ((wrap64 ((wrap64 (a1 + 1)) * ae)) : Int).toNat).drop ((wrap64 (a1 * ae)) : Int).toNat) (((ag.take ((wrap64 ((wrap64 (a1 + 1)) * ae)) : Int).toNat).drop ((wrap64 (a1 * ae)) : Int).toNat).length : Int) 0) else (none)) else (none)) else (none)) = some r := h; clear h; obtain ⟨ji3, bO⟩ : ∃ j_ : Int, (wrap64 (a1 * ae)) = j_ := ⟨_, rfl⟩; replace H : (if 0 ≤ (ji3) then (if (ji3) ≤ (wrap64 ((wrap64 (a1 + 1)) * ae)) then (if (wrap64 ((wrap64 (a1 + 1)) * ae)) ≤ (ag.length : Int) then (B4.l0 k a1 ([] : List (S86)) ((ag.take ((wrap64 ((wrap64 (a1 + 1)) * ae)) : Int).toNat).drop ((ji3) : Int).toNat) (((ag.take ((wrap64 ((wrap64 (a1 + 1)) * ae)) : Int).toNat).drop ((ji3) : Int).toNat).length : Int) 0) else (none)) else (none)) else (none)) = some r := by first | (rw [bO] at H; exact H) | (simp only [bO] at H ⊢; exact H)
 have hji3w : (IntKind.i64.wrap (a1 * ae)) = ji3 := (i64_w _).trans bO
 by_cases c4 : 0 ≤ (ji3)
 ·rw [if_pos c4] at H
  have cA := eq_true c4; have dZ : decide (0 ≤ (ji3)) = true := decide_eq_true c4; clear c4
  by_cases c5 : (ji3) ≤ (wrap64 ((wrap64 (a1 + 1)) * ae))
  ·rw [if_pos c5] at H
   have dh := eq_true c5; have d6 : decide ((ji3) ≤ (wrap64 ((wrap64 (a1 + 1)) * ae))) = true := decide_eq_true c5
   by_cases c6 : (wrap64 ((wrap64 (a1 + 1)) * ae)) ≤ (ag.length : Int)
   ·rw [if_pos c6] at H
    have di := eq_true c6; have d7 : decide ((wrap64 ((wrap64 (a1 + 1)) * ae)) ≤ (ag.length : Int)) = true := decide_eq_true c6; have H' := Ae.mk H; clear H; have hlen6 := Ae.mk (show ((ag.take ((wrap64 ((wrap64 (a1 + 1)) * ae)) : Int).toNat).drop ((ji3) : Int).toNat).length = (wrap64 ((wrap64 (a1 + 1)) * ae)).toNat - ji3.toNat from by rw [List.length_drop, List.length_take, Nat.min_eq_left (Int.toNat_le.mpr c6)]); go_enter Try.func72, Try.ntmps72
    go_wp2_with (((with_reducible refine Bq (N := 2) rfl ?_); refine Bo ?hg (N := 2) ?hd (cs := #[.int .i64 ae, .int .i64 ai, .slice an ag.length ao]) (t := 27) ?hr ?_; (case hd => rfl); (case hg => rfl); (case hr => first | (go_simp; done) | (go_simp; rfl)); intro aG hg w7 hbox hb; have aq := Ae.mk (hbox); have eF := Ae.mk ((by rw [hg]; exact (Aq (lU HB.out)) : w.heap.size ≤ aG)); have aC := Ae.mk ((by rw [hg]; exact (Aq (lU HB.out)) : w.heap.size ≤ aG)); replace HB := Ae.mk (At (lU HB.out) hb); clear hb hbox hg; have cB : w7.cell? ⟨aG, 0, none⟩ = some (.int .i64 ae) := (Af aq.out 0).trans rfl; have cC : w7.cell? ⟨aG, 1, none⟩ = some (.int .i64 ai) := (Af aq.out 1).trans rfl; have cD : w7.cell? ⟨aG, 2, none⟩ = some (.slice an ag.length ao) := (Af aq.out 2).trans rfl; have cE := Ag aq.out 0; have cF := Ag aq.out 1; have cG := Ag aq.out 2; obtain ⟨i09, hi09, _, hsz9, _⟩ := info_parts info4; obtain ⟨A9, hcut9, hA9, hC9⟩ := print_mid_of (P := Try.prog) Value.bool false 25 4 .i64 .i64 Try.underlying25 hi09 hsz9 an ao ag (ji3) (wrap64 ((wrap64 (a1 + 1)) * ae)) (of_decide_eq_true (by with_reducible assumption)) (by first | omega | exact of_decide_eq_true (by with_reducible assumption)) (of_decide_eq_true (by with_reducible assumption)) aK.out; have HR162 := Ae.mk (Kd.C_of_reads (h1 := fun _ => rfl) (hA9 _ (Kd.C0 aJ.out))); have HC162 := Ae.mk hC9; clear hA9 hC9 hi09 hsz9))
    rw [← hlen6.out]; obtain ⟨yS, hyS⟩ : ∃ y_, y_ = ((ag.take ((wrap64 ((wrap64 (a1 + 1)) * ae)) : Int).toNat).drop ((ji3) : Int).toNat) := ⟨_, rfl⟩; rw [← hyS] at H' HR162 HC162 ⊢; clear hyS hlen6
    go_loopg [5, 22] k (fun kq v5 v22 w' => ∃ (aa : List (S86)) (ab : Int), v22 = .int .i64 ab ∧ Ae (B4.l0 kq a1 aa yS (yS.length : Int) ab = some r) ∧ Ae (kq ≤ k) ∧ Ae (Kd.R k86 86 w' w.heap.size (fun _ => True) v5 aa) ∧ Ae (w'.heap[aG]? = some (.cells #[.int .i64 ae, .int .i64 ai, (.slice an ag.length ao)] 27 (0, 0))) ∧ Ae (Below w.heap.size w w'))
    case atStart => exact ⟨(([] : List (S86))), (0), (by first | rfl | (simp; done) | (simp [*]; done)), H', ⟨Nat.le_refl _⟩, ⟨by first | exact Kd.C5 _ _ _ _ _ | exact Kd.N_nil _ _ _ _ _ | exact Kd.V_nil _ _ _ _ _ | exact Kd.Q_nil _ _ _ _ _ | exact Kd.S_nil _ _ _ _ _⟩, ⟨by exact bU <| aq.out⟩, ⟨by repeat (first | (with_reducible first | exact HB.out | apply Ah | apply Aj | apply Ak | refine Ai ?_ aC.out) | exact HB.out)⟩⟩
    case round =>
     clear H'; (try clear p2); (try clear c4); (try clear cA); (try clear dZ); (try clear c5); (try clear dh); (try clear d6); (try clear c6); (try clear di); (try clear d7); (try clear p6); (try clear c7); (try clear cB); (try clear cC); (try clear cD); (try clear cE); (try clear cF); (try clear cG); obtain ⟨aa, ab, rfl, HA, HK1, ak, aq, HB⟩ := hrel; cases gk with
     | zero => exact absurd HA.out (by simp [B4.l0])
     | succ k1 =>
      have H := HA.out; clear HA
      simp only [B4.l0] at H
      by_cases c10 : ab < (yS.length : Int)
      ·rw [if_pos c10] at H
       have dj : decide (ab < (yS.length : Int)) = true := decide_eq_true c10; clear c10
       by_cases c11 : 0 ≤ ab
       ·rw [if_pos c11] at H
        have eG : decide (0 ≤ ab) = true := decide_eq_true c11; clear c11
        by_cases c12 : ab < (yS.length : Int)
        ·rw [if_pos c12] at H
         have eH : decide (ab < (yS.length : Int)) = true := decide_eq_true c12; clear c12; obtain ⟨bq13, bj⟩ : ∃ b_ : Bool, b_ = (rdOf false yS ab) := ⟨_, rfl⟩; replace H : (if bq13 = true then (if (aa.length : Int) > 0 then (if 0 ≤ (wrap64 ((aa.length : Int) - 1)) then (if (wrap64 ((aa.length : Int) - 1)) < (aa.length : Int) then (if ((rd_T86 aa (wrap64 ((aa.length : Int) - 1))).f2) = ab then (B4.l0 k1 a1 (aa.set ((wrap64 ((aa.length : Int) - 1)) : Int).toNat (⟨(rd_T86 aa (wrap64 ((aa.length : Int) - 1))).f0, (rd_T86 aa (wrap64 ((aa.length : Int) - 1))).f1, wrap64 (((rd_T86 aa (wrap64 ((aa.length : Int) - 1))).f2) + 1), (rd_T86 aa (wrap64 ((aa.length : Int) - 1))).f3⟩ : S86)) yS (yS.length : Int) (wrap64 (ab + 1))) else (if aa.length < 4398046511104 then (B4.l0 k1 a1 (aa ++ [(⟨ab, a1, wrap64 (ab + 1), wrap64 (a1 + 1)⟩ : S86)]) yS (yS.length : Int) (wrap64 (ab + 1))) else (none))) else (none)) else (none)) else (if aa.length < 4398046511104 then (B4.l0 k1 a1 (aa ++ [(⟨ab, a1, wrap64 (ab + 1), wrap64 (a1 + 1)⟩ : S86)]) yS (yS.length : Int) (wrap64 (ab + 1))) else (none))) else (B4.l0 k1 a1 aa yS (yS.length : Int) (wrap64 (ab + 1)))) = some r := by rw [← bj] at H; exact H
         have aZ := Ae.mk bj; clear bj
         by_cases c14 : bq13 = true
         ·subst c14
          have H1 := H; rw [if_pos rfl] at H1; clear H; have H := H1; clear H1
          by_cases c15 : (aa.length : Int) > 0
          ·rw [if_pos c15] at H
           have dk : decide (0 < (aa.length : Int)) = true := decide_eq_true c15; have dn : decide (0 < aa.length) = true := decide_eq_true (by omega); clear c15; obtain ⟨ah, bm⟩ : ∃ j_ : Int, (wrap64 ((aa.length : Int) - 1)) = j_ := ⟨_, rfl⟩; replace H : (if 0 ≤ (ah) then (if (ah) < (aa.length : Int) then (if ((rd_T86 aa (ah)).f2) = ab then (B4.l0 k1 a1 (aa.set ((ah) : Int).toNat (⟨(rd_T86 aa (ah)).f0, (rd_T86 aa (ah)).f1, wrap64 (((rd_T86 aa (ah)).f2) + 1), (rd_T86 aa (ah)).f3⟩ : S86)) yS (yS.length : Int) (wrap64 (ab + 1))) else (if aa.length < 4398046511104 then (B4.l0 k1 a1 (aa ++ [(⟨ab, a1, wrap64 (ab + 1), wrap64 (a1 + 1)⟩ : S86)]) yS (yS.length : Int) (wrap64 (ab + 1))) else (none))) else (none)) else (none)) = some r := by first | (rw [bm] at H; exact H) | (simp only [bm] at H ⊢; exact H)
           have hji16w : (IntKind.i64.wrap ((aa.length : Int) - 1)) = ah := (i64_w _).trans bm
           by_cases c17 : 0 ≤ (ah)
           ·rw [if_pos c17] at H
            have ba : decide (0 ≤ (ah)) = true := decide_eq_true c17; clear c17
            by_cases c18 : (ah) < (aa.length : Int)
            ·rw [if_pos c18] at H
             have dp : decide ((ah) < (aa.length : Int)) = true := decide_eq_true c18; clear c18
             by_cases c19 : ((rd_T86 aa (ah)).f2) = ab
             ·rw [if_pos c19] at H
              have cz : (((rd_T86 aa (ah)).f2) == ab) = true := beq_iff_eq.mpr c19; have dq : (((rd_T86 aa (ah)).f2) != ab) = false := bne_eq_false_iff_eq.mpr c19; clear c19; obtain ⟨dr, bo⟩ : ∃ y_ : List (S86), y_ = (aa.set ((ah) : Int).toNat (⟨(rd_T86 aa (ah)).f0, (rd_T86 aa (ah)).f1, wrap64 (((rd_T86 aa (ah)).f2) + 1), (rd_T86 aa (ah)).f3⟩ : S86)) := ⟨_, rfl⟩; (try rw [Option.bind_some] at H); try rw [← bo] at H; have dt := Ae.mk bo; clear bo; have H' := Ae.mk H; clear H; have aD : 0 ≤ (ab : Int) := of_decide_eq_true (by with_reducible assumption); have aE : ab < (yS.length : Int) := of_decide_eq_true (by with_reducible assumption); obtain ⟨bp, e163, aj⟩ := Kd.at_bool HR162.out ab aD aE; (try rw [← aZ.out] at aj); cases e163; replace aj := (HB.out.cell (World.block_lt_of_cell? w _ aj)).trans aj; replace aD := eq_true aD; replace aE := eq_true aE; obtain ⟨eJ, du, d8⟩ := Kd.B6 ak.out; subst d8; have aQ : 0 ≤ ((ah) : Int) := of_decide_eq_true (by with_reducible assumption); have aT : (ah) < (aa.length : Int) := of_decide_eq_true (by with_reducible assumption); obtain ⟨bq, e164, bb, bc, bd, bf⟩ := at_T86 (Kd.Bf ak.out).2.2 (ah) aQ aT; cases e164; replace aQ := eq_true aQ; replace aT := eq_true aT; have cH : 0 ≤ ((ah) : Int) := of_decide_eq_true (by with_reducible assumption); have cI : (ah) < (aa.length : Int) := of_decide_eq_true (by with_reducible assumption); obtain ⟨dv, e165, bP, bQ, bR, bS⟩ := at_T86 (Kd.Bf ak.out).2.2 (ah) cH cI; obtain rfl : bq = dv := (by injection e165); replace cH := eq_true cH; replace cI := eq_true cI; have p20 : 0 ≤ ((ah) : Int) := of_decide_eq_true (by with_reducible assumption); have q20 : ((ah) : Int) < ((aa.length : Int) : Int) := of_decide_eq_true (by with_reducible assumption); obtain ⟨go20, d9, br, bs, gl20, cl20, HG20⟩ := Kd.Dx ak.out (by omega); (first | cases br | (injection br with ea_ en_ ec_; (first | subst ea_ | (injection ea_ with ea_; subst ea_)); subst ec_; clear en_)); have GB20 := Ae.mk bs; have GG20 := Ae.mk HG20; clear bs gl20 HG20; (first | simp only [add_plain] at bb | skip); (first | simp only [add_plain] at bc | skip); (first | simp only [add_plain] at bd | skip); (first | simp only [add_plain] at bf | skip); (first | simp only [add_plain] at bP | skip); (first | simp only [add_plain] at bQ | skip); (first | simp only [add_plain] at bR | skip); (first | simp only [add_plain] at bS | skip); obtain ⟨ce20, hcl20, hM20, hcc20, hfr20⟩ := Kd.R_elem ak.out z86 ((ah) : Int) p20 q20; obtain rfl := k86_openM hM20; have cJ : wr.cell? ⟨go20, ((ah) : Int).toNat * 4, none⟩ = some (.int .i64 ((rd_T86 aa (ah)).f0)) := hcc20 0 _ rfl; have cK : wr.cell? ⟨go20, ((ah) : Int).toNat * 4 + 1, none⟩ = some (.int .i64 ((rd_T86 aa (ah)).f1)) := hcc20 1 _ rfl; have cL : wr.cell? ⟨go20, ((ah) : Int).toNat * 4 + 2, none⟩ = some (.int .i64 ((rd_T86 aa (ah)).f2)) := hcc20 2 _ rfl; have cM : wr.cell? ⟨go20, ((ah) : Int).toNat * 4 + 3, none⟩ = some (.int .i64 ((rd_T86 aa (ah)).f3)) := hcc20 3 _ rfl; have cN : wr.frozen? ⟨go20, ((ah) : Int).toNat * 4, none⟩ = false := hfr20 0; have cO : wr.frozen? ⟨go20, ((ah) : Int).toNat * 4 + 1, none⟩ = false := hfr20 1; have cP : wr.frozen? ⟨go20, ((ah) : Int).toNat * 4 + 2, none⟩ = false := hfr20 2; have cQ : wr.frozen? ⟨go20, ((ah) : Int).toNat * 4 + 3, none⟩ = false := hfr20 3; clear hcl20 hcc20 hfr20 hM20; replace p20 := eq_true p20; replace q20 := eq_true q20; have HX22 := Ae.mk (show Kd.R k86 86 wr w.heap.size (fun _ => True) (.slice (some ⟨go20, 0, none⟩) aa.length du) aa from (by exact rU <| ak.out)); obtain ⟨ce22, hcl22, hM22, hcc22, hfr22⟩ := Kd.R_elem HX22.out z86 ((ah) : Int) (of_decide_eq_true (by with_reducible assumption)) (by have h_ : ((ah) : Int) < ((aa.length : Int) : Int) := of_decide_eq_true (by with_reducible assumption); first | exact h_ | (have e_ := (Kd.Bf ak.out).1; omega) | simpa using h_); obtain rfl := k86_openM hM22; have cR := Kd.R_seg HX22.out ((ah) : Int) (of_decide_eq_true (by with_reducible assumption)) (by have h_ : ((ah) : Int) < ((aa.length : Int) : Int) := of_decide_eq_true (by with_reducible assumption); first | exact h_ | (have e_ := (Kd.Bf ak.out).1; omega) | simpa using h_) (seg := [.int .i64 (wrap64 (((rd_T86 aa (ah)).f2) + 1))]) (j := 2) hcl22 hcc22 (show 3 ≤ 4 from by decide) (x' := (⟨(rd_T86 aa (ah)).f0, (rd_T86 aa (ah)).f1, wrap64 (((rd_T86 aa (ah)).f2) + 1), (rd_T86 aa (ah)).f3⟩ : S86)) (k86_mkM _ _ _ (⟨(rd_T86 aa (ah)).f0, (rd_T86 aa (ah)).f1, wrap64 (((rd_T86 aa (ah)).f2) + 1), (rd_T86 aa (ah)).f3⟩ : S86) ) (fun _ hk => hk); have cS := hcc22 2 _ rfl; (try simp only [show (k86).sz = 4 from rfl, Nat.mul_one, Nat.add_zero] at cS); have cU := hfr22 2; (try simp only [show (k86).sz = 4 from rfl, Nat.mul_one, Nat.add_zero] at cU); clear hcl22 hcc22 hfr22 hM22
              go_wp2_with (((with_reducible refine Dh (t := 3) (p := 63) rfl ?_); refine store_event (t := 3) (p := 63) (v := ?vo_w23) (w1 := (wr.setCell ⟨go20, ((ah) : Int).toNat * 4 + 2, none⟩ (.int .i64 (wrap64 (((rd_T86 aa (ah)).f2) + 1))))) ?hg ?ho ?hn ?hr ?_; (case ho => rfl); (case hg => rfl); (case hn => rfl); (case hr => first | (go_simp; done) | (go_simp; rfl)); intro w23 hw; have hg : wr.grownBy w23 (some go20) := (by rw [hw]; exact cR.2); have hp_ : Kd.R k86 86 w23 w.heap.size (fun _ => True) (.slice (some ⟨go20, 0, none⟩) aa.length du) dr := (by rw [hw, dt.out]; exact cR.1); clear cR; replace aq := Ae.mk (Bz (g := aG) (o := .cells #[.int .i64 ae, .int .i64 ai, .slice an ag.length ao] 27 (0, 0)) (by exact bU <| aq.out) hg (Kd.Do ak.out aq.out (by decide))); replace ak := Ae.mk (hp_); replace HB := Ae.mk ((by rw [hw]; exact Ai (HB.out) GB20.out : Below w.heap.size w w23)); clear hg hw hp_))
              go_roundg k1
              case measure => have := HK1.out; omega
              case rel => exact ⟨(dr), (wrap64 (ab + 1)), (by first | rfl | (simp; done) | (simp [*]; done)), H', ⟨by have := HK1.out; omega⟩, ⟨by exact rU <| ak.out⟩, ⟨by exact bU <| aq.out⟩, ⟨by repeat (first | (with_reducible first | exact HB.out | apply Ah | apply Aj | apply Ak | refine Ai ?_ aC.out) | exact HB.out)⟩⟩
             ·rw [if_neg c19] at H
              have cz : (((rd_T86 aa (ah)).f2) == ab) = false := beq_eq_false_iff_ne.mpr c19; have dq : (((rd_T86 aa (ah)).f2) != ab) = true := bne_iff_ne.mpr c19
              by_cases c24 : aa.length < 4398046511104
              ·rw [if_pos c24] at H
               have LMc24 := Ae.mk c24; clear c24; obtain ⟨ee, bu⟩ : ∃ y_ : List (S86), y_ = (aa ++ [(⟨ab, a1, wrap64 (ab + 1), wrap64 (a1 + 1)⟩ : S86)]) := ⟨_, rfl⟩; (try rw [Option.bind_some] at H); try rw [← bu] at H; have dw := Ae.mk bu; clear bu; have H' := Ae.mk H; clear H; have aD : 0 ≤ (ab : Int) := of_decide_eq_true (by with_reducible assumption); have aE : ab < (yS.length : Int) := of_decide_eq_true (by with_reducible assumption); obtain ⟨bp, e163, aj⟩ := Kd.at_bool HR162.out ab aD aE; (try rw [← aZ.out] at aj); cases e163; replace aj := (HB.out.cell (World.block_lt_of_cell? w _ aj)).trans aj; replace aD := eq_true aD; replace aE := eq_true aE; obtain ⟨eK, ef, eh⟩ := Kd.B6 ak.out; subst eh; have aQ : 0 ≤ ((ah) : Int) := of_decide_eq_true (by with_reducible assumption); have aT : (ah) < (aa.length : Int) := of_decide_eq_true (by with_reducible assumption); obtain ⟨bq, e164, bb, bc, bd, bf⟩ := at_T86 (Kd.Bf ak.out).2.2 (ah) aQ aT; cases e164; replace aQ := eq_true aQ; replace aT := eq_true aT
               go_wp2_with (((with_reducible refine D0 (b := .append) (xs := #[.tmp 29, .tmp 37]) rfl ?_); at_builtin; refine Kd.R_append k86 (w0 := w) w.heap.size rfl (.tmp 29) (.tmp 37) 79 86 (.agg #[(.int .i64 0), (.int .i64 0), (.int .i64 0), (.int .i64 0)]) 32 rfl Try.underlying79 info86 rfl (by decide) (by omega) (.slice (some bq) aa.length ef) aa (⟨ab, a1, wrap64 (ab + 1), wrap64 (a1 + 1)⟩ : S86) [.int .i64 ab, .int .i64 a1, .int .i64 (wrap64 (ab + 1)), .int .i64 (wrap64 (a1 + 1))] (fun _ => True) (fun _ => False) rfl rfl ?aP (fun _ hk => hk.elim) ?aF ?aO ?aB ?aS ?aL ?_; (case aP => exact k86_mkM _ _ _ (⟨ab, a1, wrap64 (ab + 1), wrap64 (a1 + 1)⟩ : S86)); (case aB => exact (by repeat (first | (with_reducible first | exact HB.out | apply Ah | apply Aj | apply Ak | refine Ai ?_ aC.out) | exact HB.out))); (case aF => exact (fun _ _ => trivial)); (case aO => exact (by exact rU <| ak.out)); (case aS => exact (Aq (by repeat (first | (with_reducible first | exact HB.out | apply Ah | apply Aj | apply Ak | refine Ai ?_ aC.out) | exact HB.out)))); (case aL => have := LMc24.out; omega); intro v168 w26 ho hb hg hat; rw [← dw.out] at ho; replace aq := Ae.mk (Bz (g := aG) (o := .cells #[.int .i64 ae, .int .i64 ai, .slice an ag.length ao] 27 (0, 0)) (by exact bU <| aq.out) hg (Kd.Do ak.out aq.out (by decide))); replace HB := Ae.mk (hb); have dz := Ae.mk (ho); clear ak; clear ho hb hg hat))
               go_roundg k1
               case measure => have := HK1.out; omega
               case rel => exact ⟨(ee), (wrap64 (ab + 1)), (by first | rfl | (simp; done) | (simp [*]; done)), H', ⟨by have := HK1.out; omega⟩, ⟨by exact rU <| dz.out⟩, ⟨by exact bU <| aq.out⟩, ⟨by repeat (first | (with_reducible first | exact HB.out | apply Ah | apply Aj | apply Ak | refine Ai ?_ aC.out) | exact HB.out)⟩⟩
              ·rw [if_neg c24] at H
               exact absurd H (by simp)
            ·rw [if_neg c18] at H
             exact absurd H (by simp)
           ·rw [if_neg c17] at H
            exact absurd H (by simp)
          ·rw [if_neg c15] at H
           have dk : decide (0 < (aa.length : Int)) = false := decide_eq_false c15; have dn : decide (0 < aa.length) = false := decide_eq_false (by omega); clear c15
           by_cases c27 : aa.length < 4398046511104
           ·rw [if_pos c27] at H
            have LMc27 := Ae.mk c27; clear c27; obtain ⟨ei, bv⟩ : ∃ y_ : List (S86), y_ = (aa ++ [(⟨ab, a1, wrap64 (ab + 1), wrap64 (a1 + 1)⟩ : S86)]) := ⟨_, rfl⟩; (try rw [Option.bind_some] at H); try rw [← bv] at H; have dA := Ae.mk bv; clear bv; have H' := Ae.mk H; clear H; have aD : 0 ≤ (ab : Int) := of_decide_eq_true (by with_reducible assumption); have aE : ab < (yS.length : Int) := of_decide_eq_true (by with_reducible assumption); obtain ⟨bp, e163, aj⟩ := Kd.at_bool HR162.out ab aD aE; (try rw [← aZ.out] at aj); cases e163; replace aj := (HB.out.cell (World.block_lt_of_cell? w _ aj)).trans aj; replace aD := eq_true aD; replace aE := eq_true aE; obtain ⟨ej, ek, el⟩ := Kd.B6 ak.out; subst el
            go_wp2_with (((with_reducible refine D0 (b := .append) (xs := #[.tmp 29, .tmp 37]) rfl ?_); at_builtin; refine Kd.R_append k86 (w0 := w) w.heap.size rfl (.tmp 29) (.tmp 37) 79 86 (.agg #[(.int .i64 0), (.int .i64 0), (.int .i64 0), (.int .i64 0)]) 32 rfl Try.underlying79 info86 rfl (by decide) (by omega) (.slice ej aa.length ek) aa (⟨ab, a1, wrap64 (ab + 1), wrap64 (a1 + 1)⟩ : S86) [.int .i64 ab, .int .i64 a1, .int .i64 (wrap64 (ab + 1)), .int .i64 (wrap64 (a1 + 1))] (fun _ => True) (fun _ => False) rfl rfl ?aP (fun _ hk => hk.elim) ?aF ?aO ?aB ?aS ?aL ?_; (case aP => exact k86_mkM _ _ _ (⟨ab, a1, wrap64 (ab + 1), wrap64 (a1 + 1)⟩ : S86)); (case aB => exact (by repeat (first | (with_reducible first | exact HB.out | apply Ah | apply Aj | apply Ak | refine Ai ?_ aC.out) | exact HB.out))); (case aF => exact (fun _ _ => trivial)); (case aO => exact (by exact rU <| ak.out)); (case aS => exact (Aq (by repeat (first | (with_reducible first | exact HB.out | apply Ah | apply Aj | apply Ak | refine Ai ?_ aC.out) | exact HB.out)))); (case aL => have := LMc27.out; omega); intro v171 w29 ho hb hg hat; rw [← dA.out] at ho; replace aq := Ae.mk (Bz (g := aG) (o := .cells #[.int .i64 ae, .int .i64 ai, .slice an ag.length ao] 27 (0, 0)) (by exact bU <| aq.out) hg (Kd.Do ak.out aq.out (by decide))); replace HB := Ae.mk (hb); have dB := Ae.mk (ho); clear ak; clear ho hb hg hat))
            go_roundg k1
            case measure => have := HK1.out; omega
            case rel => exact ⟨(ei), (wrap64 (ab + 1)), (by first | rfl | (simp; done) | (simp [*]; done)), H', ⟨by have := HK1.out; omega⟩, ⟨by exact rU <| dB.out⟩, ⟨by exact bU <| aq.out⟩, ⟨by repeat (first | (with_reducible first | exact HB.out | apply Ah | apply Aj | apply Ak | refine Ai ?_ aC.out) | exact HB.out)⟩⟩
           ·rw [if_neg c27] at H
            exact absurd H (by simp)
         ·replace c14 := Bool.eq_false_iff.mpr c14
          subst c14; have H1 := H; rw [if_neg (show ¬ (false = true) by decide)] at H1; clear H; have H := H1; clear H1; have H' := Ae.mk H; clear H; have aD : 0 ≤ (ab : Int) := of_decide_eq_true (by with_reducible assumption); have aE : ab < (yS.length : Int) := of_decide_eq_true (by with_reducible assumption); obtain ⟨bp, e163, aj⟩ := Kd.at_bool HR162.out ab aD aE; (try rw [← aZ.out] at aj); cases e163; replace aj := (HB.out.cell (World.block_lt_of_cell? w _ aj)).trans aj; replace aD := eq_true aD; replace aE := eq_true aE; obtain ⟨eL, eM, eo⟩ := Kd.B6 ak.out; subst eo
          go_wp2
          go_roundg k1
          case measure => have := HK1.out; omega
          case rel => exact ⟨(aa), (wrap64 (ab + 1)), (by first | rfl | (simp; done) | (simp [*]; done)), H', ⟨by have := HK1.out; omega⟩, ⟨by exact rU <| ak.out⟩, ⟨by exact bU <| aq.out⟩, ⟨by repeat (first | (with_reducible first | exact HB.out | apply Ah | apply Aj | apply Ak | refine Ai ?_ aC.out) | exact HB.out)⟩⟩
        ·rw [if_neg c12] at H
         exact absurd H (by simp)
       ·rw [if_neg c11] at H
        exact absurd H (by simp)
      ·rw [if_neg c10] at H
       have dj : decide (ab < (yS.length : Int)) = false := decide_eq_false c10; clear c10; obtain rfl := Option.some.inj H
       go_wp2
       go_ret
       exact ⟨_, by first | rfl | (simp [Bc, Bb] <;> rfl) | (simp only [← bO]; first | rfl | (simp [Bc, Bb] <;> rfl)) | (simp [*, Bc, Bb] <;> rfl), by exact rU <| ak.out, by repeat (first | (with_reducible first | exact HB.out | apply Ah | apply Aj | apply Ak | refine Ai ?_ aC.out) | exact HB.out)⟩
   ·rw [if_neg c6] at H
    exact absurd H (by simp)
  ·rw [if_neg c5] at H
   exact absurd H (by simp)
 ·rw [if_neg c4] at H
  exact absurd H (by simp)

mutual
def Bu.l0 : Nat → List (S86) → List (S86) → Int → Int → Int → Int → List Bool → Option ((List (S86)) × Int)
 | 0, _, _, _, _, _, _, _ => none
 | k + 1, x5, x6, x16, x17, ay, az, aA => if x17 < x16 then ((B4.f k ay az aA x17).bind fun aI => ((Cj.f k x6 aI).bind fun cV => (if cV = true then (Bu.l1 k x5 x6 x16 x17 (x6.length : Int) 0 ay az aA) else (if x5.length + x6.length < 4398046511104 then (Bu.l0 k (x5 ++ x6) aI x16 (wrap64 (x17 + 1)) ay az aA) else (none))))) else (if x5.length + x6.length < 4398046511104 then (some ((x5 ++ x6), 0)) else (none))
def Bu.l1 : Nat → List (S86) → List (S86) → Int → Int → Int → Int → Int → Int → List Bool → Option ((List (S86)) × Int)
 | 0, _, _, _, _, _, _, _, _, _ => none
 | k + 1, x5, x6, x16, x17, x32, x33, ay, az, aA => if x33 < x32 then (if 0 ≤ x33 then (if x33 < (x6.length : Int) then (Bu.l1 k x5 (x6.set (x33 : Int).toNat (⟨(rd_T86 x6 x33).f0, (rd_T86 x6 x33).f1, (rd_T86 x6 x33).f2, wrap64 (((rd_T86 x6 x33).f3) + 1)⟩ : S86)) x16 x17 x32 (wrap64 (x33 + 1)) ay az aA) else (none)) else (none)) else (Bu.l0 k x5 x6 x16 (wrap64 (x17 + 1)) ay az aA)
end
def Bu.f (k : Nat) (ae : Int) (ai : Int) (ag : List Bool) : Option ((List (S86)) × Int) := (Cp.f ae ai ag).bind fun aH => (if aH = 0 then (Bu.l0 k ([] : List (S86)) ([] : List (S86)) ai 0 ae ai ag) else (some (([] : List (S86)), aH)))
theorem Bu.mono_l : ∀ k, (∀ y0 y1 y2 y3 y4 y5 y6, LeO (Bu.l0 k y0 y1 y2 y3 y4 y5 y6) (Bu.l0 (k + 1) y0 y1 y2 y3 y4 y5 y6)) ∧ (∀ y0 y1 y2 y3 y4 y5 y6 y7 y8, LeO (Bu.l1 k y0 y1 y2 y3 y4 y5 y6 y7 y8) (Bu.l1 (k + 1) y0 y1 y2 y3 y4 y5 y6 y7 y8))
 | 0 => ⟨fun _ _ _ _ _ _ _ r h => by simp [Bu.l0] at h, fun _ _ _ _ _ _ _ _ _ r h => by simp [Bu.l1] at h⟩
 | k + 1 => by
  obtain ⟨ih0, ih1⟩ := Bu.mono_l k; refine ⟨?_, ?_⟩
  ·intro y0 y1 y2 y3 y4 y5 y6
   unfold Bu.l0
   repeat' first
   | (with_reducible exact ih0 _ _ _ _ _ _ _)
   | (with_reducible exact ih1 _ _ _ _ _ _ _ _ _)
   | (with_reducible exact Cj.mono _ _ _)
   | (with_reducible exact B4.mono _ _ _ _ _)
   | (with_reducible exact LeO.refl _)
   | (with_reducible exact LeO.none _)
   | (with_reducible refine LeO.ite ?_ ?_)
   | (with_reducible refine LeO.bind ?_ (fun _ => ?_))
   | exact ih0 _ _ _ _ _ _ _
   | exact ih1 _ _ _ _ _ _ _ _ _
   | exact Cj.mono _ _ _
   | exact B4.mono _ _ _ _ _
   | exact LeO.none _
   | refine LeO.ite ?_ ?_
   | refine LeO.bind ?_ (fun _ => ?_)
  ·intro y0 y1 y2 y3 y4 y5 y6 y7 y8
   unfold Bu.l1
   repeat' first
   | (with_reducible exact ih0 _ _ _ _ _ _ _)
   | (with_reducible exact ih1 _ _ _ _ _ _ _ _ _)
   | (with_reducible exact Cj.mono _ _ _)
   | (with_reducible exact B4.mono _ _ _ _ _)
   | (with_reducible exact LeO.refl _)
   | (with_reducible exact LeO.none _)
   | (with_reducible refine LeO.ite ?_ ?_)
   | (with_reducible refine LeO.bind ?_ (fun _ => ?_))
   | exact ih0 _ _ _ _ _ _ _
   | exact ih1 _ _ _ _ _ _ _ _ _
   | exact Cj.mono _ _ _
   | exact B4.mono _ _ _ _ _
   | exact LeO.none _
   | refine LeO.ite ?_ ?_
   | refine LeO.bind ?_ (fun _ => ?_)
theorem Bu.mono : ∀ a0 a1 a2 k, LeO (Bu.f k a0 a1 a2) (Bu.f (k + 1) a0 a1 a2) := by
 intro a0 a1 a2 k; obtain ⟨ih0, ih1⟩ := Bu.mono_l k; unfold Bu.f
 repeat' first
   | (with_reducible exact ih0 _ _ _ _ _ _ _)
   | (with_reducible exact ih1 _ _ _ _ _ _ _ _ _)
   | (with_reducible exact Cj.mono _ _ _)
   | (with_reducible exact B4.mono _ _ _ _ _)
   | (with_reducible exact LeO.refl _)
   | (with_reducible exact LeO.none _)
   | (with_reducible refine LeO.ite ?_ ?_)
   | (with_reducible refine LeO.bind ?_ (fun _ => ?_))
   | exact ih0 _ _ _ _ _ _ _
   | exact ih1 _ _ _ _ _ _ _ _ _
   | exact Cj.mono _ _ _
   | exact B4.mono _ _ _ _ _
   | exact LeO.none _
   | refine LeO.ite ?_ ?_
   | refine LeO.bind ?_ (fun _ => ?_)
set_option maxHeartbeats 8000000 in
set_option maxRecDepth 100000 in
theorem Bu.calls (k : Nat) (ae : Int) (ai : Int) (an : Option Addr) (ao : Nat) (ag : List Bool) (r1 : List (S86)) (r2 : Int) (w : World) (aM : Kd.C Kd.bool w an ag.length ag) (aN : ag.length ≤ ao) (h : Bu.f k ae ai ag = some (r1, r2)) :
  Calls Try.prog 39 #[.agg #[.int .i64 ae, .int .i64 ai, .slice an ag.length ao]] w fun e w' => ∃ v0_ : Value, e = .returned (.tuple #[v0_, .int .i64 r2]) ∧ Kd.R k86 86 w' w.heap.size (fun _ => True) v0_ r1 ∧ Below w.heap.size w w' := by
 have hu27 := Try.underlying27; have aJ := Ae.mk aM; have aK := Ae.mk aN; clear aM aN; have HB := Ae.mk (Below.refl w.heap.size w); have H : ((Cp.f ae ai ag).bind fun aH => (if aH = 0 then (Bu.l0 k ([] : List (S86)) ([] : List (S86)) ai 0 ae ai ag) else (some (([] : List (S86)), aH)))) = some (r1, r2) := h; clear h; replace H := Option.bind_eq_some_iff.mp H; obtain ⟨aH, A20, H⟩ := H
 try dsimp only at H
 have A2 := Ae.mk A20; clear A20
 by_cases c3 : aH = 0
 ·rw [if_pos c3] at H
  have bg : (aH == 0) = true := beq_iff_eq.mpr c3; have bh : (aH != 0) = false := bne_eq_false_iff_eq.mpr c3; clear c3; have H' := Ae.mk H; clear H; go_enter Try.func39, Try.ntmps39
  go_wp2_with (first | ((with_reducible refine Bq (N := 1) rfl ?_); refine Bo ?hg (N := 1) ?hd (cs := #[.int .i64 ae, .int .i64 ai, .slice an ag.length ao]) (t := 27) ?hr ?_; (case hd => rfl); (case hg => rfl); (case hr => first | (go_simp; done) | (go_simp; rfl)); intro al hg w4 hbox hb; have ac := Ae.mk (hbox); have dC := Ae.mk ((by rw [hg]; exact (Aq (lU HB.out)) : w.heap.size ≤ al)); have ar := Ae.mk ((by rw [hg]; exact (Aq (lU HB.out)) : w.heap.size ≤ al)); replace HB := Ae.mk (At (lU HB.out) hb); clear hb hbox hg; have bw : w4.cell? ⟨al, 0, none⟩ = some (.int .i64 ae) := (Af ac.out 0).trans rfl; have bz : w4.cell? ⟨al, 1, none⟩ = some (.int .i64 ai) := (Af ac.out 1).trans rfl; have bB : w4.cell? ⟨al, 2, none⟩ = some (.slice an ag.length ao) := (Af ac.out 2).trans rfl; have bC := Ag ac.out 0; have bD := Ag ac.out 1; have bE := Ag ac.out 2) | ((with_reducible refine Bp (f := 16) rfl ?_); refine gL (some 11) Try.func16 #[.agg #[.int .i64 ae, .int .i64 ai, .slice an ag.length ao]] ?_; (with_reducible refine (Cp.calls ae ai _ _ ag aH _ ?side1 ?side2 A2.out).mono ?_); (case side1 => repeat (first | exact (Kd.Bw aJ.out HB.out) | (with_reducible refine Kd.Bv ?_ _) | (with_reducible refine Kd.Cb ?_ _) | (with_reducible refine Kd.Cg ?_))); (case side2 => exact aK.out); rintro e w6 ⟨rfl, hb⟩; refine ⟨_, rfl, ?_⟩; replace ac := Ae.mk (Ao (g := al) (o := .cells #[.int .i64 ae, .int .i64 ai, .slice an ag.length ao] 27 (0, 0)) (by exact bU <| ac.out) hb); replace HB := Ae.mk (At (by repeat (first | (with_reducible first | exact HB.out | apply Ah | apply Aj | apply Ak | refine Ai ?_ ar.out) | exact HB.out)) hb); (try clear hb); (try clear hb2); (try clear hk); (try clear hi); have bF : w6.cell? ⟨al, 0, none⟩ = some (.int .i64 ae) := (Af ac.out 0).trans rfl; have bG : w6.cell? ⟨al, 1, none⟩ = some (.int .i64 ai) := (Af ac.out 1).trans rfl; have bH : w6.cell? ⟨al, 2, none⟩ = some (.slice an ag.length ao) := (Af ac.out 2).trans rfl; have bI := Ag ac.out 0; have bJ := Ag ac.out 1; have bK := Ag ac.out 2))
  go_loopg [5, 6, 17] k (fun kq v5 v6 v17 w' => ∃ (aa : List (S86)) (au : List (S86)) (ax : Int), v17 = .int .i64 ax ∧ Ae (Bu.l0 kq aa au ai ax ae ai ag = some (r1, r2)) ∧ Ae (kq ≤ k) ∧ Ae (Kd.R k86 86 w' w.heap.size (fun k_ => some k_ ≠ (v6 : Value).ownBlock) v5 aa) ∧ Ae (Kd.R k86 86 w' w.heap.size (fun k_ => some k_ ≠ (v5 : Value).ownBlock) v6 au) ∧ Ae (w'.heap[al]? = some (.cells #[.int .i64 ae, .int .i64 ai, (.slice an ag.length ao)] 27 (0, 0))) ∧ Ae (Below w.heap.size w w'))
  case atStart => exact ⟨(([] : List (S86))), (([] : List (S86))), (0), (by first | rfl | (simp; done) | (simp [*]; done)), H', ⟨Nat.le_refl _⟩, ⟨by first | exact Kd.C5 _ _ _ _ _ | exact Kd.N_nil _ _ _ _ _ | exact Kd.V_nil _ _ _ _ _ | exact Kd.Q_nil _ _ _ _ _ | exact Kd.S_nil _ _ _ _ _⟩, ⟨by first | exact Kd.C5 _ _ _ _ _ | exact Kd.N_nil _ _ _ _ _ | exact Kd.V_nil _ _ _ _ _ | exact Kd.Q_nil _ _ _ _ _ | exact Kd.S_nil _ _ _ _ _⟩, ⟨by exact bU <| ac.out⟩, ⟨by repeat (first | (with_reducible first | exact HB.out | apply Ah | apply Aj | apply Ak | refine Ai ?_ ar.out) | exact HB.out)⟩⟩
  case round =>
   clear H'; (try clear c1); (try clear p2); (try clear c3); (try clear bg); (try clear bh); (try clear bw); (try clear bz); (try clear bB); (try clear bF); (try clear bG); (try clear bH); (try clear bC); (try clear bD); (try clear bE); (try clear bI); (try clear bJ); (try clear bK); obtain ⟨aa, au, ax, rfl, HA, HK1, ak, am, ac, HB⟩ := hrel; cases gk with
   | zero => exact absurd HA.out (by simp [Bu.l0])
   | succ k1 =>
    have H := HA.out; clear HA
    simp only [Bu.l0] at H
    by_cases c8 : ax < ai
    ·rw [if_pos c8] at H
     have dD : decide (ax < ai) = true := decide_eq_true c8; clear c8; replace H := Option.bind_eq_some_iff.mp H; obtain ⟨aI, A90, H⟩ := H
     try dsimp only at H
     have A9 := Ae.mk A90; clear A90; replace H := Option.bind_eq_some_iff.mp H; obtain ⟨cV, A100, H⟩ := H
     try dsimp only at H
     have A10 := Ae.mk A100; clear A100
     by_cases c11 : cV = true
     ·subst c11
      have H1 := H; rw [if_pos rfl] at H1; clear H; have H := H1; clear H1; have H' := Ae.mk H; clear H; have bT : wr.cell? ⟨al, 0, none⟩ = some (.int .i64 ae) := (Af ac.out 0).trans rfl; have bV : wr.cell? ⟨al, 1, none⟩ = some (.int .i64 ai) := (Af ac.out 1).trans rfl; have bW : wr.cell? ⟨al, 2, none⟩ = some (.slice an ag.length ao) := (Af ac.out 2).trans rfl; have bX := Ag ac.out 0; have bY := Ag ac.out 1; have bZ := Ag ac.out 2
      go_wp2_with (first | ((with_reducible refine Bp (f := 72) rfl ?_); refine gL (some 22) Try.func72 #[.agg #[.int .i64 ae, .int .i64 ai, .slice an ag.length ao], .int .i64 ax] ?_; (with_reducible refine (B4.calls k1 ae ai _ _ ag ax aI _ ?side1 ?side2 A9.out).mono ?_); (case side1 => repeat (first | exact (Kd.Bw aJ.out HB.out) | (with_reducible refine Kd.Bv ?_ _) | (with_reducible refine Kd.Cb ?_ _) | (with_reducible refine Kd.Cg ?_))); (case side2 => exact aK.out); rintro e w13 ⟨v179, rfl, ho0, hb⟩; refine ⟨_, rfl, ?_⟩; have av := Ae.mk (Kd.B9 (Kd.Cq (Kd.Cq ho0 (Kd.Db (by exact rU <| ak.out))) (Kd.Db (by exact rU <| am.out))) (Aq (by repeat (first | (with_reducible first | exact HB.out | apply Ah | apply Aj | apply Ak | refine Ai ?_ ar.out) | exact HB.out)))); replace ak := Ae.mk (Kd.Cc (by exact rU <| ak.out) (Kd.Co ho0) hb); replace am := Ae.mk (Kd.Cc (by exact rU <| am.out) (Kd.Co ho0) hb); replace ac := Ae.mk (Ao (g := al) (o := .cells #[.int .i64 ae, .int .i64 ai, .slice an ag.length ao] 27 (0, 0)) (by exact bU <| ac.out) hb); replace HB := Ae.mk (At (by repeat (first | (with_reducible first | exact HB.out | apply Ah | apply Aj | apply Ak | refine Ai ?_ ar.out) | exact HB.out)) hb); (try clear hb); (try clear hb2); (try clear hk); (try clear hi); (try clear ho0); obtain ⟨cW, aU, ep⟩ := Kd.B6 am.out; subst ep; obtain ⟨er, et, eu⟩ := Kd.B6 av.out; subst eu) | ((with_reducible refine Bp (f := 73) rfl ?_); refine gL (some 25) Try.func73 #[.slice cW au.length aU, .slice er aI.length et] ?_; (with_reducible refine (Cj.calls k1 _ _ au _ _ aI true _ ?side1 ?side2 ?side3 ?side4 A10.out).mono ?_); (case side1 => repeat (first | exact (Kd.Bf am.out).2.2 | (with_reducible refine Kd.Bv ?_ _) | (with_reducible refine Kd.Cb ?_ _) | (with_reducible refine Kd.Cg ?_))); (case side2 => exact (Kd.Bf am.out).2.1); (case side3 => repeat (first | exact (Kd.Bf av.out).2.2 | (with_reducible refine Kd.Bv ?_ _) | (with_reducible refine Kd.Cb ?_ _) | (with_reducible refine Kd.Cg ?_))); (case side4 => exact (Kd.Bf av.out).2.1); rintro e w16 ⟨rfl, hb⟩; refine ⟨_, rfl, ?_⟩; replace ak := Ae.mk (Kd.Ax (by exact rU <| ak.out) hb); replace am := Ae.mk (Kd.Ax (by exact rU <| am.out) hb); replace av := Ae.mk (Kd.Ax (by exact rU <| av.out) hb); replace ac := Ae.mk (Ao (g := al) (o := .cells #[.int .i64 ae, .int .i64 ai, .slice an ag.length ao] 27 (0, 0)) (by exact bU <| ac.out) hb); replace HB := Ae.mk (At (by repeat (first | (with_reducible first | exact HB.out | apply Ah | apply Aj | apply Ak | refine Ai ?_ ar.out) | exact HB.out)) hb); (try clear hb); (try clear hb2); (try clear hk); (try clear hi)))
      go_loopg [33] k1 (fun kq v33 w' => ∃ (ap : List (S86)) (af : Int), v33 = .int .i64 af ∧ Ae (Bu.l1 kq aa ap ai ax (au.length : Int) af ae ai ag = some (r1, r2)) ∧ Ae (kq ≤ k1) ∧ Ae (Kd.R k86 86 w' w.heap.size (fun k_ => some k_ ≠ ((.slice cW au.length aU) : Value).ownBlock) u5 aa) ∧ Ae (Kd.R k86 86 w' w.heap.size (fun k_ => some k_ ≠ (u5 : Value).ownBlock) (.slice cW au.length aU) ap) ∧ Ae (w'.heap[al]? = some (.cells #[.int .i64 ae, .int .i64 ai, (.slice an ag.length ao)] 27 (0, 0))) ∧ Ae (Below w.heap.size w w'))
      case atStart => exact ⟨(au), (0), (by first | rfl | (simp; done) | (simp [*]; done)), H', ⟨Nat.le_refl _⟩, ⟨by exact rU <| Kd.Bt ak.out (fun _ hk => hk.1)⟩, ⟨by exact rU <| Kd.Bt am.out (fun _ hk => hk.1)⟩, ⟨by exact bU <| ac.out⟩, ⟨by repeat (first | (with_reducible first | exact HB.out | apply Ah | apply Aj | apply Ak | refine Ai ?_ ar.out) | exact HB.out)⟩⟩
      case round =>
       clear H'; (try clear c1); (try clear p2); (try clear c3); (try clear bg); (try clear bh); (try clear p6); (try clear c7); (try clear c8); (try clear dD); (try clear c11); (try clear c16); (try clear bT); (try clear bV); (try clear bW); (try clear bw); (try clear bz); (try clear bB); (try clear bF); (try clear bG); (try clear bH); (try clear bX); (try clear bY); (try clear bZ); (try clear bC); (try clear bD); (try clear bE); (try clear bI); (try clear bJ); (try clear bK); (try clear p2); obtain ⟨ap, af, rfl, HA, HK2, ak, am, ac, HB⟩ := hrel; have aw := (Kd.Bf am.out).1; rw [aw] at am; (try simp only [aw]); (try simp only [aw] at ac); (try simp only [aw] at ak); cases gk with
       | zero => exact absurd HA.out (by simp [Bu.l1])
       | succ k2 =>
        have H := HA.out; clear HA
        simp only [Bu.l1] at H
        by_cases c17 : af < (au.length : Int)
        ·rw [if_pos c17] at H
         have ba : decide (af < (au.length : Int)) = true := decide_eq_true c17; rw [aw] at ba; clear c17
         by_cases c18 : 0 ≤ af
         ·rw [if_pos c18] at H
          have dp : decide (0 ≤ af) = true := decide_eq_true c18; clear c18
          by_cases c19 : af < (ap.length : Int)
          ·rw [if_pos c19] at H
           have cz : decide (af < (ap.length : Int)) = true := decide_eq_true c19; clear c19; obtain ⟨dE, bL⟩ : ∃ y_ : List (S86), y_ = (ap.set (af : Int).toNat (⟨(rd_T86 ap af).f0, (rd_T86 ap af).f1, (rd_T86 ap af).f2, wrap64 (((rd_T86 ap af).f3) + 1)⟩ : S86)) := ⟨_, rfl⟩; (try rw [Option.bind_some] at H); try rw [← bL] at H; have dF := Ae.mk bL; clear bL; have H' := Ae.mk H; clear H; have cX : 0 ≤ (af : Int) := of_decide_eq_true (by with_reducible assumption); have cY : af < (ap.length : Int) := of_decide_eq_true (by with_reducible assumption); obtain ⟨eI, e185, b4, b5, b6, b7⟩ := at_T86 (Kd.Bf am.out).2.2 af cX cY; cases e185; replace cX := eq_true cX; replace cY := eq_true cY; have p20 : 0 ≤ (af : Int) := of_decide_eq_true (by with_reducible assumption); have q20 : (af : Int) < ((ap.length : Int) : Int) := of_decide_eq_true (by with_reducible assumption); obtain ⟨go20, d9, br, bs, gl20, cl20, HG20⟩ := Kd.Dx am.out (by omega); (first | cases br | (injection br with ea_ en_ ec_; (first | subst ea_ | (injection ea_ with ea_; subst ea_)); subst ec_; clear en_)); have GB20 := Ae.mk bs; have GG20 := Ae.mk HG20; clear bs gl20 HG20; (first | simp only [add_plain] at b4 | skip); (first | simp only [add_plain] at b5 | skip); (first | simp only [add_plain] at b6 | skip); (first | simp only [add_plain] at b7 | skip); obtain ⟨ce20, hcl20, hM20, hcc20, hfr20⟩ := Kd.R_elem am.out z86 (af : Int) p20 q20; obtain rfl := k86_openM hM20; have cJ : wr.cell? ⟨go20, (af : Int).toNat * 4, none⟩ = some (.int .i64 ((rd_T86 ap af).f0)) := hcc20 0 _ rfl; have cK : wr.cell? ⟨go20, (af : Int).toNat * 4 + 1, none⟩ = some (.int .i64 ((rd_T86 ap af).f1)) := hcc20 1 _ rfl; have cL : wr.cell? ⟨go20, (af : Int).toNat * 4 + 2, none⟩ = some (.int .i64 ((rd_T86 ap af).f2)) := hcc20 2 _ rfl; have cM : wr.cell? ⟨go20, (af : Int).toNat * 4 + 3, none⟩ = some (.int .i64 ((rd_T86 ap af).f3)) := hcc20 3 _ rfl; have cN : wr.frozen? ⟨go20, (af : Int).toNat * 4, none⟩ = false := hfr20 0; have cO : wr.frozen? ⟨go20, (af : Int).toNat * 4 + 1, none⟩ = false := hfr20 1; have cP : wr.frozen? ⟨go20, (af : Int).toNat * 4 + 2, none⟩ = false := hfr20 2; have cQ : wr.frozen? ⟨go20, (af : Int).toNat * 4 + 3, none⟩ = false := hfr20 3; clear hcl20 hcc20 hfr20 hM20; replace p20 := eq_true p20; replace q20 := eq_true q20; have HX21 := Ae.mk (show Kd.R k86 86 wr w.heap.size (fun k_ => some k_ ≠ (u5 : Value).ownBlock) (.slice (some ⟨go20, 0, none⟩) ap.length aU) ap from (by exact rU <| am.out)); obtain ⟨ce21, hcl21, hM21, hcc21, hfr21⟩ := Kd.R_elem HX21.out z86 (af : Int) (of_decide_eq_true (by with_reducible assumption)) (by have h_ : (af : Int) < ((ap.length : Int) : Int) := of_decide_eq_true (by with_reducible assumption); first | exact h_ | (have e_ := (Kd.Bf am.out).1; omega) | simpa using h_); obtain rfl := k86_openM hM21; have cZ := Kd.R_seg HX21.out (af : Int) (of_decide_eq_true (by with_reducible assumption)) (by have h_ : (af : Int) < ((ap.length : Int) : Int) := of_decide_eq_true (by with_reducible assumption); first | exact h_ | (have e_ := (Kd.Bf am.out).1; omega) | simpa using h_) (seg := [.int .i64 (wrap64 (((rd_T86 ap af).f3) + 1))]) (j := 3) hcl21 hcc21 (show 4 ≤ 4 from by decide) (x' := (⟨(rd_T86 ap af).f0, (rd_T86 ap af).f1, (rd_T86 ap af).f2, wrap64 (((rd_T86 ap af).f3) + 1)⟩ : S86)) (k86_mkM _ _ _ (⟨(rd_T86 ap af).f0, (rd_T86 ap af).f1, (rd_T86 ap af).f2, wrap64 (((rd_T86 ap af).f3) + 1)⟩ : S86) ) (fun _ hk => hk); have da := hcc21 3 _ rfl; (try simp only [show (k86).sz = 4 from rfl, Nat.mul_one, Nat.add_zero] at da); have db := hfr21 3; (try simp only [show (k86).sz = 4 from rfl, Nat.mul_one, Nat.add_zero] at db); clear hcl21 hcc21 hfr21 hM21
           go_wp2_with (((with_reducible refine Dh (t := 3) (p := 43) rfl ?_); refine store_event (t := 3) (p := 43) (v := ?vo_w22) (w1 := (wr.setCell ⟨go20, (af : Int).toNat * 4 + 3, none⟩ (.int .i64 (wrap64 (((rd_T86 ap af).f3) + 1))))) ?hg ?ho ?hn ?hr ?_; (case ho => rfl); (case hg => rfl); (case hn => rfl); (case hr => first | (go_simp; done) | (go_simp; rfl)); intro w22 hw; have hg : wr.grownBy w22 (some go20) := (by rw [hw]; exact cZ.2); have hp_ : Kd.R k86 86 w22 w.heap.size (fun k_ => some k_ ≠ (u5 : Value).ownBlock) (.slice (some ⟨go20, 0, none⟩) ap.length aU) dE := (by rw [hw, dF.out]; exact cZ.1); clear cZ; replace ak := Ae.mk (Kd.D1 (v := (.slice (some ⟨go20, 0, none⟩) ap.length aU)) (v1 := (.slice (some ⟨go20, 0, none⟩) ap.length aU)) (ok := (fun _ => True)) (by exact rU <| Kd.Bt ak.out (fun _ hk => ⟨trivial, hk⟩)) hg (.inl rfl)); replace ac := Ae.mk (Bz (g := al) (o := .cells #[.int .i64 ae, .int .i64 ai, .slice an ag.length ao] 27 (0, 0)) (by exact bU <| ac.out) hg (Kd.Do am.out ac.out (by decide))); replace am := Ae.mk (hp_); replace HB := Ae.mk ((by rw [hw]; exact Ai (HB.out) GB20.out : Below w.heap.size w w22)); clear hg hw hp_))
           (try simp only [← aw])
           go_roundg k2
           case measure => have := HK1.out; have := HK2.out; omega
           case rel => exact ⟨(dE), (wrap64 (af + 1)), (by first | rfl | (simp; done) | (simp [*]; done)), H', ⟨by have := HK1.out; have := HK2.out; omega⟩, ⟨by (try simp only [aw]); exact rU <| Kd.Bt ak.out (fun _ hk => hk.2)⟩, ⟨by (try simp only [aw]); exact rU <| am.out⟩, ⟨by (try simp only [aw]); exact bU <| ac.out⟩, ⟨by repeat (first | (with_reducible first | exact HB.out | apply Ah | apply Aj | apply Ak | refine Ai ?_ ar.out) | exact HB.out)⟩⟩
          ·rw [if_neg c19] at H
           exact absurd H (by simp)
         ·rw [if_neg c18] at H
          exact absurd H (by simp)
        ·rw [if_neg c17] at H
         have ba : decide (af < (au.length : Int)) = false := decide_eq_false c17; rw [aw] at ba; clear c17; have H' := Ae.mk H; clear H
         go_wp2
         (try simp only [← aw])
         go_roundg k2
         case measure => have := HK1.out; have := HK2.out; omega
         case rel => exact ⟨(aa), (ap), (wrap64 (ax + 1)), (by first | rfl | (simp; done) | (simp [*]; done)), H', ⟨by have := HK1.out; have := HK2.out; omega⟩, ⟨by (try simp only [aw]); exact rU <| ak.out⟩, ⟨by (try simp only [aw]); exact rU <| am.out⟩, ⟨by (try simp only [aw]); exact bU <| ac.out⟩, ⟨by repeat (first | (with_reducible first | exact HB.out | apply Ah | apply Aj | apply Ak | refine Ai ?_ ar.out) | exact HB.out)⟩⟩
     ·replace c11 := Bool.eq_false_iff.mpr c11
      subst c11; have H1 := H; rw [if_neg (show ¬ (false = true) by decide)] at H1; clear H; have H := H1; clear H1
      by_cases c23 : aa.length + au.length < 4398046511104
      ·rw [if_pos c23] at H
       have LMc23 := Ae.mk c23; clear c23; obtain ⟨ew, bM⟩ : ∃ y_ : List (S86), y_ = (aa ++ au) := ⟨_, rfl⟩; (try rw [Option.bind_some] at H); try rw [← bM] at H; have dG := Ae.mk bM; clear bM; have H' := Ae.mk H; clear H; have dN : wr.cell? ⟨al, 0, none⟩ = some (.int .i64 ae) := (Af ac.out 0).trans rfl; have dO : wr.cell? ⟨al, 1, none⟩ = some (.int .i64 ai) := (Af ac.out 1).trans rfl; have dP : wr.cell? ⟨al, 2, none⟩ = some (.slice an ag.length ao) := (Af ac.out 2).trans rfl; have dQ := Ag ac.out 0; have dR := Ag ac.out 1; have dS := Ag ac.out 2
       go_wp2_with (first | ((with_reducible refine Bp (f := 72) rfl ?_); refine gL (some 22) Try.func72 #[.agg #[.int .i64 ae, .int .i64 ai, .slice an ag.length ao], .int .i64 ax] ?_; (with_reducible refine (B4.calls k1 ae ai _ _ ag ax aI _ ?side1 ?side2 A9.out).mono ?_); (case side1 => repeat (first | exact (Kd.Bw aJ.out HB.out) | (with_reducible refine Kd.Bv ?_ _) | (with_reducible refine Kd.Cb ?_ _) | (with_reducible refine Kd.Cg ?_))); (case side2 => exact aK.out); rintro e w25 ⟨v179, rfl, ho0, hb⟩; refine ⟨_, rfl, ?_⟩; have av := Ae.mk (Kd.B9 (Kd.Cq (Kd.Cq ho0 (Kd.Db (by exact rU <| ak.out))) (Kd.Db (by exact rU <| am.out))) (Aq (by repeat (first | (with_reducible first | exact HB.out | apply Ah | apply Aj | apply Ak | refine Ai ?_ ar.out) | exact HB.out)))); replace ak := Ae.mk (Kd.Cc (by exact rU <| ak.out) (Kd.Co ho0) hb); replace am := Ae.mk (Kd.Cc (by exact rU <| am.out) (Kd.Co ho0) hb); replace ac := Ae.mk (Ao (g := al) (o := .cells #[.int .i64 ae, .int .i64 ai, .slice an ag.length ao] 27 (0, 0)) (by exact bU <| ac.out) hb); replace HB := Ae.mk (At (by repeat (first | (with_reducible first | exact HB.out | apply Ah | apply Aj | apply Ak | refine Ai ?_ ar.out) | exact HB.out)) hb); (try clear hb); (try clear hb2); (try clear hk); (try clear hi); (try clear ho0); obtain ⟨dc, dd, ex⟩ := Kd.B6 am.out; subst ex; obtain ⟨df, dg, ey⟩ := Kd.B6 av.out; subst ey) | ((with_reducible refine Bp (f := 73) rfl ?_); refine gL (some 25) Try.func73 #[.slice dc au.length dd, .slice df aI.length dg] ?_; (with_reducible refine (Cj.calls k1 _ _ au _ _ aI false _ ?side1 ?side2 ?side3 ?side4 A10.out).mono ?_); (case side1 => repeat (first | exact (Kd.Bf am.out).2.2 | (with_reducible refine Kd.Bv ?_ _) | (with_reducible refine Kd.Cb ?_ _) | (with_reducible refine Kd.Cg ?_))); (case side2 => exact (Kd.Bf am.out).2.1); (case side3 => repeat (first | exact (Kd.Bf av.out).2.2 | (with_reducible refine Kd.Bv ?_ _) | (with_reducible refine Kd.Cb ?_ _) | (with_reducible refine Kd.Cg ?_))); (case side4 => exact (Kd.Bf av.out).2.1); rintro e w28 ⟨rfl, hb⟩; refine ⟨_, rfl, ?_⟩; replace ak := Ae.mk (Kd.Ax (by exact rU <| ak.out) hb); replace am := Ae.mk (Kd.Ax (by exact rU <| am.out) hb); replace av := Ae.mk (Kd.Ax (by exact rU <| av.out) hb); replace ac := Ae.mk (Ao (g := al) (o := .cells #[.int .i64 ae, .int .i64 ai, .slice an ag.length ao] 27 (0, 0)) (by exact bU <| ac.out) hb); replace HB := Ae.mk (At (by repeat (first | (with_reducible first | exact HB.out | apply Ah | apply Aj | apply Ak | refine Ai ?_ ar.out) | exact HB.out)) hb); (try clear hb); (try clear hb2); (try clear hk); (try clear hi)) | ((with_reducible refine D0 (b := .append) (xs := #[.tmp 27, .tmp 28]) rfl ?_); at_builtin; refine Kd.R_append_rows k86 (w0 := w) w.heap.size rfl (.tmp 27) (.tmp 28) 79 86 (.agg #[(.int .i64 0), (.int .i64 0), (.int .i64 0), (.int .i64 0)]) 32 rfl Try.underlying79 info86 rfl (by decide) (by omega) u5 aa au _ _ _ (fun k_ => some k_ ≠ (.slice dc au.length dd : Value).ownBlock ∧ some k_ ≠ (.slice df aI.length dg : Value).ownBlock) (fun _ => False) rfl rfl ?aO ?aR (fun _ _ h => h) (fun _ h => h.elim) ?aF ?aB ?aS ?aL ?_; (case aR => repeat (first | exact (Kd.Bf am.out).2.2 | (with_reducible refine Kd.Bv ?_ _) | (with_reducible refine Kd.Cb ?_ _) | (with_reducible refine Kd.Cg ?_))); (case aB => exact (by repeat (first | (with_reducible first | exact HB.out | apply Ah | apply Aj | apply Ak | refine Ai ?_ ar.out) | exact HB.out))); (case aF => exact (fun k_ hk => ⟨Kd.fresh' (Kd.Db (by exact rU <| am.out)) k_ hk, Kd.fresh' (Kd.Db (by exact rU <| av.out)) k_ hk⟩)); (case aO => exact (by exact rU <| ak.out)); (case aS => exact (Aq (by repeat (first | (with_reducible first | exact HB.out | apply Ah | apply Aj | apply Ak | refine Ai ?_ ar.out) | exact HB.out)))); (case aL => have := LMc23.out; omega); intro v183 w29 ho hb hg hat; rw [← dG.out] at ho; replace am := Ae.mk (Kd.D1 (ok := (fun k_ => some k_ ≠ (.slice df aI.length dg : Value).ownBlock)) (by exact rU <| Kd.Bt am.out (fun _ hk => ⟨hk.2, hk.1⟩)) hg hat); replace ac := Ae.mk (Bz (g := al) (o := .cells #[.int .i64 ae, .int .i64 ai, .slice an ag.length ao] 27 (0, 0)) (by exact bU <| ac.out) hg (Kd.Do ak.out ac.out (by decide))); replace av := Ae.mk (Kd.D1 (ok := (fun k_ => some k_ ≠ (.slice dc au.length dd : Value).ownBlock)) (by exact rU <| Kd.Bt av.out (fun _ hk => ⟨hk.2, hk.1.2⟩)) hg hat); replace HB := Ae.mk (hb); have dH := Ae.mk (ho); clear ak; clear ho hb hg hat))
       go_roundg k1
       case measure => have := HK1.out; omega
       case rel => exact ⟨(ew), (aI), (wrap64 (ax + 1)), (by first | rfl | (simp; done) | (simp [*]; done)), H', ⟨by have := HK1.out; omega⟩, ⟨by exact rU <| Kd.Bt dH.out (fun _ hk => hk.2)⟩, ⟨by exact rU <| Kd.Bt av.out (fun _ hk => hk.2)⟩, ⟨by exact bU <| ac.out⟩, ⟨by repeat (first | (with_reducible first | exact HB.out | apply Ah | apply Aj | apply Ak | refine Ai ?_ ar.out) | exact HB.out)⟩⟩
      ·rw [if_neg c23] at H
       exact absurd H (by simp)
    ·rw [if_neg c8] at H
     have dD : decide (ax < ai) = false := decide_eq_false c8; clear c8
     by_cases c30 : aa.length + au.length < 4398046511104
     ·rw [if_pos c30] at H
      have LMc30 := Ae.mk c30; clear c30; obtain ⟨eN, bN⟩ : ∃ y_ : List (S86), y_ = (aa ++ au) := ⟨_, rfl⟩; (try rw [Option.bind_some] at H); try rw [← bN] at H; have dI := Ae.mk bN; clear bN
      simp only [Option.some.injEq, Prod.mk.injEq] at H
      obtain ⟨rfl, rfl⟩ := H; obtain ⟨ez, eC, eD⟩ := Kd.B6 am.out; subst eD
      go_wp2_with (((with_reducible refine D0 (b := .append) (xs := #[.tmp 46, .tmp 47]) rfl ?_); at_builtin; refine Kd.R_append_rows k86 (w0 := w) w.heap.size rfl (.tmp 46) (.tmp 47) 79 86 (.agg #[(.int .i64 0), (.int .i64 0), (.int .i64 0), (.int .i64 0)]) 32 rfl Try.underlying79 info86 rfl (by decide) (by omega) u5 aa au _ _ _ (fun k_ => some k_ ≠ (.slice ez au.length eC : Value).ownBlock) (fun _ => False) rfl rfl ?aO ?aR (fun _ _ h => h) (fun _ h => h.elim) ?aF ?aB ?aS ?aL ?_; (case aR => repeat (first | exact (Kd.Bf am.out).2.2 | (with_reducible refine Kd.Bv ?_ _) | (with_reducible refine Kd.Cb ?_ _) | (with_reducible refine Kd.Cg ?_))); (case aB => exact (by repeat (first | (with_reducible first | exact HB.out | apply Ah | apply Aj | apply Ak | refine Ai ?_ ar.out) | exact HB.out))); (case aF => exact (fun k_ hk => Kd.fresh' (Kd.Db (by exact rU <| am.out)) k_ hk)); (case aO => exact (by exact rU <| ak.out)); (case aS => exact (Aq (by repeat (first | (with_reducible first | exact HB.out | apply Ah | apply Aj | apply Ak | refine Ai ?_ ar.out) | exact HB.out)))); (case aL => have := LMc30.out; omega); intro v176 w31 ho hb hg hat; rw [← dI.out] at ho; replace am := Ae.mk (Kd.D1 (ok := (fun _ => True)) (by exact rU <| Kd.Bt am.out (fun _ hk => ⟨trivial, hk⟩)) hg hat); replace ac := Ae.mk (Bz (g := al) (o := .cells #[.int .i64 ae, .int .i64 ai, .slice an ag.length ao] 27 (0, 0)) (by exact bU <| ac.out) hg (Kd.Do ak.out ac.out (by decide))); replace HB := Ae.mk (hb); have dJ := Ae.mk (ho); clear ak; clear ho hb hg hat))
      go_ret2
      exact ⟨_, by first | rfl | (simp [Bc, Bb] <;> rfl) | (simp [*, Bc, Bb] <;> rfl), by exact rU <| Kd.Bt dJ.out (fun _ hk => trivial), by repeat (first | (with_reducible first | exact HB.out | apply Ah | apply Aj | apply Ak | refine Ai ?_ ar.out) | exact HB.out)⟩
     ·rw [if_neg c30] at H
      exact absurd H (by simp)
 ·rw [if_neg c3] at H
  have bg : (aH == 0) = false := beq_eq_false_iff_ne.mpr c3; have bh : (aH != 0) = true := bne_iff_ne.mpr c3
  simp only [Option.some.injEq, Prod.mk.injEq] at H
  obtain ⟨rfl, rfl⟩ := H; go_enter Try.func39, Try.ntmps39
  go_wp2_with (first | ((with_reducible refine Bq (N := 1) rfl ?_); refine Bo ?hg (N := 1) ?hd (cs := #[.int .i64 ae, .int .i64 ai, .slice an ag.length ao]) (t := 27) ?hr ?_; (case hd => rfl); (case hg => rfl); (case hr => first | (go_simp; done) | (go_simp; rfl)); intro al hg w33 hbox hb; have ac := Ae.mk (hbox); have dC := Ae.mk ((by rw [hg]; exact (Aq (lU HB.out)) : w.heap.size ≤ al)); have ar := Ae.mk ((by rw [hg]; exact (Aq (lU HB.out)) : w.heap.size ≤ al)); replace HB := Ae.mk (At (lU HB.out) hb); clear hb hbox hg; have dT : w33.cell? ⟨al, 0, none⟩ = some (.int .i64 ae) := (Af ac.out 0).trans rfl; have dU : w33.cell? ⟨al, 1, none⟩ = some (.int .i64 ai) := (Af ac.out 1).trans rfl; have dV : w33.cell? ⟨al, 2, none⟩ = some (.slice an ag.length ao) := (Af ac.out 2).trans rfl; have dW := Ag ac.out 0; have dX := Ag ac.out 1; have dY := Ag ac.out 2) | ((with_reducible refine Bp (f := 16) rfl ?_); refine gL (some 11) Try.func16 #[.agg #[.int .i64 ae, .int .i64 ai, .slice an ag.length ao]] ?_; (with_reducible refine (Cp.calls ae ai _ _ ag aH _ ?side1 ?side2 A2.out).mono ?_); (case side1 => repeat (first | exact (Kd.Bw aJ.out HB.out) | (with_reducible refine Kd.Bv ?_ _) | (with_reducible refine Kd.Cb ?_ _) | (with_reducible refine Kd.Cg ?_))); (case side2 => exact aK.out); rintro e w35 ⟨rfl, hb⟩; refine ⟨_, rfl, ?_⟩; replace ac := Ae.mk (Ao (g := al) (o := .cells #[.int .i64 ae, .int .i64 ai, .slice an ag.length ao] 27 (0, 0)) (by exact bU <| ac.out) hb); replace HB := Ae.mk (At (by repeat (first | (with_reducible first | exact HB.out | apply Ah | apply Aj | apply Ak | refine Ai ?_ ar.out) | exact HB.out)) hb); (try clear hb); (try clear hb2); (try clear hk); (try clear hi)))
  go_ret2
  exact ⟨_, by first | rfl | (simp [Bc, Bb] <;> rfl) | (simp [*, Bc, Bb] <;> rfl), by first | exact Kd.C5 _ _ _ _ _ | exact Kd.N_nil _ _ _ _ _ | exact Kd.V_nil _ _ _ _ _ | exact Kd.Q_nil _ _ _ _ _ | exact Kd.S_nil _ _ _ _ _, by repeat (first | (with_reducible first | exact HB.out | apply Ah | apply Aj | apply Ak | refine Ai ?_ ar.out) | exact HB.out)⟩

def Br.l0 : Nat → List (S86) → List (S86) → Int → Option (Bool)
 | 0, _, _, _ => none
 | k + 1, x0, x1, x5 => if x5 < (x0.length : Int) then (if 0 ≤ x5 then (if x5 < (x1.length : Int) then (if (!(((rd_T86 x0 x5).f0) == ((rd_T86 x1 x5).f0)) || (!(((rd_T86 x0 x5).f1) == ((rd_T86 x1 x5).f1)) || (!(((rd_T86 x0 x5).f2) == ((rd_T86 x1 x5).f2)) || (!(((rd_T86 x0 x5).f3) == ((rd_T86 x1 x5).f3)))))) = true then (some false) else (Br.l0 k x0 x1 (wrap64 (x5 + 1)))) else (none)) else (none)) else (some true)
def Br.f (k : Nat) (l0 : List (S86)) (l1 : List (S86)) : Option (Bool) := if (l0.length : Int) = (l1.length : Int) then (Br.l0 k l0 l1 0) else (some false)
theorem Br.mono_l : ∀ k, (∀ y0 y1 y2, LeO (Br.l0 k y0 y1 y2) (Br.l0 (k + 1) y0 y1 y2))
 | 0 => fun _ _ _ r h => by simp [Br.l0] at h
 | k + 1 => by
  have ih0 := Br.mono_l k
  ·intro y0 y1 y2
   unfold Br.l0
   repeat' first
   | (with_reducible exact ih0 _ _ _)
   | (with_reducible exact LeO.refl _)
   | (with_reducible exact LeO.none _)
   | (with_reducible refine LeO.ite ?_ ?_)
   | (with_reducible refine LeO.bind ?_ (fun _ => ?_))
   | exact ih0 _ _ _
   | exact LeO.none _
   | refine LeO.ite ?_ ?_
   | refine LeO.bind ?_ (fun _ => ?_)
theorem Br.mono : ∀ a0 a1 k, LeO (Br.f k a0 a1) (Br.f (k + 1) a0 a1) := by
 intro a0 a1 k; have ih0 := Br.mono_l k; unfold Br.f
 repeat' first
   | (with_reducible exact ih0 _ _ _)
   | (with_reducible exact LeO.refl _)
   | (with_reducible exact LeO.none _)
   | (with_reducible refine LeO.ite ?_ ?_)
   | (with_reducible refine LeO.bind ?_ (fun _ => ?_))
   | exact ih0 _ _ _
   | exact LeO.none _
   | refine LeO.ite ?_ ?_
   | refine LeO.bind ?_ (fun _ => ?_)
set_option maxHeartbeats 8000000 in
set_option maxRecDepth 100000 in
theorem Br.calls (k : Nat) (A0 : Option Addr) (c0 : Nat) (l0 : List (S86)) (A1 : Option Addr) (c1 : Nat) (l1 : List (S86)) (r : Bool) (w : World) (hr0 : Kd.C k86 w A0 l0.length l0) (hc0 : l0.length ≤ c0) (hr1 : Kd.C k86 w A1 l1.length l1) (hc1 : l1.length ≤ c1) (h : Br.f k l0 l1 = some r) :
  Calls Try.prog 42 #[.slice A0 l0.length c0, .slice A1 l1.length c1] w fun e w' => e = .returned (.bool r) ∧ Drawn0 w w' := by
 have hu86 := Try.underlying86; have HR0 := Ae.mk hr0; have HC0 := Ae.mk hc0; clear hr0 hc0; have HR1 := Ae.mk hr1; have HC1 := Ae.mk hc1; clear hr1 hc1; have H : (if (l0.length : Int) = (l1.length : Int) then (Br.l0 k l0 l1 0) else (some false)) = some r := h; clear h
 by_cases c3 : (l0.length : Int) = (l1.length : Int)
 ·rw [if_pos c3] at H
  have bg : ((l0.length : Int) == (l1.length : Int)) = true := beq_iff_eq.mpr c3; have bh : ((l0.length : Int) != (l1.length : Int)) = false := bne_eq_false_iff_eq.mpr c3; have dK : (l0.length == l1.length) = true := by first | simpa using c3 | (simp at c3 ⊢; omega)
  clear c3; have H' := Ae.mk H; clear H; go_enter Try.func42, Try.ntmps42
  go_wp2
  repeat (go_quiet (fail); try go_wp2)
  go_loopg [5] k (fun kq v5 w' => ∃ (aa : Int), v5 = .int .i64 aa ∧ Ae (Br.l0 kq l0 l1 aa = some r) ∧ Ae (kq ≤ k) ∧ Drawn0 w w')
  case atStart => exact ⟨(0), (by first | rfl | (simp; done) | (simp [*]; done)), H', ⟨Nat.le_refl _⟩, by repeat (first | exact Drawn0.refl _ | apply Drawn0.step)⟩
  case round =>
   clear H'; (try clear c1); (try clear p2); (try clear c3); (try clear bg); (try clear bh); (try clear dK); obtain ⟨aa, rfl, HA, HK1, ⟨m1, rfl⟩⟩ := hrel; cases gk with
   | zero => exact absurd HA.out (by simp [Br.l0])
   | succ k1 =>
    have H := HA.out; clear HA
    simp only [Br.l0] at H
    by_cases c4 : aa < (l0.length : Int)
    ·rw [if_pos c4] at H
     have cA : decide (aa < (l0.length : Int)) = true := decide_eq_true c4; clear c4
     by_cases c5 : 0 ≤ aa
     ·rw [if_pos c5] at H
      have dh : decide (0 ≤ aa) = true := decide_eq_true c5; clear c5
      by_cases c6 : aa < (l1.length : Int)
      ·rw [if_pos c6] at H
       have di : decide (aa < (l1.length : Int)) = true := decide_eq_true c6; clear c6
       by_cases c7 : (!(((rd_T86 l0 aa).f0) == ((rd_T86 l1 aa).f0)) || (!(((rd_T86 l0 aa).f1) == ((rd_T86 l1 aa).f1)) || (!(((rd_T86 l0 aa).f2) == ((rd_T86 l1 aa).f2)) || (!(((rd_T86 l0 aa).f3) == ((rd_T86 l1 aa).f3)))))) = true
       ·rw [if_pos c7] at H
        have eE : (!(((rd_T86 l0 aa).f0) == ((rd_T86 l1 aa).f0)) || (!(((rd_T86 l0 aa).f1) == ((rd_T86 l1 aa).f1)) || (!(((rd_T86 l0 aa).f2) == ((rd_T86 l1 aa).f2)) || (!(((rd_T86 l0 aa).f3) == ((rd_T86 l1 aa).f3)))))) = true := c7; clear c7; obtain rfl := Option.some.inj H; have aV : 0 ≤ (aa : Int) := of_decide_eq_true (by with_reducible assumption); have aW : aa < (l0.length : Int) := of_decide_eq_true (by with_reducible assumption); obtain ⟨dL, e187, b8, b9, cg, cp⟩ := at_T86 HR0.out aa aV aW; cases e187; replace aV := eq_true aV; replace aW := eq_true aW; have aX : 0 ≤ (aa : Int) := of_decide_eq_true (by with_reducible assumption); have aY : aa < (l1.length : Int) := of_decide_eq_true (by with_reducible assumption); obtain ⟨dM, e188, cr, cu, cx, cy⟩ := at_T86 HR1.out aa aX aY; cases e188; replace aX := eq_true aX; replace aY := eq_true aY
        go_wp2
        repeat (go_quiet (fail); try go_wp2)
        go_ret
        exact ⟨by first | rfl | (simp; done) | (simp [*]; done), by repeat (first | exact Drawn0.refl _ | apply Drawn0.step)⟩
       ·rw [if_neg c7] at H
        have eE : (!(((rd_T86 l0 aa).f0) == ((rd_T86 l1 aa).f0)) || (!(((rd_T86 l0 aa).f1) == ((rd_T86 l1 aa).f1)) || (!(((rd_T86 l0 aa).f2) == ((rd_T86 l1 aa).f2)) || (!(((rd_T86 l0 aa).f3) == ((rd_T86 l1 aa).f3)))))) = false := by simpa using c7
        clear c7; have H' := Ae.mk H; clear H; have aV : 0 ≤ (aa : Int) := of_decide_eq_true (by with_reducible assumption); have aW : aa < (l0.length : Int) := of_decide_eq_true (by with_reducible assumption); obtain ⟨dL, e187, b8, b9, cg, cp⟩ := at_T86 HR0.out aa aV aW; cases e187; replace aV := eq_true aV; replace aW := eq_true aW; have aX : 0 ≤ (aa : Int) := of_decide_eq_true (by with_reducible assumption); have aY : aa < (l1.length : Int) := of_decide_eq_true (by with_reducible assumption); obtain ⟨dM, e188, cr, cu, cx, cy⟩ := at_T86 HR1.out aa aX aY; cases e188; replace aX := eq_true aX; replace aY := eq_true aY
        go_wp2
        repeat (go_quiet (fail); try go_wp2)
        go_roundg k1
        case measure => have := HK1.out; omega
        case rel => exact ⟨(wrap64 (aa + 1)), (by first | rfl | (simp; done) | (simp [*]; done)), H', ⟨by have := HK1.out; omega⟩, by repeat (first | exact Drawn0.refl _ | apply Drawn0.step)⟩
      ·rw [if_neg c6] at H
       exact absurd H (by simp)
     ·rw [if_neg c5] at H
      exact absurd H (by simp)
    ·rw [if_neg c4] at H
     have cA : decide (aa < (l0.length : Int)) = false := decide_eq_false c4; clear c4; obtain rfl := Option.some.inj H
     go_wp2
     repeat (go_quiet (fail); try go_wp2)
     go_ret
     exact ⟨by first | rfl | (simp; done) | (simp [*]; done), by repeat (first | exact Drawn0.refl _ | apply Drawn0.step)⟩
 ·rw [if_neg c3] at H
  have bg : ((l0.length : Int) == (l1.length : Int)) = false := beq_eq_false_iff_ne.mpr c3; have bh : ((l0.length : Int) != (l1.length : Int)) = true := bne_iff_ne.mpr c3; have dK : (l0.length == l1.length) = false := by first | simpa using c3 | (simp at c3 ⊢; omega)
  obtain rfl := Option.some.inj H; go_enter Try.func42, Try.ntmps42
  go_wp2
  repeat (go_quiet (fail); try go_wp2)
  go_ret
  exact ⟨by first | rfl | (simp; done) | (simp [*]; done), by repeat (first | exact Drawn0.refl _ | apply Drawn0.step)⟩

end Go.Proofs.Ytbfimplajocmmaa.PFA

