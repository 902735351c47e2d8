import Derived.Test.YtbfimplajocmmaaYUQ
import Derived.Test.YtbfimplajocmmaaYPRAx0
import Derived.Test.YtbfimplajocmmaaYPFAx2
namespace Go.Proofs.Ytbfimplajocmmaa.PFC
open Go.Proofs.Ytbfimplajocmmaa.PFA Go.Proofs.Ytbfimplajocmmaa.PFK
open Go.RowKit Go.Proofs.YtbfimplajocmmaaW.PrintWords Go.Proofs.YtbfimplajocmmaaW.PrintLast Go.Proofs.YtbfimplajocmmaaW.PrintMore
attribute [local go_sem] max2_int min2_int max_two min_two max_three min_three max_four min_four
set_option linter.unusedVariables false
set_option linter.unusedSimpArgs false

def Cd.l0 : Nat → List Int → List Int → Int → Option (Bool)
 | 0, _, _, _ => none
 | k + 1, x0, x1, x5 => if x5 < (x0.length : Int) then (if 0 ≤ x5 then (if x5 < (x1.length : Int) then (if (rd x0 x5) = (rd x1 x5) then (Cd.l0 k x0 x1 (wrap64 (x5 + 1))) else (some false)) else (none)) else (none)) else (some true)
def Cd.f (k : Nat) (l0 : List Int) (l1 : List Int) : Option (Bool) := if (l0.length : Int) = (l1.length : Int) then (Cd.l0 k l0 l1 0) else (some false)
set_option maxHeartbeats 8000000 in
set_option maxRecDepth 100000 in
theorem Cd.calls (k : Nat) (A0 : Option Addr) (c0 : Nat) (l0 : List Int) (A1 : Option Addr) (c1 : Nat) (l1 : List Int) (r : Bool) (w : World) (hr0 : Kd.C (Kd.int .u32) w A0 l0.length l0) (hc0 : l0.length ≤ c0) (hr1 : Kd.C (Kd.int .u32) w A1 l1.length l1) (hc1 : l1.length ≤ c1) (h : Cd.f k l0 l1 = some r) :
  Calls Try.prog 53 #[.slice A0 l0.length c0, .slice A1 l1.length c1] w fun e w' => e = .returned (.bool r) ∧ Drawn0 w w' := by
 have HR0 := Ac.mk hr0; have HC0 := Ac.mk hc0; clear hr0 hc0; have HR1 := Ac.mk hr1; have HC1 := Ac.mk hc1; clear hr1 hc1; have H : (if (l0.length : Int) = (l1.length : Int) then (Cd.l0 k l0 l1 0) else (some false)) = some r := h; clear h
 by_cases c3 : (l0.length : Int) = (l1.length : Int)
 ·rw [if_pos c3] at H
  have aM : ((l0.length : Int) == (l1.length : Int)) = true := beq_iff_eq.mpr c3; have aT : ((l0.length : Int) != (l1.length : Int)) = false := bne_eq_false_iff_eq.mpr c3; have bm : (l0.length == l1.length) = true := by first | simpa using c3 | (simp at c3 ⊢; omega)
  clear c3; have H' := Ac.mk H; clear H; go_enter Try.func53, Try.ntmps53
  go_wp2
  repeat (go_quiet (fail); try go_wp2)
  go_loopg [5] k (fun kq v5 w' => ∃ (aj : Int), v5 = .int .i64 aj ∧ Ac (Cd.l0 kq l0 l1 aj = some r) ∧ Ac (kq ≤ k) ∧ Drawn0 w w')
  case atStart => exact ⟨(0), (by first | rfl | (simp; done) | (simp [*]; done)), H', ⟨Nat.le_refl _⟩, by repeat (first | exact Drawn0.refl _ | apply Drawn0.step)⟩
  case round =>
   clear H'; (try clear c1); (try clear p2); (try clear c3); (try clear aM); (try clear aT); (try clear bm); obtain ⟨aj, rfl, HA, HK1, ⟨m1, rfl⟩⟩ := hrel; cases gk with
   | zero => exact absurd HA.out (by simp [Cd.l0])
   | succ k1 =>
    have H := HA.out; clear HA
    simp only [Cd.l0] at H
    by_cases c4 : aj < (l0.length : Int)
    ·rw [if_pos c4] at H
     have aG : decide (aj < (l0.length : Int)) = true := decide_eq_true c4; clear c4
     by_cases c5 : 0 ≤ aj
     ·rw [if_pos c5] at H
      have bo : decide (0 ≤ aj) = true := decide_eq_true c5; clear c5
      by_cases c6 : aj < (l1.length : Int)
      ·rw [if_pos c6] at H
       have bp : decide (aj < (l1.length : Int)) = true := decide_eq_true c6; clear c6
       by_cases c7 : (rd l0 aj) = (rd l1 aj)
       ·rw [if_pos c7] at H
        have bW : ((rd l0 aj) == (rd l1 aj)) = true := beq_iff_eq.mpr c7; have bX : ((rd l0 aj) != (rd l1 aj)) = false := bne_eq_false_iff_eq.mpr c7; clear c7; have H' := Ac.mk H; clear H; have aH : 0 ≤ (aj : Int) := of_decide_eq_true (by with_reducible assumption); have aI : aj < (l0.length : Int) := of_decide_eq_true (by with_reducible assumption); obtain ⟨bq, e106, aU⟩ := Kd.at_int HR0.out aj aH aI; cases e106; replace aH := eq_true aH; replace aI := eq_true aI; have aJ : 0 ≤ (aj : Int) := of_decide_eq_true (by with_reducible assumption); have aK : aj < (l1.length : Int) := of_decide_eq_true (by with_reducible assumption); obtain ⟨br, e107, aV⟩ := Kd.at_int HR1.out aj aJ aK; cases e107; replace aJ := eq_true aJ; replace aK := eq_true aK
        go_wp2
        repeat (go_quiet (fail); try go_wp2)
        go_roundg k1
        case measure => have := HK1.out; omega
        case rel => exact ⟨(wrap64 (aj + 1)), (by first | rfl | (simp; done) | (simp [*]; done)), H', ⟨by have := HK1.out; omega⟩, by repeat (first | exact Drawn0.refl _ | apply Drawn0.step)⟩
       ·rw [if_neg c7] at H
        have bW : ((rd l0 aj) == (rd l1 aj)) = false := beq_eq_false_iff_ne.mpr c7; have bX : ((rd l0 aj) != (rd l1 aj)) = true := bne_iff_ne.mpr c7; obtain rfl := Option.some.inj H; have aH : 0 ≤ (aj : Int) := of_decide_eq_true (by with_reducible assumption); have aI : aj < (l0.length : Int) := of_decide_eq_true (by with_reducible assumption); obtain ⟨bq, e106, aU⟩ := Kd.at_int HR0.out aj aH aI; cases e106; replace aH := eq_true aH; replace aI := eq_true aI; have aJ : 0 ≤ (aj : Int) := of_decide_eq_true (by with_reducible assumption); have aK : aj < (l1.length : Int) := of_decide_eq_true (by with_reducible assumption); obtain ⟨br, e107, aV⟩ := Kd.at_int HR1.out aj aJ aK; cases e107; replace aJ := eq_true aJ; replace aK := eq_true aK
        go_wp2
        repeat (go_quiet (fail); try go_wp2)
        go_ret
        exact ⟨by first | rfl | (simp; done) | (simp [*]; done), by repeat (first | exact Drawn0.refl _ | apply Drawn0.step)⟩
      ·rw [if_neg c6] at H
       exact absurd H (by simp)
     ·rw [if_neg c5] at H
      exact absurd H (by simp)
    ·rw [if_neg c4] at H
     have aG : decide (aj < (l0.length : Int)) = false := decide_eq_false c4; clear c4; obtain rfl := Option.some.inj H
     go_wp2
     repeat (go_quiet (fail); try go_wp2)
     go_ret
     exact ⟨by first | rfl | (simp; done) | (simp [*]; done), by repeat (first | exact Drawn0.refl _ | apply Drawn0.step)⟩
 ·rw [if_neg c3] at H
  have aM : ((l0.length : Int) == (l1.length : Int)) = false := beq_eq_false_iff_ne.mpr c3; have aT : ((l0.length : Int) != (l1.length : Int)) = true := bne_iff_ne.mpr c3; have bm : (l0.length == l1.length) = false := by first | simpa using c3 | (simp at c3 ⊢; omega)
  obtain rfl := Option.some.inj H; go_enter Try.func53, Try.ntmps53
  go_wp2
  repeat (go_quiet (fail); try go_wp2)
  go_ret
  exact ⟨by first | rfl | (simp; done) | (simp [*]; done), by repeat (first | exact Drawn0.refl _ | apply Drawn0.step)⟩

def Cz.f (k : Nat) (aa : Int) (ac : Int) (ah : List Int) (av : Int) (aw : Int) (ax : List Int) : Option (Bool) := if aa = av then (if ac = aw then ((Cd.f k ah ax).bind fun aN => (some aN)) else (some false)) else (some false)
set_option maxHeartbeats 8000000 in
set_option maxRecDepth 100000 in
theorem Cz.calls (k : Nat) (aa : Int) (ac : Int) (an : Option Addr) (ao : Nat) (ah : List Int) (av : Int) (aw : Int) (ay : Option Addr) (az : Nat) (ax : List Int) (r : Bool) (w : World) (aA : Kd.C (Kd.int .u32) w an ah.length ah) (aC : ah.length ≤ ao) (bc : Kd.C (Kd.int .u32) w ay ax.length ax) (bd : ax.length ≤ az) (h : Cz.f k aa ac ah av aw ax = some r) :
  Calls Try.prog 15 #[.agg #[.int .i64 aa, .int .i64 ac, .slice an ah.length ao], .agg #[.int .i64 av, .int .i64 aw, .slice ay ax.length az]] w fun e w' => e = .returned (.bool r) ∧ Below w.heap.size w w' := by
 have hu24 := Try.underlying24; have be := Ac.mk aA; have bf := Ac.mk aC; clear aA aC; have bs := Ac.mk bc; have bt := Ac.mk bd; clear bc bd; have HB := Ac.mk (Below.refl w.heap.size w); have H : (if aa = av then (if ac = aw then ((Cd.f k ah ax).bind fun aN => (some aN)) else (some false)) else (some false)) = some r := h; clear h
 by_cases c3 : aa = av
 ·rw [if_pos c3] at H
  have aM : (aa == av) = true := beq_iff_eq.mpr c3; have aT : (aa != av) = false := bne_eq_false_iff_eq.mpr c3; clear c3
  by_cases c4 : ac = aw
  ·rw [if_pos c4] at H
   have aG : (ac == aw) = true := beq_iff_eq.mpr c4; have bl : (ac != aw) = false := bne_eq_false_iff_eq.mpr c4; clear c4; replace H := Option.bind_eq_some_iff.mp H; obtain ⟨aN, A50, H⟩ := H
   try dsimp only at H
   have A5 := Ac.mk A50; clear A50; obtain rfl := Option.some.inj H; go_enter Try.func15, Try.ntmps15
   go_wp2_with (first | ((with_reducible refine Bf (N := 2) rfl ?_); refine Bc ?hg (N := 2) ?hd (cs := #[.int .i64 aa, .int .i64 ac, .slice an ah.length ao]) (t := 24) ?hr ?_; (case hd => rfl); (case hg => rfl); (case hr => first | (go_simp; done) | (go_simp; rfl)); intro af hg w6 hbox hb; have ag := Ac.mk (hbox); have bg := Ac.mk ((by rw [hg]; exact (Ak (lU HB.out)) : w.heap.size ≤ af)); have aq := Ac.mk ((by rw [hg]; exact (Ak (lU HB.out)) : w.heap.size ≤ af)); replace HB := Ac.mk (Aq (lU HB.out) hb); clear hb hbox hg) | ((with_reducible refine Bf (N := 3) rfl ?_); refine Bc ?hg (N := 3) ?hd (cs := #[.int .i64 av, .int .i64 aw, .slice ay ax.length az]) (t := 24) ?hr ?_; (case hd => rfl); (case hg => rfl); (case hr => first | (go_simp; done) | (go_simp; rfl)); intro ai hg w7 hbox hb; have ak := Ac.mk (hbox); have bh := Ac.mk ((by rw [hg]; exact (Ak (by repeat (first | (with_reducible first | exact HB.out | apply Ah | apply Ae | apply Ai | refine Ag ?_ aq.out) | exact HB.out))) : w.heap.size ≤ ai)); have aD := Ac.mk ((by rw [hg]; exact (Ak (by repeat (first | (with_reducible first | exact HB.out | apply Ah | apply Ae | apply Ai | refine Ag ?_ aq.out) | exact HB.out))) : w.heap.size ≤ ai)); replace HB := Ac.mk (Aq (by repeat (first | (with_reducible first | exact HB.out | apply Ah | apply Ae | apply Ai | refine Ag ?_ aq.out) | exact HB.out)) hb); have ar := Ac.mk ((by rw [hg]; exact Nat.ne_of_lt (Bh (g := af) (o := .cells #[.int .i64 aa, .int .i64 ac, .slice an ah.length ao] 24 (0, 0)) (by exact bU <| ag.out)) : af ≠ ai)); have au := Ac.mk ((by rw [hg]; exact Nat.ne_of_gt (Bh (g := af) (o := .cells #[.int .i64 aa, .int .i64 ac, .slice an ah.length ao] 24 (0, 0)) (by exact bU <| ag.out)) : ai ≠ af)); replace ag := Ac.mk (An (g := af) (o := .cells #[.int .i64 aa, .int .i64 ac, .slice an ah.length ao] 24 (0, 0)) (by exact bU <| ag.out) hb); clear hb hbox hg; have cB := ar.out; have cC := au.out; have bY : w7.cell? ⟨af, 0, none⟩ = some (.int .i64 aa) := (Ad ag.out 0).trans rfl; have bZ : w7.cell? ⟨af, 1, none⟩ = some (.int .i64 ac) := (Ad ag.out 1).trans rfl; have b3 : w7.cell? ⟨af, 2, none⟩ = some (.slice an ah.length ao) := (Ad ag.out 2).trans rfl; have b4 := Af ag.out 0; have b5 := Af ag.out 1; have b6 := Af ag.out 2; have aW : w7.cell? ⟨ai, 0, none⟩ = some (.int .i64 av) := (Ad ak.out 0).trans rfl; have aX : w7.cell? ⟨ai, 1, none⟩ = some (.int .i64 aw) := (Ad ak.out 1).trans rfl; have aY : w7.cell? ⟨ai, 2, none⟩ = some (.slice ay ax.length az) := (Ad ak.out 2).trans rfl; have aZ := Af ak.out 0; have ba := Af ak.out 1; have bb := Af ak.out 2) | (go_at_call 53; (with_reducible refine (Cd.calls k _ _ ah _ _ ax aN _ ?side1 ?side2 ?side3 ?side4 A5.out).mono ?_); (case side1 => repeat (first | exact (Kd.B2 be.out HB.out) | (with_reducible refine Kd.Bw ?_ _) | (with_reducible refine Kd.B6 ?_ _) | (with_reducible refine Kd.C_drew ?_))); (case side2 => exact bf.out); (case side3 => repeat (first | exact (Kd.B2 bs.out HB.out) | (with_reducible refine Kd.Bw ?_ _) | (with_reducible refine Kd.B6 ?_ _) | (with_reducible refine Kd.C_drew ?_))); (case side4 => exact bt.out); rintro e w' ⟨rfl, ⟨nd, rfl⟩⟩))
   go_ret
   exact ⟨by first | rfl | (simp [At, As] <;> rfl) | (simp [*, At, As] <;> rfl), by repeat (first | (with_reducible first | exact HB.out | apply Ah | apply Ae | apply Ai | refine Ag ?_ aq.out | refine Ag ?_ aD.out) | exact HB.out)⟩
  ·rw [if_neg c4] at H
   have aG : (ac == aw) = false := beq_eq_false_iff_ne.mpr c4; have bl : (ac != aw) = true := bne_iff_ne.mpr c4; obtain rfl := Option.some.inj H; go_enter Try.func15, Try.ntmps15
   go_wp2_with (first | ((with_reducible refine Bf (N := 2) rfl ?_); refine Bc ?hg (N := 2) ?hd (cs := #[.int .i64 aa, .int .i64 ac, .slice an ah.length ao]) (t := 24) ?hr ?_; (case hd => rfl); (case hg => rfl); (case hr => first | (go_simp; done) | (go_simp; rfl)); intro af hg w11 hbox hb; have ag := Ac.mk (hbox); have bg := Ac.mk ((by rw [hg]; exact (Ak (lU HB.out)) : w.heap.size ≤ af)); have aq := Ac.mk ((by rw [hg]; exact (Ak (lU HB.out)) : w.heap.size ≤ af)); replace HB := Ac.mk (Aq (lU HB.out) hb); clear hb hbox hg) | ((with_reducible refine Bf (N := 3) rfl ?_); refine Bc ?hg (N := 3) ?hd (cs := #[.int .i64 av, .int .i64 aw, .slice ay ax.length az]) (t := 24) ?hr ?_; (case hd => rfl); (case hg => rfl); (case hr => first | (go_simp; done) | (go_simp; rfl)); intro ai hg w12 hbox hb; have ak := Ac.mk (hbox); have bh := Ac.mk ((by rw [hg]; exact (Ak (by repeat (first | (with_reducible first | exact HB.out | apply Ah | apply Ae | apply Ai | refine Ag ?_ aq.out) | exact HB.out))) : w.heap.size ≤ ai)); have aD := Ac.mk ((by rw [hg]; exact (Ak (by repeat (first | (with_reducible first | exact HB.out | apply Ah | apply Ae | apply Ai | refine Ag ?_ aq.out) | exact HB.out))) : w.heap.size ≤ ai)); replace HB := Ac.mk (Aq (by repeat (first | (with_reducible first | exact HB.out | apply Ah | apply Ae | apply Ai | refine Ag ?_ aq.out) | exact HB.out)) hb); have ar := Ac.mk ((by rw [hg]; exact Nat.ne_of_lt (Bh (g := af) (o := .cells #[.int .i64 aa, .int .i64 ac, .slice an ah.length ao] 24 (0, 0)) (by exact bU <| ag.out)) : af ≠ ai)); have au := Ac.mk ((by rw [hg]; exact Nat.ne_of_gt (Bh (g := af) (o := .cells #[.int .i64 aa, .int .i64 ac, .slice an ah.length ao] 24 (0, 0)) (by exact bU <| ag.out)) : ai ≠ af)); replace ag := Ac.mk (An (g := af) (o := .cells #[.int .i64 aa, .int .i64 ac, .slice an ah.length ao] 24 (0, 0)) (by exact bU <| ag.out) hb); clear hb hbox hg; have cx := ar.out; have cy := au.out; have bu : w12.cell? ⟨af, 0, none⟩ = some (.int .i64 aa) := (Ad ag.out 0).trans rfl; have bv : w12.cell? ⟨af, 1, none⟩ = some (.int .i64 ac) := (Ad ag.out 1).trans rfl; have bw : w12.cell? ⟨af, 2, none⟩ = some (.slice an ah.length ao) := (Ad ag.out 2).trans rfl; have bz := Af ag.out 0; have bB := Af ag.out 1; have bC := Af ag.out 2; have bD : w12.cell? ⟨ai, 0, none⟩ = some (.int .i64 av) := (Ad ak.out 0).trans rfl; have bE : w12.cell? ⟨ai, 1, none⟩ = some (.int .i64 aw) := (Ad ak.out 1).trans rfl; have bF : w12.cell? ⟨ai, 2, none⟩ = some (.slice ay ax.length az) := (Ad ak.out 2).trans rfl; have bG := Af ak.out 0; have bH := Af ak.out 1; have bI := Af ak.out 2))
   go_ret
   exact ⟨by first | rfl | (simp [At, As] <;> rfl) | (simp [*, At, As] <;> rfl), by repeat (first | (with_reducible first | exact HB.out | apply Ah | apply Ae | apply Ai | refine Ag ?_ aq.out | refine Ag ?_ aD.out) | exact HB.out)⟩
 ·rw [if_neg c3] at H
  have aM : (aa == av) = false := beq_eq_false_iff_ne.mpr c3; have aT : (aa != av) = true := bne_iff_ne.mpr c3; obtain rfl := Option.some.inj H; go_enter Try.func15, Try.ntmps15
  go_wp2_with (first | ((with_reducible refine Bf (N := 2) rfl ?_); refine Bc ?hg (N := 2) ?hd (cs := #[.int .i64 aa, .int .i64 ac, .slice an ah.length ao]) (t := 24) ?hr ?_; (case hd => rfl); (case hg => rfl); (case hr => first | (go_simp; done) | (go_simp; rfl)); intro af hg w16 hbox hb; have ag := Ac.mk (hbox); have bg := Ac.mk ((by rw [hg]; exact (Ak (lU HB.out)) : w.heap.size ≤ af)); have aq := Ac.mk ((by rw [hg]; exact (Ak (lU HB.out)) : w.heap.size ≤ af)); replace HB := Ac.mk (Aq (lU HB.out) hb); clear hb hbox hg) | ((with_reducible refine Bf (N := 3) rfl ?_); refine Bc ?hg (N := 3) ?hd (cs := #[.int .i64 av, .int .i64 aw, .slice ay ax.length az]) (t := 24) ?hr ?_; (case hd => rfl); (case hg => rfl); (case hr => first | (go_simp; done) | (go_simp; rfl)); intro ai hg w17 hbox hb; have ak := Ac.mk (hbox); have bh := Ac.mk ((by rw [hg]; exact (Ak (by repeat (first | (with_reducible first | exact HB.out | apply Ah | apply Ae | apply Ai | refine Ag ?_ aq.out) | exact HB.out))) : w.heap.size ≤ ai)); have aD := Ac.mk ((by rw [hg]; exact (Ak (by repeat (first | (with_reducible first | exact HB.out | apply Ah | apply Ae | apply Ai | refine Ag ?_ aq.out) | exact HB.out))) : w.heap.size ≤ ai)); replace HB := Ac.mk (Aq (by repeat (first | (with_reducible first | exact HB.out | apply Ah | apply Ae | apply Ai | refine Ag ?_ aq.out) | exact HB.out)) hb); have ar := Ac.mk ((by rw [hg]; exact Nat.ne_of_lt (Bh (g := af) (o := .cells #[.int .i64 aa, .int .i64 ac, .slice an ah.length ao] 24 (0, 0)) (by exact bU <| ag.out)) : af ≠ ai)); have au := Ac.mk ((by rw [hg]; exact Nat.ne_of_gt (Bh (g := af) (o := .cells #[.int .i64 aa, .int .i64 ac, .slice an ah.length ao] 24 (0, 0)) (by exact bU <| ag.out)) : ai ≠ af)); replace ag := Ac.mk (An (g := af) (o := .cells #[.int .i64 aa, .int .i64 ac, .slice an ah.length ao] 24 (0, 0)) (by exact bU <| ag.out) hb); clear hb hbox hg; have cz := ar.out; have cA := au.out; have bJ : w17.cell? ⟨af, 0, none⟩ = some (.int .i64 aa) := (Ad ag.out 0).trans rfl; have bK : w17.cell? ⟨af, 1, none⟩ = some (.int .i64 ac) := (Ad ag.out 1).trans rfl; have bL : w17.cell? ⟨af, 2, none⟩ = some (.slice an ah.length ao) := (Ad ag.out 2).trans rfl; have bM := Af ag.out 0; have bN := Af ag.out 1; have bO := Af ag.out 2; have bP : w17.cell? ⟨ai, 0, none⟩ = some (.int .i64 av) := (Ad ak.out 0).trans rfl; have bQ : w17.cell? ⟨ai, 1, none⟩ = some (.int .i64 aw) := (Ad ak.out 1).trans rfl; have bR : w17.cell? ⟨ai, 2, none⟩ = some (.slice ay ax.length az) := (Ad ak.out 2).trans rfl; have bS := Af ak.out 0; have bT := Af ak.out 1; have bV := Af ak.out 2))
  go_ret
  exact ⟨by first | rfl | (simp [At, As] <;> rfl) | (simp [*, At, As] <;> rfl), by repeat (first | (with_reducible first | exact HB.out | apply Ah | apply Ae | apply Ai | refine Ag ?_ aq.out | refine Ag ?_ aD.out) | exact HB.out)⟩

def C1.f (a0 : Int) (a1 : Int) : Option (Bool) := if a0 ≥ 1 then (if a0 ≤ 1024 then (if a1 ≥ 1 then (if a1 ≤ 1024 then (some (decide ((wrap64 (a0 * a1)) ≤ 65536))) else (some false)) else (some false)) else (some false)) else (some false)
set_option maxHeartbeats 8000000 in
set_option maxRecDepth 100000 in
theorem C1.calls (a0 : Int) (a1 : Int) (r : Bool) (w : World) (h : C1.f a0 a1 = some r) :
  Calls Try.prog 55 #[.int .i64 a0, .int .i64 a1] w fun e w' => e = .returned (.bool r) ∧ Drawn0 w w' := by
 have H : (if a0 ≥ 1 then (if a0 ≤ 1024 then (if a1 ≥ 1 then (if a1 ≤ 1024 then (some (decide ((wrap64 (a0 * a1)) ≤ 65536))) else (some false)) else (some false)) else (some false)) else (some false)) = some r := h; clear h
 by_cases c3 : a0 ≥ 1
 ·rw [if_pos c3] at H
  have aM : decide (1 ≤ a0) = true := decide_eq_true c3; clear c3
  by_cases c4 : a0 ≤ 1024
  ·rw [if_pos c4] at H
   have aG : decide (a0 ≤ 1024) = true := decide_eq_true c4; clear c4
   by_cases c5 : a1 ≥ 1
   ·rw [if_pos c5] at H
    have bo : decide (1 ≤ a1) = true := decide_eq_true c5; clear c5
    by_cases c6 : a1 ≤ 1024
    ·rw [if_pos c6] at H
     have bp : decide (a1 ≤ 1024) = true := decide_eq_true c6; clear c6; obtain rfl := Option.some.inj H; go_enter Try.func55, Try.ntmps55
     go_wp2
     go_ret
     exact ⟨by first | rfl | (simp; done) | (simp [*]; done), by repeat (first | exact Drawn0.refl _ | apply Drawn0.step)⟩
    ·rw [if_neg c6] at H
     have bp : decide (a1 ≤ 1024) = false := decide_eq_false c6; clear c6; obtain rfl := Option.some.inj H; go_enter Try.func55, Try.ntmps55
     go_wp2
     go_ret
     exact ⟨by first | rfl | (simp; done) | (simp [*]; done), by repeat (first | exact Drawn0.refl _ | apply Drawn0.step)⟩
   ·rw [if_neg c5] at H
    have bo : decide (1 ≤ a1) = false := decide_eq_false c5; clear c5; obtain rfl := Option.some.inj H; go_enter Try.func55, Try.ntmps55
    go_wp2
    go_ret
    exact ⟨by first | rfl | (simp; done) | (simp [*]; done), by repeat (first | exact Drawn0.refl _ | apply Drawn0.step)⟩
  ·rw [if_neg c4] at H
   have aG : decide (a0 ≤ 1024) = false := decide_eq_false c4; clear c4; obtain rfl := Option.some.inj H; go_enter Try.func55, Try.ntmps55
   go_wp2
   go_ret
   exact ⟨by first | rfl | (simp; done) | (simp [*]; done), by repeat (first | exact Drawn0.refl _ | apply Drawn0.step)⟩
 ·rw [if_neg c3] at H
  have aM : decide (1 ≤ a0) = false := decide_eq_false c3; clear c3; obtain rfl := Option.some.inj H; go_enter Try.func55, Try.ntmps55
  go_wp2
  go_ret
  exact ⟨by first | rfl | (simp; done) | (simp [*]; done), by repeat (first | exact Drawn0.refl _ | apply Drawn0.step)⟩

def Co.f (aa : Int) (ac : Int) (ah : List Int) : Option (Int) := (C1.f aa ac).bind fun aQ => (if aQ = true then (if (ah.length : Int) = (wrap64 (aa * ac)) then (some 0) else (some 51)) else (some 50))
set_option maxHeartbeats 8000000 in
set_option maxRecDepth 100000 in
theorem Co.calls (aa : Int) (ac : Int) (an : Option Addr) (ao : Nat) (ah : List Int) (r : Int) (w : World) (aA : Kd.C (Kd.int .u32) w an ah.length ah) (aC : ah.length ≤ ao) (h : Co.f aa ac ah = some r) :
  Calls Try.prog 47 #[.agg #[.int .i64 aa, .int .i64 ac, .slice an ah.length ao]] w fun e w' => e = .returned (.int .i64 r) ∧ Below w.heap.size w w' := by
 have hu24 := Try.underlying24; have be := Ac.mk aA; have bf := Ac.mk aC; clear aA aC; have HB := Ac.mk (Below.refl w.heap.size w); have H : ((C1.f aa ac).bind fun aQ => (if aQ = true then (if (ah.length : Int) = (wrap64 (aa * ac)) then (some 0) else (some 51)) else (some 50))) = some r := h; clear h; replace H := Option.bind_eq_some_iff.mp H; obtain ⟨aQ, A20, H⟩ := H
 try dsimp only at H
 have A2 := Ac.mk A20; clear A20
 by_cases c3 : aQ = true
 ·subst c3
  have H1 := H; rw [if_pos rfl] at H1; clear H; have H := H1; clear H1
  by_cases c4 : (ah.length : Int) = (wrap64 (aa * ac))
  ·rw [if_pos c4] at H
   have aG : ((ah.length : Int) == (wrap64 (aa * ac))) = true := beq_iff_eq.mpr c4; have bl : ((ah.length : Int) != (wrap64 (aa * ac))) = false := bne_eq_false_iff_eq.mpr c4; clear c4; obtain rfl := Option.some.inj H; go_enter Try.func47, Try.ntmps47
   go_wp2_with (first | ((with_reducible refine Bf (N := 1) rfl ?_); refine Bc ?hg (N := 1) ?hd (cs := #[.int .i64 aa, .int .i64 ac, .slice an ah.length ao]) (t := 24) ?hr ?_; (case hd => rfl); (case hg => rfl); (case hr => first | (go_simp; done) | (go_simp; rfl)); intro ap hg w5 hbox hb; have am := Ac.mk (hbox); have bj := Ac.mk ((by rw [hg]; exact (Ak (lU HB.out)) : w.heap.size ≤ ap)); have aE := Ac.mk ((by rw [hg]; exact (Ak (lU HB.out)) : w.heap.size ≤ ap)); replace HB := Ac.mk (Aq (lU HB.out) hb); clear hb hbox hg; have b7 : w5.cell? ⟨ap, 0, none⟩ = some (.int .i64 aa) := (Ad am.out 0).trans rfl; have b8 : w5.cell? ⟨ap, 1, none⟩ = some (.int .i64 ac) := (Ad am.out 1).trans rfl; have b9 : w5.cell? ⟨ap, 2, none⟩ = some (.slice an ah.length ao) := (Ad am.out 2).trans rfl; have cd := Af am.out 0; have ce := Af am.out 1; have cg := Af am.out 2) | ((with_reducible refine Be (f := 55) rfl ?_); refine gL (some 7) Try.func55 #[.int .i64 aa, .int .i64 ac] ?_; (with_reducible refine (C1.calls aa ac true _ A2.out).mono ?_); rintro e w' ⟨rfl, ⟨nd, rfl⟩⟩; refine ⟨_, rfl, ?_⟩))
   go_ret
   exact ⟨by first | rfl | (simp [At, As] <;> rfl) | (simp [*, At, As] <;> rfl), by repeat (first | (with_reducible first | exact HB.out | apply Ah | apply Ae | apply Ai | refine Ag ?_ aE.out) | exact HB.out)⟩
  ·rw [if_neg c4] at H
   have aG : ((ah.length : Int) == (wrap64 (aa * ac))) = false := beq_eq_false_iff_ne.mpr c4; have bl : ((ah.length : Int) != (wrap64 (aa * ac))) = true := bne_iff_ne.mpr c4; obtain rfl := Option.some.inj H; go_enter Try.func47, Try.ntmps47
   go_wp2_with (first | ((with_reducible refine Bf (N := 1) rfl ?_); refine Bc ?hg (N := 1) ?hd (cs := #[.int .i64 aa, .int .i64 ac, .slice an ah.length ao]) (t := 24) ?hr ?_; (case hd => rfl); (case hg => rfl); (case hr => first | (go_simp; done) | (go_simp; rfl)); intro ap hg w7 hbox hb; have am := Ac.mk (hbox); have bj := Ac.mk ((by rw [hg]; exact (Ak (lU HB.out)) : w.heap.size ≤ ap)); have aE := Ac.mk ((by rw [hg]; exact (Ak (lU HB.out)) : w.heap.size ≤ ap)); replace HB := Ac.mk (Aq (lU HB.out) hb); clear hb hbox hg; have ck : w7.cell? ⟨ap, 0, none⟩ = some (.int .i64 aa) := (Ad am.out 0).trans rfl; have cp : w7.cell? ⟨ap, 1, none⟩ = some (.int .i64 ac) := (Ad am.out 1).trans rfl; have cr : w7.cell? ⟨ap, 2, none⟩ = some (.slice an ah.length ao) := (Ad am.out 2).trans rfl; have ct := Af am.out 0; have cu := Af am.out 1; have cw := Af am.out 2) | ((with_reducible refine Be (f := 55) rfl ?_); refine gL (some 7) Try.func55 #[.int .i64 aa, .int .i64 ac] ?_; (with_reducible refine (C1.calls aa ac true _ A2.out).mono ?_); rintro e w' ⟨rfl, ⟨nd, rfl⟩⟩; refine ⟨_, rfl, ?_⟩))
   go_ret
   exact ⟨by first | rfl | (simp [At, As] <;> rfl) | (simp [*, At, As] <;> rfl), by repeat (first | (with_reducible first | exact HB.out | apply Ah | apply Ae | apply Ai | refine Ag ?_ aE.out) | exact HB.out)⟩
 ·replace c3 := Bool.eq_false_iff.mpr c3
  subst c3; have H1 := H; rw [if_neg (show ¬ (false = true) by decide)] at H1; clear H; have H := H1; clear H1; obtain rfl := Option.some.inj H; go_enter Try.func47, Try.ntmps47
  go_wp2_with (first | ((with_reducible refine Bf (N := 1) rfl ?_); refine Bc ?hg (N := 1) ?hd (cs := #[.int .i64 aa, .int .i64 ac, .slice an ah.length ao]) (t := 24) ?hr ?_; (case hd => rfl); (case hg => rfl); (case hr => first | (go_simp; done) | (go_simp; rfl)); intro ap hg w9 hbox hb; have am := Ac.mk (hbox); have bj := Ac.mk ((by rw [hg]; exact (Ak (lU HB.out)) : w.heap.size ≤ ap)); have aE := Ac.mk ((by rw [hg]; exact (Ak (lU HB.out)) : w.heap.size ≤ ap)); replace HB := Ac.mk (Aq (lU HB.out) hb); clear hb hbox hg; have aW : w9.cell? ⟨ap, 0, none⟩ = some (.int .i64 aa) := (Ad am.out 0).trans rfl; have aX : w9.cell? ⟨ap, 1, none⟩ = some (.int .i64 ac) := (Ad am.out 1).trans rfl; have aY : w9.cell? ⟨ap, 2, none⟩ = some (.slice an ah.length ao) := (Ad am.out 2).trans rfl; have aZ := Af am.out 0; have ba := Af am.out 1; have bb := Af am.out 2) | ((with_reducible refine Be (f := 55) rfl ?_); refine gL (some 7) Try.func55 #[.int .i64 aa, .int .i64 ac] ?_; (with_reducible refine (C1.calls aa ac false _ A2.out).mono ?_); rintro e w' ⟨rfl, ⟨nd, rfl⟩⟩; refine ⟨_, rfl, ?_⟩))
  go_ret
  exact ⟨by first | rfl | (simp [At, As] <;> rfl) | (simp [*, At, As] <;> rfl), by repeat (first | (with_reducible first | exact HB.out | apply Ah | apply Ae | apply Ai | refine Ag ?_ aE.out) | exact HB.out)⟩

end Go.Proofs.Ytbfimplajocmmaa.PFC


