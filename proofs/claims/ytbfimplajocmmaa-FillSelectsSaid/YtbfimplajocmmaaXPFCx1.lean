import Derived.Test.YtbfimplajocmmaaXUQ
import Derived.Test.YtbfimplajocmmaaXPFDx0
import Derived.Test.YtbfimplajocmmaaXPFAx2
namespace Go.Proofs.Ytbfimplajocmmaa.PFC
open Go.Proofs.Ytbfimplajocmmaa.PFA Go.Proofs.Ytbfimplajocmmaa.PFK
open Go.RowKit Go.Proofs.YtbfimplajocmmaaW.PrintWords Go.Proofs.YtbfimplajocmmaaW.PrintLast Go.Proofs.YtbfimplajocmmaaW.PrintMore
attribute [local go_sem] max2_int min2_int max_two min_two max_three min_three max_four min_four
set_option linter.unusedVariables false
set_option linter.unusedSimpArgs false

def Da.f (a0 : Int) (a1 : Int) : Option (Bool) := (C4.f a0).bind fun aX => ((C4.f a1).bind fun aY => (some (decide (aX < aY))))
set_option maxHeartbeats 8000000 in
set_option maxRecDepth 100000 in
theorem Da.calls (a0 : Int) (a1 : Int) (r : Bool) (w : World) (h : Da.f a0 a1 = some r) :
  Calls Try.prog 46 #[.int .u32 a0, .int .u32 a1] w fun e w' => e = .returned (.bool r) ∧ Drawn0 w w' := by
 have H : ((C4.f a0).bind fun aX => ((C4.f a1).bind fun aY => (some (decide (aX < aY))))) = some r := h; clear h; replace H := Option.bind_eq_some_iff.mp H; obtain ⟨aX, A30, H⟩ := H
 try dsimp only at H
 have A3 := Ae.mk A30; clear A30; replace H := Option.bind_eq_some_iff.mp H; obtain ⟨aY, A40, H⟩ := H
 try dsimp only at H
 have A4 := Ae.mk A40; clear A40; obtain rfl := Option.some.inj H; go_enter Try.func46, Try.ntmps46
 go_wp2_with (first | ((with_reducible refine Bp (f := 75) rfl ?_); refine gL (some 6) Try.func75 #[.int .u32 a0] ?_; (with_reducible refine (C4.calls a0 aX _ A3.out).mono ?_); rintro e w' ⟨rfl, ⟨nd, rfl⟩⟩; refine ⟨_, rfl, ?_⟩) | ((with_reducible refine Bp (f := 75) rfl ?_); refine gL (some 8) Try.func75 #[.int .u32 a1] ?_; (with_reducible refine (C4.calls a1 aY _ A4.out).mono ?_); rintro e w' ⟨rfl, ⟨nd, rfl⟩⟩; refine ⟨_, rfl, ?_⟩))
 go_ret
 exact ⟨by first | rfl | (simp; done) | (simp [*]; done), by repeat (first | exact Drawn0.refl _ | apply Drawn0.step)⟩

def Cx.f (a0 : Int) : Option (Int) := if (wrap64 (a0)) < 2147483648 then (some ((wrap64 ((wrap64 (a0)) + 2147483648)) % 4294967296)) else (some ((wrap64 (4294967295 - (wrap64 (a0)))) % 4294967296))
set_option maxHeartbeats 8000000 in
set_option maxRecDepth 100000 in
theorem Cx.calls (a0 : Int) (r : Int) (w : World) (h : Cx.f a0 = some r) :
  Calls Try.prog 88 #[.int .u32 a0] w fun e w' => e = .returned (.int .u32 r) ∧ Drawn0 w w' := by
 have H : (if (wrap64 (a0)) < 2147483648 then (some ((wrap64 ((wrap64 (a0)) + 2147483648)) % 4294967296)) else (some ((wrap64 (4294967295 - (wrap64 (a0)))) % 4294967296))) = some r := h; clear h
 by_cases c2 : (wrap64 (a0)) < 2147483648
 ·rw [if_pos c2] at H
  have cF : decide ((wrap64 (a0)) < 2147483648) = true := decide_eq_true c2; clear c2; obtain rfl := Option.some.inj H; go_enter Try.func88, Try.ntmps88
  go_wp2
  go_ret
  exact ⟨by first | rfl | (simp; done) | (simp [*]; done), by repeat (first | exact Drawn0.refl _ | apply Drawn0.step)⟩
 ·rw [if_neg c2] at H
  have cF : decide ((wrap64 (a0)) < 2147483648) = false := decide_eq_false c2; clear c2; obtain rfl := Option.some.inj H; go_enter Try.func88, Try.ntmps88
  go_wp2
  go_ret
  exact ⟨by first | rfl | (simp; done) | (simp [*]; done), by repeat (first | exact Drawn0.refl _ | apply Drawn0.step)⟩

def Dg.f (a0 : Int) (a1 : Int) : Option (Int) := (Cx.f a1).bind fun aZ => ((Cx.f a0).bind fun ba => (some (wrap64 ((wrap64 (aZ)) - (wrap64 (ba))))))
set_option maxHeartbeats 8000000 in
set_option maxRecDepth 100000 in
theorem Dg.calls (a0 : Int) (a1 : Int) (r : Int) (w : World) (h : Dg.f a0 a1 = some r) :
  Calls Try.prog 76 #[.int .u32 a0, .int .u32 a1] w fun e w' => e = .returned (.int .i64 r) ∧ Drawn0 w w' := by
 have H : ((Cx.f a1).bind fun aZ => ((Cx.f a0).bind fun ba => (some (wrap64 ((wrap64 (aZ)) - (wrap64 (ba))))))) = some r := h; clear h; replace H := Option.bind_eq_some_iff.mp H; obtain ⟨aZ, A30, H⟩ := H
 try dsimp only at H
 have A3 := Ae.mk A30; clear A30; replace H := Option.bind_eq_some_iff.mp H; obtain ⟨ba, A40, H⟩ := H
 try dsimp only at H
 have A4 := Ae.mk A40; clear A40; obtain rfl := Option.some.inj H; go_enter Try.func76, Try.ntmps76
 go_wp2_with (first | ((with_reducible refine Bp (f := 88) rfl ?_); refine gL (some 6) Try.func88 #[.int .u32 a1] ?_; (with_reducible refine (Cx.calls a1 aZ _ A3.out).mono ?_); rintro e w' ⟨rfl, ⟨nd, rfl⟩⟩; refine ⟨_, rfl, ?_⟩) | ((with_reducible refine Bp (f := 88) rfl ?_); refine gL (some 9) Try.func88 #[.int .u32 a0] ?_; (with_reducible refine (Cx.calls a0 ba _ A4.out).mono ?_); rintro e w' ⟨rfl, ⟨nd, rfl⟩⟩; refine ⟨_, rfl, ?_⟩))
 go_ret
 exact ⟨by first | rfl | (simp; done) | (simp [*]; done), by repeat (first | exact Drawn0.refl _ | apply Drawn0.step)⟩

def Ct.f (a0 : Int) (a1 : Int) : Option (Bool) := (Dg.f a0 a1).bind fun bb => (some (decide (bb > 0)))
set_option maxHeartbeats 8000000 in
set_option maxRecDepth 100000 in
theorem Ct.calls (a0 : Int) (a1 : Int) (r : Bool) (w : World) (h : Ct.f a0 a1 = some r) :
  Calls Try.prog 48 #[.int .u32 a0, .int .u32 a1] w fun e w' => e = .returned (.bool r) ∧ Drawn0 w w' := by
 have H : ((Dg.f a0 a1).bind fun bb => (some (decide (bb > 0)))) = some r := h; clear h; replace H := Option.bind_eq_some_iff.mp H; obtain ⟨bb, A30, H⟩ := H
 try dsimp only at H
 have A3 := Ae.mk A30; clear A30; obtain rfl := Option.some.inj H; go_enter Try.func48, Try.ntmps48
 go_wp2_with (first | ((with_reducible refine Bp (f := 76) rfl ?_); refine gL (some 7) Try.func76 #[.int .u32 a0, .int .u32 a1] ?_; (with_reducible refine (Dg.calls a0 a1 bb _ A3.out).mono ?_); rintro e w' ⟨rfl, ⟨nd, rfl⟩⟩; refine ⟨_, rfl, ?_⟩))
 go_ret
 exact ⟨by first | rfl | (simp; done) | (simp [*]; done), by repeat (first | exact Drawn0.refl _ | apply Drawn0.step)⟩

def Cf.l0 : Nat → List Int → List Int → Int → Option (Bool)
 | 0, _, _, _ => none
 | k + 1, x0, x1, x5 => if x5 < (x0.length : Int) then (if 0 ≤ x5 then (if x5 < (x1.length : Int) then (if (rd x0 x5) = (rd x1 x5) then (Cf.l0 k x0 x1 (wrap64 (x5 + 1))) else (some false)) else (none)) else (none)) else (some true)
def Cf.f (k : Nat) (l0 : List Int) (l1 : List Int) : Option (Bool) := if (l0.length : Int) = (l1.length : Int) then (Cf.l0 k l0 l1 0) else (some false)
set_option maxHeartbeats 8000000 in
set_option maxRecDepth 100000 in
theorem Cf.calls (k : Nat) (A0 : Option Addr) (c0 : Nat) (l0 : List Int) (A1 : Option Addr) (c1 : Nat) (l1 : List Int) (r : Bool) (w : World) (hr0 : Kd.C (Kd.int .u32) w A0 l0.length l0) (hc0 : l0.length ≤ c0) (hr1 : Kd.C (Kd.int .u32) w A1 l1.length l1) (hc1 : l1.length ≤ c1) (h : Cf.f k l0 l1 = some r) :
  Calls Try.prog 53 #[.slice A0 l0.length c0, .slice A1 l1.length c1] w fun e w' => e = .returned (.bool r) ∧ Drawn0 w w' := by
 have HR0 := Ae.mk hr0; have HC0 := Ae.mk hc0; clear hr0 hc0; have HR1 := Ae.mk hr1; have HC1 := Ae.mk hc1; clear hr1 hc1; have H : (if (l0.length : Int) = (l1.length : Int) then (Cf.l0 k l0 l1 0) else (some false)) = some r := h; clear h
 by_cases c3 : (l0.length : Int) = (l1.length : Int)
 ·rw [if_pos c3] at H
  have aW : ((l0.length : Int) == (l1.length : Int)) = true := beq_iff_eq.mpr c3; have bm : ((l0.length : Int) != (l1.length : Int)) = false := bne_eq_false_iff_eq.mpr c3; have bM : (l0.length == l1.length) = true := by first | simpa using c3 | (simp at c3 ⊢; omega)
  clear c3; have H' := Ae.mk H; clear H; go_enter Try.func53, Try.ntmps53
  go_wp2
  repeat (go_quiet (fail); try go_wp2)
  go_loopg [5] k (fun kq v5 w' => ∃ (aj : Int), v5 = .int .i64 aj ∧ Ae (Cf.l0 kq l0 l1 aj = some r) ∧ Ae (kq ≤ k) ∧ Drawn0 w w')
  case atStart => exact ⟨(0), (by first | rfl | (simp; done) | (simp [*]; done)), H', ⟨Nat.le_refl _⟩, by repeat (first | exact Drawn0.refl _ | apply Drawn0.step)⟩
  case round =>
   clear H'; (try clear c1); (try clear p2); (try clear c3); (try clear aW); (try clear bm); (try clear bM); obtain ⟨aj, rfl, HA, HK1, ⟨m1, rfl⟩⟩ := hrel; cases gk with
   | zero => exact absurd HA.out (by simp [Cf.l0])
   | succ k1 =>
    have H := HA.out; clear HA
    simp only [Cf.l0] at H
    by_cases c4 : aj < (l0.length : Int)
    ·rw [if_pos c4] at H
     have az : decide (aj < (l0.length : Int)) = true := decide_eq_true c4; clear c4
     by_cases c5 : 0 ≤ aj
     ·rw [if_pos c5] at H
      have bN : decide (0 ≤ aj) = true := decide_eq_true c5; clear c5
      by_cases c6 : aj < (l1.length : Int)
      ·rw [if_pos c6] at H
       have bO : decide (aj < (l1.length : Int)) = true := decide_eq_true c6; clear c6
       by_cases c7 : (rd l0 aj) = (rd l1 aj)
       ·rw [if_pos c7] at H
        have cG : ((rd l0 aj) == (rd l1 aj)) = true := beq_iff_eq.mpr c7; have cH : ((rd l0 aj) != (rd l1 aj)) = false := bne_eq_false_iff_eq.mpr c7; clear c7; have H' := Ae.mk H; clear H; have aH : 0 ≤ (aj : Int) := of_decide_eq_true (by with_reducible assumption); have aI : aj < (l0.length : Int) := of_decide_eq_true (by with_reducible assumption); obtain ⟨bP, e106, bo⟩ := Kd.at_int HR0.out aj aH aI; cases e106; replace aH := eq_true aH; replace aI := eq_true aI; have aJ : 0 ≤ (aj : Int) := of_decide_eq_true (by with_reducible assumption); have aK : aj < (l1.length : Int) := of_decide_eq_true (by with_reducible assumption); obtain ⟨bQ, e107, bp⟩ := Kd.at_int HR1.out aj aJ aK; cases e107; replace aJ := eq_true aJ; replace aK := eq_true aK
        go_wp2
        repeat (go_quiet (fail); try go_wp2)
        go_roundg k1
        case measure => have := HK1.out; omega
        case rel => exact ⟨(wrap64 (aj + 1)), (by first | rfl | (simp; done) | (simp [*]; done)), H', ⟨by have := HK1.out; omega⟩, by repeat (first | exact Drawn0.refl _ | apply Drawn0.step)⟩
       ·rw [if_neg c7] at H
        have cG : ((rd l0 aj) == (rd l1 aj)) = false := beq_eq_false_iff_ne.mpr c7; have cH : ((rd l0 aj) != (rd l1 aj)) = true := bne_iff_ne.mpr c7; obtain rfl := Option.some.inj H; have aH : 0 ≤ (aj : Int) := of_decide_eq_true (by with_reducible assumption); have aI : aj < (l0.length : Int) := of_decide_eq_true (by with_reducible assumption); obtain ⟨bP, e106, bo⟩ := Kd.at_int HR0.out aj aH aI; cases e106; replace aH := eq_true aH; replace aI := eq_true aI; have aJ : 0 ≤ (aj : Int) := of_decide_eq_true (by with_reducible assumption); have aK : aj < (l1.length : Int) := of_decide_eq_true (by with_reducible assumption); obtain ⟨bQ, e107, bp⟩ := Kd.at_int HR1.out aj aJ aK; cases e107; replace aJ := eq_true aJ; replace aK := eq_true aK
        go_wp2
        repeat (go_quiet (fail); try go_wp2)
        go_ret
        exact ⟨by first | rfl | (simp; done) | (simp [*]; done), by repeat (first | exact Drawn0.refl _ | apply Drawn0.step)⟩
      ·rw [if_neg c6] at H
       exact absurd H (by simp)
     ·rw [if_neg c5] at H
      exact absurd H (by simp)
    ·rw [if_neg c4] at H
     have az : decide (aj < (l0.length : Int)) = false := decide_eq_false c4; clear c4; obtain rfl := Option.some.inj H
     go_wp2
     repeat (go_quiet (fail); try go_wp2)
     go_ret
     exact ⟨by first | rfl | (simp; done) | (simp [*]; done), by repeat (first | exact Drawn0.refl _ | apply Drawn0.step)⟩
 ·rw [if_neg c3] at H
  have aW : ((l0.length : Int) == (l1.length : Int)) = false := beq_eq_false_iff_ne.mpr c3; have bm : ((l0.length : Int) != (l1.length : Int)) = true := bne_iff_ne.mpr c3; have bM : (l0.length == l1.length) = false := by first | simpa using c3 | (simp at c3 ⊢; omega)
  obtain rfl := Option.some.inj H; go_enter Try.func53, Try.ntmps53
  go_wp2
  repeat (go_quiet (fail); try go_wp2)
  go_ret
  exact ⟨by first | rfl | (simp; done) | (simp [*]; done), by repeat (first | exact Drawn0.refl _ | apply Drawn0.step)⟩

def C7.f (k : Nat) (aa : Int) (ab : Int) (ac : List Int) (au : Int) (av : Int) (aw : List Int) : Option (Bool) := if aa = au then (if ab = av then ((Cf.f k ac aw).bind fun bc => (some bc)) else (some false)) else (some false)
set_option maxHeartbeats 8000000 in
set_option maxRecDepth 100000 in
theorem C7.calls (k : Nat) (aa : Int) (ab : Int) (ag : Option Addr) (ah : Nat) (ac : List Int) (au : Int) (av : Int) (aA : Option Addr) (aC : Nat) (aw : List Int) (r : Bool) (w : World) (ax : Kd.C (Kd.int .u32) w ag ac.length ac) (ay : ac.length ≤ ah) (bq : Kd.C (Kd.int .u32) w aA aw.length aw) (br : aw.length ≤ aC) (h : C7.f k aa ab ac au av aw = some r) :
  Calls Try.prog 15 #[.agg #[.int .i64 aa, .int .i64 ab, .slice ag ac.length ah], .agg #[.int .i64 au, .int .i64 av, .slice aA aw.length aC]] w fun e w' => e = .returned (.bool r) ∧ Below w.heap.size w w' := by
 have hu24 := Try.underlying24; have bd := Ae.mk ax; have bf := Ae.mk ay; clear ax ay; have bR := Ae.mk bq; have bS := Ae.mk br; clear bq br; have HB := Ae.mk (Below.refl w.heap.size w); have H : (if aa = au then (if ab = av then ((Cf.f k ac aw).bind fun bc => (some bc)) else (some false)) else (some false)) = some r := h; clear h
 by_cases c3 : aa = au
 ·rw [if_pos c3] at H
  have aW : (aa == au) = true := beq_iff_eq.mpr c3; have bm : (aa != au) = false := bne_eq_false_iff_eq.mpr c3; clear c3
  by_cases c4 : ab = av
  ·rw [if_pos c4] at H
   have az : (ab == av) = true := beq_iff_eq.mpr c4; have bg : (ab != av) = false := bne_eq_false_iff_eq.mpr c4; clear c4; replace H := Option.bind_eq_some_iff.mp H; obtain ⟨bc, A50, H⟩ := H
   try dsimp only at H
   have A5 := Ae.mk A50; clear A50; obtain rfl := Option.some.inj H; go_enter Try.func15, Try.ntmps15
   go_wp2_with (first | ((with_reducible refine Bq (N := 2) rfl ?_); refine Bo ?hg (N := 2) ?hd (cs := #[.int .i64 aa, .int .i64 ab, .slice ag ac.length ah]) (t := 24) ?hr ?_; (case hd => rfl); (case hg => rfl); (case hr => first | (go_simp; done) | (go_simp; rfl)); intro ae hg w6 hbox hb; have af := Ae.mk (hbox); have bs := Ae.mk ((by rw [hg]; exact (Aq (lU HB.out)) : w.heap.size ≤ ae)); have ap := Ae.mk ((by rw [hg]; exact (Aq (lU HB.out)) : w.heap.size ≤ ae)); replace HB := Ae.mk (At (lU HB.out) hb); clear hb hbox hg) | ((with_reducible refine Bq (N := 3) rfl ?_); refine Bo ?hg (N := 3) ?hd (cs := #[.int .i64 au, .int .i64 av, .slice aA aw.length aC]) (t := 24) ?hr ?_; (case hd => rfl); (case hg => rfl); (case hr => first | (go_simp; done) | (go_simp; rfl)); intro ai hg w7 hbox hb; have ak := Ae.mk (hbox); have bu := Ae.mk ((by rw [hg]; exact (Aq (by repeat (first | (with_reducible first | exact HB.out | apply Ah | apply Aj | apply Ak | refine Ai ?_ ap.out) | exact HB.out))) : w.heap.size ≤ ai)); have aD := Ae.mk ((by rw [hg]; exact (Aq (by repeat (first | (with_reducible first | exact HB.out | apply Ah | apply Aj | apply Ak | refine Ai ?_ ap.out) | exact HB.out))) : w.heap.size ≤ ai)); replace HB := Ae.mk (At (by repeat (first | (with_reducible first | exact HB.out | apply Ah | apply Aj | apply Ak | refine Ai ?_ ap.out) | exact HB.out)) hb); have aq := Ae.mk ((by rw [hg]; exact Nat.ne_of_lt (Ba (g := ae) (o := .cells #[.int .i64 aa, .int .i64 ab, .slice ag ac.length ah] 24 (0, 0)) (by exact bU <| af.out)) : ae ≠ ai)); have ar := Ae.mk ((by rw [hg]; exact Nat.ne_of_gt (Ba (g := ae) (o := .cells #[.int .i64 aa, .int .i64 ab, .slice ag ac.length ah] 24 (0, 0)) (by exact bU <| af.out)) : ai ≠ ae)); replace af := Ae.mk (Ao (g := ae) (o := .cells #[.int .i64 aa, .int .i64 ab, .slice ag ac.length ah] 24 (0, 0)) (by exact bU <| af.out) hb); clear hb hbox hg; have cS := aq.out; have cU := ar.out; have cI : w7.cell? ⟨ae, 0, none⟩ = some (.int .i64 aa) := (Af af.out 0).trans rfl; have cJ : w7.cell? ⟨ae, 1, none⟩ = some (.int .i64 ab) := (Af af.out 1).trans rfl; have cK : w7.cell? ⟨ae, 2, none⟩ = some (.slice ag ac.length ah) := (Af af.out 2).trans rfl; have cL := Ag af.out 0; have cM := Ag af.out 1; have cN := Ag af.out 2; have aM : w7.cell? ⟨ai, 0, none⟩ = some (.int .i64 au) := (Af ak.out 0).trans rfl; have aN : w7.cell? ⟨ai, 1, none⟩ = some (.int .i64 av) := (Af ak.out 1).trans rfl; have aQ : w7.cell? ⟨ai, 2, none⟩ = some (.slice aA aw.length aC) := (Af ak.out 2).trans rfl; have aT := Ag ak.out 0; have aU := Ag ak.out 1; have aV := Ag ak.out 2) | (go_at_call 53; (with_reducible refine (Cf.calls k _ _ ac _ _ aw bc _ ?side1 ?side2 ?side3 ?side4 A5.out).mono ?_); (case side1 => repeat (first | exact (Kd.Bw bd.out HB.out) | (with_reducible refine Kd.Bv ?_ _) | (with_reducible refine Kd.Cb ?_ _) | (with_reducible refine Kd.Cg ?_))); (case side2 => exact bf.out); (case side3 => repeat (first | exact (Kd.Bw bR.out HB.out) | (with_reducible refine Kd.Bv ?_ _) | (with_reducible refine Kd.Cb ?_ _) | (with_reducible refine Kd.Cg ?_))); (case side4 => exact bS.out); rintro e w' ⟨rfl, ⟨nd, rfl⟩⟩))
   go_ret
   exact ⟨by first | rfl | (simp [Bc, Bb] <;> rfl) | (simp [*, Bc, Bb] <;> rfl), by repeat (first | (with_reducible first | exact HB.out | apply Ah | apply Aj | apply Ak | refine Ai ?_ ap.out | refine Ai ?_ aD.out) | exact HB.out)⟩
  ·rw [if_neg c4] at H
   have az : (ab == av) = false := beq_eq_false_iff_ne.mpr c4; have bg : (ab != av) = true := bne_iff_ne.mpr c4; obtain rfl := Option.some.inj H; go_enter Try.func15, Try.ntmps15
   go_wp2_with (first | ((with_reducible refine Bq (N := 2) rfl ?_); refine Bo ?hg (N := 2) ?hd (cs := #[.int .i64 aa, .int .i64 ab, .slice ag ac.length ah]) (t := 24) ?hr ?_; (case hd => rfl); (case hg => rfl); (case hr => first | (go_simp; done) | (go_simp; rfl)); intro ae hg w11 hbox hb; have af := Ae.mk (hbox); have bs := Ae.mk ((by rw [hg]; exact (Aq (lU HB.out)) : w.heap.size ≤ ae)); have ap := Ae.mk ((by rw [hg]; exact (Aq (lU HB.out)) : w.heap.size ≤ ae)); replace HB := Ae.mk (At (lU HB.out) hb); clear hb hbox hg) | ((with_reducible refine Bq (N := 3) rfl ?_); refine Bo ?hg (N := 3) ?hd (cs := #[.int .i64 au, .int .i64 av, .slice aA aw.length aC]) (t := 24) ?hr ?_; (case hd => rfl); (case hg => rfl); (case hr => first | (go_simp; done) | (go_simp; rfl)); intro ai hg w12 hbox hb; have ak := Ae.mk (hbox); have bu := Ae.mk ((by rw [hg]; exact (Aq (by repeat (first | (with_reducible first | exact HB.out | apply Ah | apply Aj | apply Ak | refine Ai ?_ ap.out) | exact HB.out))) : w.heap.size ≤ ai)); have aD := Ae.mk ((by rw [hg]; exact (Aq (by repeat (first | (with_reducible first | exact HB.out | apply Ah | apply Aj | apply Ak | refine Ai ?_ ap.out) | exact HB.out))) : w.heap.size ≤ ai)); replace HB := Ae.mk (At (by repeat (first | (with_reducible first | exact HB.out | apply Ah | apply Aj | apply Ak | refine Ai ?_ ap.out) | exact HB.out)) hb); have aq := Ae.mk ((by rw [hg]; exact Nat.ne_of_lt (Ba (g := ae) (o := .cells #[.int .i64 aa, .int .i64 ab, .slice ag ac.length ah] 24 (0, 0)) (by exact bU <| af.out)) : ae ≠ ai)); have ar := Ae.mk ((by rw [hg]; exact Nat.ne_of_gt (Ba (g := ae) (o := .cells #[.int .i64 aa, .int .i64 ab, .slice ag ac.length ah] 24 (0, 0)) (by exact bU <| af.out)) : ai ≠ ae)); replace af := Ae.mk (Ao (g := ae) (o := .cells #[.int .i64 aa, .int .i64 ab, .slice ag ac.length ah] 24 (0, 0)) (by exact bU <| af.out) hb); clear hb hbox hg; have cO := aq.out; have cP := ar.out; have bT : w12.cell? ⟨ae, 0, none⟩ = some (.int .i64 aa) := (Af af.out 0).trans rfl; have bV : w12.cell? ⟨ae, 1, none⟩ = some (.int .i64 ab) := (Af af.out 1).trans rfl; have bW : w12.cell? ⟨ae, 2, none⟩ = some (.slice ag ac.length ah) := (Af af.out 2).trans rfl; have bX := Ag af.out 0; have bY := Ag af.out 1; have bZ := Ag af.out 2; have b4 : w12.cell? ⟨ai, 0, none⟩ = some (.int .i64 au) := (Af ak.out 0).trans rfl; have b5 : w12.cell? ⟨ai, 1, none⟩ = some (.int .i64 av) := (Af ak.out 1).trans rfl; have b6 : w12.cell? ⟨ai, 2, none⟩ = some (.slice aA aw.length aC) := (Af ak.out 2).trans rfl; have b7 := Ag ak.out 0; have b8 := Ag ak.out 1; have b9 := Ag ak.out 2))
   go_ret
   exact ⟨by first | rfl | (simp [Bc, Bb] <;> rfl) | (simp [*, Bc, Bb] <;> rfl), by repeat (first | (with_reducible first | exact HB.out | apply Ah | apply Aj | apply Ak | refine Ai ?_ ap.out | refine Ai ?_ aD.out) | exact HB.out)⟩
 ·rw [if_neg c3] at H
  have aW : (aa == au) = false := beq_eq_false_iff_ne.mpr c3; have bm : (aa != au) = true := bne_iff_ne.mpr c3; obtain rfl := Option.some.inj H; go_enter Try.func15, Try.ntmps15
  go_wp2_with (first | ((with_reducible refine Bq (N := 2) rfl ?_); refine Bo ?hg (N := 2) ?hd (cs := #[.int .i64 aa, .int .i64 ab, .slice ag ac.length ah]) (t := 24) ?hr ?_; (case hd => rfl); (case hg => rfl); (case hr => first | (go_simp; done) | (go_simp; rfl)); intro ae hg w16 hbox hb; have af := Ae.mk (hbox); have bs := Ae.mk ((by rw [hg]; exact (Aq (lU HB.out)) : w.heap.size ≤ ae)); have ap := Ae.mk ((by rw [hg]; exact (Aq (lU HB.out)) : w.heap.size ≤ ae)); replace HB := Ae.mk (At (lU HB.out) hb); clear hb hbox hg) | ((with_reducible refine Bq (N := 3) rfl ?_); refine Bo ?hg (N := 3) ?hd (cs := #[.int .i64 au, .int .i64 av, .slice aA aw.length aC]) (t := 24) ?hr ?_; (case hd => rfl); (case hg => rfl); (case hr => first | (go_simp; done) | (go_simp; rfl)); intro ai hg w17 hbox hb; have ak := Ae.mk (hbox); have bu := Ae.mk ((by rw [hg]; exact (Aq (by repeat (first | (with_reducible first | exact HB.out | apply Ah | apply Aj | apply Ak | refine Ai ?_ ap.out) | exact HB.out))) : w.heap.size ≤ ai)); have aD := Ae.mk ((by rw [hg]; exact (Aq (by repeat (first | (with_reducible first | exact HB.out | apply Ah | apply Aj | apply Ak | refine Ai ?_ ap.out) | exact HB.out))) : w.heap.size ≤ ai)); replace HB := Ae.mk (At (by repeat (first | (with_reducible first | exact HB.out | apply Ah | apply Aj | apply Ak | refine Ai ?_ ap.out) | exact HB.out)) hb); have aq := Ae.mk ((by rw [hg]; exact Nat.ne_of_lt (Ba (g := ae) (o := .cells #[.int .i64 aa, .int .i64 ab, .slice ag ac.length ah] 24 (0, 0)) (by exact bU <| af.out)) : ae ≠ ai)); have ar := Ae.mk ((by rw [hg]; exact Nat.ne_of_gt (Ba (g := ae) (o := .cells #[.int .i64 aa, .int .i64 ab, .slice ag ac.length ah] 24 (0, 0)) (by exact bU <| af.out)) : ai ≠ ae)); replace af := Ae.mk (Ao (g := ae) (o := .cells #[.int .i64 aa, .int .i64 ab, .slice ag ac.length ah] 24 (0, 0)) (by exact bU <| af.out) hb); clear hb hbox hg; have cQ := aq.out; have cR := ar.out; have cg : w17.cell? ⟨ae, 0, none⟩ = some (.int .i64 aa) := (Af af.out 0).trans rfl; have cp : w17.cell? ⟨ae, 1, none⟩ = some (.int .i64 ab) := (Af af.out 1).trans rfl; have cr : w17.cell? ⟨ae, 2, none⟩ = some (.slice ag ac.length ah) := (Af af.out 2).trans rfl; have cu := Ag af.out 0; have cx := Ag af.out 1; have cy := Ag af.out 2; have cz : w17.cell? ⟨ai, 0, none⟩ = some (.int .i64 au) := (Af ak.out 0).trans rfl; have cA : w17.cell? ⟨ai, 1, none⟩ = some (.int .i64 av) := (Af ak.out 1).trans rfl; have cB : w17.cell? ⟨ai, 2, none⟩ = some (.slice aA aw.length aC) := (Af ak.out 2).trans rfl; have cC := Ag ak.out 0; have cD := Ag ak.out 1; have cE := Ag ak.out 2))
  go_ret
  exact ⟨by first | rfl | (simp [Bc, Bb] <;> rfl) | (simp [*, Bc, Bb] <;> rfl), by repeat (first | (with_reducible first | exact HB.out | apply Ah | apply Aj | apply Ak | refine Ai ?_ ap.out | refine Ai ?_ aD.out) | exact HB.out)⟩

def Ci.f (a0 : Int) (a1 : Int) : Option (Bool) := if a0 ≥ 1 then (if a0 ≤ 1024 then (if a1 ≥ 1 then (if a1 ≤ 1024 then (some (decide ((wrap64 (a0 * a1)) ≤ 65536))) else (some false)) else (some false)) else (some false)) else (some false)
set_option maxHeartbeats 8000000 in
set_option maxRecDepth 100000 in
theorem Ci.calls (a0 : Int) (a1 : Int) (r : Bool) (w : World) (h : Ci.f a0 a1 = some r) :
  Calls Try.prog 55 #[.int .i64 a0, .int .i64 a1] w fun e w' => e = .returned (.bool r) ∧ Drawn0 w w' := by
 have H : (if a0 ≥ 1 then (if a0 ≤ 1024 then (if a1 ≥ 1 then (if a1 ≤ 1024 then (some (decide ((wrap64 (a0 * a1)) ≤ 65536))) else (some false)) else (some false)) else (some false)) else (some false)) = some r := h; clear h
 by_cases c3 : a0 ≥ 1
 ·rw [if_pos c3] at H
  have aW : decide (1 ≤ a0) = true := decide_eq_true c3; clear c3
  by_cases c4 : a0 ≤ 1024
  ·rw [if_pos c4] at H
   have az : decide (a0 ≤ 1024) = true := decide_eq_true c4; clear c4
   by_cases c5 : a1 ≥ 1
   ·rw [if_pos c5] at H
    have bN : decide (1 ≤ a1) = true := decide_eq_true c5; clear c5
    by_cases c6 : a1 ≤ 1024
    ·rw [if_pos c6] at H
     have bO : decide (a1 ≤ 1024) = true := decide_eq_true c6; clear c6; obtain rfl := Option.some.inj H; go_enter Try.func55, Try.ntmps55
     go_wp2
     go_ret
     exact ⟨by first | rfl | (simp; done) | (simp [*]; done), by repeat (first | exact Drawn0.refl _ | apply Drawn0.step)⟩
    ·rw [if_neg c6] at H
     have bO : decide (a1 ≤ 1024) = false := decide_eq_false c6; clear c6; obtain rfl := Option.some.inj H; go_enter Try.func55, Try.ntmps55
     go_wp2
     go_ret
     exact ⟨by first | rfl | (simp; done) | (simp [*]; done), by repeat (first | exact Drawn0.refl _ | apply Drawn0.step)⟩
   ·rw [if_neg c5] at H
    have bN : decide (1 ≤ a1) = false := decide_eq_false c5; clear c5; obtain rfl := Option.some.inj H; go_enter Try.func55, Try.ntmps55
    go_wp2
    go_ret
    exact ⟨by first | rfl | (simp; done) | (simp [*]; done), by repeat (first | exact Drawn0.refl _ | apply Drawn0.step)⟩
  ·rw [if_neg c4] at H
   have az : decide (a0 ≤ 1024) = false := decide_eq_false c4; clear c4; obtain rfl := Option.some.inj H; go_enter Try.func55, Try.ntmps55
   go_wp2
   go_ret
   exact ⟨by first | rfl | (simp; done) | (simp [*]; done), by repeat (first | exact Drawn0.refl _ | apply Drawn0.step)⟩
 ·rw [if_neg c3] at H
  have aW : decide (1 ≤ a0) = false := decide_eq_false c3; clear c3; obtain rfl := Option.some.inj H; go_enter Try.func55, Try.ntmps55
  go_wp2
  go_ret
  exact ⟨by first | rfl | (simp; done) | (simp [*]; done), by repeat (first | exact Drawn0.refl _ | apply Drawn0.step)⟩

def Cn.f (aa : Int) (ab : Int) (ac : List Bool) : Option (Int) := (Ci.f aa ab).bind fun bh => (if bh = true then (if (ac.length : Int) = (wrap64 (aa * ab)) then (some 0) else (some 301)) else (some 300))
set_option maxHeartbeats 8000000 in
set_option maxRecDepth 100000 in
theorem Cn.calls (aa : Int) (ab : Int) (ag : Option Addr) (ah : Nat) (ac : List Bool) (r : Int) (w : World) (ax : Kd.C Kd.bool w ag ac.length ac) (ay : ac.length ≤ ah) (h : Cn.f aa ab ac = some r) :
  Calls Try.prog 17 #[.agg #[.int .i64 aa, .int .i64 ab, .slice ag ac.length ah]] w fun e w' => e = .returned (.int .i64 r) ∧ Below w.heap.size w w' := by
 have hu27 := Try.underlying27; have bd := Ae.mk ax; have bf := Ae.mk ay; clear ax ay; have HB := Ae.mk (Below.refl w.heap.size w); have H : ((Ci.f aa ab).bind fun bh => (if bh = true then (if (ac.length : Int) = (wrap64 (aa * ab)) then (some 0) else (some 301)) else (some 300))) = some r := h; clear h; replace H := Option.bind_eq_some_iff.mp H; obtain ⟨bh, A20, H⟩ := H
 try dsimp only at H
 have A2 := Ae.mk A20; clear A20
 by_cases c3 : bh = true
 ·subst c3
  have H1 := H; rw [if_pos rfl] at H1; clear H; have H := H1; clear H1
  by_cases c4 : (ac.length : Int) = (wrap64 (aa * ab))
  ·rw [if_pos c4] at H
   have az : ((ac.length : Int) == (wrap64 (aa * ab))) = true := beq_iff_eq.mpr c4; have bg : ((ac.length : Int) != (wrap64 (aa * ab))) = false := bne_eq_false_iff_eq.mpr c4; clear c4; obtain rfl := Option.some.inj H; go_enter Try.func17, Try.ntmps17
   go_wp2_with (first | ((with_reducible refine Bq (N := 1) rfl ?_); refine Bo ?hg (N := 1) ?hd (cs := #[.int .i64 aa, .int .i64 ab, .slice ag ac.length ah]) (t := 27) ?hr ?_; (case hd => rfl); (case hg => rfl); (case hr => first | (go_simp; done) | (go_simp; rfl)); intro an hg w5 hbox hb; have al := Ae.mk (hbox); have bv := Ae.mk ((by rw [hg]; exact (Aq (lU HB.out)) : w.heap.size ≤ an)); have aE := Ae.mk ((by rw [hg]; exact (Aq (lU HB.out)) : w.heap.size ≤ an)); replace HB := Ae.mk (At (lU HB.out) hb); clear hb hbox hg; have bz : w5.cell? ⟨an, 0, none⟩ = some (.int .i64 aa) := (Af al.out 0).trans rfl; have bB : w5.cell? ⟨an, 1, none⟩ = some (.int .i64 ab) := (Af al.out 1).trans rfl; have bC : w5.cell? ⟨an, 2, none⟩ = some (.slice ag ac.length ah) := (Af al.out 2).trans rfl; have bD := Ag al.out 0; have bE := Ag al.out 1; have bF := Ag al.out 2) | ((with_reducible refine Bp (f := 55) rfl ?_); refine gL (some 7) Try.func55 #[.int .i64 aa, .int .i64 ab] ?_; (with_reducible refine (Ci.calls aa ab true _ A2.out).mono ?_); rintro e w' ⟨rfl, ⟨nd, rfl⟩⟩; refine ⟨_, rfl, ?_⟩))
   go_ret
   exact ⟨by first | rfl | (simp [Bc, Bb] <;> rfl) | (simp [*, Bc, Bb] <;> rfl), by repeat (first | (with_reducible first | exact HB.out | apply Ah | apply Aj | apply Ak | refine Ai ?_ aE.out) | exact HB.out)⟩
  ·rw [if_neg c4] at H
   have az : ((ac.length : Int) == (wrap64 (aa * ab))) = false := beq_eq_false_iff_ne.mpr c4; have bg : ((ac.length : Int) != (wrap64 (aa * ab))) = true := bne_iff_ne.mpr c4; obtain rfl := Option.some.inj H; go_enter Try.func17, Try.ntmps17
   go_wp2_with (first | ((with_reducible refine Bq (N := 1) rfl ?_); refine Bo ?hg (N := 1) ?hd (cs := #[.int .i64 aa, .int .i64 ab, .slice ag ac.length ah]) (t := 27) ?hr ?_; (case hd => rfl); (case hg => rfl); (case hr => first | (go_simp; done) | (go_simp; rfl)); intro an hg w7 hbox hb; have al := Ae.mk (hbox); have bv := Ae.mk ((by rw [hg]; exact (Aq (lU HB.out)) : w.heap.size ≤ an)); have aE := Ae.mk ((by rw [hg]; exact (Aq (lU HB.out)) : w.heap.size ≤ an)); replace HB := Ae.mk (At (lU HB.out) hb); clear hb hbox hg; have bG : w7.cell? ⟨an, 0, none⟩ = some (.int .i64 aa) := (Af al.out 0).trans rfl; have bH : w7.cell? ⟨an, 1, none⟩ = some (.int .i64 ab) := (Af al.out 1).trans rfl; have bI : w7.cell? ⟨an, 2, none⟩ = some (.slice ag ac.length ah) := (Af al.out 2).trans rfl; have bJ := Ag al.out 0; have bK := Ag al.out 1; have bL := Ag al.out 2) | ((with_reducible refine Bp (f := 55) rfl ?_); refine gL (some 7) Try.func55 #[.int .i64 aa, .int .i64 ab] ?_; (with_reducible refine (Ci.calls aa ab true _ A2.out).mono ?_); rintro e w' ⟨rfl, ⟨nd, rfl⟩⟩; refine ⟨_, rfl, ?_⟩))
   go_ret
   exact ⟨by first | rfl | (simp [Bc, Bb] <;> rfl) | (simp [*, Bc, Bb] <;> rfl), by repeat (first | (with_reducible first | exact HB.out | apply Ah | apply Aj | apply Ak | refine Ai ?_ aE.out) | exact HB.out)⟩
 ·replace c3 := Bool.eq_false_iff.mpr c3
  subst c3; have H1 := H; rw [if_neg (show ¬ (false = true) by decide)] at H1; clear H; have H := H1; clear H1; obtain rfl := Option.some.inj H; go_enter Try.func17, Try.ntmps17
  go_wp2_with (first | ((with_reducible refine Bq (N := 1) rfl ?_); refine Bo ?hg (N := 1) ?hd (cs := #[.int .i64 aa, .int .i64 ab, .slice ag ac.length ah]) (t := 27) ?hr ?_; (case hd => rfl); (case hg => rfl); (case hr => first | (go_simp; done) | (go_simp; rfl)); intro an hg w9 hbox hb; have al := Ae.mk (hbox); have bv := Ae.mk ((by rw [hg]; exact (Aq (lU HB.out)) : w.heap.size ≤ an)); have aE := Ae.mk ((by rw [hg]; exact (Aq (lU HB.out)) : w.heap.size ≤ an)); replace HB := Ae.mk (At (lU HB.out) hb); clear hb hbox hg; have aM : w9.cell? ⟨an, 0, none⟩ = some (.int .i64 aa) := (Af al.out 0).trans rfl; have aN : w9.cell? ⟨an, 1, none⟩ = some (.int .i64 ab) := (Af al.out 1).trans rfl; have aQ : w9.cell? ⟨an, 2, none⟩ = some (.slice ag ac.length ah) := (Af al.out 2).trans rfl; have aT := Ag al.out 0; have aU := Ag al.out 1; have aV := Ag al.out 2) | ((with_reducible refine Bp (f := 55) rfl ?_); refine gL (some 7) Try.func55 #[.int .i64 aa, .int .i64 ab] ?_; (with_reducible refine (Ci.calls aa ab false _ A2.out).mono ?_); rintro e w' ⟨rfl, ⟨nd, rfl⟩⟩; refine ⟨_, rfl, ?_⟩))
  go_ret
  exact ⟨by first | rfl | (simp [Bc, Bb] <;> rfl) | (simp [*, Bc, Bb] <;> rfl), by repeat (first | (with_reducible first | exact HB.out | apply Ah | apply Aj | apply Ak | refine Ai ?_ aE.out) | exact HB.out)⟩

def Cm.f (aa : Int) (ab : Int) (ac : List Int) : Option (Int) := (Ci.f aa ab).bind fun bj => (if bj = true then (if (ac.length : Int) = (wrap64 (aa * ab)) then (some 0) else (some 51)) else (some 50))
set_option maxHeartbeats 8000000 in
set_option maxRecDepth 100000 in
theorem Cm.calls (aa : Int) (ab : Int) (ag : Option Addr) (ah : Nat) (ac : List Int) (r : Int) (w : World) (ax : Kd.C (Kd.int .u32) w ag ac.length ac) (ay : ac.length ≤ ah) (h : Cm.f aa ab ac = some r) :
  Calls Try.prog 47 #[.agg #[.int .i64 aa, .int .i64 ab, .slice ag ac.length ah]] w fun e w' => e = .returned (.int .i64 r) ∧ Below w.heap.size w w' := by
 have hu24 := Try.underlying24; have bd := Ae.mk ax; have bf := Ae.mk ay; clear ax ay; have HB := Ae.mk (Below.refl w.heap.size w); have H : ((Ci.f aa ab).bind fun bj => (if bj = true then (if (ac.length : Int) = (wrap64 (aa * ab)) then (some 0) else (some 51)) else (some 50))) = some r := h; clear h; replace H := Option.bind_eq_some_iff.mp H; obtain ⟨bj, A20, H⟩ := H
 try dsimp only at H
 have A2 := Ae.mk A20; clear A20
 by_cases c3 : bj = true
 ·subst c3
  have H1 := H; rw [if_pos rfl] at H1; clear H; have H := H1; clear H1
  by_cases c4 : (ac.length : Int) = (wrap64 (aa * ab))
  ·rw [if_pos c4] at H
   have az : ((ac.length : Int) == (wrap64 (aa * ab))) = true := beq_iff_eq.mpr c4; have bg : ((ac.length : Int) != (wrap64 (aa * ab))) = false := bne_eq_false_iff_eq.mpr c4; clear c4; obtain rfl := Option.some.inj H; go_enter Try.func47, Try.ntmps47
   go_wp2_with (first | ((with_reducible refine Bq (N := 1) rfl ?_); refine Bo ?hg (N := 1) ?hd (cs := #[.int .i64 aa, .int .i64 ab, .slice ag ac.length ah]) (t := 24) ?hr ?_; (case hd => rfl); (case hg => rfl); (case hr => first | (go_simp; done) | (go_simp; rfl)); intro ao hg w5 hbox hb; have am := Ae.mk (hbox); have bw := Ae.mk ((by rw [hg]; exact (Aq (lU HB.out)) : w.heap.size ≤ ao)); have aG := Ae.mk ((by rw [hg]; exact (Aq (lU HB.out)) : w.heap.size ≤ ao)); replace HB := Ae.mk (At (lU HB.out) hb); clear hb hbox hg; have bz : w5.cell? ⟨ao, 0, none⟩ = some (.int .i64 aa) := (Af am.out 0).trans rfl; have bB : w5.cell? ⟨ao, 1, none⟩ = some (.int .i64 ab) := (Af am.out 1).trans rfl; have bC : w5.cell? ⟨ao, 2, none⟩ = some (.slice ag ac.length ah) := (Af am.out 2).trans rfl; have bD := Ag am.out 0; have bE := Ag am.out 1; have bF := Ag am.out 2) | ((with_reducible refine Bp (f := 55) rfl ?_); refine gL (some 7) Try.func55 #[.int .i64 aa, .int .i64 ab] ?_; (with_reducible refine (Ci.calls aa ab true _ A2.out).mono ?_); rintro e w' ⟨rfl, ⟨nd, rfl⟩⟩; refine ⟨_, rfl, ?_⟩))
   go_ret
   exact ⟨by first | rfl | (simp [Bc, Bb] <;> rfl) | (simp [*, Bc, Bb] <;> rfl), by repeat (first | (with_reducible first | exact HB.out | apply Ah | apply Aj | apply Ak | refine Ai ?_ aG.out) | exact HB.out)⟩
  ·rw [if_neg c4] at H
   have az : ((ac.length : Int) == (wrap64 (aa * ab))) = false := beq_eq_false_iff_ne.mpr c4; have bg : ((ac.length : Int) != (wrap64 (aa * ab))) = true := bne_iff_ne.mpr c4; obtain rfl := Option.some.inj H; go_enter Try.func47, Try.ntmps47
   go_wp2_with (first | ((with_reducible refine Bq (N := 1) rfl ?_); refine Bo ?hg (N := 1) ?hd (cs := #[.int .i64 aa, .int .i64 ab, .slice ag ac.length ah]) (t := 24) ?hr ?_; (case hd => rfl); (case hg => rfl); (case hr => first | (go_simp; done) | (go_simp; rfl)); intro ao hg w7 hbox hb; have am := Ae.mk (hbox); have bw := Ae.mk ((by rw [hg]; exact (Aq (lU HB.out)) : w.heap.size ≤ ao)); have aG := Ae.mk ((by rw [hg]; exact (Aq (lU HB.out)) : w.heap.size ≤ ao)); replace HB := Ae.mk (At (lU HB.out) hb); clear hb hbox hg; have bG : w7.cell? ⟨ao, 0, none⟩ = some (.int .i64 aa) := (Af am.out 0).trans rfl; have bH : w7.cell? ⟨ao, 1, none⟩ = some (.int .i64 ab) := (Af am.out 1).trans rfl; have bI : w7.cell? ⟨ao, 2, none⟩ = some (.slice ag ac.length ah) := (Af am.out 2).trans rfl; have bJ := Ag am.out 0; have bK := Ag am.out 1; have bL := Ag am.out 2) | ((with_reducible refine Bp (f := 55) rfl ?_); refine gL (some 7) Try.func55 #[.int .i64 aa, .int .i64 ab] ?_; (with_reducible refine (Ci.calls aa ab true _ A2.out).mono ?_); rintro e w' ⟨rfl, ⟨nd, rfl⟩⟩; refine ⟨_, rfl, ?_⟩))
   go_ret
   exact ⟨by first | rfl | (simp [Bc, Bb] <;> rfl) | (simp [*, Bc, Bb] <;> rfl), by repeat (first | (with_reducible first | exact HB.out | apply Ah | apply Aj | apply Ak | refine Ai ?_ aG.out) | exact HB.out)⟩
 ·replace c3 := Bool.eq_false_iff.mpr c3
  subst c3; have H1 := H; rw [if_neg (show ¬ (false = true) by decide)] at H1; clear H; have H := H1; clear H1; obtain rfl := Option.some.inj H; go_enter Try.func47, Try.ntmps47
  go_wp2_with (first | ((with_reducible refine Bq (N := 1) rfl ?_); refine Bo ?hg (N := 1) ?hd (cs := #[.int .i64 aa, .int .i64 ab, .slice ag ac.length ah]) (t := 24) ?hr ?_; (case hd => rfl); (case hg => rfl); (case hr => first | (go_simp; done) | (go_simp; rfl)); intro ao hg w9 hbox hb; have am := Ae.mk (hbox); have bw := Ae.mk ((by rw [hg]; exact (Aq (lU HB.out)) : w.heap.size ≤ ao)); have aG := Ae.mk ((by rw [hg]; exact (Aq (lU HB.out)) : w.heap.size ≤ ao)); replace HB := Ae.mk (At (lU HB.out) hb); clear hb hbox hg; have aM : w9.cell? ⟨ao, 0, none⟩ = some (.int .i64 aa) := (Af am.out 0).trans rfl; have aN : w9.cell? ⟨ao, 1, none⟩ = some (.int .i64 ab) := (Af am.out 1).trans rfl; have aQ : w9.cell? ⟨ao, 2, none⟩ = some (.slice ag ac.length ah) := (Af am.out 2).trans rfl; have aT := Ag am.out 0; have aU := Ag am.out 1; have aV := Ag am.out 2) | ((with_reducible refine Bp (f := 55) rfl ?_); refine gL (some 7) Try.func55 #[.int .i64 aa, .int .i64 ab] ?_; (with_reducible refine (Ci.calls aa ab false _ A2.out).mono ?_); rintro e w' ⟨rfl, ⟨nd, rfl⟩⟩; refine ⟨_, rfl, ?_⟩))
  go_ret
  exact ⟨by first | rfl | (simp [Bc, Bb] <;> rfl) | (simp [*, Bc, Bb] <;> rfl), by repeat (first | (with_reducible first | exact HB.out | apply Ah | apply Aj | apply Ak | refine Ai ?_ aG.out) | exact HB.out)⟩

end Go.Proofs.Ytbfimplajocmmaa.PFC

