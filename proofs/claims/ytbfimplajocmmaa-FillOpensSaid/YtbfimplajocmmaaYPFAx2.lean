import Derived.Test.YtbfimplajocmmaaYUQ
import Derived.Test.YtbfimplajocmmaaYPRAx0
import Derived.Test.YtbfimplajocmmaaYH1
namespace Go.Proofs.Ytbfimplajocmmaa.PFA
open Go.RowKit Go.Proofs.YtbfimplajocmmaaW.PrintWords Go.Proofs.YtbfimplajocmmaaW.PrintLast Go.Proofs.YtbfimplajocmmaaW.PrintMore
attribute [local go_sem] max2_int min2_int max_two min_two max_three min_three max_four min_four
set_option linter.unusedVariables false
set_option linter.unusedSimpArgs false

def Aw.l0 : Nat → List Int → List Int → Int → Option (Bool)
 | 0, _, _, _ => none
 | k + 1, x0, x1, x5 => if x5 < (x0.length : Int) then (if 0 ≤ x5 then (if x5 < (x1.length : Int) then (if (rd x0 x5) = (rd x1 x5) then (Aw.l0 k x0 x1 (wrap64 (x5 + 1))) else (some false)) else (none)) else (none)) else (some true)
def Aw.f (k : Nat) (l0 : List Int) (l1 : List Int) : Option (Bool) := if (l0.length : Int) = (l1.length : Int) then (Aw.l0 k l0 l1 0) else (some false)
theorem Aw.mono_l : ∀ k, (∀ y0 y1 y2, LeO (Aw.l0 k y0 y1 y2) (Aw.l0 (k + 1) y0 y1 y2))
 | 0 => fun _ _ _ r h => by simp [Aw.l0] at h
 | k + 1 => by
  have ih0 := Aw.mono_l k
  ·intro y0 y1 y2
   unfold Aw.l0
   repeat' first
   | (with_reducible exact ih0 _ _ _)
   | (with_reducible exact LeO.refl _)
   | (with_reducible exact LeO.none _)
   | (with_reducible refine LeO.ite ?_ ?_)
   | (with_reducible refine LeO.bind ?_ (fun _ => ?_))
   | exact ih0 _ _ _
   | exact LeO.none _
   | refine LeO.ite ?_ ?_
   | refine LeO.bind ?_ (fun _ => ?_)
theorem Aw.mono : ∀ a0 a1 k, LeO (Aw.f k a0 a1) (Aw.f (k + 1) a0 a1) := by
 intro a0 a1 k; have ih0 := Aw.mono_l k; unfold Aw.f
 repeat' first
   | (with_reducible exact ih0 _ _ _)
   | (with_reducible exact LeO.refl _)
   | (with_reducible exact LeO.none _)
   | (with_reducible refine LeO.ite ?_ ?_)
   | (with_reducible refine LeO.bind ?_ (fun _ => ?_))
   | exact ih0 _ _ _
   | exact LeO.none _
   | refine LeO.ite ?_ ?_
   | refine LeO.bind ?_ (fun _ => ?_)
set_option maxHeartbeats 8000000 in
set_option maxRecDepth 100000 in
theorem Aw.calls (k : Nat) (A0 : Option Addr) (c0 : Nat) (l0 : List Int) (A1 : Option Addr) (c1 : Nat) (l1 : List Int) (r : Bool) (w : World) (hr0 : Kd.C (Kd.int .i64) w A0 l0.length l0) (hc0 : l0.length ≤ c0) (hr1 : Kd.C (Kd.int .i64) w A1 l1.length l1) (hc1 : l1.length ≤ c1) (h : Aw.f k l0 l1 = some r) :
  Calls Try.prog 40 #[.slice A0 l0.length c0, .slice A1 l1.length c1] w fun e w' => e = .returned (.bool r) ∧ Drawn0 w w' := by
 have HR0 := Ac.mk hr0; have HC0 := Ac.mk hc0; clear hr0 hc0; have HR1 := Ac.mk hr1; have HC1 := Ac.mk hc1; clear hr1 hc1; have H : (if (l0.length : Int) = (l1.length : Int) then (Aw.l0 k l0 l1 0) else (some false)) = some r := h; clear h
 by_cases c3 : (l0.length : Int) = (l1.length : Int)
 ·rw [if_pos c3] at H
  have bw : ((l0.length : Int) == (l1.length : Int)) = true := beq_iff_eq.mpr c3; have bT : ((l0.length : Int) != (l1.length : Int)) = false := bne_eq_false_iff_eq.mpr c3; have bV : (l0.length == l1.length) = true := by first | simpa using c3 | (simp at c3 ⊢; omega)
  clear c3; have H' := Ac.mk H; clear H; go_enter Try.func40, Try.ntmps40
  go_wp2
  repeat (go_quiet (fail); try go_wp2)
  go_loopg [5] k (fun kq v5 w' => ∃ (aq : Int), v5 = .int .i64 aq ∧ Ac (Aw.l0 kq l0 l1 aq = some r) ∧ Ac (kq ≤ k) ∧ Drawn0 w w')
  case atStart => exact ⟨(0), (by first | rfl | (simp; done) | (simp [*]; done)), H', ⟨Nat.le_refl _⟩, by repeat (first | exact Drawn0.refl _ | apply Drawn0.step)⟩
  case round =>
   clear H'; (try clear c1); (try clear p2); (try clear c3); (try clear bw); (try clear bT); (try clear bV); obtain ⟨aq, rfl, HA, HK1, ⟨m1, rfl⟩⟩ := hrel; cases gk with
   | zero => exact absurd HA.out (by simp [Aw.l0])
   | succ k1 =>
    have H := HA.out; clear HA
    simp only [Aw.l0] at H
    by_cases c4 : aq < (l0.length : Int)
    ·rw [if_pos c4] at H
     have aG : decide (aq < (l0.length : Int)) = true := decide_eq_true c4; clear c4
     by_cases c5 : 0 ≤ aq
     ·rw [if_pos c5] at H
      have bc : decide (0 ≤ aq) = true := decide_eq_true c5; clear c5
      by_cases c6 : aq < (l1.length : Int)
      ·rw [if_pos c6] at H
       have bW : decide (aq < (l1.length : Int)) = true := decide_eq_true c6; clear c6
       by_cases c7 : (rd l0 aq) = (rd l1 aq)
       ·rw [if_pos c7] at H
        have dq : ((rd l0 aq) == (rd l1 aq)) = true := beq_iff_eq.mpr c7; have dr : ((rd l0 aq) != (rd l1 aq)) = false := bne_eq_false_iff_eq.mpr c7; clear c7; have H' := Ac.mk H; clear H; have aN : 0 ≤ (aq : Int) := of_decide_eq_true (by with_reducible assumption); have aQ : aq < (l0.length : Int) := of_decide_eq_true (by with_reducible assumption); obtain ⟨bX, e101, bz⟩ := Kd.at_int HR0.out aq aN aQ; cases e101; replace aN := eq_true aN; replace aQ := eq_true aQ; have aT : 0 ≤ (aq : Int) := of_decide_eq_true (by with_reducible assumption); have aU : aq < (l1.length : Int) := of_decide_eq_true (by with_reducible assumption); obtain ⟨bY, e102, bB⟩ := Kd.at_int HR1.out aq aT aU; cases e102; replace aT := eq_true aT; replace aU := eq_true aU
        go_wp2
        repeat (go_quiet (fail); try go_wp2)
        go_roundg k1
        case measure => have := HK1.out; omega
        case rel => exact ⟨(wrap64 (aq + 1)), (by first | rfl | (simp; done) | (simp [*]; done)), H', ⟨by have := HK1.out; omega⟩, by repeat (first | exact Drawn0.refl _ | apply Drawn0.step)⟩
       ·rw [if_neg c7] at H
        have dq : ((rd l0 aq) == (rd l1 aq)) = false := beq_eq_false_iff_ne.mpr c7; have dr : ((rd l0 aq) != (rd l1 aq)) = true := bne_iff_ne.mpr c7; obtain rfl := Option.some.inj H; have aN : 0 ≤ (aq : Int) := of_decide_eq_true (by with_reducible assumption); have aQ : aq < (l0.length : Int) := of_decide_eq_true (by with_reducible assumption); obtain ⟨bX, e101, bz⟩ := Kd.at_int HR0.out aq aN aQ; cases e101; replace aN := eq_true aN; replace aQ := eq_true aQ; have aT : 0 ≤ (aq : Int) := of_decide_eq_true (by with_reducible assumption); have aU : aq < (l1.length : Int) := of_decide_eq_true (by with_reducible assumption); obtain ⟨bY, e102, bB⟩ := Kd.at_int HR1.out aq aT aU; cases e102; replace aT := eq_true aT; replace aU := eq_true aU
        go_wp2
        repeat (go_quiet (fail); try go_wp2)
        go_ret
        exact ⟨by first | rfl | (simp; done) | (simp [*]; done), by repeat (first | exact Drawn0.refl _ | apply Drawn0.step)⟩
      ·rw [if_neg c6] at H
       exact absurd H (by simp)
     ·rw [if_neg c5] at H
      exact absurd H (by simp)
    ·rw [if_neg c4] at H
     have aG : decide (aq < (l0.length : Int)) = false := decide_eq_false c4; clear c4; obtain rfl := Option.some.inj H
     go_wp2
     repeat (go_quiet (fail); try go_wp2)
     go_ret
     exact ⟨by first | rfl | (simp; done) | (simp [*]; done), by repeat (first | exact Drawn0.refl _ | apply Drawn0.step)⟩
 ·rw [if_neg c3] at H
  have bw : ((l0.length : Int) == (l1.length : Int)) = false := beq_eq_false_iff_ne.mpr c3; have bT : ((l0.length : Int) != (l1.length : Int)) = true := bne_iff_ne.mpr c3; have bV : (l0.length == l1.length) = false := by first | simpa using c3 | (simp at c3 ⊢; omega)
  obtain rfl := Option.some.inj H; go_enter Try.func40, Try.ntmps40
  go_wp2
  repeat (go_quiet (fail); try go_wp2)
  go_ret
  exact ⟨by first | rfl | (simp; done) | (simp [*]; done), by repeat (first | exact Drawn0.refl _ | apply Drawn0.step)⟩

def Cv.f (a0 : Int) (a1 : Int) : Option (Bool) := if a0 ≥ 1 then (if a1 ≥ 1 then (if a0 ≤ 1024 then (if a1 ≤ 1024 then (some (decide ((wrap64 (a0 * a1)) ≤ 65536))) else (some false)) else (some false)) else (some false)) else (some false)
set_option maxHeartbeats 8000000 in
set_option maxRecDepth 100000 in
theorem Cv.calls (a0 : Int) (a1 : Int) (r : Bool) (w : World) (h : Cv.f a0 a1 = some r) :
  Calls Try.prog 74 #[.int .i64 a0, .int .i64 a1] w fun e w' => e = .returned (.bool r) ∧ Drawn0 w w' := by
 have H : (if a0 ≥ 1 then (if a1 ≥ 1 then (if a0 ≤ 1024 then (if a1 ≤ 1024 then (some (decide ((wrap64 (a0 * a1)) ≤ 65536))) else (some false)) else (some false)) else (some false)) else (some false)) = some r := h; clear h
 by_cases c3 : a0 ≥ 1
 ·rw [if_pos c3] at H
  have bw : decide (1 ≤ a0) = true := decide_eq_true c3; clear c3
  by_cases c4 : a1 ≥ 1
  ·rw [if_pos c4] at H
   have aG : decide (1 ≤ a1) = true := decide_eq_true c4; clear c4
   by_cases c5 : a0 ≤ 1024
   ·rw [if_pos c5] at H
    have bc : decide (a0 ≤ 1024) = true := decide_eq_true c5; clear c5
    by_cases c6 : a1 ≤ 1024
    ·rw [if_pos c6] at H
     have bW : decide (a1 ≤ 1024) = true := decide_eq_true c6; clear c6; obtain rfl := Option.some.inj H; go_enter Try.func74, Try.ntmps74
     go_wp2
     go_ret
     exact ⟨by first | rfl | (simp; done) | (simp [*]; done), by repeat (first | exact Drawn0.refl _ | apply Drawn0.step)⟩
    ·rw [if_neg c6] at H
     have bW : decide (a1 ≤ 1024) = false := decide_eq_false c6; clear c6; obtain rfl := Option.some.inj H; go_enter Try.func74, Try.ntmps74
     go_wp2
     go_ret
     exact ⟨by first | rfl | (simp; done) | (simp [*]; done), by repeat (first | exact Drawn0.refl _ | apply Drawn0.step)⟩
   ·rw [if_neg c5] at H
    have bc : decide (a0 ≤ 1024) = false := decide_eq_false c5; clear c5; obtain rfl := Option.some.inj H; go_enter Try.func74, Try.ntmps74
    go_wp2
    go_ret
    exact ⟨by first | rfl | (simp; done) | (simp [*]; done), by repeat (first | exact Drawn0.refl _ | apply Drawn0.step)⟩
  ·rw [if_neg c4] at H
   have aG : decide (1 ≤ a1) = false := decide_eq_false c4; clear c4; obtain rfl := Option.some.inj H; go_enter Try.func74, Try.ntmps74
   go_wp2
   go_ret
   exact ⟨by first | rfl | (simp; done) | (simp [*]; done), by repeat (first | exact Drawn0.refl _ | apply Drawn0.step)⟩
 ·rw [if_neg c3] at H
  have bw : decide (1 ≤ a0) = false := decide_eq_false c3; clear c3; obtain rfl := Option.some.inj H; go_enter Try.func74, Try.ntmps74
  go_wp2
  go_ret
  exact ⟨by first | rfl | (simp; done) | (simp [*]; done), by repeat (first | exact Drawn0.refl _ | apply Drawn0.step)⟩

def Ce.f (aa : Int) (ac : Int) (ag : List Int) : Option (Int) := (Cv.f aa ac).bind fun bd => (if bd = true then (if (ag.length : Int) = (wrap64 (aa * ac)) then (some 0) else (some 51)) else (some 50))
set_option maxHeartbeats 8000000 in
set_option maxRecDepth 100000 in
theorem Ce.calls (aa : Int) (ac : Int) (am : Option Addr) (an : Nat) (ag : List Int) (r : Int) (w : World) (aC : Kd.C (Kd.int .u32) w am ag.length ag) (aD : ag.length ≤ an) (h : Ce.f aa ac ag = some r) :
  Calls Try.prog 44 #[.agg #[.int .i64 aa, .int .i64 ac, .slice am ag.length an]] w fun e w' => e = .returned (.int .i64 r) ∧ Below w.heap.size w w' := by
 have hu24 := Try.underlying24; have aH := Ac.mk aC; have aI := Ac.mk aD; clear aC aD; have HB := Ac.mk (Below.refl w.heap.size w); have H : ((Cv.f aa ac).bind fun bd => (if bd = true then (if (ag.length : Int) = (wrap64 (aa * ac)) then (some 0) else (some 51)) else (some 50))) = some r := h; clear h; replace H := Option.bind_eq_some_iff.mp H; obtain ⟨bd, A20, H⟩ := H
 try dsimp only at H
 have A2 := Ac.mk A20; clear A20
 by_cases c3 : bd = true
 ·subst c3
  have H1 := H; rw [if_pos rfl] at H1; clear H; have H := H1; clear H1
  by_cases c4 : (ag.length : Int) = (wrap64 (aa * ac))
  ·rw [if_pos c4] at H
   have aG : ((ag.length : Int) == (wrap64 (aa * ac))) = true := beq_iff_eq.mpr c4; have bb : ((ag.length : Int) != (wrap64 (aa * ac))) = false := bne_eq_false_iff_eq.mpr c4; clear c4; obtain rfl := Option.some.inj H; go_enter Try.func44, Try.ntmps44
   go_wp2_with (first | ((with_reducible refine Bf (N := 1) rfl ?_); refine Bc ?hg (N := 1) ?hd (cs := #[.int .i64 aa, .int .i64 ac, .slice am ag.length an]) (t := 24) ?hr ?_; (case hd => rfl); (case hg => rfl); (case hr => first | (go_simp; done) | (go_simp; rfl)); intro aw hg w5 hbox hb; have ar := Ac.mk (hbox); have bJ := Ac.mk ((by rw [hg]; exact (Ak (lU HB.out)) : w.heap.size ≤ aw)); have aK := Ac.mk ((by rw [hg]; exact (Ak (lU HB.out)) : w.heap.size ≤ aw)); replace HB := Ac.mk (Aq (lU HB.out) hb); clear hb hbox hg; have be : w5.cell? ⟨aw, 0, none⟩ = some (.int .i64 aa) := (Ad ar.out 0).trans rfl; have bf : w5.cell? ⟨aw, 1, none⟩ = some (.int .i64 ac) := (Ad ar.out 1).trans rfl; have bg : w5.cell? ⟨aw, 2, none⟩ = some (.slice am ag.length an) := (Ad ar.out 2).trans rfl; have bh := Af ar.out 0; have bj := Af ar.out 1; have bl := Af ar.out 2) | ((with_reducible refine Be (f := 74) rfl ?_); refine gL (some 8) Try.func74 #[.int .i64 aa, .int .i64 ac] ?_; (with_reducible refine (Cv.calls aa ac true _ A2.out).mono ?_); rintro e w' ⟨rfl, ⟨nd, rfl⟩⟩; refine ⟨_, rfl, ?_⟩))
   go_ret
   exact ⟨by first | rfl | (simp [At, As] <;> rfl) | (simp [*, At, As] <;> rfl), by repeat (first | (with_reducible first | exact HB.out | apply Ah | apply Ae | apply Ai | refine Ag ?_ aK.out) | exact HB.out)⟩
  ·rw [if_neg c4] at H
   have aG : ((ag.length : Int) == (wrap64 (aa * ac))) = false := beq_eq_false_iff_ne.mpr c4; have bb : ((ag.length : Int) != (wrap64 (aa * ac))) = true := bne_iff_ne.mpr c4; obtain rfl := Option.some.inj H; go_enter Try.func44, Try.ntmps44
   go_wp2_with (first | ((with_reducible refine Bf (N := 1) rfl ?_); refine Bc ?hg (N := 1) ?hd (cs := #[.int .i64 aa, .int .i64 ac, .slice am ag.length an]) (t := 24) ?hr ?_; (case hd => rfl); (case hg => rfl); (case hr => first | (go_simp; done) | (go_simp; rfl)); intro aw hg w7 hbox hb; have ar := Ac.mk (hbox); have bJ := Ac.mk ((by rw [hg]; exact (Ak (lU HB.out)) : w.heap.size ≤ aw)); have aK := Ac.mk ((by rw [hg]; exact (Ak (lU HB.out)) : w.heap.size ≤ aw)); replace HB := Ac.mk (Aq (lU HB.out) hb); clear hb hbox hg; have bN : w7.cell? ⟨aw, 0, none⟩ = some (.int .i64 aa) := (Ad ar.out 0).trans rfl; have bO : w7.cell? ⟨aw, 1, none⟩ = some (.int .i64 ac) := (Ad ar.out 1).trans rfl; have bP : w7.cell? ⟨aw, 2, none⟩ = some (.slice am ag.length an) := (Ad ar.out 2).trans rfl; have bQ := Af ar.out 0; have bR := Af ar.out 1; have bS := Af ar.out 2) | ((with_reducible refine Be (f := 74) rfl ?_); refine gL (some 8) Try.func74 #[.int .i64 aa, .int .i64 ac] ?_; (with_reducible refine (Cv.calls aa ac true _ A2.out).mono ?_); rintro e w' ⟨rfl, ⟨nd, rfl⟩⟩; refine ⟨_, rfl, ?_⟩))
   go_ret
   exact ⟨by first | rfl | (simp [At, As] <;> rfl) | (simp [*, At, As] <;> rfl), by repeat (first | (with_reducible first | exact HB.out | apply Ah | apply Ae | apply Ai | refine Ag ?_ aK.out) | exact HB.out)⟩
 ·replace c3 := Bool.eq_false_iff.mpr c3
  subst c3; have H1 := H; rw [if_neg (show ¬ (false = true) by decide)] at H1; clear H; have H := H1; clear H1; obtain rfl := Option.some.inj H; go_enter Try.func44, Try.ntmps44
  go_wp2_with (first | ((with_reducible refine Bf (N := 1) rfl ?_); refine Bc ?hg (N := 1) ?hd (cs := #[.int .i64 aa, .int .i64 ac, .slice am ag.length an]) (t := 24) ?hr ?_; (case hd => rfl); (case hg => rfl); (case hr => first | (go_simp; done) | (go_simp; rfl)); intro aw hg w9 hbox hb; have ar := Ac.mk (hbox); have bJ := Ac.mk ((by rw [hg]; exact (Ak (lU HB.out)) : w.heap.size ≤ aw)); have aK := Ac.mk ((by rw [hg]; exact (Ak (lU HB.out)) : w.heap.size ≤ aw)); replace HB := Ac.mk (Aq (lU HB.out) hb); clear hb hbox hg; have aV : w9.cell? ⟨aw, 0, none⟩ = some (.int .i64 aa) := (Ad ar.out 0).trans rfl; have aW : w9.cell? ⟨aw, 1, none⟩ = some (.int .i64 ac) := (Ad ar.out 1).trans rfl; have aX : w9.cell? ⟨aw, 2, none⟩ = some (.slice am ag.length an) := (Ad ar.out 2).trans rfl; have aY := Af ar.out 0; have aZ := Af ar.out 1; have ba := Af ar.out 2) | ((with_reducible refine Be (f := 74) rfl ?_); refine gL (some 8) Try.func74 #[.int .i64 aa, .int .i64 ac] ?_; (with_reducible refine (Cv.calls aa ac false _ A2.out).mono ?_); rintro e w' ⟨rfl, ⟨nd, rfl⟩⟩; refine ⟨_, rfl, ?_⟩))
  go_ret
  exact ⟨by first | rfl | (simp [At, As] <;> rfl) | (simp [*, At, As] <;> rfl), by repeat (first | (with_reducible first | exact HB.out | apply Ah | apply Ae | apply Ai | refine Ag ?_ aK.out) | exact HB.out)⟩

def De.f (a0 : Int) : Option (Int) := if a0 < 2147483648 then (some ((a0 + 2147483648) % 4294967296)) else (some ((4294967295 - a0) % 4294967296))
set_option maxHeartbeats 8000000 in
set_option maxRecDepth 100000 in
theorem De.calls (a0 : Int) (r : Int) (w : World) (h : De.f a0 = some r) :
  Calls Try.prog 75 #[.int .u32 a0] w fun e w' => e = .returned (.int .u32 r) ∧ Drawn0 w w' := by
 have H : (if a0 < 2147483648 then (some ((a0 + 2147483648) % 4294967296)) else (some ((4294967295 - a0) % 4294967296))) = some r := h; clear h
 by_cases c2 : a0 < 2147483648
 ·rw [if_pos c2] at H
  have dt : decide (a0 < 2147483648) = true := decide_eq_true c2; clear c2; obtain rfl := Option.some.inj H; go_enter Try.func75, Try.ntmps75
  go_wp2
  go_ret
  exact ⟨by first | rfl | (simp; done) | (simp [*]; done), by repeat (first | exact Drawn0.refl _ | apply Drawn0.step)⟩
 ·rw [if_neg c2] at H
  have dt : decide (a0 < 2147483648) = false := decide_eq_false c2; clear c2; obtain rfl := Option.some.inj H; go_enter Try.func75, Try.ntmps75
  go_wp2
  go_ret
  exact ⟨by first | rfl | (simp; done) | (simp [*]; done), by repeat (first | exact Drawn0.refl _ | apply Drawn0.step)⟩

def Dq.f (a0 : Int) (a1 : Int) : Option (Int) := (De.f a1).bind fun bm => ((De.f a0).bind fun bo => (some (wrap64 ((wrap64 (bm)) - (wrap64 (bo))))))
set_option maxHeartbeats 8000000 in
set_option maxRecDepth 100000 in
theorem Dq.calls (a0 : Int) (a1 : Int) (r : Int) (w : World) (h : Dq.f a0 a1 = some r) :
  Calls Try.prog 69 #[.int .u32 a0, .int .u32 a1] w fun e w' => e = .returned (.int .i64 r) ∧ Drawn0 w w' := by
 have H : ((De.f a1).bind fun bm => ((De.f a0).bind fun bo => (some (wrap64 ((wrap64 (bm)) - (wrap64 (bo))))))) = some r := h; clear h; replace H := Option.bind_eq_some_iff.mp H; obtain ⟨bm, A30, H⟩ := H
 try dsimp only at H
 have A3 := Ac.mk A30; clear A30; replace H := Option.bind_eq_some_iff.mp H; obtain ⟨bo, A40, H⟩ := H
 try dsimp only at H
 have A4 := Ac.mk A40; clear A40; obtain rfl := Option.some.inj H; go_enter Try.func69, Try.ntmps69
 go_wp2_with (first | ((with_reducible refine Be (f := 75) rfl ?_); refine gL (some 6) Try.func75 #[.int .u32 a1] ?_; (with_reducible refine (De.calls a1 bm _ A3.out).mono ?_); rintro e w' ⟨rfl, ⟨nd, rfl⟩⟩; refine ⟨_, rfl, ?_⟩) | ((with_reducible refine Be (f := 75) rfl ?_); refine gL (some 9) Try.func75 #[.int .u32 a0] ?_; (with_reducible refine (De.calls a0 bo _ A4.out).mono ?_); rintro e w' ⟨rfl, ⟨nd, rfl⟩⟩; refine ⟨_, rfl, ?_⟩))
 go_ret
 exact ⟨by first | rfl | (simp; done) | (simp [*]; done), by repeat (first | exact Drawn0.refl _ | apply Drawn0.step)⟩

def Du.f (a0 : Int) (a1 : Int) : Option (Bool) := (plane_New.f a0 a1 0).bind fun bp => (some (bp.2.2.2 == 0))
set_option maxHeartbeats 8000000 in
set_option maxRecDepth 100000 in
theorem Du.calls (a0 : Int) (a1 : Int) (r : Bool) (w : World) (h : Du.f a0 a1 = some r) :
  Calls Try.prog 54 #[.int .i64 a0, .int .i64 a1] w fun e w' => e = .returned (.bool r) ∧ Below w.heap.size w w' := by
 have hu24 := Try.underlying24; have HB := Ac.mk (Below.refl w.heap.size w); have H : ((plane_New.f a0 a1 0).bind fun bp => (some (bp.2.2.2 == 0))) = some r := h; clear h; replace H := Option.bind_eq_some_iff.mp H; obtain ⟨⟨du, dv, dw, dz⟩, A30, H⟩ := H
 try dsimp only at H
 have A3 := Ac.mk A30; clear A30; obtain rfl := Option.some.inj H; go_enter Try.func54, Try.ntmps54
 go_wp2_with (first | ((with_reducible refine Be (f := 82) rfl ?_); refine gL (some 10) Try.func82 #[.int .i64 a0, .int .i64 a1, .int .u32 0] ?_; (with_reducible refine (plane_New.calls a0 a1 0 du dv dw dz _ A3.out).mono ?_); rintro e w4 ⟨v110, rfl, ho0, hb⟩; refine ⟨_, rfl, ?_⟩; have bq := Ac.mk (Kd.B9 ho0 (Ak (lU HB.out))); replace HB := Ac.mk (Aq (lU HB.out) hb); (try clear hb); (try clear hb2); (try clear hk); (try clear hi); (try clear ho0)) | ((with_reducible refine Bf (N := 5) rfl ?_); refine Bc ?hg (N := 5) ?hd (cs := #[.int .i64 0, .int .i64 0, .slice none 0 0]) (t := 24) ?hr ?_; (case hd => rfl); (case hg => rfl); (case hr => first | (go_simp; done) | (go_simp; rfl)); intro aM hg w5 hbox hb; replace bq := Ac.mk (Kd.Az (by exact rU <| bq.out) hb); have aJ := Ac.mk (hbox); have dG := Ac.mk ((by rw [hg]; exact (Ak (lU HB.out)) : w.heap.size ≤ aM)); have bZ := Ac.mk ((by rw [hg]; exact (Ak (lU HB.out)) : w.heap.size ≤ aM)); replace HB := Ac.mk (Aq (lU HB.out) hb); clear hb hbox hg; have be : w5.cell? ⟨aM, 0, none⟩ = some (.int .i64 0) := (Ad aJ.out 0).trans rfl; have bf : w5.cell? ⟨aM, 1, none⟩ = some (.int .i64 0) := (Ad aJ.out 1).trans rfl; have bg : w5.cell? ⟨aM, 2, none⟩ = some (.slice none 0 0) := (Ad aJ.out 2).trans rfl; have bh := Af aJ.out 0; have bj := Af aJ.out 1; have bl := Af aJ.out 2; obtain ⟨Ao7, co7, eo7⟩ := Kd.B0 bq.out; subst eo7))
 go_ret
 exact ⟨by first | rfl | (simp [At, As] <;> rfl) | (simp [*, At, As] <;> rfl), by repeat (first | (with_reducible first | exact HB.out | apply Ah | apply Ae | apply Ai | refine Ag ?_ bZ.out) | exact HB.out)⟩

def C0.f (aa : Int) (ac : Int) (ag : List Bool) : Option (Int) := (Du.f aa ac).bind fun br => (if br = true then (if (ag.length : Int) = (wrap64 (aa * ac)) then (some 0) else (some 301)) else (some 300))
set_option maxHeartbeats 8000000 in
set_option maxRecDepth 100000 in
theorem C0.calls (aa : Int) (ac : Int) (am : Option Addr) (an : Nat) (ag : List Bool) (r : Int) (w : World) (aC : Kd.C Kd.bool w am ag.length ag) (aD : ag.length ≤ an) (h : C0.f aa ac ag = some r) :
  Calls Try.prog 16 #[.agg #[.int .i64 aa, .int .i64 ac, .slice am ag.length an]] w fun e w' => e = .returned (.int .i64 r) ∧ Below w.heap.size w w' := by
 have hu27 := Try.underlying27; have aH := Ac.mk aC; have aI := Ac.mk aD; clear aC aD; have HB := Ac.mk (Below.refl w.heap.size w); have H : ((Du.f aa ac).bind fun br => (if br = true then (if (ag.length : Int) = (wrap64 (aa * ac)) then (some 0) else (some 301)) else (some 300))) = some r := h; clear h; replace H := Option.bind_eq_some_iff.mp H; obtain ⟨br, A20, H⟩ := H
 try dsimp only at H
 have A2 := Ac.mk A20; clear A20
 by_cases c3 : br = true
 ·subst c3
  have H1 := H; rw [if_pos rfl] at H1; clear H; have H := H1; clear H1
  by_cases c4 : (ag.length : Int) = (wrap64 (aa * ac))
  ·rw [if_pos c4] at H
   have aG : ((ag.length : Int) == (wrap64 (aa * ac))) = true := beq_iff_eq.mpr c4; have bb : ((ag.length : Int) != (wrap64 (aa * ac))) = false := bne_eq_false_iff_eq.mpr c4; clear c4; obtain rfl := Option.some.inj H; go_enter Try.func16, Try.ntmps16
   go_wp2_with (first | ((with_reducible refine Bf (N := 1) rfl ?_); refine Bc ?hg (N := 1) ?hd (cs := #[.int .i64 aa, .int .i64 ac, .slice am ag.length an]) (t := 27) ?hr ?_; (case hd => rfl); (case hg => rfl); (case hr => first | (go_simp; done) | (go_simp; rfl)); intro ao hg w5 hbox hb; have ak := Ac.mk (hbox); have bK := Ac.mk ((by rw [hg]; exact (Ak (lU HB.out)) : w.heap.size ≤ ao)); have aE := Ac.mk ((by rw [hg]; exact (Ak (lU HB.out)) : w.heap.size ≤ ao)); replace HB := Ac.mk (Aq (lU HB.out) hb); clear hb hbox hg; have be : w5.cell? ⟨ao, 0, none⟩ = some (.int .i64 aa) := (Ad ak.out 0).trans rfl; have bf : w5.cell? ⟨ao, 1, none⟩ = some (.int .i64 ac) := (Ad ak.out 1).trans rfl; have bg : w5.cell? ⟨ao, 2, none⟩ = some (.slice am ag.length an) := (Ad ak.out 2).trans rfl; have bh := Af ak.out 0; have bj := Af ak.out 1; have bl := Af ak.out 2) | ((with_reducible refine Be (f := 54) rfl ?_); refine gL (some 8) Try.func54 #[.int .i64 aa, .int .i64 ac] ?_; (with_reducible refine (Du.calls aa ac true _ A2.out).mono ?_); rintro e w7 ⟨rfl, hb⟩; refine ⟨_, rfl, ?_⟩; replace ak := Ac.mk (An (g := ao) (o := .cells #[.int .i64 aa, .int .i64 ac, .slice am ag.length an] 27 (0, 0)) (by exact bU <| ak.out) hb); replace HB := Ac.mk (Aq (by repeat (first | (with_reducible first | exact HB.out | apply Ah | apply Ae | apply Ai | refine Ag ?_ aE.out) | exact HB.out)) hb); (try clear hb); (try clear hb2); (try clear hk); (try clear hi); have bN : w7.cell? ⟨ao, 0, none⟩ = some (.int .i64 aa) := (Ad ak.out 0).trans rfl; have bO : w7.cell? ⟨ao, 1, none⟩ = some (.int .i64 ac) := (Ad ak.out 1).trans rfl; have bP : w7.cell? ⟨ao, 2, none⟩ = some (.slice am ag.length an) := (Ad ak.out 2).trans rfl; have bQ := Af ak.out 0; have bR := Af ak.out 1; have bS := Af ak.out 2))
   go_ret
   exact ⟨by first | rfl | (simp [At, As] <;> rfl) | (simp [*, At, As] <;> rfl), by repeat (first | (with_reducible first | exact HB.out | apply Ah | apply Ae | apply Ai | refine Ag ?_ aE.out) | exact HB.out)⟩
  ·rw [if_neg c4] at H
   have aG : ((ag.length : Int) == (wrap64 (aa * ac))) = false := beq_eq_false_iff_ne.mpr c4; have bb : ((ag.length : Int) != (wrap64 (aa * ac))) = true := bne_iff_ne.mpr c4; obtain rfl := Option.some.inj H; go_enter Try.func16, Try.ntmps16
   go_wp2_with (first | ((with_reducible refine Bf (N := 1) rfl ?_); refine Bc ?hg (N := 1) ?hd (cs := #[.int .i64 aa, .int .i64 ac, .slice am ag.length an]) (t := 27) ?hr ?_; (case hd => rfl); (case hg => rfl); (case hr => first | (go_simp; done) | (go_simp; rfl)); intro ao hg w9 hbox hb; have ak := Ac.mk (hbox); have bK := Ac.mk ((by rw [hg]; exact (Ak (lU HB.out)) : w.heap.size ≤ ao)); have aE := Ac.mk ((by rw [hg]; exact (Ak (lU HB.out)) : w.heap.size ≤ ao)); replace HB := Ac.mk (Aq (lU HB.out) hb); clear hb hbox hg; have aV : w9.cell? ⟨ao, 0, none⟩ = some (.int .i64 aa) := (Ad ak.out 0).trans rfl; have aW : w9.cell? ⟨ao, 1, none⟩ = some (.int .i64 ac) := (Ad ak.out 1).trans rfl; have aX : w9.cell? ⟨ao, 2, none⟩ = some (.slice am ag.length an) := (Ad ak.out 2).trans rfl; have aY := Af ak.out 0; have aZ := Af ak.out 1; have ba := Af ak.out 2) | ((with_reducible refine Be (f := 54) rfl ?_); refine gL (some 8) Try.func54 #[.int .i64 aa, .int .i64 ac] ?_; (with_reducible refine (Du.calls aa ac true _ A2.out).mono ?_); rintro e w11 ⟨rfl, hb⟩; refine ⟨_, rfl, ?_⟩; replace ak := Ac.mk (An (g := ao) (o := .cells #[.int .i64 aa, .int .i64 ac, .slice am ag.length an] 27 (0, 0)) (by exact bU <| ak.out) hb); replace HB := Ac.mk (Aq (by repeat (first | (with_reducible first | exact HB.out | apply Ah | apply Ae | apply Ai | refine Ag ?_ aE.out) | exact HB.out)) hb); (try clear hb); (try clear hb2); (try clear hk); (try clear hi); have bC : w11.cell? ⟨ao, 0, none⟩ = some (.int .i64 aa) := (Ad ak.out 0).trans rfl; have bD : w11.cell? ⟨ao, 1, none⟩ = some (.int .i64 ac) := (Ad ak.out 1).trans rfl; have bE : w11.cell? ⟨ao, 2, none⟩ = some (.slice am ag.length an) := (Ad ak.out 2).trans rfl; have bF := Af ak.out 0; have bG := Af ak.out 1; have bH := Af ak.out 2))
   go_ret
   exact ⟨by first | rfl | (simp [At, As] <;> rfl) | (simp [*, At, As] <;> rfl), by repeat (first | (with_reducible first | exact HB.out | apply Ah | apply Ae | apply Ai | refine Ag ?_ aE.out) | exact HB.out)⟩
 ·replace c3 := Bool.eq_false_iff.mpr c3
  subst c3; have H1 := H; rw [if_neg (show ¬ (false = true) by decide)] at H1; clear H; have H := H1; clear H1; obtain rfl := Option.some.inj H; go_enter Try.func16, Try.ntmps16
  go_wp2_with (first | ((with_reducible refine Bf (N := 1) rfl ?_); refine Bc ?hg (N := 1) ?hd (cs := #[.int .i64 aa, .int .i64 ac, .slice am ag.length an]) (t := 27) ?hr ?_; (case hd => rfl); (case hg => rfl); (case hr => first | (go_simp; done) | (go_simp; rfl)); intro ao hg w13 hbox hb; have ak := Ac.mk (hbox); have bK := Ac.mk ((by rw [hg]; exact (Ak (lU HB.out)) : w.heap.size ≤ ao)); have aE := Ac.mk ((by rw [hg]; exact (Ak (lU HB.out)) : w.heap.size ≤ ao)); replace HB := Ac.mk (Aq (lU HB.out) hb); clear hb hbox hg; have b7 : w13.cell? ⟨ao, 0, none⟩ = some (.int .i64 aa) := (Ad ak.out 0).trans rfl; have b8 : w13.cell? ⟨ao, 1, none⟩ = some (.int .i64 ac) := (Ad ak.out 1).trans rfl; have b9 : w13.cell? ⟨ao, 2, none⟩ = some (.slice am ag.length an) := (Ad ak.out 2).trans rfl; have cd := Af ak.out 0; have ce := Af ak.out 1; have cg := Af ak.out 2) | ((with_reducible refine Be (f := 54) rfl ?_); refine gL (some 8) Try.func54 #[.int .i64 aa, .int .i64 ac] ?_; (with_reducible refine (Du.calls aa ac false _ A2.out).mono ?_); rintro e w15 ⟨rfl, hb⟩; refine ⟨_, rfl, ?_⟩; replace ak := Ac.mk (An (g := ao) (o := .cells #[.int .i64 aa, .int .i64 ac, .slice am ag.length an] 27 (0, 0)) (by exact bU <| ak.out) hb); replace HB := Ac.mk (Aq (by repeat (first | (with_reducible first | exact HB.out | apply Ah | apply Ae | apply Ai | refine Ag ?_ aE.out) | exact HB.out)) hb); (try clear hb); (try clear hb2); (try clear hk); (try clear hi)))
  go_ret
  exact ⟨by first | rfl | (simp [At, As] <;> rfl) | (simp [*, At, As] <;> rfl), by repeat (first | (with_reducible first | exact HB.out | apply Ah | apply Ae | apply Ai | refine Ag ?_ aE.out) | exact HB.out)⟩

def Do.f (aa : Int) (ac : Int) (ag : List Bool) (a1 : Int) : Option (Int × Int × Int × Int) := (C0.f aa ac ag).bind fun aA => (if aA = 0 then (if a1 = 4 then (some (aa, ac, a1, 0)) else (if a1 = 8 then (some (aa, ac, a1, 0)) else (some (0, 0, 0, 302)))) else (some (0, 0, 0, aA)))
set_option maxHeartbeats 8000000 in
set_option maxRecDepth 100000 in
theorem Do.calls (aa : Int) (ac : Int) (am : Option Addr) (an : Nat) (ag : List Bool) (a1 : Int) (r1 : Int) (r2 : Int) (r3 : Int) (r4 : Int) (w : World) (aC : Kd.C Kd.bool w am ag.length ag) (aD : ag.length ≤ an) (h : Do.f aa ac ag a1 = some (r1, r2, r3, r4)) :
  Calls Try.prog 63 #[.agg #[.int .i64 aa, .int .i64 ac, .slice am ag.length an], .int .i64 a1] w fun e w' => e = .returned (.tuple #[.agg #[.int .i64 r1, .int .i64 r2, .int .i64 r3], .int .i64 r4]) ∧ Below w.heap.size w w' := by
 have hu27 := Try.underlying27; have hu103 := Try.underlying103; have aH := Ac.mk aC; have aI := Ac.mk aD; clear aC aD; have HB := Ac.mk (Below.refl w.heap.size w); have H : ((C0.f aa ac ag).bind fun aA => (if aA = 0 then (if a1 = 4 then (some (aa, ac, a1, 0)) else (if a1 = 8 then (some (aa, ac, a1, 0)) else (some (0, 0, 0, 302)))) else (some (0, 0, 0, aA)))) = some (r1, r2, r3, r4) := h; clear h; replace H := Option.bind_eq_some_iff.mp H; obtain ⟨aA, A30, H⟩ := H
 try dsimp only at H
 have A3 := Ac.mk A30; clear A30
 by_cases c4 : aA = 0
 ·rw [if_pos c4] at H
  have aG : (aA == 0) = true := beq_iff_eq.mpr c4; have bb : (aA != 0) = false := bne_eq_false_iff_eq.mpr c4; clear c4
  by_cases c5 : a1 = 4
  ·rw [if_pos c5] at H
   have bc : (a1 == 4) = true := beq_iff_eq.mpr c5; have b3 : (a1 != 4) = false := bne_eq_false_iff_eq.mpr c5; clear c5
   simp only [Option.some.injEq, Prod.mk.injEq] at H
   obtain ⟨rfl, rfl, rfl, rfl⟩ := H; go_enter Try.func63, Try.ntmps63
   go_wp2_with (first | ((with_reducible refine Bf (N := 2) rfl ?_); refine Bc ?hg (N := 2) ?hd (cs := #[.int .i64 aa, .int .i64 ac, .slice am ag.length an]) (t := 27) ?hr ?_; (case hd => rfl); (case hg => rfl); (case hr => first | (go_simp; done) | (go_simp; rfl)); intro ah hg w6 hbox hb; have af := Ac.mk (hbox); have bs := Ac.mk ((by rw [hg]; exact (Ak (lU HB.out)) : w.heap.size ≤ ah)); have ap := Ac.mk ((by rw [hg]; exact (Ak (lU HB.out)) : w.heap.size ≤ ah)); replace HB := Ac.mk (Aq (lU HB.out) hb); clear hb hbox hg) | ((with_reducible refine Bf (N := 4) rfl ?_); refine Bc ?hg (N := 4) ?hd (cs := #[.int .i64 0, .int .i64 0, .int .i64 0]) (t := 103) ?hr ?_; (case hd => rfl); (case hg => rfl); (case hr => first | (go_simp; done) | (go_simp; rfl)); intro ai hg w7 hbox hb; have aj := Ac.mk (hbox); have bt := Ac.mk ((by rw [hg]; exact (Ak (by repeat (first | (with_reducible first | exact HB.out | apply Ah | apply Ae | apply Ai | refine Ag ?_ ap.out) | exact HB.out))) : w.heap.size ≤ ai)); have ax := Ac.mk ((by rw [hg]; exact (Ak (by repeat (first | (with_reducible first | exact HB.out | apply Ah | apply Ae | apply Ai | refine Ag ?_ ap.out) | exact HB.out))) : w.heap.size ≤ ai)); replace HB := Ac.mk (Aq (by repeat (first | (with_reducible first | exact HB.out | apply Ah | apply Ae | apply Ai | refine Ag ?_ ap.out) | exact HB.out)) hb); have au := Ac.mk ((by rw [hg]; exact Nat.ne_of_lt (Bh (g := ah) (o := .cells #[.int .i64 aa, .int .i64 ac, .slice am ag.length an] 27 (0, 0)) (by exact bU <| af.out)) : ah ≠ ai)); have av := Ac.mk ((by rw [hg]; exact Nat.ne_of_gt (Bh (g := ah) (o := .cells #[.int .i64 aa, .int .i64 ac, .slice am ag.length an] 27 (0, 0)) (by exact bU <| af.out)) : ai ≠ ah)); replace af := Ac.mk (An (g := ah) (o := .cells #[.int .i64 aa, .int .i64 ac, .slice am ag.length an] 27 (0, 0)) (by exact bU <| af.out) hb); clear hb hbox hg; have dO := au.out; have dP := av.out; have dA : w7.cell? ⟨ah, 0, none⟩ = some (.int .i64 aa) := (Ad af.out 0).trans rfl; have dB : w7.cell? ⟨ah, 1, none⟩ = some (.int .i64 ac) := (Ad af.out 1).trans rfl; have dC : w7.cell? ⟨ah, 2, none⟩ = some (.slice am ag.length an) := (Ad af.out 2).trans rfl; have dD := Af af.out 0; have dE := Af af.out 1; have dF := Af af.out 2) | ((with_reducible refine Be (f := 16) rfl ?_); refine gL (some 8) Try.func16 #[.agg #[.int .i64 aa, .int .i64 ac, .slice am ag.length an]] ?_; (with_reducible refine (C0.calls aa ac _ _ ag aA _ ?side1 ?side2 A3.out).mono ?_); (case side1 => repeat (first | exact (Kd.B2 aH.out HB.out) | (with_reducible refine Kd.Bw ?_ _) | (with_reducible refine Kd.B6 ?_ _) | (with_reducible refine Kd.C_drew ?_))); (case side2 => exact aI.out); rintro e w10 ⟨rfl, hb⟩; refine ⟨_, rfl, ?_⟩; replace af := Ac.mk (An (g := ah) (o := .cells #[.int .i64 aa, .int .i64 ac, .slice am ag.length an] 27 (0, 0)) (by exact bU <| af.out) hb); replace aj := Ac.mk (An (g := ai) (o := .cells #[.int .i64 0, .int .i64 0, .int .i64 0] 103 (0, 0)) (by exact bU <| aj.out) hb); replace HB := Ac.mk (Aq (by repeat (first | (with_reducible first | exact HB.out | apply Ah | apply Ae | apply Ai | refine Ag ?_ ap.out | refine Ag ?_ ax.out) | exact HB.out)) hb); (try clear hb); (try clear hb2); (try clear hk); (try clear hi); have ck : w10.cell? ⟨ah, 0, none⟩ = some (.int .i64 aa) := (Ad af.out 0).trans rfl; have cp : w10.cell? ⟨ah, 1, none⟩ = some (.int .i64 ac) := (Ad af.out 1).trans rfl; have cr : w10.cell? ⟨ah, 2, none⟩ = some (.slice am ag.length an) := (Ad af.out 2).trans rfl; have ct := Af af.out 0; have cu := Af af.out 1; have cw := Af af.out 2; have bC : w10.cell? ⟨ai, 0, none⟩ = some (.int .i64 0) := (Ad aj.out 0).trans rfl; have bD : w10.cell? ⟨ai, 1, none⟩ = some (.int .i64 0) := (Ad aj.out 1).trans rfl; have bE : w10.cell? ⟨ai, 2, none⟩ = some (.int .i64 0) := (Ad aj.out 2).trans rfl; have bF := Af aj.out 0; have bG := Af aj.out 1; have bH := Af aj.out 2))
   refine bodyPost_ret (results_ct rfl _ _ ai 103 #[.int .i64 aa, .int .i64 ac, .int .i64 a1] (0, 0) _ rfl (by (with_reducible repeat (first | refine Ap ?_ _ | refine Ar ?_ | refine Aj ?_ _)); refine Ax (cs := #[.int .i64 aa, .int .i64 ac, .int .i64 0]) ?_ 2 _ rfl; (with_reducible repeat (first | refine Ap ?_ _ | refine Ar ?_ | refine Aj ?_ _)); refine Ax (cs := #[.int .i64 aa, .int .i64 0, .int .i64 0]) ?_ 1 _ rfl; (with_reducible repeat (first | refine Ap ?_ _ | refine Ar ?_ | refine Aj ?_ _)); refine Ax (cs := #[.int .i64 0, .int .i64 0, .int .i64 0]) ?_ 0 _ rfl; exact bU <| aj.out) Try.underlying103 rfl (by kernel_rfl)) rfl ?_; exact ⟨by first | rfl | (simp [At, As] <;> rfl) | (simp [*, At, As] <;> rfl), by repeat (first | (with_reducible first | exact HB.out | apply Ah | apply Ae | apply Ai | refine Ag ?_ ap.out | refine Ag ?_ ax.out) | exact HB.out)⟩
  ·rw [if_neg c5] at H
   have bc : (a1 == 4) = false := beq_eq_false_iff_ne.mpr c5; have b3 : (a1 != 4) = true := bne_iff_ne.mpr c5
   by_cases c13 : a1 = 8
   ·rw [if_pos c13] at H
    have b4 : (a1 == 8) = true := beq_iff_eq.mpr c13; have b5 : (a1 != 8) = false := bne_eq_false_iff_eq.mpr c13; clear c13
    simp only [Option.some.injEq, Prod.mk.injEq] at H
    obtain ⟨rfl, rfl, rfl, rfl⟩ := H; go_enter Try.func63, Try.ntmps63
    go_wp2_with (first | ((with_reducible refine Bf (N := 2) rfl ?_); refine Bc ?hg (N := 2) ?hd (cs := #[.int .i64 aa, .int .i64 ac, .slice am ag.length an]) (t := 27) ?hr ?_; (case hd => rfl); (case hg => rfl); (case hr => first | (go_simp; done) | (go_simp; rfl)); intro ah hg w14 hbox hb; have af := Ac.mk (hbox); have bs := Ac.mk ((by rw [hg]; exact (Ak (lU HB.out)) : w.heap.size ≤ ah)); have ap := Ac.mk ((by rw [hg]; exact (Ak (lU HB.out)) : w.heap.size ≤ ah)); replace HB := Ac.mk (Aq (lU HB.out) hb); clear hb hbox hg) | ((with_reducible refine Bf (N := 4) rfl ?_); refine Bc ?hg (N := 4) ?hd (cs := #[.int .i64 0, .int .i64 0, .int .i64 0]) (t := 103) ?hr ?_; (case hd => rfl); (case hg => rfl); (case hr => first | (go_simp; done) | (go_simp; rfl)); intro ai hg w15 hbox hb; have aj := Ac.mk (hbox); have bt := Ac.mk ((by rw [hg]; exact (Ak (by repeat (first | (with_reducible first | exact HB.out | apply Ah | apply Ae | apply Ai | refine Ag ?_ ap.out) | exact HB.out))) : w.heap.size ≤ ai)); have ax := Ac.mk ((by rw [hg]; exact (Ak (by repeat (first | (with_reducible first | exact HB.out | apply Ah | apply Ae | apply Ai | refine Ag ?_ ap.out) | exact HB.out))) : w.heap.size ≤ ai)); replace HB := Ac.mk (Aq (by repeat (first | (with_reducible first | exact HB.out | apply Ah | apply Ae | apply Ai | refine Ag ?_ ap.out) | exact HB.out)) hb); have au := Ac.mk ((by rw [hg]; exact Nat.ne_of_lt (Bh (g := ah) (o := .cells #[.int .i64 aa, .int .i64 ac, .slice am ag.length an] 27 (0, 0)) (by exact bU <| af.out)) : ah ≠ ai)); have av := Ac.mk ((by rw [hg]; exact Nat.ne_of_gt (Bh (g := ah) (o := .cells #[.int .i64 aa, .int .i64 ac, .slice am ag.length an] 27 (0, 0)) (by exact bU <| af.out)) : ai ≠ ah)); replace af := Ac.mk (An (g := ah) (o := .cells #[.int .i64 aa, .int .i64 ac, .slice am ag.length an] 27 (0, 0)) (by exact bU <| af.out) hb); clear hb hbox hg; have dH := au.out; have dI := av.out; have cx : w15.cell? ⟨ah, 0, none⟩ = some (.int .i64 aa) := (Ad af.out 0).trans rfl; have cy : w15.cell? ⟨ah, 1, none⟩ = some (.int .i64 ac) := (Ad af.out 1).trans rfl; have cz : w15.cell? ⟨ah, 2, none⟩ = some (.slice am ag.length an) := (Ad af.out 2).trans rfl; have cA := Af af.out 0; have cB := Af af.out 1; have cC := Af af.out 2) | ((with_reducible refine Be (f := 16) rfl ?_); refine gL (some 8) Try.func16 #[.agg #[.int .i64 aa, .int .i64 ac, .slice am ag.length an]] ?_; (with_reducible refine (C0.calls aa ac _ _ ag aA _ ?side1 ?side2 A3.out).mono ?_); (case side1 => repeat (first | exact (Kd.B2 aH.out HB.out) | (with_reducible refine Kd.Bw ?_ _) | (with_reducible refine Kd.B6 ?_ _) | (with_reducible refine Kd.C_drew ?_))); (case side2 => exact aI.out); rintro e w18 ⟨rfl, hb⟩; refine ⟨_, rfl, ?_⟩; replace af := Ac.mk (An (g := ah) (o := .cells #[.int .i64 aa, .int .i64 ac, .slice am ag.length an] 27 (0, 0)) (by exact bU <| af.out) hb); replace aj := Ac.mk (An (g := ai) (o := .cells #[.int .i64 0, .int .i64 0, .int .i64 0] 103 (0, 0)) (by exact bU <| aj.out) hb); replace HB := Ac.mk (Aq (by repeat (first | (with_reducible first | exact HB.out | apply Ah | apply Ae | apply Ai | refine Ag ?_ ap.out | refine Ag ?_ ax.out) | exact HB.out)) hb); (try clear hb); (try clear hb2); (try clear hk); (try clear hi); have cD : w18.cell? ⟨ah, 0, none⟩ = some (.int .i64 aa) := (Ad af.out 0).trans rfl; have cE : w18.cell? ⟨ah, 1, none⟩ = some (.int .i64 ac) := (Ad af.out 1).trans rfl; have cF : w18.cell? ⟨ah, 2, none⟩ = some (.slice am ag.length an) := (Ad af.out 2).trans rfl; have cG := Af af.out 0; have cH := Af af.out 1; have cI := Af af.out 2; have cJ : w18.cell? ⟨ai, 0, none⟩ = some (.int .i64 0) := (Ad aj.out 0).trans rfl; have cK : w18.cell? ⟨ai, 1, none⟩ = some (.int .i64 0) := (Ad aj.out 1).trans rfl; have cL : w18.cell? ⟨ai, 2, none⟩ = some (.int .i64 0) := (Ad aj.out 2).trans rfl; have cM := Af aj.out 0; have cN := Af aj.out 1; have cO := Af aj.out 2))
    refine bodyPost_ret (results_ct rfl _ _ ai 103 #[.int .i64 aa, .int .i64 ac, .int .i64 a1] (0, 0) _ rfl (by (with_reducible repeat (first | refine Ap ?_ _ | refine Ar ?_ | refine Aj ?_ _)); refine Ax (cs := #[.int .i64 aa, .int .i64 ac, .int .i64 0]) ?_ 2 _ rfl; (with_reducible repeat (first | refine Ap ?_ _ | refine Ar ?_ | refine Aj ?_ _)); refine Ax (cs := #[.int .i64 aa, .int .i64 0, .int .i64 0]) ?_ 1 _ rfl; (with_reducible repeat (first | refine Ap ?_ _ | refine Ar ?_ | refine Aj ?_ _)); refine Ax (cs := #[.int .i64 0, .int .i64 0, .int .i64 0]) ?_ 0 _ rfl; exact bU <| aj.out) Try.underlying103 rfl (by kernel_rfl)) rfl ?_; exact ⟨by first | rfl | (simp [At, As] <;> rfl) | (simp [*, At, As] <;> rfl), by repeat (first | (with_reducible first | exact HB.out | apply Ah | apply Ae | apply Ai | refine Ag ?_ ap.out | refine Ag ?_ ax.out) | exact HB.out)⟩
   ·rw [if_neg c13] at H
    have b4 : (a1 == 8) = false := beq_eq_false_iff_ne.mpr c13; have b5 : (a1 != 8) = true := bne_iff_ne.mpr c13
    simp only [Option.some.injEq, Prod.mk.injEq] at H
    obtain ⟨rfl, rfl, rfl, rfl⟩ := H; go_enter Try.func63, Try.ntmps63
    go_wp2_with (first | ((with_reducible refine Bf (N := 2) rfl ?_); refine Bc ?hg (N := 2) ?hd (cs := #[.int .i64 aa, .int .i64 ac, .slice am ag.length an]) (t := 27) ?hr ?_; (case hd => rfl); (case hg => rfl); (case hr => first | (go_simp; done) | (go_simp; rfl)); intro ah hg w21 hbox hb; have af := Ac.mk (hbox); have bs := Ac.mk ((by rw [hg]; exact (Ak (lU HB.out)) : w.heap.size ≤ ah)); have ap := Ac.mk ((by rw [hg]; exact (Ak (lU HB.out)) : w.heap.size ≤ ah)); replace HB := Ac.mk (Aq (lU HB.out) hb); clear hb hbox hg) | ((with_reducible refine Bf (N := 4) rfl ?_); refine Bc ?hg (N := 4) ?hd (cs := #[.int .i64 0, .int .i64 0, .int .i64 0]) (t := 103) ?hr ?_; (case hd => rfl); (case hg => rfl); (case hr => first | (go_simp; done) | (go_simp; rfl)); intro ai hg w22 hbox hb; have aj := Ac.mk (hbox); have bt := Ac.mk ((by rw [hg]; exact (Ak (by repeat (first | (with_reducible first | exact HB.out | apply Ah | apply Ae | apply Ai | refine Ag ?_ ap.out) | exact HB.out))) : w.heap.size ≤ ai)); have ax := Ac.mk ((by rw [hg]; exact (Ak (by repeat (first | (with_reducible first | exact HB.out | apply Ah | apply Ae | apply Ai | refine Ag ?_ ap.out) | exact HB.out))) : w.heap.size ≤ ai)); replace HB := Ac.mk (Aq (by repeat (first | (with_reducible first | exact HB.out | apply Ah | apply Ae | apply Ai | refine Ag ?_ ap.out) | exact HB.out)) hb); have au := Ac.mk ((by rw [hg]; exact Nat.ne_of_lt (Bh (g := ah) (o := .cells #[.int .i64 aa, .int .i64 ac, .slice am ag.length an] 27 (0, 0)) (by exact bU <| af.out)) : ah ≠ ai)); have av := Ac.mk ((by rw [hg]; exact Nat.ne_of_gt (Bh (g := ah) (o := .cells #[.int .i64 aa, .int .i64 ac, .slice am ag.length an] 27 (0, 0)) (by exact bU <| af.out)) : ai ≠ ah)); replace af := Ac.mk (An (g := ah) (o := .cells #[.int .i64 aa, .int .i64 ac, .slice am ag.length an] 27 (0, 0)) (by exact bU <| af.out) hb); clear hb hbox hg; have dJ := au.out; have dK := av.out; have cP : w22.cell? ⟨ah, 0, none⟩ = some (.int .i64 aa) := (Ad af.out 0).trans rfl; have cQ : w22.cell? ⟨ah, 1, none⟩ = some (.int .i64 ac) := (Ad af.out 1).trans rfl; have cR : w22.cell? ⟨ah, 2, none⟩ = some (.slice am ag.length an) := (Ad af.out 2).trans rfl; have cS := Af af.out 0; have cU := Af af.out 1; have cV := Af af.out 2) | ((with_reducible refine Be (f := 16) rfl ?_); refine gL (some 8) Try.func16 #[.agg #[.int .i64 aa, .int .i64 ac, .slice am ag.length an]] ?_; (with_reducible refine (C0.calls aa ac _ _ ag aA _ ?side1 ?side2 A3.out).mono ?_); (case side1 => repeat (first | exact (Kd.B2 aH.out HB.out) | (with_reducible refine Kd.Bw ?_ _) | (with_reducible refine Kd.B6 ?_ _) | (with_reducible refine Kd.C_drew ?_))); (case side2 => exact aI.out); rintro e w25 ⟨rfl, hb⟩; refine ⟨_, rfl, ?_⟩; replace af := Ac.mk (An (g := ah) (o := .cells #[.int .i64 aa, .int .i64 ac, .slice am ag.length an] 27 (0, 0)) (by exact bU <| af.out) hb); replace aj := Ac.mk (An (g := ai) (o := .cells #[.int .i64 0, .int .i64 0, .int .i64 0] 103 (0, 0)) (by exact bU <| aj.out) hb); replace HB := Ac.mk (Aq (by repeat (first | (with_reducible first | exact HB.out | apply Ah | apply Ae | apply Ai | refine Ag ?_ ap.out | refine Ag ?_ ax.out) | exact HB.out)) hb); (try clear hb); (try clear hb2); (try clear hk); (try clear hi); have cW : w25.cell? ⟨ai, 0, none⟩ = some (.int .i64 0) := (Ad aj.out 0).trans rfl; have cX : w25.cell? ⟨ai, 1, none⟩ = some (.int .i64 0) := (Ad aj.out 1).trans rfl; have cY : w25.cell? ⟨ai, 2, none⟩ = some (.int .i64 0) := (Ad aj.out 2).trans rfl; have cZ := Af aj.out 0; have da := Af aj.out 1; have db := Af aj.out 2))
    refine bodyPost_ret (results_ct rfl _ _ ai 103 #[.int .i64 0, .int .i64 0, .int .i64 0] (0, 0) _ rfl (by (with_reducible repeat (first | refine Ap ?_ _ | refine Ar ?_ | refine Aj ?_ _)); refine Ax (cs := #[.int .i64 0, .int .i64 0, .int .i64 0]) ?_ 2 _ rfl; (with_reducible repeat (first | refine Ap ?_ _ | refine Ar ?_ | refine Aj ?_ _)); refine Ax (cs := #[.int .i64 0, .int .i64 0, .int .i64 0]) ?_ 1 _ rfl; (with_reducible repeat (first | refine Ap ?_ _ | refine Ar ?_ | refine Aj ?_ _)); refine Ax (cs := #[.int .i64 0, .int .i64 0, .int .i64 0]) ?_ 0 _ rfl; exact bU <| aj.out) Try.underlying103 rfl (by kernel_rfl)) rfl ?_; exact ⟨by first | rfl | (simp [At, As] <;> rfl) | (simp [*, At, As] <;> rfl), by repeat (first | (with_reducible first | exact HB.out | apply Ah | apply Ae | apply Ai | refine Ag ?_ ap.out | refine Ag ?_ ax.out) | exact HB.out)⟩
 ·rw [if_neg c4] at H
  have aG : (aA == 0) = false := beq_eq_false_iff_ne.mpr c4; have bb : (aA != 0) = true := bne_iff_ne.mpr c4
  simp only [Option.some.injEq, Prod.mk.injEq] at H
  obtain ⟨rfl, rfl, rfl, rfl⟩ := H; go_enter Try.func63, Try.ntmps63
  go_wp2_with (first | ((with_reducible refine Bf (N := 2) rfl ?_); refine Bc ?hg (N := 2) ?hd (cs := #[.int .i64 aa, .int .i64 ac, .slice am ag.length an]) (t := 27) ?hr ?_; (case hd => rfl); (case hg => rfl); (case hr => first | (go_simp; done) | (go_simp; rfl)); intro ah hg w27 hbox hb; have af := Ac.mk (hbox); have bs := Ac.mk ((by rw [hg]; exact (Ak (lU HB.out)) : w.heap.size ≤ ah)); have ap := Ac.mk ((by rw [hg]; exact (Ak (lU HB.out)) : w.heap.size ≤ ah)); replace HB := Ac.mk (Aq (lU HB.out) hb); clear hb hbox hg) | ((with_reducible refine Bf (N := 4) rfl ?_); refine Bc ?hg (N := 4) ?hd (cs := #[.int .i64 0, .int .i64 0, .int .i64 0]) (t := 103) ?hr ?_; (case hd => rfl); (case hg => rfl); (case hr => first | (go_simp; done) | (go_simp; rfl)); intro ai hg w28 hbox hb; have aj := Ac.mk (hbox); have bt := Ac.mk ((by rw [hg]; exact (Ak (by repeat (first | (with_reducible first | exact HB.out | apply Ah | apply Ae | apply Ai | refine Ag ?_ ap.out) | exact HB.out))) : w.heap.size ≤ ai)); have ax := Ac.mk ((by rw [hg]; exact (Ak (by repeat (first | (with_reducible first | exact HB.out | apply Ah | apply Ae | apply Ai | refine Ag ?_ ap.out) | exact HB.out))) : w.heap.size ≤ ai)); replace HB := Ac.mk (Aq (by repeat (first | (with_reducible first | exact HB.out | apply Ah | apply Ae | apply Ai | refine Ag ?_ ap.out) | exact HB.out)) hb); have au := Ac.mk ((by rw [hg]; exact Nat.ne_of_lt (Bh (g := ah) (o := .cells #[.int .i64 aa, .int .i64 ac, .slice am ag.length an] 27 (0, 0)) (by exact bU <| af.out)) : ah ≠ ai)); have av := Ac.mk ((by rw [hg]; exact Nat.ne_of_gt (Bh (g := ah) (o := .cells #[.int .i64 aa, .int .i64 ac, .slice am ag.length an] 27 (0, 0)) (by exact bU <| af.out)) : ai ≠ ah)); replace af := Ac.mk (An (g := ah) (o := .cells #[.int .i64 aa, .int .i64 ac, .slice am ag.length an] 27 (0, 0)) (by exact bU <| af.out) hb); clear hb hbox hg; have dL := au.out; have dM := av.out; have dc : w28.cell? ⟨ah, 0, none⟩ = some (.int .i64 aa) := (Ad af.out 0).trans rfl; have dd : w28.cell? ⟨ah, 1, none⟩ = some (.int .i64 ac) := (Ad af.out 1).trans rfl; have de : w28.cell? ⟨ah, 2, none⟩ = some (.slice am ag.length an) := (Ad af.out 2).trans rfl; have df := Af af.out 0; have dg := Af af.out 1; have dh := Af af.out 2) | ((with_reducible refine Be (f := 16) rfl ?_); refine gL (some 8) Try.func16 #[.agg #[.int .i64 aa, .int .i64 ac, .slice am ag.length an]] ?_; (with_reducible refine (C0.calls aa ac _ _ ag aA _ ?side1 ?side2 A3.out).mono ?_); (case side1 => repeat (first | exact (Kd.B2 aH.out HB.out) | (with_reducible refine Kd.Bw ?_ _) | (with_reducible refine Kd.B6 ?_ _) | (with_reducible refine Kd.C_drew ?_))); (case side2 => exact aI.out); rintro e w31 ⟨rfl, hb⟩; refine ⟨_, rfl, ?_⟩; replace af := Ac.mk (An (g := ah) (o := .cells #[.int .i64 aa, .int .i64 ac, .slice am ag.length an] 27 (0, 0)) (by exact bU <| af.out) hb); replace aj := Ac.mk (An (g := ai) (o := .cells #[.int .i64 0, .int .i64 0, .int .i64 0] 103 (0, 0)) (by exact bU <| aj.out) hb); replace HB := Ac.mk (Aq (by repeat (first | (with_reducible first | exact HB.out | apply Ah | apply Ae | apply Ai | refine Ag ?_ ap.out | refine Ag ?_ ax.out) | exact HB.out)) hb); (try clear hb); (try clear hb2); (try clear hk); (try clear hi); have di : w31.cell? ⟨ai, 0, none⟩ = some (.int .i64 0) := (Ad aj.out 0).trans rfl; have dj : w31.cell? ⟨ai, 1, none⟩ = some (.int .i64 0) := (Ad aj.out 1).trans rfl; have dk : w31.cell? ⟨ai, 2, none⟩ = some (.int .i64 0) := (Ad aj.out 2).trans rfl; have dl := Af aj.out 0; have dn := Af aj.out 1; have dp := Af aj.out 2))
  refine bodyPost_ret (results_ct rfl _ _ ai 103 #[.int .i64 0, .int .i64 0, .int .i64 0] (0, 0) _ rfl (by (with_reducible repeat (first | refine Ap ?_ _ | refine Ar ?_ | refine Aj ?_ _)); refine Ax (cs := #[.int .i64 0, .int .i64 0, .int .i64 0]) ?_ 2 _ rfl; (with_reducible repeat (first | refine Ap ?_ _ | refine Ar ?_ | refine Aj ?_ _)); refine Ax (cs := #[.int .i64 0, .int .i64 0, .int .i64 0]) ?_ 1 _ rfl; (with_reducible repeat (first | refine Ap ?_ _ | refine Ar ?_ | refine Aj ?_ _)); refine Ax (cs := #[.int .i64 0, .int .i64 0, .int .i64 0]) ?_ 0 _ rfl; exact bU <| aj.out) Try.underlying103 rfl (by kernel_rfl)) rfl ?_; exact ⟨by first | rfl | (simp [At, As] <;> rfl) | (simp [*, At, As] <;> rfl), by repeat (first | (with_reducible first | exact HB.out | apply Ah | apply Ae | apply Ai | refine Ag ?_ ap.out | refine Ag ?_ ax.out) | exact HB.out)⟩

def Dp.f (a0 : Int) (a1 : Int) : Option (Int × Int × List Bool) := if 0 ≤ (wrap64 (a0 * a1)) then (if (wrap64 (a0 * a1) : Int).toNat ≤ 281474976710656 then (some (a0, a1, (List.replicate (wrap64 (a0 * a1) : Int).toNat false))) else (none)) else (none)
set_option maxHeartbeats 8000000 in
set_option maxRecDepth 100000 in
theorem Dp.calls (a0 : Int) (a1 : Int) (r1 : Int) (r2 : Int) (r3 : List Bool) (w : World) (h : Dp.f a0 a1 = some (r1, r2, r3)) :
  Calls Try.prog 45 #[.int .i64 a0, .int .i64 a1] w fun e w' => ∃ v2_ : Value, e = .returned (.agg #[.int .i64 r1, .int .i64 r2, v2_]) ∧ Kd.R Kd.bool 4 w' w.heap.size (fun _ => True) v2_ r3 ∧ Below w.heap.size w w' := by
 have hu27 := Try.underlying27; have HB := Ac.mk (Below.refl w.heap.size w); have H : (if 0 ≤ (wrap64 (a0 * a1)) then (if (wrap64 (a0 * a1) : Int).toNat ≤ 281474976710656 then (some (a0, a1, (List.replicate (wrap64 (a0 * a1) : Int).toNat false))) else (none)) else (none)) = some (r1, r2, r3) := h; clear h; obtain ⟨ji3, bI⟩ : ∃ j_ : Int, (wrap64 (a0 * a1)) = j_ := ⟨_, rfl⟩; replace H : (if 0 ≤ (ji3) then (if (ji3 : Int).toNat ≤ 281474976710656 then (some (a0, a1, (List.replicate (ji3 : Int).toNat false))) else (none)) else (none)) = some (r1, r2, r3) := by first | (rw [bI] at H; exact H) | (simp only [bI] at H ⊢; exact H)
 have hji3w : (IntKind.i64.wrap (a0 * a1)) = ji3 := (i64_w _).trans bI
 by_cases c4 : 0 ≤ (ji3)
 ·rw [if_pos c4] at H
  have aG := eq_true c4; have bb : decide (0 ≤ (ji3)) = true := decide_eq_true c4; clear c4
  by_cases c5 : (ji3 : Int).toNat ≤ 281474976710656
  ·rw [if_pos c5] at H
   have bc := eq_true c5; have b3 : decide ((ji3 : Int).toNat ≤ 281474976710656) = true := decide_eq_true c5; clear c5; obtain ⟨b6, bu⟩ : ∃ y_ : List Bool, y_ = (List.replicate (ji3 : Int).toNat false) := ⟨_, rfl⟩; (try rw [Option.bind_some] at H); try rw [← bu] at H; have bL := Ac.mk bu; clear bu
   simp only [Option.some.injEq, Prod.mk.injEq] at H
   obtain ⟨rfl, rfl, rfl⟩ := H; go_enter Try.func45, Try.ntmps45
   go_wp2_with (first | ((with_reducible refine Bf (N := 4) rfl ?_); refine Bc ?hg (N := 4) ?hd (cs := #[.int .i64 0, .int .i64 0, .slice none 0 0]) (t := 27) ?hr ?_; (case hd => rfl); (case hg => rfl); (case hr => first | (go_simp; done) | (go_simp; rfl)); intro ay hg w6 hbox hb; have az := Ac.mk (hbox); have dN := Ac.mk ((by rw [hg]; exact (Ak (lU HB.out)) : w.heap.size ≤ ay)); have bv := Ac.mk ((by rw [hg]; exact (Ak (lU HB.out)) : w.heap.size ≤ ay)); replace HB := Ac.mk (Aq (lU HB.out) hb); clear hb hbox hg) | ((with_reducible refine Bf (N := 10) rfl ?_); refine Kd.R_make Kd.bool _ 4 rfl (N := 10) rfl 25 _ _ rfl ji3 rfl rfl Try.underlying25 (.bool false) 1 info4 rfl (by decide) (by omega) false (ok := fun _ => True) (okp := fun _ => True) rfl (fun _ hk => hk) trivial (of_decide_eq_true (by with_reducible assumption)) (Nat.le_trans (Nat.mul_le_mul_right _ (of_decide_eq_true (by with_reducible assumption) : ji3.toNat ≤ 281474976710656)) (by omega)) (Below.refl _ _) (Nat.le_refl _) ?_; intro v121 w7 ho8 hb hg_ hnew_; clear hg_ hnew_; (first | rw [← bL.out] at ho8 | (simp only [Int.reduceToNat] at ho8; rw [← bL.out] at ho8)); have bM := Ac.mk (Kd.B9 ho8 (Ak (by repeat (first | (with_reducible first | exact HB.out | apply Ah | apply Ae | apply Ai | refine Ag ?_ bv.out) | exact HB.out)))); replace az := Ac.mk (An (g := ay) (o := .cells #[.int .i64 0, .int .i64 0, .slice none 0 0] 27 (0, 0)) (by exact bU <| az.out) hb); replace HB := Ac.mk (Aq (by repeat (first | (with_reducible first | exact HB.out | apply Ah | apply Ae | apply Ai | refine Ag ?_ bv.out) | exact HB.out)) hb); clear hb ho8; obtain ⟨Ao9, co9, eo9⟩ := Kd.B0 bM.out; subst eo9; have aV : w7.cell? ⟨ay, 0, none⟩ = some (.int .i64 0) := (Ad az.out 0).trans rfl; have aW : w7.cell? ⟨ay, 1, none⟩ = some (.int .i64 0) := (Ad az.out 1).trans rfl; have aX : w7.cell? ⟨ay, 2, none⟩ = some (.slice none 0 0) := (Ad az.out 2).trans rfl; have aY := Af az.out 0; have aZ := Af az.out 1; have ba := Af az.out 2))
   refine bodyPost_ret (results_cell_row rfl _ _ ay 27 #[.int .i64 a0, .int .i64 a1, .slice Ao9 b6.length co9] (0, 0) _ rfl (by (with_reducible repeat (first | refine Ap ?_ _ | refine Ar ?_ | refine Aj ?_ _)); refine Ax (cs := #[.int .i64 a0, .int .i64 a1, .slice none 0 0]) ?_ 2 _ rfl; (with_reducible repeat (first | refine Ap ?_ _ | refine Ar ?_ | refine Aj ?_ _)); refine Ax (cs := #[.int .i64 a0, .int .i64 0, .slice none 0 0]) ?_ 1 _ rfl; (with_reducible repeat (first | refine Ap ?_ _ | refine Ar ?_ | refine Aj ?_ _)); refine Ax (cs := #[.int .i64 0, .int .i64 0, .slice none 0 0]) ?_ 0 _ rfl; exact bU <| az.out) Try.underlying27 rfl (by kernel_rfl)) rfl ?_; exact ⟨_, by first | rfl | (simp [At, As] <;> rfl) | (simp only [← bI]; first | rfl | (simp [At, As] <;> rfl)) | (simp [*, At, As] <;> rfl), by exact rU <| Kd.Bu (Kd.Bq (p := ⟨ay, 2, none⟩) (Kd.Bq (p := ⟨ay, 1, none⟩) (Kd.Bq (p := ⟨ay, 0, none⟩) (Kd.Ca bM.out az.out (by decide)) (fun _ hk => hk.2) (.int .i64 a0)) (fun _ hk => hk.2) (.int .i64 a1)) (fun _ hk => hk.2) (.slice Ao9 b6.length co9)) (fun _ hk => trivial), by repeat (first | (with_reducible first | exact HB.out | apply Ah | apply Ae | apply Ai | refine Ag ?_ bv.out) | exact HB.out)⟩
  ·rw [if_neg c5] at H
   exact absurd H (by simp)
 ·rw [if_neg c4] at H
  exact absurd H (by simp)

end Go.Proofs.Ytbfimplajocmmaa.PFA


