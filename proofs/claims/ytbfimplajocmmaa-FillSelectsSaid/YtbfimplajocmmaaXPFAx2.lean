import Derived.Test.YtbfimplajocmmaaXUQ
import Derived.Test.YtbfimplajocmmaaXPFAx0
import Derived.Test.YtbfimplajocmmaaXH1
namespace Go.Proofs.Ytbfimplajocmmaa.PFA
open Go.RowKit Go.Proofs.YtbfimplajocmmaaW.PrintWords Go.Proofs.YtbfimplajocmmaaW.PrintLast Go.Proofs.YtbfimplajocmmaaW.PrintMore
attribute [local go_sem] max2_int min2_int max_two min_two max_three min_three max_four min_four
set_option linter.unusedVariables false
set_option linter.unusedSimpArgs false

def Au.l0 : Nat → List Int → List Int → Int → Option (Bool)
 | 0, _, _, _ => none
 | k + 1, x0, x1, x5 => if x5 < (x0.length : Int) then (if 0 ≤ x5 then (if x5 < (x1.length : Int) then (if (rd x0 x5) = (rd x1 x5) then (Au.l0 k x0 x1 (wrap64 (x5 + 1))) else (some false)) else (none)) else (none)) else (some true)
def Au.f (k : Nat) (l0 : List Int) (l1 : List Int) : Option (Bool) := if (l0.length : Int) = (l1.length : Int) then (Au.l0 k l0 l1 0) else (some false)
theorem Au.mono_l : ∀ k, (∀ y0 y1 y2, LeO (Au.l0 k y0 y1 y2) (Au.l0 (k + 1) y0 y1 y2))
 | 0 => fun _ _ _ r h => by simp [Au.l0] at h
 | k + 1 => by
  have ih0 := Au.mono_l k
  ·intro y0 y1 y2
   unfold Au.l0
   repeat' first
   | (with_reducible exact ih0 _ _ _)
   | (with_reducible exact LeO.refl _)
   | (with_reducible exact LeO.none _)
   | (with_reducible refine LeO.ite ?_ ?_)
   | (with_reducible refine LeO.bind ?_ (fun _ => ?_))
   | exact ih0 _ _ _
   | exact LeO.none _
   | refine LeO.ite ?_ ?_
   | refine LeO.bind ?_ (fun _ => ?_)
theorem Au.mono : ∀ a0 a1 k, LeO (Au.f k a0 a1) (Au.f (k + 1) a0 a1) := by
 intro a0 a1 k; have ih0 := Au.mono_l k; unfold Au.f
 repeat' first
   | (with_reducible exact ih0 _ _ _)
   | (with_reducible exact LeO.refl _)
   | (with_reducible exact LeO.none _)
   | (with_reducible refine LeO.ite ?_ ?_)
   | (with_reducible refine LeO.bind ?_ (fun _ => ?_))
   | exact ih0 _ _ _
   | exact LeO.none _
   | refine LeO.ite ?_ ?_
   | refine LeO.bind ?_ (fun _ => ?_)
set_option maxHeartbeats 8000000 in
set_option maxRecDepth 100000 in
theorem Au.calls (k : Nat) (A0 : Option Addr) (c0 : Nat) (l0 : List Int) (A1 : Option Addr) (c1 : Nat) (l1 : List Int) (r : Bool) (w : World) (hr0 : Kd.C (Kd.int .i64) w A0 l0.length l0) (hc0 : l0.length ≤ c0) (hr1 : Kd.C (Kd.int .i64) w A1 l1.length l1) (hc1 : l1.length ≤ c1) (h : Au.f k l0 l1 = some r) :
  Calls Try.prog 40 #[.slice A0 l0.length c0, .slice A1 l1.length c1] w fun e w' => e = .returned (.bool r) ∧ Drawn0 w w' := by
 have HR0 := Ae.mk hr0; have HC0 := Ae.mk hc0; clear hr0 hc0; have HR1 := Ae.mk hr1; have HC1 := Ae.mk hc1; clear hr1 hc1; have H : (if (l0.length : Int) = (l1.length : Int) then (Au.l0 k l0 l1 0) else (some false)) = some r := h; clear h
 by_cases c3 : (l0.length : Int) = (l1.length : Int)
 ·rw [if_pos c3] at H
  have bw : ((l0.length : Int) == (l1.length : Int)) = true := beq_iff_eq.mpr c3; have bT : ((l0.length : Int) != (l1.length : Int)) = false := bne_eq_false_iff_eq.mpr c3; have bV : (l0.length == l1.length) = true := by first | simpa using c3 | (simp at c3 ⊢; omega)
  clear c3; have H' := Ae.mk H; clear H; go_enter Try.func40, Try.ntmps40
  go_wp2
  repeat (go_quiet (fail); try go_wp2)
  go_loopg [5] k (fun kq v5 w' => ∃ (an : Int), v5 = .int .i64 an ∧ Ae (Au.l0 kq l0 l1 an = some r) ∧ Ae (kq ≤ k) ∧ Drawn0 w w')
  case atStart => exact ⟨(0), (by first | rfl | (simp; done) | (simp [*]; done)), H', ⟨Nat.le_refl _⟩, by repeat (first | exact Drawn0.refl _ | apply Drawn0.step)⟩
  case round =>
   clear H'; (try clear c1); (try clear p2); (try clear c3); (try clear bw); (try clear bT); (try clear bV); obtain ⟨an, rfl, HA, HK1, ⟨m1, rfl⟩⟩ := hrel; cases gk with
   | zero => exact absurd HA.out (by simp [Au.l0])
   | succ k1 =>
    have H := HA.out; clear HA
    simp only [Au.l0] at H
    by_cases c4 : an < (l0.length : Int)
    ·rw [if_pos c4] at H
     have aC : decide (an < (l0.length : Int)) = true := decide_eq_true c4; clear c4
     by_cases c5 : 0 ≤ an
     ·rw [if_pos c5] at H
      have aZ : decide (0 ≤ an) = true := decide_eq_true c5; clear c5
      by_cases c6 : an < (l1.length : Int)
      ·rw [if_pos c6] at H
       have bW : decide (an < (l1.length : Int)) = true := decide_eq_true c6; clear c6
       by_cases c7 : (rd l0 an) = (rd l1 an)
       ·rw [if_pos c7] at H
        have dB : ((rd l0 an) == (rd l1 an)) = true := beq_iff_eq.mpr c7; have dC : ((rd l0 an) != (rd l1 an)) = false := bne_eq_false_iff_eq.mpr c7; clear c7; have H' := Ae.mk H; clear H; have aJ : 0 ≤ (an : Int) := of_decide_eq_true (by with_reducible assumption); have aK : an < (l0.length : Int) := of_decide_eq_true (by with_reducible assumption); obtain ⟨bX, e101, bz⟩ := Kd.at_int HR0.out an aJ aK; cases e101; replace aJ := eq_true aJ; replace aK := eq_true aK; have aM : 0 ≤ (an : Int) := of_decide_eq_true (by with_reducible assumption); have aN : an < (l1.length : Int) := of_decide_eq_true (by with_reducible assumption); obtain ⟨bY, e102, bB⟩ := Kd.at_int HR1.out an aM aN; cases e102; replace aM := eq_true aM; replace aN := eq_true aN
        go_wp2
        repeat (go_quiet (fail); try go_wp2)
        go_roundg k1
        case measure => have := HK1.out; omega
        case rel => exact ⟨(wrap64 (an + 1)), (by first | rfl | (simp; done) | (simp [*]; done)), H', ⟨by have := HK1.out; omega⟩, by repeat (first | exact Drawn0.refl _ | apply Drawn0.step)⟩
       ·rw [if_neg c7] at H
        have dB : ((rd l0 an) == (rd l1 an)) = false := beq_eq_false_iff_ne.mpr c7; have dC : ((rd l0 an) != (rd l1 an)) = true := bne_iff_ne.mpr c7; obtain rfl := Option.some.inj H; have aJ : 0 ≤ (an : Int) := of_decide_eq_true (by with_reducible assumption); have aK : an < (l0.length : Int) := of_decide_eq_true (by with_reducible assumption); obtain ⟨bX, e101, bz⟩ := Kd.at_int HR0.out an aJ aK; cases e101; replace aJ := eq_true aJ; replace aK := eq_true aK; have aM : 0 ≤ (an : Int) := of_decide_eq_true (by with_reducible assumption); have aN : an < (l1.length : Int) := of_decide_eq_true (by with_reducible assumption); obtain ⟨bY, e102, bB⟩ := Kd.at_int HR1.out an aM aN; cases e102; replace aM := eq_true aM; replace aN := eq_true aN
        go_wp2
        repeat (go_quiet (fail); try go_wp2)
        go_ret
        exact ⟨by first | rfl | (simp; done) | (simp [*]; done), by repeat (first | exact Drawn0.refl _ | apply Drawn0.step)⟩
      ·rw [if_neg c6] at H
       exact absurd H (by simp)
     ·rw [if_neg c5] at H
      exact absurd H (by simp)
    ·rw [if_neg c4] at H
     have aC : decide (an < (l0.length : Int)) = false := decide_eq_false c4; clear c4; obtain rfl := Option.some.inj H
     go_wp2
     repeat (go_quiet (fail); try go_wp2)
     go_ret
     exact ⟨by first | rfl | (simp; done) | (simp [*]; done), by repeat (first | exact Drawn0.refl _ | apply Drawn0.step)⟩
 ·rw [if_neg c3] at H
  have bw : ((l0.length : Int) == (l1.length : Int)) = false := beq_eq_false_iff_ne.mpr c3; have bT : ((l0.length : Int) != (l1.length : Int)) = true := bne_iff_ne.mpr c3; have bV : (l0.length == l1.length) = false := by first | simpa using c3 | (simp at c3 ⊢; omega)
  obtain rfl := Option.some.inj H; go_enter Try.func40, Try.ntmps40
  go_wp2
  repeat (go_quiet (fail); try go_wp2)
  go_ret
  exact ⟨by first | rfl | (simp; done) | (simp [*]; done), by repeat (first | exact Drawn0.refl _ | apply Drawn0.step)⟩

def Dt.f (a0 : Int) (a1 : Int) : Option (Bool) := if a0 ≥ 1 then (if a1 ≥ 1 then (if a0 ≤ 1024 then (if a1 ≤ 1024 then (some (decide ((wrap64 (a0 * a1)) ≤ 65536))) else (some false)) else (some false)) else (some false)) else (some false)
set_option maxHeartbeats 8000000 in
set_option maxRecDepth 100000 in
theorem Dt.calls (a0 : Int) (a1 : Int) (r : Bool) (w : World) (h : Dt.f a0 a1 = some r) :
  Calls Try.prog 74 #[.int .i64 a0, .int .i64 a1] w fun e w' => e = .returned (.bool r) ∧ Drawn0 w w' := by
 have H : (if a0 ≥ 1 then (if a1 ≥ 1 then (if a0 ≤ 1024 then (if a1 ≤ 1024 then (some (decide ((wrap64 (a0 * a1)) ≤ 65536))) else (some false)) else (some false)) else (some false)) else (some false)) = some r := h; clear h
 by_cases c3 : a0 ≥ 1
 ·rw [if_pos c3] at H
  have bw : decide (1 ≤ a0) = true := decide_eq_true c3; clear c3
  by_cases c4 : a1 ≥ 1
  ·rw [if_pos c4] at H
   have aC : decide (1 ≤ a1) = true := decide_eq_true c4; clear c4
   by_cases c5 : a0 ≤ 1024
   ·rw [if_pos c5] at H
    have aZ : decide (a0 ≤ 1024) = true := decide_eq_true c5; clear c5
    by_cases c6 : a1 ≤ 1024
    ·rw [if_pos c6] at H
     have bW : decide (a1 ≤ 1024) = true := decide_eq_true c6; clear c6; obtain rfl := Option.some.inj H; go_enter Try.func74, Try.ntmps74
     go_wp2
     go_ret
     exact ⟨by first | rfl | (simp; done) | (simp [*]; done), by repeat (first | exact Drawn0.refl _ | apply Drawn0.step)⟩
    ·rw [if_neg c6] at H
     have bW : decide (a1 ≤ 1024) = false := decide_eq_false c6; clear c6; obtain rfl := Option.some.inj H; go_enter Try.func74, Try.ntmps74
     go_wp2
     go_ret
     exact ⟨by first | rfl | (simp; done) | (simp [*]; done), by repeat (first | exact Drawn0.refl _ | apply Drawn0.step)⟩
   ·rw [if_neg c5] at H
    have aZ : decide (a0 ≤ 1024) = false := decide_eq_false c5; clear c5; obtain rfl := Option.some.inj H; go_enter Try.func74, Try.ntmps74
    go_wp2
    go_ret
    exact ⟨by first | rfl | (simp; done) | (simp [*]; done), by repeat (first | exact Drawn0.refl _ | apply Drawn0.step)⟩
  ·rw [if_neg c4] at H
   have aC : decide (1 ≤ a1) = false := decide_eq_false c4; clear c4; obtain rfl := Option.some.inj H; go_enter Try.func74, Try.ntmps74
   go_wp2
   go_ret
   exact ⟨by first | rfl | (simp; done) | (simp [*]; done), by repeat (first | exact Drawn0.refl _ | apply Drawn0.step)⟩
 ·rw [if_neg c3] at H
  have bw : decide (1 ≤ a0) = false := decide_eq_false c3; clear c3; obtain rfl := Option.some.inj H; go_enter Try.func74, Try.ntmps74
  go_wp2
  go_ret
  exact ⟨by first | rfl | (simp; done) | (simp [*]; done), by repeat (first | exact Drawn0.refl _ | apply Drawn0.step)⟩

def Cw.f (aa : Int) (ab : Int) (ae : List Int) : Option (Int) := (Dt.f aa ab).bind fun ba => (if ba = true then (if (ae.length : Int) = (wrap64 (aa * ab)) then (some 0) else (some 51)) else (some 50))
set_option maxHeartbeats 8000000 in
set_option maxRecDepth 100000 in
theorem Cw.calls (aa : Int) (ab : Int) (aj : Option Addr) (ak : Nat) (ae : List Int) (r : Int) (w : World) (ay : Kd.C (Kd.int .u32) w aj ae.length ae) (az : ae.length ≤ ak) (h : Cw.f aa ab ae = some r) :
  Calls Try.prog 44 #[.agg #[.int .i64 aa, .int .i64 ab, .slice aj ae.length ak]] w fun e w' => e = .returned (.int .i64 r) ∧ Below w.heap.size w w' := by
 have hu24 := Try.underlying24; have aD := Ae.mk ay; have aE := Ae.mk az; clear ay az; have HB := Ae.mk (Below.refl w.heap.size w); have H : ((Dt.f aa ab).bind fun ba => (if ba = true then (if (ae.length : Int) = (wrap64 (aa * ab)) then (some 0) else (some 51)) else (some 50))) = some r := h; clear h; replace H := Option.bind_eq_some_iff.mp H; obtain ⟨ba, A20, H⟩ := H
 try dsimp only at H
 have A2 := Ae.mk A20; clear A20
 by_cases c3 : ba = true
 ·subst c3
  have H1 := H; rw [if_pos rfl] at H1; clear H; have H := H1; clear H1
  by_cases c4 : (ae.length : Int) = (wrap64 (aa * ab))
  ·rw [if_pos c4] at H
   have aC : ((ae.length : Int) == (wrap64 (aa * ab))) = true := beq_iff_eq.mpr c4; have aY : ((ae.length : Int) != (wrap64 (aa * ab))) = false := bne_eq_false_iff_eq.mpr c4; clear c4; obtain rfl := Option.some.inj H; go_enter Try.func44, Try.ntmps44
   go_wp2_with (first | ((with_reducible refine Bq (N := 1) rfl ?_); refine Bo ?hg (N := 1) ?hd (cs := #[.int .i64 aa, .int .i64 ab, .slice aj ae.length ak]) (t := 24) ?hr ?_; (case hd => rfl); (case hg => rfl); (case hr => first | (go_simp; done) | (go_simp; rfl)); intro ar hg w5 hbox hb; have ao := Ae.mk (hbox); have bJ := Ae.mk ((by rw [hg]; exact (Aq (lU HB.out)) : w.heap.size ≤ ar)); have aH := Ae.mk ((by rw [hg]; exact (Aq (lU HB.out)) : w.heap.size ≤ ar)); replace HB := Ae.mk (At (lU HB.out) hb); clear hb hbox hg; have bb : w5.cell? ⟨ar, 0, none⟩ = some (.int .i64 aa) := (Af ao.out 0).trans rfl; have bc : w5.cell? ⟨ar, 1, none⟩ = some (.int .i64 ab) := (Af ao.out 1).trans rfl; have bd : w5.cell? ⟨ar, 2, none⟩ = some (.slice aj ae.length ak) := (Af ao.out 2).trans rfl; have bf := Ag ao.out 0; have bg := Ag ao.out 1; have bh := Ag ao.out 2) | ((with_reducible refine Bp (f := 74) rfl ?_); refine gL (some 8) Try.func74 #[.int .i64 aa, .int .i64 ab] ?_; (with_reducible refine (Dt.calls aa ab true _ A2.out).mono ?_); rintro e w' ⟨rfl, ⟨nd, rfl⟩⟩; refine ⟨_, rfl, ?_⟩))
   go_ret
   exact ⟨by first | rfl | (simp [Bc, Bb] <;> rfl) | (simp [*, Bc, Bb] <;> rfl), by repeat (first | (with_reducible first | exact HB.out | apply Ah | apply Aj | apply Ak | refine Ai ?_ aH.out) | exact HB.out)⟩
  ·rw [if_neg c4] at H
   have aC : ((ae.length : Int) == (wrap64 (aa * ab))) = false := beq_eq_false_iff_ne.mpr c4; have aY : ((ae.length : Int) != (wrap64 (aa * ab))) = true := bne_iff_ne.mpr c4; obtain rfl := Option.some.inj H; go_enter Try.func44, Try.ntmps44
   go_wp2_with (first | ((with_reducible refine Bq (N := 1) rfl ?_); refine Bo ?hg (N := 1) ?hd (cs := #[.int .i64 aa, .int .i64 ab, .slice aj ae.length ak]) (t := 24) ?hr ?_; (case hd => rfl); (case hg => rfl); (case hr => first | (go_simp; done) | (go_simp; rfl)); intro ar hg w7 hbox hb; have ao := Ae.mk (hbox); have bJ := Ae.mk ((by rw [hg]; exact (Aq (lU HB.out)) : w.heap.size ≤ ar)); have aH := Ae.mk ((by rw [hg]; exact (Aq (lU HB.out)) : w.heap.size ≤ ar)); replace HB := Ae.mk (At (lU HB.out) hb); clear hb hbox hg; have bN : w7.cell? ⟨ar, 0, none⟩ = some (.int .i64 aa) := (Af ao.out 0).trans rfl; have bO : w7.cell? ⟨ar, 1, none⟩ = some (.int .i64 ab) := (Af ao.out 1).trans rfl; have bP : w7.cell? ⟨ar, 2, none⟩ = some (.slice aj ae.length ak) := (Af ao.out 2).trans rfl; have bQ := Ag ao.out 0; have bR := Ag ao.out 1; have bS := Ag ao.out 2) | ((with_reducible refine Bp (f := 74) rfl ?_); refine gL (some 8) Try.func74 #[.int .i64 aa, .int .i64 ab] ?_; (with_reducible refine (Dt.calls aa ab true _ A2.out).mono ?_); rintro e w' ⟨rfl, ⟨nd, rfl⟩⟩; refine ⟨_, rfl, ?_⟩))
   go_ret
   exact ⟨by first | rfl | (simp [Bc, Bb] <;> rfl) | (simp [*, Bc, Bb] <;> rfl), by repeat (first | (with_reducible first | exact HB.out | apply Ah | apply Aj | apply Ak | refine Ai ?_ aH.out) | exact HB.out)⟩
 ·replace c3 := Bool.eq_false_iff.mpr c3
  subst c3; have H1 := H; rw [if_neg (show ¬ (false = true) by decide)] at H1; clear H; have H := H1; clear H1; obtain rfl := Option.some.inj H; go_enter Try.func44, Try.ntmps44
  go_wp2_with (first | ((with_reducible refine Bq (N := 1) rfl ?_); refine Bo ?hg (N := 1) ?hd (cs := #[.int .i64 aa, .int .i64 ab, .slice aj ae.length ak]) (t := 24) ?hr ?_; (case hd => rfl); (case hg => rfl); (case hr => first | (go_simp; done) | (go_simp; rfl)); intro ar hg w9 hbox hb; have ao := Ae.mk (hbox); have bJ := Ae.mk ((by rw [hg]; exact (Aq (lU HB.out)) : w.heap.size ≤ ar)); have aH := Ae.mk ((by rw [hg]; exact (Aq (lU HB.out)) : w.heap.size ≤ ar)); replace HB := Ae.mk (At (lU HB.out) hb); clear hb hbox hg; have aQ : w9.cell? ⟨ar, 0, none⟩ = some (.int .i64 aa) := (Af ao.out 0).trans rfl; have aT : w9.cell? ⟨ar, 1, none⟩ = some (.int .i64 ab) := (Af ao.out 1).trans rfl; have aU : w9.cell? ⟨ar, 2, none⟩ = some (.slice aj ae.length ak) := (Af ao.out 2).trans rfl; have aV := Ag ao.out 0; have aW := Ag ao.out 1; have aX := Ag ao.out 2) | ((with_reducible refine Bp (f := 74) rfl ?_); refine gL (some 8) Try.func74 #[.int .i64 aa, .int .i64 ab] ?_; (with_reducible refine (Dt.calls aa ab false _ A2.out).mono ?_); rintro e w' ⟨rfl, ⟨nd, rfl⟩⟩; refine ⟨_, rfl, ?_⟩))
  go_ret
  exact ⟨by first | rfl | (simp [Bc, Bb] <;> rfl) | (simp [*, Bc, Bb] <;> rfl), by repeat (first | (with_reducible first | exact HB.out | apply Ah | apply Aj | apply Ak | refine Ai ?_ aH.out) | exact HB.out)⟩

def C4.f (a0 : Int) : Option (Int) := if a0 < 2147483648 then (some ((a0 + 2147483648) % 4294967296)) else (some ((4294967295 - a0) % 4294967296))
set_option maxHeartbeats 8000000 in
set_option maxRecDepth 100000 in
theorem C4.calls (a0 : Int) (r : Int) (w : World) (h : C4.f a0 = some r) :
  Calls Try.prog 75 #[.int .u32 a0] w fun e w' => e = .returned (.int .u32 r) ∧ Drawn0 w w' := by
 have H : (if a0 < 2147483648 then (some ((a0 + 2147483648) % 4294967296)) else (some ((4294967295 - a0) % 4294967296))) = some r := h; clear h
 by_cases c2 : a0 < 2147483648
 ·rw [if_pos c2] at H
  have dD : decide (a0 < 2147483648) = true := decide_eq_true c2; clear c2; obtain rfl := Option.some.inj H; go_enter Try.func75, Try.ntmps75
  go_wp2
  go_ret
  exact ⟨by first | rfl | (simp; done) | (simp [*]; done), by repeat (first | exact Drawn0.refl _ | apply Drawn0.step)⟩
 ·rw [if_neg c2] at H
  have dD : decide (a0 < 2147483648) = false := decide_eq_false c2; clear c2; obtain rfl := Option.some.inj H; go_enter Try.func75, Try.ntmps75
  go_wp2
  go_ret
  exact ⟨by first | rfl | (simp; done) | (simp [*]; done), by repeat (first | exact Drawn0.refl _ | apply Drawn0.step)⟩

def Dv.f (a0 : Int) (a1 : Int) : Option (Int) := (C4.f a1).bind fun bj => ((C4.f a0).bind fun bm => (some (wrap64 ((wrap64 (bj)) - (wrap64 (bm))))))
set_option maxHeartbeats 8000000 in
set_option maxRecDepth 100000 in
theorem Dv.calls (a0 : Int) (a1 : Int) (r : Int) (w : World) (h : Dv.f a0 a1 = some r) :
  Calls Try.prog 69 #[.int .u32 a0, .int .u32 a1] w fun e w' => e = .returned (.int .i64 r) ∧ Drawn0 w w' := by
 have H : ((C4.f a1).bind fun bj => ((C4.f a0).bind fun bm => (some (wrap64 ((wrap64 (bj)) - (wrap64 (bm))))))) = some r := h; clear h; replace H := Option.bind_eq_some_iff.mp H; obtain ⟨bj, A30, H⟩ := H
 try dsimp only at H
 have A3 := Ae.mk A30; clear A30; replace H := Option.bind_eq_some_iff.mp H; obtain ⟨bm, A40, H⟩ := H
 try dsimp only at H
 have A4 := Ae.mk A40; clear A40; obtain rfl := Option.some.inj H; go_enter Try.func69, Try.ntmps69
 go_wp2_with (first | ((with_reducible refine Bp (f := 75) rfl ?_); refine gL (some 6) Try.func75 #[.int .u32 a1] ?_; (with_reducible refine (C4.calls a1 bj _ A3.out).mono ?_); rintro e w' ⟨rfl, ⟨nd, rfl⟩⟩; refine ⟨_, rfl, ?_⟩) | ((with_reducible refine Bp (f := 75) rfl ?_); refine gL (some 9) Try.func75 #[.int .u32 a0] ?_; (with_reducible refine (C4.calls a0 bm _ A4.out).mono ?_); rintro e w' ⟨rfl, ⟨nd, rfl⟩⟩; refine ⟨_, rfl, ?_⟩))
 go_ret
 exact ⟨by first | rfl | (simp; done) | (simp [*]; done), by repeat (first | exact Drawn0.refl _ | apply Drawn0.step)⟩

def Dm.f (a0 : Int) (a1 : Int) : Option (Bool) := (plane_New.f a0 a1 0).bind fun bo => (some (bo.2.2.2 == 0))
set_option maxHeartbeats 8000000 in
set_option maxRecDepth 100000 in
theorem Dm.calls (a0 : Int) (a1 : Int) (r : Bool) (w : World) (h : Dm.f a0 a1 = some r) :
  Calls Try.prog 54 #[.int .i64 a0, .int .i64 a1] w fun e w' => e = .returned (.bool r) ∧ Below w.heap.size w w' := by
 have hu24 := Try.underlying24; have HB := Ae.mk (Below.refl w.heap.size w); have H : ((plane_New.f a0 a1 0).bind fun bo => (some (bo.2.2.2 == 0))) = some r := h; clear h; replace H := Option.bind_eq_some_iff.mp H; obtain ⟨⟨dE, dF, dG, dH⟩, A30, H⟩ := H
 try dsimp only at H
 have A3 := Ae.mk A30; clear A30; obtain rfl := Option.some.inj H; go_enter Try.func54, Try.ntmps54
 go_wp2_with (first | ((with_reducible refine Bp (f := 82) rfl ?_); refine gL (some 10) Try.func82 #[.int .i64 a0, .int .i64 a1, .int .u32 0] ?_; (with_reducible refine (plane_New.calls a0 a1 0 dE dF dG dH _ A3.out).mono ?_); rintro e w4 ⟨v110, rfl, ho0, hb⟩; refine ⟨_, rfl, ?_⟩; have bp := Ae.mk (Kd.B9 ho0 (Aq (lU HB.out))); replace HB := Ae.mk (At (lU HB.out) hb); (try clear hb); (try clear hb2); (try clear hk); (try clear hi); (try clear ho0)) | ((with_reducible refine Bq (N := 5) rfl ?_); refine Bo ?hg (N := 5) ?hd (cs := #[.int .i64 0, .int .i64 0, .slice none 0 0]) (t := 24) ?hr ?_; (case hd => rfl); (case hg => rfl); (case hr => first | (go_simp; done) | (go_simp; rfl)); intro aI hg w5 hbox hb; replace bp := Ae.mk (Kd.Ax (by exact rU <| bp.out) hb); have aG := Ae.mk (hbox); have dO := Ae.mk ((by rw [hg]; exact (Aq (lU HB.out)) : w.heap.size ≤ aI)); have bZ := Ae.mk ((by rw [hg]; exact (Aq (lU HB.out)) : w.heap.size ≤ aI)); replace HB := Ae.mk (At (lU HB.out) hb); clear hb hbox hg; have bb : w5.cell? ⟨aI, 0, none⟩ = some (.int .i64 0) := (Af aG.out 0).trans rfl; have bc : w5.cell? ⟨aI, 1, none⟩ = some (.int .i64 0) := (Af aG.out 1).trans rfl; have bd : w5.cell? ⟨aI, 2, none⟩ = some (.slice none 0 0) := (Af aG.out 2).trans rfl; have bf := Ag aG.out 0; have bg := Ag aG.out 1; have bh := Ag aG.out 2; obtain ⟨Ao7, co7, eo7⟩ := Kd.B6 bp.out; subst eo7))
 go_ret
 exact ⟨by first | rfl | (simp [Bc, Bb] <;> rfl) | (simp [*, Bc, Bb] <;> rfl), by repeat (first | (with_reducible first | exact HB.out | apply Ah | apply Aj | apply Ak | refine Ai ?_ bZ.out) | exact HB.out)⟩

def Cp.f (aa : Int) (ab : Int) (ae : List Bool) : Option (Int) := (Dm.f aa ab).bind fun bq => (if bq = true then (if (ae.length : Int) = (wrap64 (aa * ab)) then (some 0) else (some 301)) else (some 300))
set_option maxHeartbeats 8000000 in
set_option maxRecDepth 100000 in
theorem Cp.calls (aa : Int) (ab : Int) (aj : Option Addr) (ak : Nat) (ae : List Bool) (r : Int) (w : World) (ay : Kd.C Kd.bool w aj ae.length ae) (az : ae.length ≤ ak) (h : Cp.f aa ab ae = some r) :
  Calls Try.prog 16 #[.agg #[.int .i64 aa, .int .i64 ab, .slice aj ae.length ak]] w fun e w' => e = .returned (.int .i64 r) ∧ Below w.heap.size w w' := by
 have hu27 := Try.underlying27; have aD := Ae.mk ay; have aE := Ae.mk az; clear ay az; have HB := Ae.mk (Below.refl w.heap.size w); have H : ((Dm.f aa ab).bind fun bq => (if bq = true then (if (ae.length : Int) = (wrap64 (aa * ab)) then (some 0) else (some 301)) else (some 300))) = some r := h; clear h; replace H := Option.bind_eq_some_iff.mp H; obtain ⟨bq, A20, H⟩ := H
 try dsimp only at H
 have A2 := Ae.mk A20; clear A20
 by_cases c3 : bq = true
 ·subst c3
  have H1 := H; rw [if_pos rfl] at H1; clear H; have H := H1; clear H1
  by_cases c4 : (ae.length : Int) = (wrap64 (aa * ab))
  ·rw [if_pos c4] at H
   have aC : ((ae.length : Int) == (wrap64 (aa * ab))) = true := beq_iff_eq.mpr c4; have aY : ((ae.length : Int) != (wrap64 (aa * ab))) = false := bne_eq_false_iff_eq.mpr c4; clear c4; obtain rfl := Option.some.inj H; go_enter Try.func16, Try.ntmps16
   go_wp2_with (first | ((with_reducible refine Bq (N := 1) rfl ?_); refine Bo ?hg (N := 1) ?hd (cs := #[.int .i64 aa, .int .i64 ab, .slice aj ae.length ak]) (t := 27) ?hr ?_; (case hd => rfl); (case hg => rfl); (case hr => first | (go_simp; done) | (go_simp; rfl)); intro al hg w5 hbox hb; have ai := Ae.mk (hbox); have bK := Ae.mk ((by rw [hg]; exact (Aq (lU HB.out)) : w.heap.size ≤ al)); have aA := Ae.mk ((by rw [hg]; exact (Aq (lU HB.out)) : w.heap.size ≤ al)); replace HB := Ae.mk (At (lU HB.out) hb); clear hb hbox hg; have bb : w5.cell? ⟨al, 0, none⟩ = some (.int .i64 aa) := (Af ai.out 0).trans rfl; have bc : w5.cell? ⟨al, 1, none⟩ = some (.int .i64 ab) := (Af ai.out 1).trans rfl; have bd : w5.cell? ⟨al, 2, none⟩ = some (.slice aj ae.length ak) := (Af ai.out 2).trans rfl; have bf := Ag ai.out 0; have bg := Ag ai.out 1; have bh := Ag ai.out 2) | ((with_reducible refine Bp (f := 54) rfl ?_); refine gL (some 8) Try.func54 #[.int .i64 aa, .int .i64 ab] ?_; (with_reducible refine (Dm.calls aa ab true _ A2.out).mono ?_); rintro e w7 ⟨rfl, hb⟩; refine ⟨_, rfl, ?_⟩; replace ai := Ae.mk (Ao (g := al) (o := .cells #[.int .i64 aa, .int .i64 ab, .slice aj ae.length ak] 27 (0, 0)) (by exact bU <| ai.out) hb); replace HB := Ae.mk (At (by repeat (first | (with_reducible first | exact HB.out | apply Ah | apply Aj | apply Ak | refine Ai ?_ aA.out) | exact HB.out)) hb); (try clear hb); (try clear hb2); (try clear hk); (try clear hi); have bN : w7.cell? ⟨al, 0, none⟩ = some (.int .i64 aa) := (Af ai.out 0).trans rfl; have bO : w7.cell? ⟨al, 1, none⟩ = some (.int .i64 ab) := (Af ai.out 1).trans rfl; have bP : w7.cell? ⟨al, 2, none⟩ = some (.slice aj ae.length ak) := (Af ai.out 2).trans rfl; have bQ := Ag ai.out 0; have bR := Ag ai.out 1; have bS := Ag ai.out 2))
   go_ret
   exact ⟨by first | rfl | (simp [Bc, Bb] <;> rfl) | (simp [*, Bc, Bb] <;> rfl), by repeat (first | (with_reducible first | exact HB.out | apply Ah | apply Aj | apply Ak | refine Ai ?_ aA.out) | exact HB.out)⟩
  ·rw [if_neg c4] at H
   have aC : ((ae.length : Int) == (wrap64 (aa * ab))) = false := beq_eq_false_iff_ne.mpr c4; have aY : ((ae.length : Int) != (wrap64 (aa * ab))) = true := bne_iff_ne.mpr c4; obtain rfl := Option.some.inj H; go_enter Try.func16, Try.ntmps16
   go_wp2_with (first | ((with_reducible refine Bq (N := 1) rfl ?_); refine Bo ?hg (N := 1) ?hd (cs := #[.int .i64 aa, .int .i64 ab, .slice aj ae.length ak]) (t := 27) ?hr ?_; (case hd => rfl); (case hg => rfl); (case hr => first | (go_simp; done) | (go_simp; rfl)); intro al hg w9 hbox hb; have ai := Ae.mk (hbox); have bK := Ae.mk ((by rw [hg]; exact (Aq (lU HB.out)) : w.heap.size ≤ al)); have aA := Ae.mk ((by rw [hg]; exact (Aq (lU HB.out)) : w.heap.size ≤ al)); replace HB := Ae.mk (At (lU HB.out) hb); clear hb hbox hg; have aQ : w9.cell? ⟨al, 0, none⟩ = some (.int .i64 aa) := (Af ai.out 0).trans rfl; have aT : w9.cell? ⟨al, 1, none⟩ = some (.int .i64 ab) := (Af ai.out 1).trans rfl; have aU : w9.cell? ⟨al, 2, none⟩ = some (.slice aj ae.length ak) := (Af ai.out 2).trans rfl; have aV := Ag ai.out 0; have aW := Ag ai.out 1; have aX := Ag ai.out 2) | ((with_reducible refine Bp (f := 54) rfl ?_); refine gL (some 8) Try.func54 #[.int .i64 aa, .int .i64 ab] ?_; (with_reducible refine (Dm.calls aa ab true _ A2.out).mono ?_); rintro e w11 ⟨rfl, hb⟩; refine ⟨_, rfl, ?_⟩; replace ai := Ae.mk (Ao (g := al) (o := .cells #[.int .i64 aa, .int .i64 ab, .slice aj ae.length ak] 27 (0, 0)) (by exact bU <| ai.out) hb); replace HB := Ae.mk (At (by repeat (first | (with_reducible first | exact HB.out | apply Ah | apply Aj | apply Ak | refine Ai ?_ aA.out) | exact HB.out)) hb); (try clear hb); (try clear hb2); (try clear hk); (try clear hi); have bC : w11.cell? ⟨al, 0, none⟩ = some (.int .i64 aa) := (Af ai.out 0).trans rfl; have bD : w11.cell? ⟨al, 1, none⟩ = some (.int .i64 ab) := (Af ai.out 1).trans rfl; have bE : w11.cell? ⟨al, 2, none⟩ = some (.slice aj ae.length ak) := (Af ai.out 2).trans rfl; have bF := Ag ai.out 0; have bG := Ag ai.out 1; have bH := Ag ai.out 2))
   go_ret
   exact ⟨by first | rfl | (simp [Bc, Bb] <;> rfl) | (simp [*, Bc, Bb] <;> rfl), by repeat (first | (with_reducible first | exact HB.out | apply Ah | apply Aj | apply Ak | refine Ai ?_ aA.out) | exact HB.out)⟩
 ·replace c3 := Bool.eq_false_iff.mpr c3
  subst c3; have H1 := H; rw [if_neg (show ¬ (false = true) by decide)] at H1; clear H; have H := H1; clear H1; obtain rfl := Option.some.inj H; go_enter Try.func16, Try.ntmps16
  go_wp2_with (first | ((with_reducible refine Bq (N := 1) rfl ?_); refine Bo ?hg (N := 1) ?hd (cs := #[.int .i64 aa, .int .i64 ab, .slice aj ae.length ak]) (t := 27) ?hr ?_; (case hd => rfl); (case hg => rfl); (case hr => first | (go_simp; done) | (go_simp; rfl)); intro al hg w13 hbox hb; have ai := Ae.mk (hbox); have bK := Ae.mk ((by rw [hg]; exact (Aq (lU HB.out)) : w.heap.size ≤ al)); have aA := Ae.mk ((by rw [hg]; exact (Aq (lU HB.out)) : w.heap.size ≤ al)); replace HB := Ae.mk (At (lU HB.out) hb); clear hb hbox hg; have b8 : w13.cell? ⟨al, 0, none⟩ = some (.int .i64 aa) := (Af ai.out 0).trans rfl; have b9 : w13.cell? ⟨al, 1, none⟩ = some (.int .i64 ab) := (Af ai.out 1).trans rfl; have cg : w13.cell? ⟨al, 2, none⟩ = some (.slice aj ae.length ak) := (Af ai.out 2).trans rfl; have cp := Ag ai.out 0; have cr := Ag ai.out 1; have cu := Ag ai.out 2) | ((with_reducible refine Bp (f := 54) rfl ?_); refine gL (some 8) Try.func54 #[.int .i64 aa, .int .i64 ab] ?_; (with_reducible refine (Dm.calls aa ab false _ A2.out).mono ?_); rintro e w15 ⟨rfl, hb⟩; refine ⟨_, rfl, ?_⟩; replace ai := Ae.mk (Ao (g := al) (o := .cells #[.int .i64 aa, .int .i64 ab, .slice aj ae.length ak] 27 (0, 0)) (by exact bU <| ai.out) hb); replace HB := Ae.mk (At (by repeat (first | (with_reducible first | exact HB.out | apply Ah | apply Aj | apply Ak | refine Ai ?_ aA.out) | exact HB.out)) hb); (try clear hb); (try clear hb2); (try clear hk); (try clear hi)))
  go_ret
  exact ⟨by first | rfl | (simp [Bc, Bb] <;> rfl) | (simp [*, Bc, Bb] <;> rfl), by repeat (first | (with_reducible first | exact HB.out | apply Ah | apply Aj | apply Ak | refine Ai ?_ aA.out) | exact HB.out)⟩

def Dr.f (aa : Int) (ab : Int) (ae : List Bool) (a1 : Int) : Option (Int × Int × Int × Int) := (Cp.f aa ab ae).bind fun ax => (if ax = 0 then (if a1 = 4 then (some (aa, ab, a1, 0)) else (if a1 = 8 then (some (aa, ab, a1, 0)) else (some (0, 0, 0, 302)))) else (some (0, 0, 0, ax)))
set_option maxHeartbeats 8000000 in
set_option maxRecDepth 100000 in
theorem Dr.calls (aa : Int) (ab : Int) (aj : Option Addr) (ak : Nat) (ae : List Bool) (a1 : Int) (r1 : Int) (r2 : Int) (r3 : Int) (r4 : Int) (w : World) (ay : Kd.C Kd.bool w aj ae.length ae) (az : ae.length ≤ ak) (h : Dr.f aa ab ae a1 = some (r1, r2, r3, r4)) :
  Calls Try.prog 63 #[.agg #[.int .i64 aa, .int .i64 ab, .slice aj ae.length ak], .int .i64 a1] w fun e w' => e = .returned (.tuple #[.agg #[.int .i64 r1, .int .i64 r2, .int .i64 r3], .int .i64 r4]) ∧ Below w.heap.size w w' := by
 have hu27 := Try.underlying27; have hu103 := Try.underlying103; have aD := Ae.mk ay; have aE := Ae.mk az; clear ay az; have HB := Ae.mk (Below.refl w.heap.size w); have H : ((Cp.f aa ab ae).bind fun ax => (if ax = 0 then (if a1 = 4 then (some (aa, ab, a1, 0)) else (if a1 = 8 then (some (aa, ab, a1, 0)) else (some (0, 0, 0, 302)))) else (some (0, 0, 0, ax)))) = some (r1, r2, r3, r4) := h; clear h; replace H := Option.bind_eq_some_iff.mp H; obtain ⟨ax, A30, H⟩ := H
 try dsimp only at H
 have A3 := Ae.mk A30; clear A30
 by_cases c4 : ax = 0
 ·rw [if_pos c4] at H
  have aC : (ax == 0) = true := beq_iff_eq.mpr c4; have aY : (ax != 0) = false := bne_eq_false_iff_eq.mpr c4; clear c4
  by_cases c5 : a1 = 4
  ·rw [if_pos c5] at H
   have aZ : (a1 == 4) = true := beq_iff_eq.mpr c5; have b4 : (a1 != 4) = false := bne_eq_false_iff_eq.mpr c5; clear c5
   simp only [Option.some.injEq, Prod.mk.injEq] at H
   obtain ⟨rfl, rfl, rfl, rfl⟩ := H; go_enter Try.func63, Try.ntmps63
   go_wp2_with (first | ((with_reducible refine Bq (N := 2) rfl ?_); refine Bo ?hg (N := 2) ?hd (cs := #[.int .i64 aa, .int .i64 ab, .slice aj ae.length ak]) (t := 27) ?hr ?_; (case hd => rfl); (case hg => rfl); (case hr => first | (go_simp; done) | (go_simp; rfl)); intro af hg w6 hbox hb; have ac := Ae.mk (hbox); have br := Ae.mk ((by rw [hg]; exact (Aq (lU HB.out)) : w.heap.size ≤ af)); have am := Ae.mk ((by rw [hg]; exact (Aq (lU HB.out)) : w.heap.size ≤ af)); replace HB := Ae.mk (At (lU HB.out) hb); clear hb hbox hg) | ((with_reducible refine Bq (N := 4) rfl ?_); refine Bo ?hg (N := 4) ?hd (cs := #[.int .i64 0, .int .i64 0, .int .i64 0]) (t := 103) ?hr ?_; (case hd => rfl); (case hg => rfl); (case hr => first | (go_simp; done) | (go_simp; rfl)); intro ag hg w7 hbox hb; have ah := Ae.mk (hbox); have bs := Ae.mk ((by rw [hg]; exact (Aq (by repeat (first | (with_reducible first | exact HB.out | apply Ah | apply Aj | apply Ak | refine Ai ?_ am.out) | exact HB.out))) : w.heap.size ≤ ag)); have au := Ae.mk ((by rw [hg]; exact (Aq (by repeat (first | (with_reducible first | exact HB.out | apply Ah | apply Aj | apply Ak | refine Ai ?_ am.out) | exact HB.out))) : w.heap.size ≤ ag)); replace HB := Ae.mk (At (by repeat (first | (with_reducible first | exact HB.out | apply Ah | apply Aj | apply Ak | refine Ai ?_ am.out) | exact HB.out)) hb); have ap := Ae.mk ((by rw [hg]; exact Nat.ne_of_lt (Ba (g := af) (o := .cells #[.int .i64 aa, .int .i64 ab, .slice aj ae.length ak] 27 (0, 0)) (by exact bU <| ac.out)) : af ≠ ag)); have aq := Ae.mk ((by rw [hg]; exact Nat.ne_of_gt (Ba (g := af) (o := .cells #[.int .i64 aa, .int .i64 ab, .slice aj ae.length ak] 27 (0, 0)) (by exact bU <| ac.out)) : ag ≠ af)); replace ac := Ae.mk (Ao (g := af) (o := .cells #[.int .i64 aa, .int .i64 ab, .slice aj ae.length ak] 27 (0, 0)) (by exact bU <| ac.out) hb); clear hb hbox hg; have dW := ap.out; have dX := aq.out; have dI : w7.cell? ⟨af, 0, none⟩ = some (.int .i64 aa) := (Af ac.out 0).trans rfl; have dJ : w7.cell? ⟨af, 1, none⟩ = some (.int .i64 ab) := (Af ac.out 1).trans rfl; have dK : w7.cell? ⟨af, 2, none⟩ = some (.slice aj ae.length ak) := (Af ac.out 2).trans rfl; have dL := Ag ac.out 0; have dM := Ag ac.out 1; have dN := Ag ac.out 2) | ((with_reducible refine Bp (f := 16) rfl ?_); refine gL (some 8) Try.func16 #[.agg #[.int .i64 aa, .int .i64 ab, .slice aj ae.length ak]] ?_; (with_reducible refine (Cp.calls aa ab _ _ ae ax _ ?side1 ?side2 A3.out).mono ?_); (case side1 => repeat (first | exact (Kd.Bw aD.out HB.out) | (with_reducible refine Kd.Bv ?_ _) | (with_reducible refine Kd.Cb ?_ _) | (with_reducible refine Kd.Cg ?_))); (case side2 => exact aE.out); rintro e w10 ⟨rfl, hb⟩; refine ⟨_, rfl, ?_⟩; replace ac := Ae.mk (Ao (g := af) (o := .cells #[.int .i64 aa, .int .i64 ab, .slice aj ae.length ak] 27 (0, 0)) (by exact bU <| ac.out) hb); replace ah := Ae.mk (Ao (g := ag) (o := .cells #[.int .i64 0, .int .i64 0, .int .i64 0] 103 (0, 0)) (by exact bU <| ah.out) hb); replace HB := Ae.mk (At (by repeat (first | (with_reducible first | exact HB.out | apply Ah | apply Aj | apply Ak | refine Ai ?_ am.out | refine Ai ?_ au.out) | exact HB.out)) hb); (try clear hb); (try clear hb2); (try clear hk); (try clear hi); have cx : w10.cell? ⟨af, 0, none⟩ = some (.int .i64 aa) := (Af ac.out 0).trans rfl; have cy : w10.cell? ⟨af, 1, none⟩ = some (.int .i64 ab) := (Af ac.out 1).trans rfl; have cz : w10.cell? ⟨af, 2, none⟩ = some (.slice aj ae.length ak) := (Af ac.out 2).trans rfl; have cA := Ag ac.out 0; have cB := Ag ac.out 1; have cC := Ag ac.out 2; have bC : w10.cell? ⟨ag, 0, none⟩ = some (.int .i64 0) := (Af ah.out 0).trans rfl; have bD : w10.cell? ⟨ag, 1, none⟩ = some (.int .i64 0) := (Af ah.out 1).trans rfl; have bE : w10.cell? ⟨ag, 2, none⟩ = some (.int .i64 0) := (Af ah.out 2).trans rfl; have bF := Ag ah.out 0; have bG := Ag ah.out 1; have bH := Ag ah.out 2))
   refine bodyPost_ret (results_ct rfl _ _ ag 103 #[.int .i64 aa, .int .i64 ab, .int .i64 a1] (0, 0) _ rfl (by (with_reducible repeat (first | refine As ?_ _ | refine Ar ?_ | refine An ?_ _)); refine Az (cs := #[.int .i64 aa, .int .i64 ab, .int .i64 0]) ?_ 2 _ rfl; (with_reducible repeat (first | refine As ?_ _ | refine Ar ?_ | refine An ?_ _)); refine Az (cs := #[.int .i64 aa, .int .i64 0, .int .i64 0]) ?_ 1 _ rfl; (with_reducible repeat (first | refine As ?_ _ | refine Ar ?_ | refine An ?_ _)); refine Az (cs := #[.int .i64 0, .int .i64 0, .int .i64 0]) ?_ 0 _ rfl; exact bU <| ah.out) Try.underlying103 rfl (by kernel_rfl)) rfl ?_; exact ⟨by first | rfl | (simp [Bc, Bb] <;> rfl) | (simp [*, Bc, Bb] <;> rfl), by repeat (first | (with_reducible first | exact HB.out | apply Ah | apply Aj | apply Ak | refine Ai ?_ am.out | refine Ai ?_ au.out) | exact HB.out)⟩
  ·rw [if_neg c5] at H
   have aZ : (a1 == 4) = false := beq_eq_false_iff_ne.mpr c5; have b4 : (a1 != 4) = true := bne_iff_ne.mpr c5
   by_cases c13 : a1 = 8
   ·rw [if_pos c13] at H
    have b5 : (a1 == 8) = true := beq_iff_eq.mpr c13; have b6 : (a1 != 8) = false := bne_eq_false_iff_eq.mpr c13; clear c13
    simp only [Option.some.injEq, Prod.mk.injEq] at H
    obtain ⟨rfl, rfl, rfl, rfl⟩ := H; go_enter Try.func63, Try.ntmps63
    go_wp2_with (first | ((with_reducible refine Bq (N := 2) rfl ?_); refine Bo ?hg (N := 2) ?hd (cs := #[.int .i64 aa, .int .i64 ab, .slice aj ae.length ak]) (t := 27) ?hr ?_; (case hd => rfl); (case hg => rfl); (case hr => first | (go_simp; done) | (go_simp; rfl)); intro af hg w14 hbox hb; have ac := Ae.mk (hbox); have br := Ae.mk ((by rw [hg]; exact (Aq (lU HB.out)) : w.heap.size ≤ af)); have am := Ae.mk ((by rw [hg]; exact (Aq (lU HB.out)) : w.heap.size ≤ af)); replace HB := Ae.mk (At (lU HB.out) hb); clear hb hbox hg) | ((with_reducible refine Bq (N := 4) rfl ?_); refine Bo ?hg (N := 4) ?hd (cs := #[.int .i64 0, .int .i64 0, .int .i64 0]) (t := 103) ?hr ?_; (case hd => rfl); (case hg => rfl); (case hr => first | (go_simp; done) | (go_simp; rfl)); intro ag hg w15 hbox hb; have ah := Ae.mk (hbox); have bs := Ae.mk ((by rw [hg]; exact (Aq (by repeat (first | (with_reducible first | exact HB.out | apply Ah | apply Aj | apply Ak | refine Ai ?_ am.out) | exact HB.out))) : w.heap.size ≤ ag)); have au := Ae.mk ((by rw [hg]; exact (Aq (by repeat (first | (with_reducible first | exact HB.out | apply Ah | apply Aj | apply Ak | refine Ai ?_ am.out) | exact HB.out))) : w.heap.size ≤ ag)); replace HB := Ae.mk (At (by repeat (first | (with_reducible first | exact HB.out | apply Ah | apply Aj | apply Ak | refine Ai ?_ am.out) | exact HB.out)) hb); have ap := Ae.mk ((by rw [hg]; exact Nat.ne_of_lt (Ba (g := af) (o := .cells #[.int .i64 aa, .int .i64 ab, .slice aj ae.length ak] 27 (0, 0)) (by exact bU <| ac.out)) : af ≠ ag)); have aq := Ae.mk ((by rw [hg]; exact Nat.ne_of_gt (Ba (g := af) (o := .cells #[.int .i64 aa, .int .i64 ab, .slice aj ae.length ak] 27 (0, 0)) (by exact bU <| ac.out)) : ag ≠ af)); replace ac := Ae.mk (Ao (g := af) (o := .cells #[.int .i64 aa, .int .i64 ab, .slice aj ae.length ak] 27 (0, 0)) (by exact bU <| ac.out) hb); clear hb hbox hg; have dP := ap.out; have dQ := aq.out; have cD : w15.cell? ⟨af, 0, none⟩ = some (.int .i64 aa) := (Af ac.out 0).trans rfl; have cE : w15.cell? ⟨af, 1, none⟩ = some (.int .i64 ab) := (Af ac.out 1).trans rfl; have cF : w15.cell? ⟨af, 2, none⟩ = some (.slice aj ae.length ak) := (Af ac.out 2).trans rfl; have cG := Ag ac.out 0; have cH := Ag ac.out 1; have cI := Ag ac.out 2) | ((with_reducible refine Bp (f := 16) rfl ?_); refine gL (some 8) Try.func16 #[.agg #[.int .i64 aa, .int .i64 ab, .slice aj ae.length ak]] ?_; (with_reducible refine (Cp.calls aa ab _ _ ae ax _ ?side1 ?side2 A3.out).mono ?_); (case side1 => repeat (first | exact (Kd.Bw aD.out HB.out) | (with_reducible refine Kd.Bv ?_ _) | (with_reducible refine Kd.Cb ?_ _) | (with_reducible refine Kd.Cg ?_))); (case side2 => exact aE.out); rintro e w18 ⟨rfl, hb⟩; refine ⟨_, rfl, ?_⟩; replace ac := Ae.mk (Ao (g := af) (o := .cells #[.int .i64 aa, .int .i64 ab, .slice aj ae.length ak] 27 (0, 0)) (by exact bU <| ac.out) hb); replace ah := Ae.mk (Ao (g := ag) (o := .cells #[.int .i64 0, .int .i64 0, .int .i64 0] 103 (0, 0)) (by exact bU <| ah.out) hb); replace HB := Ae.mk (At (by repeat (first | (with_reducible first | exact HB.out | apply Ah | apply Aj | apply Ak | refine Ai ?_ am.out | refine Ai ?_ au.out) | exact HB.out)) hb); (try clear hb); (try clear hb2); (try clear hk); (try clear hi); have cJ : w18.cell? ⟨af, 0, none⟩ = some (.int .i64 aa) := (Af ac.out 0).trans rfl; have cK : w18.cell? ⟨af, 1, none⟩ = some (.int .i64 ab) := (Af ac.out 1).trans rfl; have cL : w18.cell? ⟨af, 2, none⟩ = some (.slice aj ae.length ak) := (Af ac.out 2).trans rfl; have cM := Ag ac.out 0; have cN := Ag ac.out 1; have cO := Ag ac.out 2; have cP : w18.cell? ⟨ag, 0, none⟩ = some (.int .i64 0) := (Af ah.out 0).trans rfl; have cQ : w18.cell? ⟨ag, 1, none⟩ = some (.int .i64 0) := (Af ah.out 1).trans rfl; have cR : w18.cell? ⟨ag, 2, none⟩ = some (.int .i64 0) := (Af ah.out 2).trans rfl; have cS := Ag ah.out 0; have cU := Ag ah.out 1; have cV := Ag ah.out 2))
    refine bodyPost_ret (results_ct rfl _ _ ag 103 #[.int .i64 aa, .int .i64 ab, .int .i64 a1] (0, 0) _ rfl (by (with_reducible repeat (first | refine As ?_ _ | refine Ar ?_ | refine An ?_ _)); refine Az (cs := #[.int .i64 aa, .int .i64 ab, .int .i64 0]) ?_ 2 _ rfl; (with_reducible repeat (first | refine As ?_ _ | refine Ar ?_ | refine An ?_ _)); refine Az (cs := #[.int .i64 aa, .int .i64 0, .int .i64 0]) ?_ 1 _ rfl; (with_reducible repeat (first | refine As ?_ _ | refine Ar ?_ | refine An ?_ _)); refine Az (cs := #[.int .i64 0, .int .i64 0, .int .i64 0]) ?_ 0 _ rfl; exact bU <| ah.out) Try.underlying103 rfl (by kernel_rfl)) rfl ?_; exact ⟨by first | rfl | (simp [Bc, Bb] <;> rfl) | (simp [*, Bc, Bb] <;> rfl), by repeat (first | (with_reducible first | exact HB.out | apply Ah | apply Aj | apply Ak | refine Ai ?_ am.out | refine Ai ?_ au.out) | exact HB.out)⟩
   ·rw [if_neg c13] at H
    have b5 : (a1 == 8) = false := beq_eq_false_iff_ne.mpr c13; have b6 : (a1 != 8) = true := bne_iff_ne.mpr c13
    simp only [Option.some.injEq, Prod.mk.injEq] at H
    obtain ⟨rfl, rfl, rfl, rfl⟩ := H; go_enter Try.func63, Try.ntmps63
    go_wp2_with (first | ((with_reducible refine Bq (N := 2) rfl ?_); refine Bo ?hg (N := 2) ?hd (cs := #[.int .i64 aa, .int .i64 ab, .slice aj ae.length ak]) (t := 27) ?hr ?_; (case hd => rfl); (case hg => rfl); (case hr => first | (go_simp; done) | (go_simp; rfl)); intro af hg w21 hbox hb; have ac := Ae.mk (hbox); have br := Ae.mk ((by rw [hg]; exact (Aq (lU HB.out)) : w.heap.size ≤ af)); have am := Ae.mk ((by rw [hg]; exact (Aq (lU HB.out)) : w.heap.size ≤ af)); replace HB := Ae.mk (At (lU HB.out) hb); clear hb hbox hg) | ((with_reducible refine Bq (N := 4) rfl ?_); refine Bo ?hg (N := 4) ?hd (cs := #[.int .i64 0, .int .i64 0, .int .i64 0]) (t := 103) ?hr ?_; (case hd => rfl); (case hg => rfl); (case hr => first | (go_simp; done) | (go_simp; rfl)); intro ag hg w22 hbox hb; have ah := Ae.mk (hbox); have bs := Ae.mk ((by rw [hg]; exact (Aq (by repeat (first | (with_reducible first | exact HB.out | apply Ah | apply Aj | apply Ak | refine Ai ?_ am.out) | exact HB.out))) : w.heap.size ≤ ag)); have au := Ae.mk ((by rw [hg]; exact (Aq (by repeat (first | (with_reducible first | exact HB.out | apply Ah | apply Aj | apply Ak | refine Ai ?_ am.out) | exact HB.out))) : w.heap.size ≤ ag)); replace HB := Ae.mk (At (by repeat (first | (with_reducible first | exact HB.out | apply Ah | apply Aj | apply Ak | refine Ai ?_ am.out) | exact HB.out)) hb); have ap := Ae.mk ((by rw [hg]; exact Nat.ne_of_lt (Ba (g := af) (o := .cells #[.int .i64 aa, .int .i64 ab, .slice aj ae.length ak] 27 (0, 0)) (by exact bU <| ac.out)) : af ≠ ag)); have aq := Ae.mk ((by rw [hg]; exact Nat.ne_of_gt (Ba (g := af) (o := .cells #[.int .i64 aa, .int .i64 ab, .slice aj ae.length ak] 27 (0, 0)) (by exact bU <| ac.out)) : ag ≠ af)); replace ac := Ae.mk (Ao (g := af) (o := .cells #[.int .i64 aa, .int .i64 ab, .slice aj ae.length ak] 27 (0, 0)) (by exact bU <| ac.out) hb); clear hb hbox hg; have dR := ap.out; have dS := aq.out; have cW : w22.cell? ⟨af, 0, none⟩ = some (.int .i64 aa) := (Af ac.out 0).trans rfl; have cX : w22.cell? ⟨af, 1, none⟩ = some (.int .i64 ab) := (Af ac.out 1).trans rfl; have cY : w22.cell? ⟨af, 2, none⟩ = some (.slice aj ae.length ak) := (Af ac.out 2).trans rfl; have cZ := Ag ac.out 0; have da := Ag ac.out 1; have db := Ag ac.out 2) | ((with_reducible refine Bp (f := 16) rfl ?_); refine gL (some 8) Try.func16 #[.agg #[.int .i64 aa, .int .i64 ab, .slice aj ae.length ak]] ?_; (with_reducible refine (Cp.calls aa ab _ _ ae ax _ ?side1 ?side2 A3.out).mono ?_); (case side1 => repeat (first | exact (Kd.Bw aD.out HB.out) | (with_reducible refine Kd.Bv ?_ _) | (with_reducible refine Kd.Cb ?_ _) | (with_reducible refine Kd.Cg ?_))); (case side2 => exact aE.out); rintro e w25 ⟨rfl, hb⟩; refine ⟨_, rfl, ?_⟩; replace ac := Ae.mk (Ao (g := af) (o := .cells #[.int .i64 aa, .int .i64 ab, .slice aj ae.length ak] 27 (0, 0)) (by exact bU <| ac.out) hb); replace ah := Ae.mk (Ao (g := ag) (o := .cells #[.int .i64 0, .int .i64 0, .int .i64 0] 103 (0, 0)) (by exact bU <| ah.out) hb); replace HB := Ae.mk (At (by repeat (first | (with_reducible first | exact HB.out | apply Ah | apply Aj | apply Ak | refine Ai ?_ am.out | refine Ai ?_ au.out) | exact HB.out)) hb); (try clear hb); (try clear hb2); (try clear hk); (try clear hi); have dc : w25.cell? ⟨ag, 0, none⟩ = some (.int .i64 0) := (Af ah.out 0).trans rfl; have dd : w25.cell? ⟨ag, 1, none⟩ = some (.int .i64 0) := (Af ah.out 1).trans rfl; have df : w25.cell? ⟨ag, 2, none⟩ = some (.int .i64 0) := (Af ah.out 2).trans rfl; have dg := Ag ah.out 0; have dh := Ag ah.out 1; have di := Ag ah.out 2))
    refine bodyPost_ret (results_ct rfl _ _ ag 103 #[.int .i64 0, .int .i64 0, .int .i64 0] (0, 0) _ rfl (by (with_reducible repeat (first | refine As ?_ _ | refine Ar ?_ | refine An ?_ _)); refine Az (cs := #[.int .i64 0, .int .i64 0, .int .i64 0]) ?_ 2 _ rfl; (with_reducible repeat (first | refine As ?_ _ | refine Ar ?_ | refine An ?_ _)); refine Az (cs := #[.int .i64 0, .int .i64 0, .int .i64 0]) ?_ 1 _ rfl; (with_reducible repeat (first | refine As ?_ _ | refine Ar ?_ | refine An ?_ _)); refine Az (cs := #[.int .i64 0, .int .i64 0, .int .i64 0]) ?_ 0 _ rfl; exact bU <| ah.out) Try.underlying103 rfl (by kernel_rfl)) rfl ?_; exact ⟨by first | rfl | (simp [Bc, Bb] <;> rfl) | (simp [*, Bc, Bb] <;> rfl), by repeat (first | (with_reducible first | exact HB.out | apply Ah | apply Aj | apply Ak | refine Ai ?_ am.out | refine Ai ?_ au.out) | exact HB.out)⟩
 ·rw [if_neg c4] at H
  have aC : (ax == 0) = false := beq_eq_false_iff_ne.mpr c4; have aY : (ax != 0) = true := bne_iff_ne.mpr c4
  simp only [Option.some.injEq, Prod.mk.injEq] at H
  obtain ⟨rfl, rfl, rfl, rfl⟩ := H; go_enter Try.func63, Try.ntmps63
  go_wp2_with (first | ((with_reducible refine Bq (N := 2) rfl ?_); refine Bo ?hg (N := 2) ?hd (cs := #[.int .i64 aa, .int .i64 ab, .slice aj ae.length ak]) (t := 27) ?hr ?_; (case hd => rfl); (case hg => rfl); (case hr => first | (go_simp; done) | (go_simp; rfl)); intro af hg w27 hbox hb; have ac := Ae.mk (hbox); have br := Ae.mk ((by rw [hg]; exact (Aq (lU HB.out)) : w.heap.size ≤ af)); have am := Ae.mk ((by rw [hg]; exact (Aq (lU HB.out)) : w.heap.size ≤ af)); replace HB := Ae.mk (At (lU HB.out) hb); clear hb hbox hg) | ((with_reducible refine Bq (N := 4) rfl ?_); refine Bo ?hg (N := 4) ?hd (cs := #[.int .i64 0, .int .i64 0, .int .i64 0]) (t := 103) ?hr ?_; (case hd => rfl); (case hg => rfl); (case hr => first | (go_simp; done) | (go_simp; rfl)); intro ag hg w28 hbox hb; have ah := Ae.mk (hbox); have bs := Ae.mk ((by rw [hg]; exact (Aq (by repeat (first | (with_reducible first | exact HB.out | apply Ah | apply Aj | apply Ak | refine Ai ?_ am.out) | exact HB.out))) : w.heap.size ≤ ag)); have au := Ae.mk ((by rw [hg]; exact (Aq (by repeat (first | (with_reducible first | exact HB.out | apply Ah | apply Aj | apply Ak | refine Ai ?_ am.out) | exact HB.out))) : w.heap.size ≤ ag)); replace HB := Ae.mk (At (by repeat (first | (with_reducible first | exact HB.out | apply Ah | apply Aj | apply Ak | refine Ai ?_ am.out) | exact HB.out)) hb); have ap := Ae.mk ((by rw [hg]; exact Nat.ne_of_lt (Ba (g := af) (o := .cells #[.int .i64 aa, .int .i64 ab, .slice aj ae.length ak] 27 (0, 0)) (by exact bU <| ac.out)) : af ≠ ag)); have aq := Ae.mk ((by rw [hg]; exact Nat.ne_of_gt (Ba (g := af) (o := .cells #[.int .i64 aa, .int .i64 ab, .slice aj ae.length ak] 27 (0, 0)) (by exact bU <| ac.out)) : ag ≠ af)); replace ac := Ae.mk (Ao (g := af) (o := .cells #[.int .i64 aa, .int .i64 ab, .slice aj ae.length ak] 27 (0, 0)) (by exact bU <| ac.out) hb); clear hb hbox hg; have dT := ap.out; have dU := aq.out; have dj : w28.cell? ⟨af, 0, none⟩ = some (.int .i64 aa) := (Af ac.out 0).trans rfl; have dk : w28.cell? ⟨af, 1, none⟩ = some (.int .i64 ab) := (Af ac.out 1).trans rfl; have dn : w28.cell? ⟨af, 2, none⟩ = some (.slice aj ae.length ak) := (Af ac.out 2).trans rfl; have dp := Ag ac.out 0; have dq := Ag ac.out 1; have dr := Ag ac.out 2) | ((with_reducible refine Bp (f := 16) rfl ?_); refine gL (some 8) Try.func16 #[.agg #[.int .i64 aa, .int .i64 ab, .slice aj ae.length ak]] ?_; (with_reducible refine (Cp.calls aa ab _ _ ae ax _ ?side1 ?side2 A3.out).mono ?_); (case side1 => repeat (first | exact (Kd.Bw aD.out HB.out) | (with_reducible refine Kd.Bv ?_ _) | (with_reducible refine Kd.Cb ?_ _) | (with_reducible refine Kd.Cg ?_))); (case side2 => exact aE.out); rintro e w31 ⟨rfl, hb⟩; refine ⟨_, rfl, ?_⟩; replace ac := Ae.mk (Ao (g := af) (o := .cells #[.int .i64 aa, .int .i64 ab, .slice aj ae.length ak] 27 (0, 0)) (by exact bU <| ac.out) hb); replace ah := Ae.mk (Ao (g := ag) (o := .cells #[.int .i64 0, .int .i64 0, .int .i64 0] 103 (0, 0)) (by exact bU <| ah.out) hb); replace HB := Ae.mk (At (by repeat (first | (with_reducible first | exact HB.out | apply Ah | apply Aj | apply Ak | refine Ai ?_ am.out | refine Ai ?_ au.out) | exact HB.out)) hb); (try clear hb); (try clear hb2); (try clear hk); (try clear hi); have dt : w31.cell? ⟨ag, 0, none⟩ = some (.int .i64 0) := (Af ah.out 0).trans rfl; have du : w31.cell? ⟨ag, 1, none⟩ = some (.int .i64 0) := (Af ah.out 1).trans rfl; have dv : w31.cell? ⟨ag, 2, none⟩ = some (.int .i64 0) := (Af ah.out 2).trans rfl; have dw := Ag ah.out 0; have dz := Ag ah.out 1; have dA := Ag ah.out 2))
  refine bodyPost_ret (results_ct rfl _ _ ag 103 #[.int .i64 0, .int .i64 0, .int .i64 0] (0, 0) _ rfl (by (with_reducible repeat (first | refine As ?_ _ | refine Ar ?_ | refine An ?_ _)); refine Az (cs := #[.int .i64 0, .int .i64 0, .int .i64 0]) ?_ 2 _ rfl; (with_reducible repeat (first | refine As ?_ _ | refine Ar ?_ | refine An ?_ _)); refine Az (cs := #[.int .i64 0, .int .i64 0, .int .i64 0]) ?_ 1 _ rfl; (with_reducible repeat (first | refine As ?_ _ | refine Ar ?_ | refine An ?_ _)); refine Az (cs := #[.int .i64 0, .int .i64 0, .int .i64 0]) ?_ 0 _ rfl; exact bU <| ah.out) Try.underlying103 rfl (by kernel_rfl)) rfl ?_; exact ⟨by first | rfl | (simp [Bc, Bb] <;> rfl) | (simp [*, Bc, Bb] <;> rfl), by repeat (first | (with_reducible first | exact HB.out | apply Ah | apply Aj | apply Ak | refine Ai ?_ am.out | refine Ai ?_ au.out) | exact HB.out)⟩

def Cz.f (a0 : Int) (a1 : Int) : Option (Int × Int × List Bool) := if 0 ≤ (wrap64 (a0 * a1)) then (if (wrap64 (a0 * a1) : Int).toNat ≤ 281474976710656 then (some (a0, a1, (List.replicate (wrap64 (a0 * a1) : Int).toNat false))) else (none)) else (none)
set_option maxHeartbeats 8000000 in
set_option maxRecDepth 100000 in
theorem Cz.calls (a0 : Int) (a1 : Int) (r1 : Int) (r2 : Int) (r3 : List Bool) (w : World) (h : Cz.f a0 a1 = some (r1, r2, r3)) :
  Calls Try.prog 45 #[.int .i64 a0, .int .i64 a1] w fun e w' => ∃ v2_ : Value, e = .returned (.agg #[.int .i64 r1, .int .i64 r2, v2_]) ∧ Kd.R Kd.bool 4 w' w.heap.size (fun _ => True) v2_ r3 ∧ Below w.heap.size w w' := by
 have hu27 := Try.underlying27; have HB := Ae.mk (Below.refl w.heap.size w); have H : (if 0 ≤ (wrap64 (a0 * a1)) then (if (wrap64 (a0 * a1) : Int).toNat ≤ 281474976710656 then (some (a0, a1, (List.replicate (wrap64 (a0 * a1) : Int).toNat false))) else (none)) else (none)) = some (r1, r2, r3) := h; clear h; obtain ⟨ji3, bI⟩ : ∃ j_ : Int, (wrap64 (a0 * a1)) = j_ := ⟨_, rfl⟩; replace H : (if 0 ≤ (ji3) then (if (ji3 : Int).toNat ≤ 281474976710656 then (some (a0, a1, (List.replicate (ji3 : Int).toNat false))) else (none)) else (none)) = some (r1, r2, r3) := by first | (rw [bI] at H; exact H) | (simp only [bI] at H ⊢; exact H)
 have hji3w : (IntKind.i64.wrap (a0 * a1)) = ji3 := (i64_w _).trans bI
 by_cases c4 : 0 ≤ (ji3)
 ·rw [if_pos c4] at H
  have aC := eq_true c4; have aY : decide (0 ≤ (ji3)) = true := decide_eq_true c4; clear c4
  by_cases c5 : (ji3 : Int).toNat ≤ 281474976710656
  ·rw [if_pos c5] at H
   have aZ := eq_true c5; have b4 : decide ((ji3 : Int).toNat ≤ 281474976710656) = true := decide_eq_true c5; clear c5; obtain ⟨b7, bu⟩ : ∃ y_ : List Bool, y_ = (List.replicate (ji3 : Int).toNat false) := ⟨_, rfl⟩; (try rw [Option.bind_some] at H); try rw [← bu] at H; have bL := Ae.mk bu; clear bu
   simp only [Option.some.injEq, Prod.mk.injEq] at H
   obtain ⟨rfl, rfl, rfl⟩ := H; go_enter Try.func45, Try.ntmps45
   go_wp2_with (first | ((with_reducible refine Bq (N := 4) rfl ?_); refine Bo ?hg (N := 4) ?hd (cs := #[.int .i64 0, .int .i64 0, .slice none 0 0]) (t := 27) ?hr ?_; (case hd => rfl); (case hg => rfl); (case hr => first | (go_simp; done) | (go_simp; rfl)); intro av hg w6 hbox hb; have aw := Ae.mk (hbox); have dV := Ae.mk ((by rw [hg]; exact (Aq (lU HB.out)) : w.heap.size ≤ av)); have bv := Ae.mk ((by rw [hg]; exact (Aq (lU HB.out)) : w.heap.size ≤ av)); replace HB := Ae.mk (At (lU HB.out) hb); clear hb hbox hg) | ((with_reducible refine Bq (N := 10) rfl ?_); refine Kd.R_make Kd.bool _ 4 rfl (N := 10) rfl 25 _ _ rfl ji3 rfl rfl Try.underlying25 (.bool false) 1 info4 rfl (by decide) (by omega) false (ok := fun _ => True) (okp := fun _ => True) rfl (fun _ hk => hk) trivial (of_decide_eq_true (by with_reducible assumption)) (Nat.le_trans (Nat.mul_le_mul_right _ (of_decide_eq_true (by with_reducible assumption) : ji3.toNat ≤ 281474976710656)) (by omega)) (Below.refl _ _) (Nat.le_refl _) ?_; intro v121 w7 ho8 hb hg_ hnew_; clear hg_ hnew_; (first | rw [← bL.out] at ho8 | (simp only [Int.reduceToNat] at ho8; rw [← bL.out] at ho8)); have bM := Ae.mk (Kd.B9 ho8 (Aq (by repeat (first | (with_reducible first | exact HB.out | apply Ah | apply Aj | apply Ak | refine Ai ?_ bv.out) | exact HB.out)))); replace aw := Ae.mk (Ao (g := av) (o := .cells #[.int .i64 0, .int .i64 0, .slice none 0 0] 27 (0, 0)) (by exact bU <| aw.out) hb); replace HB := Ae.mk (At (by repeat (first | (with_reducible first | exact HB.out | apply Ah | apply Aj | apply Ak | refine Ai ?_ bv.out) | exact HB.out)) hb); clear hb ho8; obtain ⟨Ao9, co9, eo9⟩ := Kd.B6 bM.out; subst eo9; have aQ : w7.cell? ⟨av, 0, none⟩ = some (.int .i64 0) := (Af aw.out 0).trans rfl; have aT : w7.cell? ⟨av, 1, none⟩ = some (.int .i64 0) := (Af aw.out 1).trans rfl; have aU : w7.cell? ⟨av, 2, none⟩ = some (.slice none 0 0) := (Af aw.out 2).trans rfl; have aV := Ag aw.out 0; have aW := Ag aw.out 1; have aX := Ag aw.out 2))
   refine bodyPost_ret (results_cell_row rfl _ _ av 27 #[.int .i64 a0, .int .i64 a1, .slice Ao9 b7.length co9] (0, 0) _ rfl (by (with_reducible repeat (first | refine As ?_ _ | refine Ar ?_ | refine An ?_ _)); refine Az (cs := #[.int .i64 a0, .int .i64 a1, .slice none 0 0]) ?_ 2 _ rfl; (with_reducible repeat (first | refine As ?_ _ | refine Ar ?_ | refine An ?_ _)); refine Az (cs := #[.int .i64 a0, .int .i64 0, .slice none 0 0]) ?_ 1 _ rfl; (with_reducible repeat (first | refine As ?_ _ | refine Ar ?_ | refine An ?_ _)); refine Az (cs := #[.int .i64 0, .int .i64 0, .slice none 0 0]) ?_ 0 _ rfl; exact bU <| aw.out) Try.underlying27 rfl (by kernel_rfl)) rfl ?_; exact ⟨_, by first | rfl | (simp [Bc, Bb] <;> rfl) | (simp only [← bI]; first | rfl | (simp [Bc, Bb] <;> rfl)) | (simp [*, Bc, Bb] <;> rfl), by exact rU <| Kd.Bt (Kd.Bn (p := ⟨av, 2, none⟩) (Kd.Bn (p := ⟨av, 1, none⟩) (Kd.Bn (p := ⟨av, 0, none⟩) (Kd.Ce bM.out aw.out (by decide)) (fun _ hk => hk.2) (.int .i64 a0)) (fun _ hk => hk.2) (.int .i64 a1)) (fun _ hk => hk.2) (.slice Ao9 b7.length co9)) (fun _ hk => trivial), by repeat (first | (with_reducible first | exact HB.out | apply Ah | apply Aj | apply Ak | refine Ai ?_ bv.out) | exact HB.out)⟩
  ·rw [if_neg c5] at H
   exact absurd H (by simp)
 ·rw [if_neg c4] at H
  exact absurd H (by simp)

end Go.Proofs.Ytbfimplajocmmaa.PFA

