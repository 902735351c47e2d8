import Derived.Test.YteamphcehoaleaaZPFAx0
import Derived.Test.YteamphcehoaleaaZH1
namespace Go.Proofs.Yteamphcehoaleaa.PFA
open Go.RowKit Go.Proofs.YteamphcehoaleaaW.PrintWords Go.Proofs.YteamphcehoaleaaW.PrintLast Go.Proofs.YteamphcehoaleaaW.PrintMore
attribute [local go_sem] max2_int min2_int max_two min_two max_three min_three max_four min_four
set_option linter.unusedVariables false
set_option linter.unusedSimpArgs false

def Ar.l0 : Nat → List Int → List Int → Int → Option (Bool)
 | 0, _, _, _ => none
 | k + 1, x0, x1, x5 => if x5 < (x0.length : Int) then (if 0 ≤ x5 then (if x5 < (x1.length : Int) then (if (rd x0 x5) = (rd x1 x5) then (Ar.l0 k x0 x1 (wrap64 (x5 + 1))) else (some false)) else (none)) else (none)) else (some true)
def Ar.f (k : Nat) (l0 : List Int) (l1 : List Int) : Option (Bool) := if (l0.length : Int) = (l1.length : Int) then (Ar.l0 k l0 l1 0) else (some false)
theorem Ar.mono_l : ∀ k, (∀ y0 y1 y2, LeO (Ar.l0 k y0 y1 y2) (Ar.l0 (k + 1) y0 y1 y2))
 | 0 => fun _ _ _ r h => by simp [Ar.l0] at h
 | k + 1 => by
  have ih0 := Ar.mono_l k
  ·intro y0 y1 y2
   unfold Ar.l0
   repeat' first
   | (with_reducible exact ih0 _ _ _)
   | (with_reducible exact LeO.refl _)
   | (with_reducible exact LeO.none _)
   | (with_reducible refine LeO.ite ?_ ?_)
   | (with_reducible refine LeO.bind ?_ (fun _ => ?_))
   | exact ih0 _ _ _
   | exact LeO.none _
   | refine LeO.ite ?_ ?_
   | refine LeO.bind ?_ (fun _ => ?_)
theorem Ar.mono : ∀ a0 a1 k, LeO (Ar.f k a0 a1) (Ar.f (k + 1) a0 a1) := by
 intro a0 a1 k
 have ih0 := Ar.mono_l k
 unfold Ar.f
 repeat' first
   | (with_reducible exact ih0 _ _ _)
   | (with_reducible exact LeO.refl _)
   | (with_reducible exact LeO.none _)
   | (with_reducible refine LeO.ite ?_ ?_)
   | (with_reducible refine LeO.bind ?_ (fun _ => ?_))
   | exact ih0 _ _ _
   | exact LeO.none _
   | refine LeO.ite ?_ ?_
   | refine LeO.bind ?_ (fun _ => ?_)
set_option maxHeartbeats 8000000 in
set_option maxRecDepth 100000 in
theorem Ar.calls (k : Nat) (A0 : Option Addr) (c0 : Nat) (l0 : List Int) (A1 : Option Addr) (c1 : Nat) (l1 : List Int) (r : Bool) (w : World) (hr0 : Kd.C (Kd.int .i64) w A0 l0.length l0) (hc0 : l0.length ≤ c0) (hr1 : Kd.C (Kd.int .i64) w A1 l1.length l1) (hc1 : l1.length ≤ c1) (h : Ar.f k l0 l1 = some r) :
  Calls Try.prog 18 #[.slice A0 l0.length c0, .slice A1 l1.length c1] w fun e w' => e = .returned (.bool r) ∧ Drawn0 w w' := by
 have HR0 := Aa.mk hr0
 have HC0 := Aa.mk hc0
 clear hr0 hc0
 have HR1 := Aa.mk hr1
 have HC1 := Aa.mk hc1
 clear hr1 hc1
 have H : (if (l0.length : Int) = (l1.length : Int) then (Ar.l0 k l0 l1 0) else (some false)) = some r := h
 clear h
 by_cases c3 : (l0.length : Int) = (l1.length : Int)
 ·rw [if_pos c3] at H
  have bs : ((l0.length : Int) == (l1.length : Int)) = true := beq_iff_eq.mpr c3
  have bP : ((l0.length : Int) != (l1.length : Int)) = false := bne_eq_false_iff_eq.mpr c3
  have bQ : (l0.length == l1.length) = true := by first | simpa using c3 | (simp at c3 ⊢; omega)
  clear c3
  have H' := Aa.mk H
  clear H
  go_enter Try.func18, Try.ntmps18
  go_wp2
  repeat (go_quiet (fail); try go_wp2)
  go_loopg [5] k (fun kq v5 w' => ∃ (an : Int), v5 = .int .i64 an ∧ Aa (Ar.l0 kq l0 l1 an = some r) ∧ Aa (kq ≤ k) ∧ Drawn0 w w')
  case atStart => exact ⟨(0), (by first | rfl | (simp; done) | (simp [*]; done)), H', ⟨Nat.le_refl _⟩, by repeat (first | exact Drawn0.refl _ | apply Drawn0.step)⟩
  case round =>
   clear H'
   try clear c1
   try clear p2
   try clear c3
   try clear bs
   try clear bP
   try clear bQ
   obtain ⟨an, rfl, HA, HK1, ⟨m1, rfl⟩⟩ := hrel
   cases gk with
   | zero => exact absurd HA.out (by simp [Ar.l0])
   | succ k1 =>
    have H := HA.out
    clear HA
    simp only [Ar.l0] at H
    by_cases c4 : an < (l0.length : Int)
    ·rw [if_pos c4] at H
     have aC : decide (an < (l0.length : Int)) = true := decide_eq_true c4
     clear c4
     by_cases c5 : 0 ≤ an
     ·rw [if_pos c5] at H
      have ba : decide (0 ≤ an) = true := decide_eq_true c5
      clear c5
      by_cases c6 : an < (l1.length : Int)
      ·rw [if_pos c6] at H
       have bR : decide (an < (l1.length : Int)) = true := decide_eq_true c6
       clear c6
       by_cases c7 : (rd l0 an) = (rd l1 an)
       ·rw [if_pos c7] at H
        have dn : ((rd l0 an) == (rd l1 an)) = true := beq_iff_eq.mpr c7
        have dp : ((rd l0 an) != (rd l1 an)) = false := bne_eq_false_iff_eq.mpr c7
        clear c7
        have H' := Aa.mk H
        clear H
        have aJ : 0 ≤ (an : Int) := of_decide_eq_true (by with_reducible assumption)
        have aK : an < (l0.length : Int) := of_decide_eq_true (by with_reducible assumption)
        obtain ⟨bS, e101, bt⟩ := Kd.at_int HR0.out an aJ aK
        cases e101
        replace aJ := eq_true aJ
        replace aK := eq_true aK
        have aM : 0 ≤ (an : Int) := of_decide_eq_true (by with_reducible assumption)
        have aN : an < (l1.length : Int) := of_decide_eq_true (by with_reducible assumption)
        obtain ⟨bT, e102, bu⟩ := Kd.at_int HR1.out an aM aN
        cases e102
        replace aM := eq_true aM
        replace aN := eq_true aN
        go_wp2
        repeat (go_quiet (fail); try go_wp2)
        go_roundg k1
        case measure => have := HK1.out; omega
        case rel => exact ⟨(wrap64 (an + 1)), (by first | rfl | (simp; done) | (simp [*]; done)), H', ⟨by have := HK1.out; omega⟩, by repeat (first | exact Drawn0.refl _ | apply Drawn0.step)⟩
       ·rw [if_neg c7] at H
        have dn : ((rd l0 an) == (rd l1 an)) = false := beq_eq_false_iff_ne.mpr c7
        have dp : ((rd l0 an) != (rd l1 an)) = true := bne_iff_ne.mpr c7
        obtain rfl := Option.some.inj H
        have aJ : 0 ≤ (an : Int) := of_decide_eq_true (by with_reducible assumption)
        have aK : an < (l0.length : Int) := of_decide_eq_true (by with_reducible assumption)
        obtain ⟨bS, e101, bt⟩ := Kd.at_int HR0.out an aJ aK
        cases e101
        replace aJ := eq_true aJ
        replace aK := eq_true aK
        have aM : 0 ≤ (an : Int) := of_decide_eq_true (by with_reducible assumption)
        have aN : an < (l1.length : Int) := of_decide_eq_true (by with_reducible assumption)
        obtain ⟨bT, e102, bu⟩ := Kd.at_int HR1.out an aM aN
        cases e102
        replace aM := eq_true aM
        replace aN := eq_true aN
        go_wp2
        repeat (go_quiet (fail); try go_wp2)
        go_ret
        exact ⟨by first | rfl | (simp; done) | (simp [*]; done), by repeat (first | exact Drawn0.refl _ | apply Drawn0.step)⟩
      ·rw [if_neg c6] at H
       exact absurd H (by simp)
     ·rw [if_neg c5] at H
      exact absurd H (by simp)
    ·rw [if_neg c4] at H
     have aC : decide (an < (l0.length : Int)) = false := decide_eq_false c4
     clear c4
     obtain rfl := Option.some.inj H
     go_wp2
     repeat (go_quiet (fail); try go_wp2)
     go_ret
     exact ⟨by first | rfl | (simp; done) | (simp [*]; done), by repeat (first | exact Drawn0.refl _ | apply Drawn0.step)⟩
 ·rw [if_neg c3] at H
  have bs : ((l0.length : Int) == (l1.length : Int)) = false := beq_eq_false_iff_ne.mpr c3
  have bP : ((l0.length : Int) != (l1.length : Int)) = true := bne_iff_ne.mpr c3
  have bQ : (l0.length == l1.length) = false := by first | simpa using c3 | (simp at c3 ⊢; omega)
  obtain rfl := Option.some.inj H
  go_enter Try.func18, Try.ntmps18
  go_wp2
  repeat (go_quiet (fail); try go_wp2)
  go_ret
  exact ⟨by first | rfl | (simp; done) | (simp [*]; done), by repeat (first | exact Drawn0.refl _ | apply Drawn0.step)⟩

def Dq.f (a0 : Int) (a1 : Int) : Option (Bool) := if a0 ≥ 1 then (if a1 ≥ 1 then (if a0 ≤ 1024 then (if a1 ≤ 1024 then (some (decide ((wrap64 (a0 * a1)) ≤ 65536))) else (some false)) else (some false)) else (some false)) else (some false)
set_option maxHeartbeats 8000000 in
set_option maxRecDepth 100000 in
theorem Dq.calls (a0 : Int) (a1 : Int) (r : Bool) (w : World) (h : Dq.f a0 a1 = some r) :
  Calls Try.prog 98 #[.int .i64 a0, .int .i64 a1] w fun e w' => e = .returned (.bool r) ∧ Drawn0 w w' := by
 have H : (if a0 ≥ 1 then (if a1 ≥ 1 then (if a0 ≤ 1024 then (if a1 ≤ 1024 then (some (decide ((wrap64 (a0 * a1)) ≤ 65536))) else (some false)) else (some false)) else (some false)) else (some false)) = some r := h
 clear h
 by_cases c3 : a0 ≥ 1
 ·rw [if_pos c3] at H
  have bs : decide (1 ≤ a0) = true := decide_eq_true c3
  clear c3
  by_cases c4 : a1 ≥ 1
  ·rw [if_pos c4] at H
   have aC : decide (1 ≤ a1) = true := decide_eq_true c4
   clear c4
   by_cases c5 : a0 ≤ 1024
   ·rw [if_pos c5] at H
    have ba : decide (a0 ≤ 1024) = true := decide_eq_true c5
    clear c5
    by_cases c6 : a1 ≤ 1024
    ·rw [if_pos c6] at H
     have bR : decide (a1 ≤ 1024) = true := decide_eq_true c6
     clear c6
     obtain rfl := Option.some.inj H
     go_enter Try.func98, Try.ntmps98
     go_wp2
     go_ret
     exact ⟨by first | rfl | (simp; done) | (simp [*]; done), by repeat (first | exact Drawn0.refl _ | apply Drawn0.step)⟩
    ·rw [if_neg c6] at H
     have bR : decide (a1 ≤ 1024) = false := decide_eq_false c6
     clear c6
     obtain rfl := Option.some.inj H
     go_enter Try.func98, Try.ntmps98
     go_wp2
     go_ret
     exact ⟨by first | rfl | (simp; done) | (simp [*]; done), by repeat (first | exact Drawn0.refl _ | apply Drawn0.step)⟩
   ·rw [if_neg c5] at H
    have ba : decide (a0 ≤ 1024) = false := decide_eq_false c5
    clear c5
    obtain rfl := Option.some.inj H
    go_enter Try.func98, Try.ntmps98
    go_wp2
    go_ret
    exact ⟨by first | rfl | (simp; done) | (simp [*]; done), by repeat (first | exact Drawn0.refl _ | apply Drawn0.step)⟩
  ·rw [if_neg c4] at H
   have aC : decide (1 ≤ a1) = false := decide_eq_false c4
   clear c4
   obtain rfl := Option.some.inj H
   go_enter Try.func98, Try.ntmps98
   go_wp2
   go_ret
   exact ⟨by first | rfl | (simp; done) | (simp [*]; done), by repeat (first | exact Drawn0.refl _ | apply Drawn0.step)⟩
 ·rw [if_neg c3] at H
  have bs : decide (1 ≤ a0) = false := decide_eq_false c3
  clear c3
  obtain rfl := Option.some.inj H
  go_enter Try.func98, Try.ntmps98
  go_wp2
  go_ret
  exact ⟨by first | rfl | (simp; done) | (simp [*]; done), by repeat (first | exact Drawn0.refl _ | apply Drawn0.step)⟩

def plane_Check.f (ab : Int) (ac : Int) (ae : List Int) : Option (Int) := (Dq.f ab ac).bind fun bb => (if bb = true then (if (ae.length : Int) = (wrap64 (ab * ac)) then (some 0) else (some 51)) else (some 50))
set_option maxHeartbeats 8000000 in
set_option maxRecDepth 100000 in
theorem plane_Check.calls (ab : Int) (ac : Int) (aj : Option Addr) (ak : Nat) (ae : List Int) (r : Int) (w : World) (ay : Kd.C (Kd.int .u32) w aj ae.length ae) (az : ae.length ≤ ak) (h : plane_Check.f ab ac ae = some r) :
  Calls Try.prog 65 #[.agg #[.int .i64 ab, .int .i64 ac, .slice aj ae.length ak]] w fun e w' => e = .returned (.int .i64 r) ∧ Below w.heap.size w w' := by
 have hu24 := Try.underlying24
 have aD := Aa.mk ay
 have aE := Aa.mk az
 clear ay az
 have HB := Aa.mk (Below.refl w.heap.size w)
 have H : ((Dq.f ab ac).bind fun bb => (if bb = true then (if (ae.length : Int) = (wrap64 (ab * ac)) then (some 0) else (some 51)) else (some 50))) = some r := h
 clear h
 replace H := Option.bind_eq_some_iff.mp H
 obtain ⟨bb, A20, H⟩ := H
 try dsimp only at H
 have A2 := Aa.mk A20
 clear A20
 by_cases c3 : bb = true
 ·subst c3
  have H1 := H
  rw [if_pos rfl] at H1
  clear H
  have H := H1
  clear H1
  by_cases c4 : (ae.length : Int) = (wrap64 (ab * ac))
  ·rw [if_pos c4] at H
   have aC : ((ae.length : Int) == (wrap64 (ab * ac))) = true := beq_iff_eq.mpr c4
   have aZ : ((ae.length : Int) != (wrap64 (ab * ac))) = false := bne_eq_false_iff_eq.mpr c4
   clear c4
   obtain rfl := Option.some.inj H
   go_enter Try.func65, Try.ntmps65
   go_wp2_with (first | ((with_reducible refine Bq (N := 1) rfl ?_); refine Bt ?hg (N := 1) ?hd (cs := #[.int .i64 ab, .int .i64 ac, .slice aj ae.length ak]) (t := 24) ?hr ?_; (case hd => rfl); (case hg => rfl); (case hr => first | (go_simp; done) | (go_simp; rfl)); intro ar hg w5 hbox hb; have n0_ := Aa.mk (Au (lU HB.out) hb); have n1_ := Aa.mk (hbox); have n2_ := Aa.mk ((by rw [hg]; exact (An (lU HB.out)) : w.heap.size ≤ ar)); have n3_ := Aa.mk ((by rw [hg]; exact (An (lU HB.out)) : w.heap.size ≤ ar)); clear HB; have HB := n0_; have ao := n1_; have bF := n2_; have aH := n3_; clear n0_ n1_ n2_ n3_; clear hb hbox hg; have bc : w5.cell? ⟨ar, 0, none⟩ = some (.int .i64 ab) := (Ad ao.out 0).trans rfl; have bd : w5.cell? ⟨ar, 1, none⟩ = some (.int .i64 ac) := (Ad ao.out 1).trans rfl; have be : w5.cell? ⟨ar, 2, none⟩ = some (.slice aj ae.length ak) := (Ad ao.out 2).trans rfl; have bf := Af ao.out 0; have bg := Af ao.out 1; have bh := Af ao.out 2) | ((with_reducible refine Br (f := 98) rfl ?_); refine Cm (some 8) rfl rfl Try.func98 (by kernel_rfl) rfl #[.int .i64 ab, .int .i64 ac] rfl (by (try simp only [List.map_toArray, List.map_cons, List.map_nil]); first | done | rfl | (simp only [List.length_drop, List.length_take]; rfl)) ?_; (with_reducible refine (Dq.calls ab ac true _ A2.out).mono ?_); rintro e w' ⟨rfl, ⟨nd, rfl⟩⟩; refine ⟨_, rfl, ?_⟩))
   go_ret
   exact ⟨by first | rfl | (simp [Be, Bd] <;> rfl) | (simp [*, Be, Bd] <;> rfl), by repeat (first | (with_reducible first | exact HB.out | apply Ae | apply Ac | apply Ah | refine Ag ?_ aH.out) | exact HB.out)⟩
  ·rw [if_neg c4] at H
   have aC : ((ae.length : Int) == (wrap64 (ab * ac))) = false := beq_eq_false_iff_ne.mpr c4
   have aZ : ((ae.length : Int) != (wrap64 (ab * ac))) = true := bne_iff_ne.mpr c4
   obtain rfl := Option.some.inj H
   go_enter Try.func65, Try.ntmps65
   go_wp2_with (first | ((with_reducible refine Bq (N := 1) rfl ?_); refine Bt ?hg (N := 1) ?hd (cs := #[.int .i64 ab, .int .i64 ac, .slice aj ae.length ak]) (t := 24) ?hr ?_; (case hd => rfl); (case hg => rfl); (case hr => first | (go_simp; done) | (go_simp; rfl)); intro ar hg w7 hbox hb; have n0_ := Aa.mk (Au (lU HB.out) hb); have n1_ := Aa.mk (hbox); have n2_ := Aa.mk ((by rw [hg]; exact (An (lU HB.out)) : w.heap.size ≤ ar)); have n3_ := Aa.mk ((by rw [hg]; exact (An (lU HB.out)) : w.heap.size ≤ ar)); clear HB; have HB := n0_; have ao := n1_; have bF := n2_; have aH := n3_; clear n0_ n1_ n2_ n3_; clear hb hbox hg; have bJ : w7.cell? ⟨ar, 0, none⟩ = some (.int .i64 ab) := (Ad ao.out 0).trans rfl; have bK : w7.cell? ⟨ar, 1, none⟩ = some (.int .i64 ac) := (Ad ao.out 1).trans rfl; have bL : w7.cell? ⟨ar, 2, none⟩ = some (.slice aj ae.length ak) := (Ad ao.out 2).trans rfl; have bM := Af ao.out 0; have bN := Af ao.out 1; have bO := Af ao.out 2) | ((with_reducible refine Br (f := 98) rfl ?_); refine Cm (some 8) rfl rfl Try.func98 (by kernel_rfl) rfl #[.int .i64 ab, .int .i64 ac] rfl (by (try simp only [List.map_toArray, List.map_cons, List.map_nil]); first | done | rfl | (simp only [List.length_drop, List.length_take]; rfl)) ?_; (with_reducible refine (Dq.calls ab ac true _ A2.out).mono ?_); rintro e w' ⟨rfl, ⟨nd, rfl⟩⟩; refine ⟨_, rfl, ?_⟩))
   go_ret
   exact ⟨by first | rfl | (simp [Be, Bd] <;> rfl) | (simp [*, Be, Bd] <;> rfl), by repeat (first | (with_reducible first | exact HB.out | apply Ae | apply Ac | apply Ah | refine Ag ?_ aH.out) | exact HB.out)⟩
 ·replace c3 := Bool.eq_false_iff.mpr c3
  subst c3
  have H1 := H
  rw [if_neg (show ¬ (false = true) by decide)] at H1
  clear H
  have H := H1
  clear H1
  obtain rfl := Option.some.inj H
  go_enter Try.func65, Try.ntmps65
  go_wp2_with (first | ((with_reducible refine Bq (N := 1) rfl ?_); refine Bt ?hg (N := 1) ?hd (cs := #[.int .i64 ab, .int .i64 ac, .slice aj ae.length ak]) (t := 24) ?hr ?_; (case hd => rfl); (case hg => rfl); (case hr => first | (go_simp; done) | (go_simp; rfl)); intro ar hg w9 hbox hb; have n0_ := Aa.mk (Au (lU HB.out) hb); have n1_ := Aa.mk (hbox); have n2_ := Aa.mk ((by rw [hg]; exact (An (lU HB.out)) : w.heap.size ≤ ar)); have n3_ := Aa.mk ((by rw [hg]; exact (An (lU HB.out)) : w.heap.size ≤ ar)); clear HB; have HB := n0_; have ao := n1_; have bF := n2_; have aH := n3_; clear n0_ n1_ n2_ n3_; clear hb hbox hg; have aQ : w9.cell? ⟨ar, 0, none⟩ = some (.int .i64 ab) := (Ad ao.out 0).trans rfl; have aT : w9.cell? ⟨ar, 1, none⟩ = some (.int .i64 ac) := (Ad ao.out 1).trans rfl; have aU : w9.cell? ⟨ar, 2, none⟩ = some (.slice aj ae.length ak) := (Ad ao.out 2).trans rfl; have aV := Af ao.out 0; have aW := Af ao.out 1; have aX := Af ao.out 2) | ((with_reducible refine Br (f := 98) rfl ?_); refine Cm (some 8) rfl rfl Try.func98 (by kernel_rfl) rfl #[.int .i64 ab, .int .i64 ac] rfl (by (try simp only [List.map_toArray, List.map_cons, List.map_nil]); first | done | rfl | (simp only [List.length_drop, List.length_take]; rfl)) ?_; (with_reducible refine (Dq.calls ab ac false _ A2.out).mono ?_); rintro e w' ⟨rfl, ⟨nd, rfl⟩⟩; refine ⟨_, rfl, ?_⟩))
  go_ret
  exact ⟨by first | rfl | (simp [Be, Bd] <;> rfl) | (simp [*, Be, Bd] <;> rfl), by repeat (first | (with_reducible first | exact HB.out | apply Ae | apply Ac | apply Ah | refine Ag ?_ aH.out) | exact HB.out)⟩

def Dj.f (a0 : Int) : Option (Int) := if a0 < 2147483648 then (some ((a0 + 2147483648) % 4294967296)) else (some ((4294967295 - a0) % 4294967296))
set_option maxHeartbeats 8000000 in
set_option maxRecDepth 100000 in
theorem Dj.calls (a0 : Int) (r : Int) (w : World) (h : Dj.f a0 = some r) :
  Calls Try.prog 99 #[.int .u32 a0] w fun e w' => e = .returned (.int .u32 r) ∧ Drawn0 w w' := by
 have H : (if a0 < 2147483648 then (some ((a0 + 2147483648) % 4294967296)) else (some ((4294967295 - a0) % 4294967296))) = some r := h
 clear h
 by_cases c2 : a0 < 2147483648
 ·rw [if_pos c2] at H
  have dq : decide (a0 < 2147483648) = true := decide_eq_true c2
  clear c2
  obtain rfl := Option.some.inj H
  go_enter Try.func99, Try.ntmps99
  go_wp2
  go_ret
  exact ⟨by first | rfl | (simp; done) | (simp [*]; done), by repeat (first | exact Drawn0.refl _ | apply Drawn0.step)⟩
 ·rw [if_neg c2] at H
  have dq : decide (a0 < 2147483648) = false := decide_eq_false c2
  clear c2
  obtain rfl := Option.some.inj H
  go_enter Try.func99, Try.ntmps99
  go_wp2
  go_ret
  exact ⟨by first | rfl | (simp; done) | (simp [*]; done), by repeat (first | exact Drawn0.refl _ | apply Drawn0.step)⟩

def Dn.f (a0 : Int) (a1 : Int) : Option (Int) := (Dj.f a1).bind fun bj => ((Dj.f a0).bind fun bk => (some (wrap64 ((wrap64 (bj)) - (wrap64 (bk))))))
set_option maxHeartbeats 8000000 in
set_option maxRecDepth 100000 in
theorem Dn.calls (a0 : Int) (a1 : Int) (r : Int) (w : World) (h : Dn.f a0 a1 = some r) :
  Calls Try.prog 68 #[.int .u32 a0, .int .u32 a1] w fun e w' => e = .returned (.int .i64 r) ∧ Drawn0 w w' := by
 have H : ((Dj.f a1).bind fun bj => ((Dj.f a0).bind fun bk => (some (wrap64 ((wrap64 (bj)) - (wrap64 (bk))))))) = some r := h
 clear h
 replace H := Option.bind_eq_some_iff.mp H
 obtain ⟨bj, A30, H⟩ := H
 try dsimp only at H
 have A3 := Aa.mk A30
 clear A30
 replace H := Option.bind_eq_some_iff.mp H
 obtain ⟨bk, A40, H⟩ := H
 try dsimp only at H
 have A4 := Aa.mk A40
 clear A40
 obtain rfl := Option.some.inj H
 go_enter Try.func68, Try.ntmps68
 go_wp2_with (first | ((with_reducible refine Br (f := 99) rfl ?_); refine Cm (some 6) rfl rfl Try.func99 (by kernel_rfl) rfl #[.int .u32 a1] rfl (by (try simp only [List.map_toArray, List.map_cons, List.map_nil]); first | done | rfl | (simp only [List.length_drop, List.length_take]; rfl)) ?_; (with_reducible refine (Dj.calls a1 bj _ A3.out).mono ?_); rintro e w' ⟨rfl, ⟨nd, rfl⟩⟩; refine ⟨_, rfl, ?_⟩) | ((with_reducible refine Br (f := 99) rfl ?_); refine Cm (some 9) rfl rfl Try.func99 (by kernel_rfl) rfl #[.int .u32 a0] rfl (by (try simp only [List.map_toArray, List.map_cons, List.map_nil]); first | done | rfl | (simp only [List.length_drop, List.length_take]; rfl)) ?_; (with_reducible refine (Dj.calls a0 bk _ A4.out).mono ?_); rintro e w' ⟨rfl, ⟨nd, rfl⟩⟩; refine ⟨_, rfl, ?_⟩))
 go_ret
 exact ⟨by first | rfl | (simp; done) | (simp [*]; done), by repeat (first | exact Drawn0.refl _ | apply Drawn0.step)⟩

def Cz.f (a0 : Int) (a1 : Int) : Option (Bool) := (Do.f a0 a1 0).bind fun bl => (some (bl.2.2.2 == 0))
set_option maxHeartbeats 8000000 in
set_option maxRecDepth 100000 in
theorem Cz.calls (a0 : Int) (a1 : Int) (r : Bool) (w : World) (h : Cz.f a0 a1 = some r) :
  Calls Try.prog 89 #[.int .i64 a0, .int .i64 a1] w fun e w' => e = .returned (.bool r) ∧ Below w.heap.size w w' := by
 have hu24 := Try.underlying24
 have HB := Aa.mk (Below.refl w.heap.size w)
 have H : ((Do.f a0 a1 0).bind fun bl => (some (bl.2.2.2 == 0))) = some r := h
 clear h
 replace H := Option.bind_eq_some_iff.mp H
 obtain ⟨⟨dr, dt, du, dv⟩, A30, H⟩ := H
 try dsimp only at H
 have A3 := Aa.mk A30
 clear A30
 obtain rfl := Option.some.inj H
 go_enter Try.func89, Try.ntmps89
 go_wp2_with (first | ((with_reducible refine Br (f := 107) rfl ?_); refine Cm (some 10) rfl rfl Try.func107 (by kernel_rfl) rfl #[.int .i64 a0, .int .i64 a1, .int .u32 0] rfl (by (try simp only [List.map_toArray, List.map_cons, List.map_nil]); first | done | rfl | (simp only [List.length_drop, List.length_take]; rfl)) ?_; (with_reducible refine (Do.calls a0 a1 0 dr dt du dv _ A3.out).mono ?_); rintro e w4 ⟨v110, rfl, ho0, hb⟩; refine ⟨_, rfl, ?_⟩; have n0_ := Aa.mk (Kd.Cc ho0 (An (lU HB.out))); have n1_ := Aa.mk (Au (lU HB.out) hb); clear HB; have aY := n0_; have HB := n1_; clear n0_ n1_; (try clear hb); (try clear hb2); (try clear hk); (try clear hi); (try clear ho0)) | ((with_reducible refine Bq (N := 5) rfl ?_); refine Bt ?hg (N := 5) ?hd (cs := #[.int .i64 0, .int .i64 0, .slice none 0 0]) (t := 24) ?hr ?_; (case hd => rfl); (case hg => rfl); (case hr => first | (go_simp; done) | (go_simp; rfl)); intro aI hg w5 hbox hb; have n0_ := Aa.mk (Kd.Bc (by exact rU <| aY.out) hb); have n1_ := Aa.mk (Au (lU HB.out) hb); have n2_ := Aa.mk (hbox); have n3_ := Aa.mk ((by rw [hg]; exact (An (lU HB.out)) : w.heap.size ≤ aI)); have n4_ := Aa.mk ((by rw [hg]; exact (An (lU HB.out)) : w.heap.size ≤ aI)); clear aY; clear HB; have aY := n0_; have HB := n1_; have aG := n2_; have dE := n3_; have bV := n4_; clear n0_ n1_ n2_ n3_ n4_; clear hb hbox hg; have bc : w5.cell? ⟨aI, 0, none⟩ = some (.int .i64 0) := (Ad aG.out 0).trans rfl; have bd : w5.cell? ⟨aI, 1, none⟩ = some (.int .i64 0) := (Ad aG.out 1).trans rfl; have be : w5.cell? ⟨aI, 2, none⟩ = some (.slice none 0 0) := (Ad aG.out 2).trans rfl; have bf := Af aG.out 0; have bg := Af aG.out 1; have bh := Af aG.out 2; obtain ⟨Ao7, co7, eo7⟩ := Kd.B0 aY.out; subst eo7))
 go_ret
 exact ⟨by first | rfl | (simp [Be, Bd] <;> rfl) | (simp [*, Be, Bd] <;> rfl), by repeat (first | (with_reducible first | exact HB.out | apply Ae | apply Ac | apply Ah | refine Ag ?_ bV.out) | exact HB.out)⟩

def Cn.f (ab : Int) (ac : Int) (ae : List Bool) : Option (Int) := (Cz.f ab ac).bind fun bm => (if bm = true then (if (ae.length : Int) = (wrap64 (ab * ac)) then (some 0) else (some 301)) else (some 300))
set_option maxHeartbeats 8000000 in
set_option maxRecDepth 100000 in
theorem Cn.calls (ab : Int) (ac : Int) (aj : Option Addr) (ak : Nat) (ae : List Bool) (r : Int) (w : World) (ay : Kd.C Kd.bool w aj ae.length ae) (az : ae.length ≤ ak) (h : Cn.f ab ac ae = some r) :
  Calls Try.prog 46 #[.agg #[.int .i64 ab, .int .i64 ac, .slice aj ae.length ak]] w fun e w' => e = .returned (.int .i64 r) ∧ Below w.heap.size w w' := by
 have hu50 := Try.underlying50
 have aD := Aa.mk ay
 have aE := Aa.mk az
 clear ay az
 have HB := Aa.mk (Below.refl w.heap.size w)
 have H : ((Cz.f ab ac).bind fun bm => (if bm = true then (if (ae.length : Int) = (wrap64 (ab * ac)) then (some 0) else (some 301)) else (some 300))) = some r := h
 clear h
 replace H := Option.bind_eq_some_iff.mp H
 obtain ⟨bm, A20, H⟩ := H
 try dsimp only at H
 have A2 := Aa.mk A20
 clear A20
 by_cases c3 : bm = true
 ·subst c3
  have H1 := H
  rw [if_pos rfl] at H1
  clear H
  have H := H1
  clear H1
  by_cases c4 : (ae.length : Int) = (wrap64 (ab * ac))
  ·rw [if_pos c4] at H
   have aC : ((ae.length : Int) == (wrap64 (ab * ac))) = true := beq_iff_eq.mpr c4
   have aZ : ((ae.length : Int) != (wrap64 (ab * ac))) = false := bne_eq_false_iff_eq.mpr c4
   clear c4
   obtain rfl := Option.some.inj H
   go_enter Try.func46, Try.ntmps46
   go_wp2_with (first | ((with_reducible refine Bq (N := 1) rfl ?_); refine Bt ?hg (N := 1) ?hd (cs := #[.int .i64 ab, .int .i64 ac, .slice aj ae.length ak]) (t := 50) ?hr ?_; (case hd => rfl); (case hg => rfl); (case hr => first | (go_simp; done) | (go_simp; rfl)); intro al hg w5 hbox hb; have n0_ := Aa.mk (Au (lU HB.out) hb); have n1_ := Aa.mk (hbox); have n2_ := Aa.mk ((by rw [hg]; exact (An (lU HB.out)) : w.heap.size ≤ al)); have n3_ := Aa.mk ((by rw [hg]; exact (An (lU HB.out)) : w.heap.size ≤ al)); clear HB; have HB := n0_; have ah := n1_; have bG := n2_; have aA := n3_; clear n0_ n1_ n2_ n3_; clear hb hbox hg; have bc : w5.cell? ⟨al, 0, none⟩ = some (.int .i64 ab) := (Ad ah.out 0).trans rfl; have bd : w5.cell? ⟨al, 1, none⟩ = some (.int .i64 ac) := (Ad ah.out 1).trans rfl; have be : w5.cell? ⟨al, 2, none⟩ = some (.slice aj ae.length ak) := (Ad ah.out 2).trans rfl; have bf := Af ah.out 0; have bg := Af ah.out 1; have bh := Af ah.out 2) | ((with_reducible refine Br (f := 89) rfl ?_); refine Cm (some 8) rfl rfl Try.func89 (by kernel_rfl) rfl #[.int .i64 ab, .int .i64 ac] rfl (by (try simp only [List.map_toArray, List.map_cons, List.map_nil]); first | done | rfl | (simp only [List.length_drop, List.length_take]; rfl)) ?_; (with_reducible refine (Cz.calls ab ac true _ A2.out).mono ?_); rintro e w7 ⟨rfl, hb⟩; refine ⟨_, rfl, ?_⟩; have n0_ := Aa.mk (Ao (g := al) (o := .cells #[.int .i64 ab, .int .i64 ac, .slice aj ae.length ak] 50 (0, 0)) (by exact bU <| ah.out) hb); have n1_ := Aa.mk (Au (by repeat (first | (with_reducible first | exact HB.out | apply Ae | apply Ac | apply Ah | refine Ag ?_ aA.out) | exact HB.out)) hb); clear ah; clear HB; have ah := n0_; have HB := n1_; clear n0_ n1_; (try clear hb); (try clear hb2); (try clear hk); (try clear hi); have bJ : w7.cell? ⟨al, 0, none⟩ = some (.int .i64 ab) := (Ad ah.out 0).trans rfl; have bK : w7.cell? ⟨al, 1, none⟩ = some (.int .i64 ac) := (Ad ah.out 1).trans rfl; have bL : w7.cell? ⟨al, 2, none⟩ = some (.slice aj ae.length ak) := (Ad ah.out 2).trans rfl; have bM := Af ah.out 0; have bN := Af ah.out 1; have bO := Af ah.out 2))
   go_ret
   exact ⟨by first | rfl | (simp [Be, Bd] <;> rfl) | (simp [*, Be, Bd] <;> rfl), by repeat (first | (with_reducible first | exact HB.out | apply Ae | apply Ac | apply Ah | refine Ag ?_ aA.out) | exact HB.out)⟩
  ·rw [if_neg c4] at H
   have aC : ((ae.length : Int) == (wrap64 (ab * ac))) = false := beq_eq_false_iff_ne.mpr c4
   have aZ : ((ae.length : Int) != (wrap64 (ab * ac))) = true := bne_iff_ne.mpr c4
   obtain rfl := Option.some.inj H
   go_enter Try.func46, Try.ntmps46
   go_wp2_with (first | ((with_reducible refine Bq (N := 1) rfl ?_); refine Bt ?hg (N := 1) ?hd (cs := #[.int .i64 ab, .int .i64 ac, .slice aj ae.length ak]) (t := 50) ?hr ?_; (case hd => rfl); (case hg => rfl); (case hr => first | (go_simp; done) | (go_simp; rfl)); intro al hg w9 hbox hb; have n0_ := Aa.mk (Au (lU HB.out) hb); have n1_ := Aa.mk (hbox); have n2_ := Aa.mk ((by rw [hg]; exact (An (lU HB.out)) : w.heap.size ≤ al)); have n3_ := Aa.mk ((by rw [hg]; exact (An (lU HB.out)) : w.heap.size ≤ al)); clear HB; have HB := n0_; have ah := n1_; have bG := n2_; have aA := n3_; clear n0_ n1_ n2_ n3_; clear hb hbox hg; have aQ : w9.cell? ⟨al, 0, none⟩ = some (.int .i64 ab) := (Ad ah.out 0).trans rfl; have aT : w9.cell? ⟨al, 1, none⟩ = some (.int .i64 ac) := (Ad ah.out 1).trans rfl; have aU : w9.cell? ⟨al, 2, none⟩ = some (.slice aj ae.length ak) := (Ad ah.out 2).trans rfl; have aV := Af ah.out 0; have aW := Af ah.out 1; have aX := Af ah.out 2) | ((with_reducible refine Br (f := 89) rfl ?_); refine Cm (some 8) rfl rfl Try.func89 (by kernel_rfl) rfl #[.int .i64 ab, .int .i64 ac] rfl (by (try simp only [List.map_toArray, List.map_cons, List.map_nil]); first | done | rfl | (simp only [List.length_drop, List.length_take]; rfl)) ?_; (with_reducible refine (Cz.calls ab ac true _ A2.out).mono ?_); rintro e w11 ⟨rfl, hb⟩; refine ⟨_, rfl, ?_⟩; have n0_ := Aa.mk (Ao (g := al) (o := .cells #[.int .i64 ab, .int .i64 ac, .slice aj ae.length ak] 50 (0, 0)) (by exact bU <| ah.out) hb); have n1_ := Aa.mk (Au (by repeat (first | (with_reducible first | exact HB.out | apply Ae | apply Ac | apply Ah | refine Ag ?_ aA.out) | exact HB.out)) hb); clear ah; clear HB; have ah := n0_; have HB := n1_; clear n0_ n1_; (try clear hb); (try clear hb2); (try clear hk); (try clear hi); have bv : w11.cell? ⟨al, 0, none⟩ = some (.int .i64 ab) := (Ad ah.out 0).trans rfl; have bw : w11.cell? ⟨al, 1, none⟩ = some (.int .i64 ac) := (Ad ah.out 1).trans rfl; have bz : w11.cell? ⟨al, 2, none⟩ = some (.slice aj ae.length ak) := (Ad ah.out 2).trans rfl; have bB := Af ah.out 0; have bC := Af ah.out 1; have bD := Af ah.out 2))
   go_ret
   exact ⟨by first | rfl | (simp [Be, Bd] <;> rfl) | (simp [*, Be, Bd] <;> rfl), by repeat (first | (with_reducible first | exact HB.out | apply Ae | apply Ac | apply Ah | refine Ag ?_ aA.out) | exact HB.out)⟩
 ·replace c3 := Bool.eq_false_iff.mpr c3
  subst c3
  have H1 := H
  rw [if_neg (show ¬ (false = true) by decide)] at H1
  clear H
  have H := H1
  clear H1
  obtain rfl := Option.some.inj H
  go_enter Try.func46, Try.ntmps46
  go_wp2_with (first | ((with_reducible refine Bq (N := 1) rfl ?_); refine Bt ?hg (N := 1) ?hd (cs := #[.int .i64 ab, .int .i64 ac, .slice aj ae.length ak]) (t := 50) ?hr ?_; (case hd => rfl); (case hg => rfl); (case hr => first | (go_simp; done) | (go_simp; rfl)); intro al hg w13 hbox hb; have n0_ := Aa.mk (Au (lU HB.out) hb); have n1_ := Aa.mk (hbox); have n2_ := Aa.mk ((by rw [hg]; exact (An (lU HB.out)) : w.heap.size ≤ al)); have n3_ := Aa.mk ((by rw [hg]; exact (An (lU HB.out)) : w.heap.size ≤ al)); clear HB; have HB := n0_; have ah := n1_; have bG := n2_; have aA := n3_; clear n0_ n1_ n2_ n3_; clear hb hbox hg; have b3 : w13.cell? ⟨al, 0, none⟩ = some (.int .i64 ab) := (Ad ah.out 0).trans rfl; have b4 : w13.cell? ⟨al, 1, none⟩ = some (.int .i64 ac) := (Ad ah.out 1).trans rfl; have b5 : w13.cell? ⟨al, 2, none⟩ = some (.slice aj ae.length ak) := (Ad ah.out 2).trans rfl; have b6 := Af ah.out 0; have b7 := Af ah.out 1; have b8 := Af ah.out 2) | ((with_reducible refine Br (f := 89) rfl ?_); refine Cm (some 8) rfl rfl Try.func89 (by kernel_rfl) rfl #[.int .i64 ab, .int .i64 ac] rfl (by (try simp only [List.map_toArray, List.map_cons, List.map_nil]); first | done | rfl | (simp only [List.length_drop, List.length_take]; rfl)) ?_; (with_reducible refine (Cz.calls ab ac false _ A2.out).mono ?_); rintro e w15 ⟨rfl, hb⟩; refine ⟨_, rfl, ?_⟩; have n0_ := Aa.mk (Ao (g := al) (o := .cells #[.int .i64 ab, .int .i64 ac, .slice aj ae.length ak] 50 (0, 0)) (by exact bU <| ah.out) hb); have n1_ := Aa.mk (Au (by repeat (first | (with_reducible first | exact HB.out | apply Ae | apply Ac | apply Ah | refine Ag ?_ aA.out) | exact HB.out)) hb); clear ah; clear HB; have ah := n0_; have HB := n1_; clear n0_ n1_; (try clear hb); (try clear hb2); (try clear hk); (try clear hi)))
  go_ret
  exact ⟨by first | rfl | (simp [Be, Bd] <;> rfl) | (simp [*, Be, Bd] <;> rfl), by repeat (first | (with_reducible first | exact HB.out | apply Ae | apply Ac | apply Ah | refine Ag ?_ aA.out) | exact HB.out)⟩

def C0.f (ab : Int) (ac : Int) (ae : List Bool) (a1 : Int) : Option (Int × Int × Int × Int) := (Cn.f ab ac ae).bind fun ax => (if ax = 0 then (if a1 = 4 then (some (ab, ac, a1, 0)) else (if a1 = 8 then (some (ab, ac, a1, 0)) else (some (0, 0, 0, 302)))) else (some (0, 0, 0, ax)))
set_option maxHeartbeats 8000000 in
set_option maxRecDepth 100000 in
theorem C0.calls (ab : Int) (ac : Int) (aj : Option Addr) (ak : Nat) (ae : List Bool) (a1 : Int) (r1 : Int) (r2 : Int) (r3 : Int) (r4 : Int) (w : World) (ay : Kd.C Kd.bool w aj ae.length ae) (az : ae.length ≤ ak) (h : C0.f ab ac ae a1 = some (r1, r2, r3, r4)) :
  Calls Try.prog 71 #[.agg #[.int .i64 ab, .int .i64 ac, .slice aj ae.length ak], .int .i64 a1] w fun e w' => e = .returned (.tuple #[.agg #[.int .i64 r1, .int .i64 r2, .int .i64 r3], .int .i64 r4]) ∧ Below w.heap.size w w' := by
 have hu50 := Try.underlying50
 have hu108 := Try.underlying108
 have aD := Aa.mk ay
 have aE := Aa.mk az
 clear ay az
 have HB := Aa.mk (Below.refl w.heap.size w)
 have H : ((Cn.f ab ac ae).bind fun ax => (if ax = 0 then (if a1 = 4 then (some (ab, ac, a1, 0)) else (if a1 = 8 then (some (ab, ac, a1, 0)) else (some (0, 0, 0, 302)))) else (some (0, 0, 0, ax)))) = some (r1, r2, r3, r4) := h
 clear h
 replace H := Option.bind_eq_some_iff.mp H
 obtain ⟨ax, A30, H⟩ := H
 try dsimp only at H
 have A3 := Aa.mk A30
 clear A30
 by_cases c4 : ax = 0
 ·rw [if_pos c4] at H
  have aC : (ax == 0) = true := beq_iff_eq.mpr c4
  have aZ : (ax != 0) = false := bne_eq_false_iff_eq.mpr c4
  clear c4
  by_cases c5 : a1 = 4
  ·rw [if_pos c5] at H
   have ba : (a1 == 4) = true := beq_iff_eq.mpr c5
   have bW : (a1 != 4) = false := bne_eq_false_iff_eq.mpr c5
   clear c5
   simp only [Option.some.injEq, Prod.mk.injEq] at H
   obtain ⟨rfl, rfl, rfl, rfl⟩ := H
   go_enter Try.func71, Try.ntmps71
   go_wp2_with (first | ((with_reducible refine Bq (N := 2) rfl ?_); refine Bt ?hg (N := 2) ?hd (cs := #[.int .i64 ab, .int .i64 ac, .slice aj ae.length ak]) (t := 50) ?hr ?_; (case hd => rfl); (case hg => rfl); (case hr => first | (go_simp; done) | (go_simp; rfl)); intro af hg w6 hbox hb; have n0_ := Aa.mk (Au (lU HB.out) hb); have n1_ := Aa.mk (hbox); have n2_ := Aa.mk ((by rw [hg]; exact (An (lU HB.out)) : w.heap.size ≤ af)); have n3_ := Aa.mk ((by rw [hg]; exact (An (lU HB.out)) : w.heap.size ≤ af)); clear HB; have HB := n0_; have aa := n1_; have bo := n2_; have am := n3_; clear n0_ n1_ n2_ n3_; clear hb hbox hg) | ((with_reducible refine Bq (N := 4) rfl ?_); refine Bt ?hg (N := 4) ?hd (cs := #[.int .i64 0, .int .i64 0, .int .i64 0]) (t := 108) ?hr ?_; (case hd => rfl); (case hg => rfl); (case hr => first | (go_simp; done) | (go_simp; rfl)); intro ai hg w7 hbox hb; have n0_ := Aa.mk (Ao (g := af) (o := .cells #[.int .i64 ab, .int .i64 ac, .slice aj ae.length ak] 50 (0, 0)) (by exact bU <| aa.out) hb); have n1_ := Aa.mk (Au (by repeat (first | (with_reducible first | exact HB.out | apply Ae | apply Ac | apply Ah | refine Ag ?_ am.out) | exact HB.out)) hb); have n2_ := Aa.mk (hbox); have n3_ := Aa.mk ((by rw [hg]; exact (An (by repeat (first | (with_reducible first | exact HB.out | apply Ae | apply Ac | apply Ah | refine Ag ?_ am.out) | exact HB.out))) : w.heap.size ≤ ai)); have n4_ := Aa.mk ((by rw [hg]; exact (An (by repeat (first | (with_reducible first | exact HB.out | apply Ae | apply Ac | apply Ah | refine Ag ?_ am.out) | exact HB.out))) : w.heap.size ≤ ai)); have n5_ := Aa.mk ((by rw [hg]; exact Nat.ne_of_lt (Bz (g := af) (o := .cells #[.int .i64 ab, .int .i64 ac, .slice aj ae.length ak] 50 (0, 0)) (by exact bU <| aa.out)) : af ≠ ai)); have n6_ := Aa.mk ((by rw [hg]; exact Nat.ne_of_gt (Bz (g := af) (o := .cells #[.int .i64 ab, .int .i64 ac, .slice aj ae.length ak] 50 (0, 0)) (by exact bU <| aa.out)) : ai ≠ af)); clear aa; clear HB; have aa := n0_; have HB := n1_; have ag := n2_; have bp := n3_; have au := n4_; have ap := n5_; have aq := n6_; clear n0_ n1_ n2_ n3_ n4_ n5_ n6_; clear hb hbox hg; have dM := ap.out; have dN := aq.out; have dw : w7.cell? ⟨af, 0, none⟩ = some (.int .i64 ab) := (Ad aa.out 0).trans rfl; have dz : w7.cell? ⟨af, 1, none⟩ = some (.int .i64 ac) := (Ad aa.out 1).trans rfl; have dA : w7.cell? ⟨af, 2, none⟩ = some (.slice aj ae.length ak) := (Ad aa.out 2).trans rfl; have dB := Af aa.out 0; have dC := Af aa.out 1; have dD := Af aa.out 2) | ((with_reducible refine Br (f := 46) rfl ?_); refine Cm (some 8) rfl rfl Try.func46 (by kernel_rfl) rfl #[.agg #[.int .i64 ab, .int .i64 ac, .slice aj ae.length ak]] rfl (by (try simp only [List.map_toArray, List.map_cons, List.map_nil]); first | done | rfl | (simp only [List.length_drop, List.length_take]; rfl)) ?_; (with_reducible refine (Cn.calls ab ac _ _ ae ax _ ?side1 ?side2 A3.out).mono ?_); (case side1 => repeat (first | exact (Kd.Ce aD.out HB.out) | (with_reducible refine Kd.Bw ?_ _) | (with_reducible refine Kd.B6 ?_ _) | (with_reducible refine Kd.Cf ?_))); (case side2 => exact aE.out); rintro e w10 ⟨rfl, hb⟩; refine ⟨_, rfl, ?_⟩; have n0_ := Aa.mk (Ao (g := af) (o := .cells #[.int .i64 ab, .int .i64 ac, .slice aj ae.length ak] 50 (0, 0)) (by exact bU <| aa.out) hb); have n1_ := Aa.mk (Ao (g := ai) (o := .cells #[.int .i64 0, .int .i64 0, .int .i64 0] 108 (0, 0)) (by exact bU <| ag.out) hb); have n2_ := Aa.mk (Au (by repeat (first | (with_reducible first | exact HB.out | apply Ae | apply Ac | apply Ah | refine Ag ?_ am.out | refine Ag ?_ au.out) | exact HB.out)) hb); clear aa; clear ag; clear HB; have aa := n0_; have ag := n1_; have HB := n2_; clear n0_ n1_ n2_; (try clear hb); (try clear hb2); (try clear hk); (try clear hi); have b9 : w10.cell? ⟨af, 0, none⟩ = some (.int .i64 ab) := (Ad aa.out 0).trans rfl; have cd : w10.cell? ⟨af, 1, none⟩ = some (.int .i64 ac) := (Ad aa.out 1).trans rfl; have ce : w10.cell? ⟨af, 2, none⟩ = some (.slice aj ae.length ak) := (Ad aa.out 2).trans rfl; have cg := Af aa.out 0; have ck := Af aa.out 1; have cp := Af aa.out 2; have bv : w10.cell? ⟨ai, 0, none⟩ = some (.int .i64 0) := (Ad ag.out 0).trans rfl; have bw : w10.cell? ⟨ai, 1, none⟩ = some (.int .i64 0) := (Ad ag.out 1).trans rfl; have bz : w10.cell? ⟨ai, 2, none⟩ = some (.int .i64 0) := (Ad ag.out 2).trans rfl; have bB := Af ag.out 0; have bC := Af ag.out 1; have bD := Af ag.out 2))
   refine bodyPost_ret (results_ct rfl _ _ ai 108 #[.int .i64 ab, .int .i64 ac, .int .i64 a1] (0, 0) _ rfl (by (with_reducible repeat (first | refine Ax ?_ _ | refine Ay ?_ | refine Ak ?_ _)); refine Bo (cs := #[.int .i64 ab, .int .i64 ac, .int .i64 0]) ?_ 2 _ rfl; (with_reducible repeat (first | refine Ax ?_ _ | refine Ay ?_ | refine Ak ?_ _)); refine Bo (cs := #[.int .i64 ab, .int .i64 0, .int .i64 0]) ?_ 1 _ rfl; (with_reducible repeat (first | refine Ax ?_ _ | refine Ay ?_ | refine Ak ?_ _)); refine Bo (cs := #[.int .i64 0, .int .i64 0, .int .i64 0]) ?_ 0 _ rfl; exact bU <| ag.out) Try.underlying108 rfl (by kernel_rfl)) rfl ?_
   exact ⟨by first | rfl | (simp [Be, Bd] <;> rfl) | (simp [*, Be, Bd] <;> rfl), by repeat (first | (with_reducible first | exact HB.out | apply Ae | apply Ac | apply Ah | refine Ag ?_ am.out | refine Ag ?_ au.out) | exact HB.out)⟩
  ·rw [if_neg c5] at H
   have ba : (a1 == 4) = false := beq_eq_false_iff_ne.mpr c5
   have bW : (a1 != 4) = true := bne_iff_ne.mpr c5
   by_cases c13 : a1 = 8
   ·rw [if_pos c13] at H
    have bX : (a1 == 8) = true := beq_iff_eq.mpr c13
    have bY : (a1 != 8) = false := bne_eq_false_iff_eq.mpr c13
    clear c13
    simp only [Option.some.injEq, Prod.mk.injEq] at H
    obtain ⟨rfl, rfl, rfl, rfl⟩ := H
    go_enter Try.func71, Try.ntmps71
    go_wp2_with (first | ((with_reducible refine Bq (N := 2) rfl ?_); refine Bt ?hg (N := 2) ?hd (cs := #[.int .i64 ab, .int .i64 ac, .slice aj ae.length ak]) (t := 50) ?hr ?_; (case hd => rfl); (case hg => rfl); (case hr => first | (go_simp; done) | (go_simp; rfl)); intro af hg w14 hbox hb; have n0_ := Aa.mk (Au (lU HB.out) hb); have n1_ := Aa.mk (hbox); have n2_ := Aa.mk ((by rw [hg]; exact (An (lU HB.out)) : w.heap.size ≤ af)); have n3_ := Aa.mk ((by rw [hg]; exact (An (lU HB.out)) : w.heap.size ≤ af)); clear HB; have HB := n0_; have aa := n1_; have bo := n2_; have am := n3_; clear n0_ n1_ n2_ n3_; clear hb hbox hg) | ((with_reducible refine Bq (N := 4) rfl ?_); refine Bt ?hg (N := 4) ?hd (cs := #[.int .i64 0, .int .i64 0, .int .i64 0]) (t := 108) ?hr ?_; (case hd => rfl); (case hg => rfl); (case hr => first | (go_simp; done) | (go_simp; rfl)); intro ai hg w15 hbox hb; have n0_ := Aa.mk (Ao (g := af) (o := .cells #[.int .i64 ab, .int .i64 ac, .slice aj ae.length ak] 50 (0, 0)) (by exact bU <| aa.out) hb); have n1_ := Aa.mk (Au (by repeat (first | (with_reducible first | exact HB.out | apply Ae | apply Ac | apply Ah | refine Ag ?_ am.out) | exact HB.out)) hb); have n2_ := Aa.mk (hbox); have n3_ := Aa.mk ((by rw [hg]; exact (An (by repeat (first | (with_reducible first | exact HB.out | apply Ae | apply Ac | apply Ah | refine Ag ?_ am.out) | exact HB.out))) : w.heap.size ≤ ai)); have n4_ := Aa.mk ((by rw [hg]; exact (An (by repeat (first | (with_reducible first | exact HB.out | apply Ae | apply Ac | apply Ah | refine Ag ?_ am.out) | exact HB.out))) : w.heap.size ≤ ai)); have n5_ := Aa.mk ((by rw [hg]; exact Nat.ne_of_lt (Bz (g := af) (o := .cells #[.int .i64 ab, .int .i64 ac, .slice aj ae.length ak] 50 (0, 0)) (by exact bU <| aa.out)) : af ≠ ai)); have n6_ := Aa.mk ((by rw [hg]; exact Nat.ne_of_gt (Bz (g := af) (o := .cells #[.int .i64 ab, .int .i64 ac, .slice aj ae.length ak] 50 (0, 0)) (by exact bU <| aa.out)) : ai ≠ af)); clear aa; clear HB; have aa := n0_; have HB := n1_; have ag := n2_; have bp := n3_; have au := n4_; have ap := n5_; have aq := n6_; clear n0_ n1_ n2_ n3_ n4_ n5_ n6_; clear hb hbox hg; have dF := ap.out; have dG := aq.out; have cr : w15.cell? ⟨af, 0, none⟩ = some (.int .i64 ab) := (Ad aa.out 0).trans rfl; have ct : w15.cell? ⟨af, 1, none⟩ = some (.int .i64 ac) := (Ad aa.out 1).trans rfl; have cu : w15.cell? ⟨af, 2, none⟩ = some (.slice aj ae.length ak) := (Ad aa.out 2).trans rfl; have cx := Af aa.out 0; have cy := Af aa.out 1; have cz := Af aa.out 2) | ((with_reducible refine Br (f := 46) rfl ?_); refine Cm (some 8) rfl rfl Try.func46 (by kernel_rfl) rfl #[.agg #[.int .i64 ab, .int .i64 ac, .slice aj ae.length ak]] rfl (by (try simp only [List.map_toArray, List.map_cons, List.map_nil]); first | done | rfl | (simp only [List.length_drop, List.length_take]; rfl)) ?_; (with_reducible refine (Cn.calls ab ac _ _ ae ax _ ?side1 ?side2 A3.out).mono ?_); (case side1 => repeat (first | exact (Kd.Ce aD.out HB.out) | (with_reducible refine Kd.Bw ?_ _) | (with_reducible refine Kd.B6 ?_ _) | (with_reducible refine Kd.Cf ?_))); (case side2 => exact aE.out); rintro e w18 ⟨rfl, hb⟩; refine ⟨_, rfl, ?_⟩; have n0_ := Aa.mk (Ao (g := af) (o := .cells #[.int .i64 ab, .int .i64 ac, .slice aj ae.length ak] 50 (0, 0)) (by exact bU <| aa.out) hb); have n1_ := Aa.mk (Ao (g := ai) (o := .cells #[.int .i64 0, .int .i64 0, .int .i64 0] 108 (0, 0)) (by exact bU <| ag.out) hb); have n2_ := Aa.mk (Au (by repeat (first | (with_reducible first | exact HB.out | apply Ae | apply Ac | apply Ah | refine Ag ?_ am.out | refine Ag ?_ au.out) | exact HB.out)) hb); clear aa; clear ag; clear HB; have aa := n0_; have ag := n1_; have HB := n2_; clear n0_ n1_ n2_; (try clear hb); (try clear hb2); (try clear hk); (try clear hi); have cA : w18.cell? ⟨af, 0, none⟩ = some (.int .i64 ab) := (Ad aa.out 0).trans rfl; have cB : w18.cell? ⟨af, 1, none⟩ = some (.int .i64 ac) := (Ad aa.out 1).trans rfl; have cC : w18.cell? ⟨af, 2, none⟩ = some (.slice aj ae.length ak) := (Ad aa.out 2).trans rfl; have cD := Af aa.out 0; have cE := Af aa.out 1; have cF := Af aa.out 2; have cG : w18.cell? ⟨ai, 0, none⟩ = some (.int .i64 0) := (Ad ag.out 0).trans rfl; have cH : w18.cell? ⟨ai, 1, none⟩ = some (.int .i64 0) := (Ad ag.out 1).trans rfl; have cI : w18.cell? ⟨ai, 2, none⟩ = some (.int .i64 0) := (Ad ag.out 2).trans rfl; have cJ := Af ag.out 0; have cK := Af ag.out 1; have cL := Af ag.out 2))
    refine bodyPost_ret (results_ct rfl _ _ ai 108 #[.int .i64 ab, .int .i64 ac, .int .i64 a1] (0, 0) _ rfl (by (with_reducible repeat (first | refine Ax ?_ _ | refine Ay ?_ | refine Ak ?_ _)); refine Bo (cs := #[.int .i64 ab, .int .i64 ac, .int .i64 0]) ?_ 2 _ rfl; (with_reducible repeat (first | refine Ax ?_ _ | refine Ay ?_ | refine Ak ?_ _)); refine Bo (cs := #[.int .i64 ab, .int .i64 0, .int .i64 0]) ?_ 1 _ rfl; (with_reducible repeat (first | refine Ax ?_ _ | refine Ay ?_ | refine Ak ?_ _)); refine Bo (cs := #[.int .i64 0, .int .i64 0, .int .i64 0]) ?_ 0 _ rfl; exact bU <| ag.out) Try.underlying108 rfl (by kernel_rfl)) rfl ?_
    exact ⟨by first | rfl | (simp [Be, Bd] <;> rfl) | (simp [*, Be, Bd] <;> rfl), by repeat (first | (with_reducible first | exact HB.out | apply Ae | apply Ac | apply Ah | refine Ag ?_ am.out | refine Ag ?_ au.out) | exact HB.out)⟩
   ·rw [if_neg c13] at H
    have bX : (a1 == 8) = false := beq_eq_false_iff_ne.mpr c13
    have bY : (a1 != 8) = true := bne_iff_ne.mpr c13
    simp only [Option.some.injEq, Prod.mk.injEq] at H
    obtain ⟨rfl, rfl, rfl, rfl⟩ := H
    go_enter Try.func71, Try.ntmps71
    go_wp2_with (first | ((with_reducible refine Bq (N := 2) rfl ?_); refine Bt ?hg (N := 2) ?hd (cs := #[.int .i64 ab, .int .i64 ac, .slice aj ae.length ak]) (t := 50) ?hr ?_; (case hd => rfl); (case hg => rfl); (case hr => first | (go_simp; done) | (go_simp; rfl)); intro af hg w21 hbox hb; have n0_ := Aa.mk (Au (lU HB.out) hb); have n1_ := Aa.mk (hbox); have n2_ := Aa.mk ((by rw [hg]; exact (An (lU HB.out)) : w.heap.size ≤ af)); have n3_ := Aa.mk ((by rw [hg]; exact (An (lU HB.out)) : w.heap.size ≤ af)); clear HB; have HB := n0_; have aa := n1_; have bo := n2_; have am := n3_; clear n0_ n1_ n2_ n3_; clear hb hbox hg) | ((with_reducible refine Bq (N := 4) rfl ?_); refine Bt ?hg (N := 4) ?hd (cs := #[.int .i64 0, .int .i64 0, .int .i64 0]) (t := 108) ?hr ?_; (case hd => rfl); (case hg => rfl); (case hr => first | (go_simp; done) | (go_simp; rfl)); intro ai hg w22 hbox hb; have n0_ := Aa.mk (Ao (g := af) (o := .cells #[.int .i64 ab, .int .i64 ac, .slice aj ae.length ak] 50 (0, 0)) (by exact bU <| aa.out) hb); have n1_ := Aa.mk (Au (by repeat (first | (with_reducible first | exact HB.out | apply Ae | apply Ac | apply Ah | refine Ag ?_ am.out) | exact HB.out)) hb); have n2_ := Aa.mk (hbox); have n3_ := Aa.mk ((by rw [hg]; exact (An (by repeat (first | (with_reducible first | exact HB.out | apply Ae | apply Ac | apply Ah | refine Ag ?_ am.out) | exact HB.out))) : w.heap.size ≤ ai)); have n4_ := Aa.mk ((by rw [hg]; exact (An (by repeat (first | (with_reducible first | exact HB.out | apply Ae | apply Ac | apply Ah | refine Ag ?_ am.out) | exact HB.out))) : w.heap.size ≤ ai)); have n5_ := Aa.mk ((by rw [hg]; exact Nat.ne_of_lt (Bz (g := af) (o := .cells #[.int .i64 ab, .int .i64 ac, .slice aj ae.length ak] 50 (0, 0)) (by exact bU <| aa.out)) : af ≠ ai)); have n6_ := Aa.mk ((by rw [hg]; exact Nat.ne_of_gt (Bz (g := af) (o := .cells #[.int .i64 ab, .int .i64 ac, .slice aj ae.length ak] 50 (0, 0)) (by exact bU <| aa.out)) : ai ≠ af)); clear aa; clear HB; have aa := n0_; have HB := n1_; have ag := n2_; have bp := n3_; have au := n4_; have ap := n5_; have aq := n6_; clear n0_ n1_ n2_ n3_ n4_ n5_ n6_; clear hb hbox hg; have dH := ap.out; have dI := aq.out; have cM : w22.cell? ⟨af, 0, none⟩ = some (.int .i64 ab) := (Ad aa.out 0).trans rfl; have cO : w22.cell? ⟨af, 1, none⟩ = some (.int .i64 ac) := (Ad aa.out 1).trans rfl; have cP : w22.cell? ⟨af, 2, none⟩ = some (.slice aj ae.length ak) := (Ad aa.out 2).trans rfl; have cQ := Af aa.out 0; have cR := Af aa.out 1; have cS := Af aa.out 2) | ((with_reducible refine Br (f := 46) rfl ?_); refine Cm (some 8) rfl rfl Try.func46 (by kernel_rfl) rfl #[.agg #[.int .i64 ab, .int .i64 ac, .slice aj ae.length ak]] rfl (by (try simp only [List.map_toArray, List.map_cons, List.map_nil]); first | done | rfl | (simp only [List.length_drop, List.length_take]; rfl)) ?_; (with_reducible refine (Cn.calls ab ac _ _ ae ax _ ?side1 ?side2 A3.out).mono ?_); (case side1 => repeat (first | exact (Kd.Ce aD.out HB.out) | (with_reducible refine Kd.Bw ?_ _) | (with_reducible refine Kd.B6 ?_ _) | (with_reducible refine Kd.Cf ?_))); (case side2 => exact aE.out); rintro e w25 ⟨rfl, hb⟩; refine ⟨_, rfl, ?_⟩; have n0_ := Aa.mk (Ao (g := af) (o := .cells #[.int .i64 ab, .int .i64 ac, .slice aj ae.length ak] 50 (0, 0)) (by exact bU <| aa.out) hb); have n1_ := Aa.mk (Ao (g := ai) (o := .cells #[.int .i64 0, .int .i64 0, .int .i64 0] 108 (0, 0)) (by exact bU <| ag.out) hb); have n2_ := Aa.mk (Au (by repeat (first | (with_reducible first | exact HB.out | apply Ae | apply Ac | apply Ah | refine Ag ?_ am.out | refine Ag ?_ au.out) | exact HB.out)) hb); clear aa; clear ag; clear HB; have aa := n0_; have ag := n1_; have HB := n2_; clear n0_ n1_ n2_; (try clear hb); (try clear hb2); (try clear hk); (try clear hi); have cU : w25.cell? ⟨ai, 0, none⟩ = some (.int .i64 0) := (Ad ag.out 0).trans rfl; have cV : w25.cell? ⟨ai, 1, none⟩ = some (.int .i64 0) := (Ad ag.out 1).trans rfl; have cW : w25.cell? ⟨ai, 2, none⟩ = some (.int .i64 0) := (Ad ag.out 2).trans rfl; have cX := Af ag.out 0; have cY := Af ag.out 1; have cZ := Af ag.out 2))
    refine bodyPost_ret (results_ct rfl _ _ ai 108 #[.int .i64 0, .int .i64 0, .int .i64 0] (0, 0) _ rfl (by (with_reducible repeat (first | refine Ax ?_ _ | refine Ay ?_ | refine Ak ?_ _)); refine Bo (cs := #[.int .i64 0, .int .i64 0, .int .i64 0]) ?_ 2 _ rfl; (with_reducible repeat (first | refine Ax ?_ _ | refine Ay ?_ | refine Ak ?_ _)); refine Bo (cs := #[.int .i64 0, .int .i64 0, .int .i64 0]) ?_ 1 _ rfl; (with_reducible repeat (first | refine Ax ?_ _ | refine Ay ?_ | refine Ak ?_ _)); refine Bo (cs := #[.int .i64 0, .int .i64 0, .int .i64 0]) ?_ 0 _ rfl; exact bU <| ag.out) Try.underlying108 rfl (by kernel_rfl)) rfl ?_
    exact ⟨by first | rfl | (simp [Be, Bd] <;> rfl) | (simp [*, Be, Bd] <;> rfl), by repeat (first | (with_reducible first | exact HB.out | apply Ae | apply Ac | apply Ah | refine Ag ?_ am.out | refine Ag ?_ au.out) | exact HB.out)⟩
 ·rw [if_neg c4] at H
  have aC : (ax == 0) = false := beq_eq_false_iff_ne.mpr c4
  have aZ : (ax != 0) = true := bne_iff_ne.mpr c4
  simp only [Option.some.injEq, Prod.mk.injEq] at H
  obtain ⟨rfl, rfl, rfl, rfl⟩ := H
  go_enter Try.func71, Try.ntmps71
  go_wp2_with (first | ((with_reducible refine Bq (N := 2) rfl ?_); refine Bt ?hg (N := 2) ?hd (cs := #[.int .i64 ab, .int .i64 ac, .slice aj ae.length ak]) (t := 50) ?hr ?_; (case hd => rfl); (case hg => rfl); (case hr => first | (go_simp; done) | (go_simp; rfl)); intro af hg w27 hbox hb; have n0_ := Aa.mk (Au (lU HB.out) hb); have n1_ := Aa.mk (hbox); have n2_ := Aa.mk ((by rw [hg]; exact (An (lU HB.out)) : w.heap.size ≤ af)); have n3_ := Aa.mk ((by rw [hg]; exact (An (lU HB.out)) : w.heap.size ≤ af)); clear HB; have HB := n0_; have aa := n1_; have bo := n2_; have am := n3_; clear n0_ n1_ n2_ n3_; clear hb hbox hg) | ((with_reducible refine Bq (N := 4) rfl ?_); refine Bt ?hg (N := 4) ?hd (cs := #[.int .i64 0, .int .i64 0, .int .i64 0]) (t := 108) ?hr ?_; (case hd => rfl); (case hg => rfl); (case hr => first | (go_simp; done) | (go_simp; rfl)); intro ai hg w28 hbox hb; have n0_ := Aa.mk (Ao (g := af) (o := .cells #[.int .i64 ab, .int .i64 ac, .slice aj ae.length ak] 50 (0, 0)) (by exact bU <| aa.out) hb); have n1_ := Aa.mk (Au (by repeat (first | (with_reducible first | exact HB.out | apply Ae | apply Ac | apply Ah | refine Ag ?_ am.out) | exact HB.out)) hb); have n2_ := Aa.mk (hbox); have n3_ := Aa.mk ((by rw [hg]; exact (An (by repeat (first | (with_reducible first | exact HB.out | apply Ae | apply Ac | apply Ah | refine Ag ?_ am.out) | exact HB.out))) : w.heap.size ≤ ai)); have n4_ := Aa.mk ((by rw [hg]; exact (An (by repeat (first | (with_reducible first | exact HB.out | apply Ae | apply Ac | apply Ah | refine Ag ?_ am.out) | exact HB.out))) : w.heap.size ≤ ai)); have n5_ := Aa.mk ((by rw [hg]; exact Nat.ne_of_lt (Bz (g := af) (o := .cells #[.int .i64 ab, .int .i64 ac, .slice aj ae.length ak] 50 (0, 0)) (by exact bU <| aa.out)) : af ≠ ai)); have n6_ := Aa.mk ((by rw [hg]; exact Nat.ne_of_gt (Bz (g := af) (o := .cells #[.int .i64 ab, .int .i64 ac, .slice aj ae.length ak] 50 (0, 0)) (by exact bU <| aa.out)) : ai ≠ af)); clear aa; clear HB; have aa := n0_; have HB := n1_; have ag := n2_; have bp := n3_; have au := n4_; have ap := n5_; have aq := n6_; clear n0_ n1_ n2_ n3_ n4_ n5_ n6_; clear hb hbox hg; have dJ := ap.out; have dK := aq.out; have da : w28.cell? ⟨af, 0, none⟩ = some (.int .i64 ab) := (Ad aa.out 0).trans rfl; have db : w28.cell? ⟨af, 1, none⟩ = some (.int .i64 ac) := (Ad aa.out 1).trans rfl; have dc : w28.cell? ⟨af, 2, none⟩ = some (.slice aj ae.length ak) := (Ad aa.out 2).trans rfl; have dd := Af aa.out 0; have de := Af aa.out 1; have df := Af aa.out 2) | ((with_reducible refine Br (f := 46) rfl ?_); refine Cm (some 8) rfl rfl Try.func46 (by kernel_rfl) rfl #[.agg #[.int .i64 ab, .int .i64 ac, .slice aj ae.length ak]] rfl (by (try simp only [List.map_toArray, List.map_cons, List.map_nil]); first | done | rfl | (simp only [List.length_drop, List.length_take]; rfl)) ?_; (with_reducible refine (Cn.calls ab ac _ _ ae ax _ ?side1 ?side2 A3.out).mono ?_); (case side1 => repeat (first | exact (Kd.Ce aD.out HB.out) | (with_reducible refine Kd.Bw ?_ _) | (with_reducible refine Kd.B6 ?_ _) | (with_reducible refine Kd.Cf ?_))); (case side2 => exact aE.out); rintro e w31 ⟨rfl, hb⟩; refine ⟨_, rfl, ?_⟩; have n0_ := Aa.mk (Ao (g := af) (o := .cells #[.int .i64 ab, .int .i64 ac, .slice aj ae.length ak] 50 (0, 0)) (by exact bU <| aa.out) hb); have n1_ := Aa.mk (Ao (g := ai) (o := .cells #[.int .i64 0, .int .i64 0, .int .i64 0] 108 (0, 0)) (by exact bU <| ag.out) hb); have n2_ := Aa.mk (Au (by repeat (first | (with_reducible first | exact HB.out | apply Ae | apply Ac | apply Ah | refine Ag ?_ am.out | refine Ag ?_ au.out) | exact HB.out)) hb); clear aa; clear ag; clear HB; have aa := n0_; have ag := n1_; have HB := n2_; clear n0_ n1_ n2_; (try clear hb); (try clear hb2); (try clear hk); (try clear hi); have dg : w31.cell? ⟨ai, 0, none⟩ = some (.int .i64 0) := (Ad ag.out 0).trans rfl; have dh : w31.cell? ⟨ai, 1, none⟩ = some (.int .i64 0) := (Ad ag.out 1).trans rfl; have di : w31.cell? ⟨ai, 2, none⟩ = some (.int .i64 0) := (Ad ag.out 2).trans rfl; have dj := Af ag.out 0; have dk := Af ag.out 1; have dl := Af ag.out 2))
  refine bodyPost_ret (results_ct rfl _ _ ai 108 #[.int .i64 0, .int .i64 0, .int .i64 0] (0, 0) _ rfl (by (with_reducible repeat (first | refine Ax ?_ _ | refine Ay ?_ | refine Ak ?_ _)); refine Bo (cs := #[.int .i64 0, .int .i64 0, .int .i64 0]) ?_ 2 _ rfl; (with_reducible repeat (first | refine Ax ?_ _ | refine Ay ?_ | refine Ak ?_ _)); refine Bo (cs := #[.int .i64 0, .int .i64 0, .int .i64 0]) ?_ 1 _ rfl; (with_reducible repeat (first | refine Ax ?_ _ | refine Ay ?_ | refine Ak ?_ _)); refine Bo (cs := #[.int .i64 0, .int .i64 0, .int .i64 0]) ?_ 0 _ rfl; exact bU <| ag.out) Try.underlying108 rfl (by kernel_rfl)) rfl ?_
  exact ⟨by first | rfl | (simp [Be, Bd] <;> rfl) | (simp [*, Be, Bd] <;> rfl), by repeat (first | (with_reducible first | exact HB.out | apply Ae | apply Ac | apply Ah | refine Ag ?_ am.out | refine Ag ?_ au.out) | exact HB.out)⟩

def Dh.f (a0 : Int) (a1 : Int) : Option (Int × Int × List Bool) := if 0 ≤ (wrap64 (a0 * a1)) then (if (wrap64 (a0 * a1) : Int).toNat ≤ 281474976710656 then (some (a0, a1, (List.replicate (wrap64 (a0 * a1) : Int).toNat false))) else (none)) else (none)
set_option maxHeartbeats 8000000 in
set_option maxRecDepth 100000 in
theorem Dh.calls (a0 : Int) (a1 : Int) (r1 : Int) (r2 : Int) (r3 : List Bool) (w : World) (h : Dh.f a0 a1 = some (r1, r2, r3)) :
  Calls Try.prog 74 #[.int .i64 a0, .int .i64 a1] w fun e w' => ∃ v2_ : Value, e = .returned (.agg #[.int .i64 r1, .int .i64 r2, v2_]) ∧ Kd.R Kd.bool 4 w' w.heap.size (fun _ => True) v2_ r3 ∧ Below w.heap.size w w' := by
 have hu50 := Try.underlying50
 have HB := Aa.mk (Below.refl w.heap.size w)
 have H : (if 0 ≤ (wrap64 (a0 * a1)) then (if (wrap64 (a0 * a1) : Int).toNat ≤ 281474976710656 then (some (a0, a1, (List.replicate (wrap64 (a0 * a1) : Int).toNat false))) else (none)) else (none)) = some (r1, r2, r3) := h
 clear h
 obtain ⟨ji3, bE⟩ : ∃ j_ : Int, (wrap64 (a0 * a1)) = j_ := ⟨_, rfl⟩
 replace H : (if 0 ≤ (ji3) then (if (ji3 : Int).toNat ≤ 281474976710656 then (some (a0, a1, (List.replicate (ji3 : Int).toNat false))) else (none)) else (none)) = some (r1, r2, r3) := by first | (rw [bE] at H; exact H) | (simp only [bE] at H ⊢; exact H)
 have hji3w : (IntKind.i64.wrap (a0 * a1)) = ji3 := (i64_w _).trans bE
 by_cases c4 : 0 ≤ (ji3)
 ·rw [if_pos c4] at H
  have aC := eq_true c4
  have aZ : decide (0 ≤ (ji3)) = true := decide_eq_true c4
  clear c4
  by_cases c5 : (ji3 : Int).toNat ≤ 281474976710656
  ·rw [if_pos c5] at H
   have ba := eq_true c5
   have bW : decide ((ji3 : Int).toNat ≤ 281474976710656) = true := decide_eq_true c5
   clear c5
   obtain ⟨bZ, bq⟩ : ∃ y_ : List Bool, y_ = (List.replicate (ji3 : Int).toNat false) := ⟨_, rfl⟩
   (try rw [Option.bind_some] at H); try rw [← bq] at H
   have bH := Aa.mk bq
   clear bq
   simp only [Option.some.injEq, Prod.mk.injEq] at H
   obtain ⟨rfl, rfl, rfl⟩ := H
   go_enter Try.func74, Try.ntmps74
   go_wp2_with (first | ((with_reducible refine Bq (N := 4) rfl ?_); refine Bt ?hg (N := 4) ?hd (cs := #[.int .i64 0, .int .i64 0, .slice none 0 0]) (t := 50) ?hr ?_; (case hd => rfl); (case hg => rfl); (case hr => first | (go_simp; done) | (go_simp; rfl)); intro aw hg w6 hbox hb; have n0_ := Aa.mk (Au (lU HB.out) hb); have n1_ := Aa.mk (hbox); have n2_ := Aa.mk ((by rw [hg]; exact (An (lU HB.out)) : w.heap.size ≤ aw)); have n3_ := Aa.mk ((by rw [hg]; exact (An (lU HB.out)) : w.heap.size ≤ aw)); clear HB; have HB := n0_; have av := n1_; have dL := n2_; have br := n3_; clear n0_ n1_ n2_ n3_; clear hb hbox hg) | ((with_reducible refine Bq (N := 10) rfl ?_); refine Kd.R_make Kd.bool _ 4 rfl (N := 10) rfl 48 _ _ rfl ji3 rfl rfl Try.underlying48 (.bool false) 1 info4 rfl (by decide) (by omega) false (ok := fun _ => True) (okp := fun _ => True) rfl (fun _ hk => hk) trivial (of_decide_eq_true (by with_reducible assumption)) (Nat.le_trans (Nat.mul_le_mul_right _ (of_decide_eq_true (by with_reducible assumption) : ji3.toNat ≤ 281474976710656)) (by omega)) (Below.refl _ _) (Nat.le_refl _) ?_; intro v121 w7 ho8 hb hg_ hnew_; clear hg_ hnew_; (first | rw [← bH.out] at ho8 | (simp only [Int.reduceToNat] at ho8; rw [← bH.out] at ho8)); have n0_ := Aa.mk (Kd.Cc ho8 (An (by repeat (first | (with_reducible first | exact HB.out | apply Ae | apply Ac | apply Ah | refine Ag ?_ br.out) | exact HB.out)))); have n1_ := Aa.mk (Ao (g := aw) (o := .cells #[.int .i64 0, .int .i64 0, .slice none 0 0] 50 (0, 0)) (by exact bU <| av.out) hb); have n2_ := Aa.mk (Au (by repeat (first | (with_reducible first | exact HB.out | apply Ae | apply Ac | apply Ah | refine Ag ?_ br.out) | exact HB.out)) hb); clear av; clear HB; have bI := n0_; have av := n1_; have HB := n2_; clear n0_ n1_ n2_; clear hb ho8; obtain ⟨Ao9, co9, eo9⟩ := Kd.B0 bI.out; subst eo9; have aQ : w7.cell? ⟨aw, 0, none⟩ = some (.int .i64 0) := (Ad av.out 0).trans rfl; have aT : w7.cell? ⟨aw, 1, none⟩ = some (.int .i64 0) := (Ad av.out 1).trans rfl; have aU : w7.cell? ⟨aw, 2, none⟩ = some (.slice none 0 0) := (Ad av.out 2).trans rfl; have aV := Af av.out 0; have aW := Af av.out 1; have aX := Af av.out 2))
   refine bodyPost_ret (results_cell_row rfl _ _ aw 50 #[.int .i64 a0, .int .i64 a1, .slice Ao9 bZ.length co9] (0, 0) _ rfl (by (with_reducible repeat (first | refine Ax ?_ _ | refine Ay ?_ | refine Ak ?_ _)); refine Bo (cs := #[.int .i64 a0, .int .i64 a1, .slice none 0 0]) ?_ 2 _ rfl; (with_reducible repeat (first | refine Ax ?_ _ | refine Ay ?_ | refine Ak ?_ _)); refine Bo (cs := #[.int .i64 a0, .int .i64 0, .slice none 0 0]) ?_ 1 _ rfl; (with_reducible repeat (first | refine Ax ?_ _ | refine Ay ?_ | refine Ak ?_ _)); refine Bo (cs := #[.int .i64 0, .int .i64 0, .slice none 0 0]) ?_ 0 _ rfl; exact bU <| av.out) Try.underlying50 rfl (by kernel_rfl)) rfl ?_
   exact ⟨_, by first | rfl | (simp [Be, Bd] <;> rfl) | (simp only [← bE]; first | rfl | (simp [Be, Bd] <;> rfl)) | (simp [*, Be, Bd] <;> rfl), by exact rU <| Kd.Bj (Kd.Bn (p := ⟨aw, 2, none⟩) (Kd.Bn (p := ⟨aw, 1, none⟩) (Kd.Bn (p := ⟨aw, 0, none⟩) (Kd.Cb bI.out av.out (by decide)) (fun _ hk => hk.2) (.int .i64 a0)) (fun _ hk => hk.2) (.int .i64 a1)) (fun _ hk => hk.2) (.slice Ao9 bZ.length co9)) (fun _ hk => trivial), by repeat (first | (with_reducible first | exact HB.out | apply Ae | apply Ac | apply Ah | refine Ag ?_ br.out) | exact HB.out)⟩
  ·rw [if_neg c5] at H
   exact absurd H (by simp)
 ·rw [if_neg c4] at H
  exact absurd H (by simp)

end Go.Proofs.Yteamphcehoaleaa.PFA

