-- Written by a program of this session (hprint.py: the kit's printer, with this session's contracts beside it). Lean checks it.
import Derived.Test.YtmipbbkieadecaaPDEx0
import Derived.Test.YtmipbbkieadecaaH1
import Derived.Test.YtmipbbkieadecaaH10
import Derived.Test.YtmipbbkieadecaaH2
import Derived.Test.YtmipbbkieadecaaPDAx1
import Derived.Test.YtmipbbkieadecaaPDAx2
import Derived.Test.YtmipbbkieadecaaPDAx6
import Derived.Test.YtmipbbkieadecaaPDCx1
import Derived.Test.YtmipbbkieadecaaPDKx1
namespace Go.Proofs.Ytmipbbkieadecaa.PDE
open Go.Proofs.Ytmipbbkieadecaa.PDA Go.Proofs.Ytmipbbkieadecaa.PDB Go.Proofs.Ytmipbbkieadecaa.PDC Go.Proofs.Ytmipbbkieadecaa.PDK
open Go.RowKit Go.Proofs.YtmipbbkieadecaaW.PrintWords Go.Proofs.YtmipbbkieadecaaW.PrintLast Go.Proofs.YtmipbbkieadecaaW.PrintMore
attribute [local go_sem] max2_int min2_int max_two min_two max_three min_three max_four min_four   -- for this text's walks alone
set_option linter.unusedVariables false
set_option linter.unusedSimpArgs false

/-! ### halidelaw13_DitherKeeps: function 5 -/
mutual
def halidelaw13_DitherKeeps.j0 : Nat → Int → Bool → Int → Int → List Int → Option (Bool)
  | 0, _, _, _, _, _ => none
  | k + 1, x1, x33, x102000, x102001, x102002 => if x33 = true then (some true) else ((halidehelp_Copy.f x102000 x102001 x102002).bind fun bt105 => ((dither_Diffuse.f bt105.1 bt105.2.1 bt105.2.2 x1).bind fun bt110 => (if bt110.2.2.2.2 = 0 then (if bt110.1 = x102000 then (if bt110.2.1 = x102001 then (halidelaw13_DitherKeeps.j1 k x1 bt110.2.2.2.1 ((bt110.2.2.1.length : Int) != (x102002.length : Int)) x102000 x102001 x102002 bt110.1 bt110.2.1 bt110.2.2.1) else (halidelaw13_DitherKeeps.j1 k x1 bt110.2.2.2.1 true x102000 x102001 x102002 bt110.1 bt110.2.1 bt110.2.2.1)) else (halidelaw13_DitherKeeps.j1 k x1 bt110.2.2.2.1 true x102000 x102001 x102002 bt110.1 bt110.2.1 bt110.2.2.1)) else (halidelaw13_DitherKeeps.j1 k x1 bt110.2.2.2.1 true x102000 x102001 x102002 bt110.1 bt110.2.1 bt110.2.2.1))))
def halidelaw13_DitherKeeps.j1 : Nat → Int → Int → Bool → Int → Int → List Int → Int → Int → List Int → Option (Bool)
  | 0, _, _, _, _, _, _, _, _, _ => none
  | k + 1, x1, x6, x66, x102000, x102001, x102002, x118000, x118001, x118002 => if x66 = true then (some false) else (halidelaw13_DitherKeeps.l0 k x1 (wrap64 (-x6)) 0 x102000 x102001 x102002 x118000 x118001 x118002)
def halidelaw13_DitherKeeps.l0 : Nat → Int → Int → Int → Int → Int → List Int → Int → Int → List Int → Option (Bool)
  | 0, _, _, _, _, _, _, _, _, _ => none
  | k + 1, x1, x8, x9, x102000, x102001, x102002, x118000, x118001, x118002 => if x9 < (x102002.length : Int) then (halidelaw13_DitherKeeps.l1 k x1 x8 x9 false 0 x102000 x102001 x102002 x118000 x118001 x118002) else (some (x8 == 0))
def halidelaw13_DitherKeeps.l1 : Nat → Int → Int → Int → Bool → Int → Int → Int → List Int → Int → Int → List Int → Option (Bool)
  | 0, _, _, _, _, _, _, _, _, _, _, _ => none
  | k + 1, x1, x8, x9, x10, x11, x102000, x102001, x102002, x118000, x118001, x118002 => if x11 < x1 then (halidelaw13_DitherKeeps.j4 k x1 x8 x9 x10 x11 (!x10) x102000 x102001 x102002 x118000 x118001 x118002) else (halidelaw13_DitherKeeps.j4 k x1 x8 x9 x10 x11 false x102000 x102001 x102002 x118000 x118001 x118002)
def halidelaw13_DitherKeeps.j4 : Nat → Int → Int → Int → Bool → Int → Bool → Int → Int → List Int → Int → Int → List Int → Option (Bool)
  | 0, _, _, _, _, _, _, _, _, _, _, _, _ => none
  | k + 1, x1, x8, x9, x10, x11, x82, x102000, x102001, x102002, x118000, x118001, x118002 => if x82 = true then ((dither_Level.f x1 x11).bind fun bt120 => (if bt120.2 = 0 then (if 0 ≤ x9 then (if x9 < (x118002.length : Int) then (if bt120.1 = (rd x118002 x9) then ((dither_Unit.f x1 x11).bind fun bt123 => (halidelaw13_DitherKeeps.l1 k x1 (wrap64 (x8 - bt123.1)) x9 true (wrap64 (x11 + 1)) x102000 x102001 x102002 x118000 x118001 x118002)) else (halidelaw13_DitherKeeps.l1 k x1 x8 x9 x10 (wrap64 (x11 + 1)) x102000 x102001 x102002 x118000 x118001 x118002)) else (none)) else (none)) else (halidelaw13_DitherKeeps.l1 k x1 x8 x9 x10 (wrap64 (x11 + 1)) x102000 x102001 x102002 x118000 x118001 x118002))) else (if x10 = true then (if 0 ≤ x9 then (if x9 < (x102002.length : Int) then ((dither_Units.f (rd x102002 x9)).bind fun t119 => (halidelaw13_DitherKeeps.l0 k x1 (wrap64 (x8 + t119)) (wrap64 (x9 + 1)) x102000 x102001 x102002 x118000 x118001 x118002)) else (none)) else (none)) else (some false))
end
def halidelaw13_DitherKeeps.f (k : Nat) (a0_0 : Int) (a0_1 : Int) (l0_2 : List Int) (a1 : Int) : Option (Bool) := (halidelaw13_known.f k).bind fun t102 => (if t102 = true then ((halidelaw13_few.f a0_0 a0_1 l0_2).bind fun t103 => (if t103 = true then ((halidehelp_May.f a0_0 a0_1 l0_2).bind fun t104 => (if t104 = 0 then (if a1 < 2 then (halidelaw13_DitherKeeps.j0 k a1 true a0_0 a0_1 l0_2) else (halidelaw13_DitherKeeps.j0 k a1 (decide (a1 > 256)) a0_0 a0_1 l0_2)) else (halidelaw13_DitherKeeps.j0 k a1 true a0_0 a0_1 l0_2))) else (halidelaw13_DitherKeeps.j0 k a1 true a0_0 a0_1 l0_2))) else (some false))
theorem halidelaw13_DitherKeeps.mono_l : ∀ k, (∀ y0 y1 y2 y3 y4, LeO (halidelaw13_DitherKeeps.j0 k y0 y1 y2 y3 y4) (halidelaw13_DitherKeeps.j0 (k + 1) y0 y1 y2 y3 y4)) ∧ (∀ y0 y1 y2 y3 y4 y5 y6 y7 y8, LeO (halidelaw13_DitherKeeps.j1 k y0 y1 y2 y3 y4 y5 y6 y7 y8) (halidelaw13_DitherKeeps.j1 (k + 1) y0 y1 y2 y3 y4 y5 y6 y7 y8)) ∧ (∀ y0 y1 y2 y3 y4 y5 y6 y7 y8, LeO (halidelaw13_DitherKeeps.l0 k y0 y1 y2 y3 y4 y5 y6 y7 y8) (halidelaw13_DitherKeeps.l0 (k + 1) y0 y1 y2 y3 y4 y5 y6 y7 y8)) ∧ (∀ y0 y1 y2 y3 y4 y5 y6 y7 y8 y9 y10, LeO (halidelaw13_DitherKeeps.l1 k y0 y1 y2 y3 y4 y5 y6 y7 y8 y9 y10) (halidelaw13_DitherKeeps.l1 (k + 1) y0 y1 y2 y3 y4 y5 y6 y7 y8 y9 y10)) ∧ (∀ y0 y1 y2 y3 y4 y5 y6 y7 y8 y9 y10 y11, LeO (halidelaw13_DitherKeeps.j4 k y0 y1 y2 y3 y4 y5 y6 y7 y8 y9 y10 y11) (halidelaw13_DitherKeeps.j4 (k + 1) y0 y1 y2 y3 y4 y5 y6 y7 y8 y9 y10 y11))
  | 0 => ⟨fun _ _ _ _ _ r h => by simp [halidelaw13_DitherKeeps.j0] at h, fun _ _ _ _ _ _ _ _ _ r h => by simp [halidelaw13_DitherKeeps.j1] at h, fun _ _ _ _ _ _ _ _ _ r h => by simp [halidelaw13_DitherKeeps.l0] at h, fun _ _ _ _ _ _ _ _ _ _ _ r h => by simp [halidelaw13_DitherKeeps.l1] at h, fun _ _ _ _ _ _ _ _ _ _ _ _ r h => by simp [halidelaw13_DitherKeeps.j4] at h⟩
  | k + 1 => by
    obtain ⟨ih0, ih1, ih2, ih3, ih4⟩ := halidelaw13_DitherKeeps.mono_l k
    refine ⟨?_, ?_, ?_, ?_, ?_⟩
    · intro y0 y1 y2 y3 y4
      unfold halidelaw13_DitherKeeps.j0
      repeat' first
      | (with_reducible exact ih0 _ _ _ _ _)
      | (with_reducible exact ih1 _ _ _ _ _ _ _ _ _)
      | (with_reducible exact ih2 _ _ _ _ _ _ _ _ _)
      | (with_reducible exact ih3 _ _ _ _ _ _ _ _ _ _ _)
      | (with_reducible exact ih4 _ _ _ _ _ _ _ _ _ _ _ _)
      | (with_reducible exact halidelaw13_known.mono _)
      | (with_reducible exact LeO.refl _)
      | (with_reducible exact LeO.none _)
      | (with_reducible refine LeO.ite ?_ ?_)
      | (with_reducible refine LeO.bind ?_ (fun _ => ?_))
      | exact ih0 _ _ _ _ _
      | exact ih1 _ _ _ _ _ _ _ _ _
      | exact ih2 _ _ _ _ _ _ _ _ _
      | exact ih3 _ _ _ _ _ _ _ _ _ _ _
      | exact ih4 _ _ _ _ _ _ _ _ _ _ _ _
      | exact halidelaw13_known.mono _
      | exact LeO.none _
      | refine LeO.ite ?_ ?_
      | refine LeO.bind ?_ (fun _ => ?_)
    · intro y0 y1 y2 y3 y4 y5 y6 y7 y8
      unfold halidelaw13_DitherKeeps.j1
      repeat' first
      | (with_reducible exact ih0 _ _ _ _ _)
      | (with_reducible exact ih1 _ _ _ _ _ _ _ _ _)
      | (with_reducible exact ih2 _ _ _ _ _ _ _ _ _)
      | (with_reducible exact ih3 _ _ _ _ _ _ _ _ _ _ _)
      | (with_reducible exact ih4 _ _ _ _ _ _ _ _ _ _ _ _)
      | (with_reducible exact halidelaw13_known.mono _)
      | (with_reducible exact LeO.refl _)
      | (with_reducible exact LeO.none _)
      | (with_reducible refine LeO.ite ?_ ?_)
      | (with_reducible refine LeO.bind ?_ (fun _ => ?_))
      | exact ih0 _ _ _ _ _
      | exact ih1 _ _ _ _ _ _ _ _ _
      | exact ih2 _ _ _ _ _ _ _ _ _
      | exact ih3 _ _ _ _ _ _ _ _ _ _ _
      | exact ih4 _ _ _ _ _ _ _ _ _ _ _ _
      | exact halidelaw13_known.mono _
      | exact LeO.none _
      | refine LeO.ite ?_ ?_
      | refine LeO.bind ?_ (fun _ => ?_)
    · intro y0 y1 y2 y3 y4 y5 y6 y7 y8
      unfold halidelaw13_DitherKeeps.l0
      repeat' first
      | (with_reducible exact ih0 _ _ _ _ _)
      | (with_reducible exact ih1 _ _ _ _ _ _ _ _ _)
      | (with_reducible exact ih2 _ _ _ _ _ _ _ _ _)
      | (with_reducible exact ih3 _ _ _ _ _ _ _ _ _ _ _)
      | (with_reducible exact ih4 _ _ _ _ _ _ _ _ _ _ _ _)
      | (with_reducible exact halidelaw13_known.mono _)
      | (with_reducible exact LeO.refl _)
      | (with_reducible exact LeO.none _)
      | (with_reducible refine LeO.ite ?_ ?_)
      | (with_reducible refine LeO.bind ?_ (fun _ => ?_))
      | exact ih0 _ _ _ _ _
      | exact ih1 _ _ _ _ _ _ _ _ _
      | exact ih2 _ _ _ _ _ _ _ _ _
      | exact ih3 _ _ _ _ _ _ _ _ _ _ _
      | exact ih4 _ _ _ _ _ _ _ _ _ _ _ _
      | exact halidelaw13_known.mono _
      | exact LeO.none _
      | refine LeO.ite ?_ ?_
      | refine LeO.bind ?_ (fun _ => ?_)
    · intro y0 y1 y2 y3 y4 y5 y6 y7 y8 y9 y10
      unfold halidelaw13_DitherKeeps.l1
      repeat' first
      | (with_reducible exact ih0 _ _ _ _ _)
      | (with_reducible exact ih1 _ _ _ _ _ _ _ _ _)
      | (with_reducible exact ih2 _ _ _ _ _ _ _ _ _)
      | (with_reducible exact ih3 _ _ _ _ _ _ _ _ _ _ _)
      | (with_reducible exact ih4 _ _ _ _ _ _ _ _ _ _ _ _)
      | (with_reducible exact halidelaw13_known.mono _)
      | (with_reducible exact LeO.refl _)
      | (with_reducible exact LeO.none _)
      | (with_reducible refine LeO.ite ?_ ?_)
      | (with_reducible refine LeO.bind ?_ (fun _ => ?_))
      | exact ih0 _ _ _ _ _
      | exact ih1 _ _ _ _ _ _ _ _ _
      | exact ih2 _ _ _ _ _ _ _ _ _
      | exact ih3 _ _ _ _ _ _ _ _ _ _ _
      | exact ih4 _ _ _ _ _ _ _ _ _ _ _ _
      | exact halidelaw13_known.mono _
      | exact LeO.none _
      | refine LeO.ite ?_ ?_
      | refine LeO.bind ?_ (fun _ => ?_)
    · intro y0 y1 y2 y3 y4 y5 y6 y7 y8 y9 y10 y11
      unfold halidelaw13_DitherKeeps.j4
      repeat' first
      | (with_reducible exact ih0 _ _ _ _ _)
      | (with_reducible exact ih1 _ _ _ _ _ _ _ _ _)
      | (with_reducible exact ih2 _ _ _ _ _ _ _ _ _)
      | (with_reducible exact ih3 _ _ _ _ _ _ _ _ _ _ _)
      | (with_reducible exact ih4 _ _ _ _ _ _ _ _ _ _ _ _)
      | (with_reducible exact halidelaw13_known.mono _)
      | (with_reducible exact LeO.refl _)
      | (with_reducible exact LeO.none _)
      | (with_reducible refine LeO.ite ?_ ?_)
      | (with_reducible refine LeO.bind ?_ (fun _ => ?_))
      | exact ih0 _ _ _ _ _
      | exact ih1 _ _ _ _ _ _ _ _ _
      | exact ih2 _ _ _ _ _ _ _ _ _
      | exact ih3 _ _ _ _ _ _ _ _ _ _ _
      | exact ih4 _ _ _ _ _ _ _ _ _ _ _ _
      | exact halidelaw13_known.mono _
      | exact LeO.none _
      | refine LeO.ite ?_ ?_
      | refine LeO.bind ?_ (fun _ => ?_)
theorem halidelaw13_DitherKeeps.mono : ∀ a0 a1 a2 a3 k, LeO (halidelaw13_DitherKeeps.f k a0 a1 a2 a3) (halidelaw13_DitherKeeps.f (k + 1) a0 a1 a2 a3) := by
  intro a0 a1 a2 a3 k
  obtain ⟨ih0, ih1, ih2, ih3, ih4⟩ := halidelaw13_DitherKeeps.mono_l k
  unfold halidelaw13_DitherKeeps.f
  repeat' first
      | (with_reducible exact ih0 _ _ _ _ _)
      | (with_reducible exact ih1 _ _ _ _ _ _ _ _ _)
      | (with_reducible exact ih2 _ _ _ _ _ _ _ _ _)
      | (with_reducible exact ih3 _ _ _ _ _ _ _ _ _ _ _)
      | (with_reducible exact ih4 _ _ _ _ _ _ _ _ _ _ _ _)
      | (with_reducible exact halidelaw13_known.mono _)
      | (with_reducible exact LeO.refl _)
      | (with_reducible exact LeO.none _)
      | (with_reducible refine LeO.ite ?_ ?_)
      | (with_reducible refine LeO.bind ?_ (fun _ => ?_))
      | exact ih0 _ _ _ _ _
      | exact ih1 _ _ _ _ _ _ _ _ _
      | exact ih2 _ _ _ _ _ _ _ _ _
      | exact ih3 _ _ _ _ _ _ _ _ _ _ _
      | exact ih4 _ _ _ _ _ _ _ _ _ _ _ _
      | exact halidelaw13_known.mono _
      | exact LeO.none _
      | refine LeO.ite ?_ ?_
      | refine LeO.bind ?_ (fun _ => ?_)
set_option maxHeartbeats 8000000 in
set_option maxRecDepth 100000 in
theorem halidelaw13_DitherKeeps.calls (k : Nat) (a0_0 : Int) (a0_1 : Int) (A0_2 : Option Addr) (c0_2 : Nat) (l0_2 : List Int) (a1 : Int) (r : Bool) (w : World) (hr0_2 : Kd.C (Kd.int .u32) w A0_2 l0_2.length l0_2) (hc0_2 : l0_2.length ≤ c0_2) (h : halidelaw13_DitherKeeps.f k a0_0 a0_1 l0_2 a1 = some r) (HT0 : r = true := by decide) :
    Calls Try.prog 5 #[.agg #[.int .i64 a0_0, .int .i64 a0_1, .slice A0_2 l0_2.length c0_2], .int .i64 a1] w fun e w' => e = .returned (.bool r) ∧ Below w.heap.size w w' := by
  have HT := Aside0.mk HT0
  clear HT0
  have hu35 := Try.underlying35
  have HR0_2 := Aside0.mk hr0_2
  have HC0_2 := Aside0.mk hc0_2
  clear hr0_2 hc0_2
  have HB := Aside0.mk (Below.refl w.heap.size w)
  have H : ((halidelaw13_known.f k).bind fun t102 => (if t102 = true then ((halidelaw13_few.f a0_0 a0_1 l0_2).bind fun t103 => (if t103 = true then ((halidehelp_May.f a0_0 a0_1 l0_2).bind fun t104 => (if t104 = 0 then (if a1 < 2 then (halidelaw13_DitherKeeps.j0 k a1 true a0_0 a0_1 l0_2) else (halidelaw13_DitherKeeps.j0 k a1 (decide (a1 > 256)) a0_0 a0_1 l0_2)) else (halidelaw13_DitherKeeps.j0 k a1 true a0_0 a0_1 l0_2))) else (halidelaw13_DitherKeeps.j0 k a1 true a0_0 a0_1 l0_2))) else (some false))) = some r := h
  clear h
  replace H := Option.bind_eq_some_iff.mp H
  obtain ⟨t102, A30, H⟩ := H
  replace H : (if t102 = true then ((halidelaw13_few.f a0_0 a0_1 l0_2).bind fun t103 => (if t103 = true then ((halidehelp_May.f a0_0 a0_1 l0_2).bind fun t104 => (if t104 = 0 then (if a1 < 2 then (halidelaw13_DitherKeeps.j0 k a1 true a0_0 a0_1 l0_2) else (halidelaw13_DitherKeeps.j0 k a1 (decide (a1 > 256)) a0_0 a0_1 l0_2)) else (halidelaw13_DitherKeeps.j0 k a1 true a0_0 a0_1 l0_2))) else (halidelaw13_DitherKeeps.j0 k a1 true a0_0 a0_1 l0_2))) else (some false)) = some r := H
  have A3 := Aside0.mk A30
  clear A30
  by_cases c4 : t102 = true
  · subst c4
    have H1 : ((halidelaw13_few.f a0_0 a0_1 l0_2).bind fun t103 => (if t103 = true then ((halidehelp_May.f a0_0 a0_1 l0_2).bind fun t104 => (if t104 = 0 then (if a1 < 2 then (halidelaw13_DitherKeeps.j0 k a1 true a0_0 a0_1 l0_2) else (halidelaw13_DitherKeeps.j0 k a1 (decide (a1 > 256)) a0_0 a0_1 l0_2)) else (halidelaw13_DitherKeeps.j0 k a1 true a0_0 a0_1 l0_2))) else (halidelaw13_DitherKeeps.j0 k a1 true a0_0 a0_1 l0_2))) = some r := by rw [if_pos rfl] at H; exact H
    clear H
    have H := H1
    clear H1
    have HC5 := Aside0.mk H
    clear H
    go_enter Try.func5, Try.ntmps5
    go_upto_region 3 with (first | ((with_reducible refine gate_dst (N := 2) rfl ?_); (try (refine gate_guard (by rfl) ?_; dsimp only)); refine box_event ?hg (N := 2) ?hd (cs := #[.int .i64 a0_0, .int .i64 a0_1, .slice A0_2 l0_2.length c0_2]) (t := 35) ?hr ?_; (case hd => rfl); (case hg => rfl); (case hr => first | (go_simp; done) | (go_simp; rfl)); intro gb101 hg w6 hbox hb; have n0_ := Aside0.mk (below_step (by repeat (first | (with_reducible first | exact HB.out | apply below_alloc | apply pw_below_drewN | apply below_drew1) | exact HB.out)) hb); have n1_ := Aside0.mk (hbox); have n2_ := Aside0.mk ((by rw [hg]; exact (below_size (by repeat (first | (with_reducible first | exact HB.out | apply below_alloc | apply pw_below_drewN | apply below_drew1) | exact HB.out))) : w.heap.size ≤ gb101)); have n3_ := Aside0.mk ((by rw [hg]; exact (below_size (by repeat (first | (with_reducible first | exact HB.out | apply below_alloc | apply pw_below_drewN | apply below_drew1) | exact HB.out))) : w.heap.size ≤ gb101)); clear HB; have HB := n0_; have BK101 := n1_; have GW101 := n2_; have GE101 := n3_; clear n0_ n1_ n2_ n3_; clear hb hbox hg) | ((with_reducible refine gate_callee (f := 10) rfl ?_); refine goesL_ (some 16) rfl rfl Try.func10 (by kernel_rfl) rfl #[] rfl (by (try simp only [List.map_toArray, List.map_cons, List.map_nil]); first | done | rfl | (simp only [List.length_drop, List.length_take]; rfl)) ?_; (with_reducible refine (halidelaw13_known.calls k  true _ A3.out).mono ?_); rintro e w7 ⟨rfl, hb⟩; refine ⟨_, rfl, ?_⟩; have n0_ := Aside0.mk (blk_below (g := gb101) (o := .cells #[.int .i64 a0_0, .int .i64 a0_1, .slice A0_2 l0_2.length c0_2] 35 (0, 0)) (by (with_reducible repeat (first | refine blk_drewN ?_ _ | refine blk_drew ?_ | refine blk_alloc ?_ _)); exact BK101.out) hb); have n1_ := Aside0.mk (below_step (by repeat (first | (with_reducible first | exact HB.out | apply below_alloc | apply pw_below_drewN | apply below_drew1 | refine below_set ?_ GE101.out) | exact HB.out)) hb); clear BK101; clear HB; have BK101 := n0_; have HB := n1_; clear n0_ n1_; (try clear hb); (try clear hb2); (try clear hk); (try clear hi)))
    (try simp only [Act.put, List.setIfInBounds_toArray, List.set_cons_zero, List.set_cons_succ])
    go_cut [33] (fun v33 wc => ∃ (kq : Nat) (x33_4 : Bool), v33 = .bool x33_4 ∧ Aside0 (halidelaw13_DitherKeeps.j0 kq a1 x33_4 a0_0 a0_1 l0_2 = some r) ∧ Aside0 (kq ≤ k) ∧ Aside0 (wc.heap[gb101]? = some (.cells #[.int .i64 a0_0, .int .i64 a0_1, (.slice A0_2 l0_2.length c0_2)] 35 (0, 0))) ∧ Aside0 (Below w.heap.size w wc))
    case first =>
      have H := HC5.out
      clear HC5
      replace H := Option.bind_eq_some_iff.mp H
      obtain ⟨t103, A80, H⟩ := H
      replace H : (if t103 = true then ((halidehelp_May.f a0_0 a0_1 l0_2).bind fun t104 => (if t104 = 0 then (if a1 < 2 then (halidelaw13_DitherKeeps.j0 k a1 true a0_0 a0_1 l0_2) else (halidelaw13_DitherKeeps.j0 k a1 (decide (a1 > 256)) a0_0 a0_1 l0_2)) else (halidelaw13_DitherKeeps.j0 k a1 true a0_0 a0_1 l0_2))) else (halidelaw13_DitherKeeps.j0 k a1 true a0_0 a0_1 l0_2)) = some r := H
      have A8 := Aside0.mk A80
      clear A80
      by_cases c9 : t103 = true
      · subst c9
        have H1 : ((halidehelp_May.f a0_0 a0_1 l0_2).bind fun t104 => (if t104 = 0 then (if a1 < 2 then (halidelaw13_DitherKeeps.j0 k a1 true a0_0 a0_1 l0_2) else (halidelaw13_DitherKeeps.j0 k a1 (decide (a1 > 256)) a0_0 a0_1 l0_2)) else (halidelaw13_DitherKeeps.j0 k a1 true a0_0 a0_1 l0_2))) = some r := by rw [if_pos rfl] at H; exact H
        clear H
        have H := H1
        clear H1
        replace H := Option.bind_eq_some_iff.mp H
        obtain ⟨t104, A100, H⟩ := H
        replace H : (if t104 = 0 then (if a1 < 2 then (halidelaw13_DitherKeeps.j0 k a1 true a0_0 a0_1 l0_2) else (halidelaw13_DitherKeeps.j0 k a1 (decide (a1 > 256)) a0_0 a0_1 l0_2)) else (halidelaw13_DitherKeeps.j0 k a1 true a0_0 a0_1 l0_2)) = some r := H
        have A10 := Aside0.mk A100
        clear A100
        by_cases c11 : t104 = 0
        · rw [if_pos c11] at H
          have c11b0 : (t104 == 0) = true := beq_iff_eq.mpr c11
          have c11b1 : (t104 != 0) = false := bne_eq_false_iff_eq.mpr c11
          clear c11
          (first | rw [c11b0] | (simp only [i64_w, i32_w]; rw [c11b0]) | skip)
          by_cases c12 : a1 < 2
          · rw [if_pos c12] at H
            have c12b0 : decide (a1 < 2) = true := decide_eq_true c12
            clear c12
            have H' := Aside0.mk H
            clear H
            have hcz13_0 : w7.cell? ⟨gb101, 0, none⟩ = some (.int .i64 a0_0) := (blk_cell BK101.out 0).trans rfl
            have hcz13_1 : w7.cell? ⟨gb101, 1, none⟩ = some (.int .i64 a0_1) := (blk_cell BK101.out 1).trans rfl
            have hcz13_2 : w7.cell? ⟨gb101, 2, none⟩ = some (.slice A0_2 l0_2.length c0_2) := (blk_cell BK101.out 2).trans rfl
            have hfz13_0 := blk_frozen BK101.out 0
            have hfz13_1 := blk_frozen BK101.out 1
            have hfz13_2 := blk_frozen BK101.out 2
            go_wp2_with (first | ((with_reducible refine gate_callee (f := 14) rfl ?_); refine goesL_ (some 19) rfl rfl Try.func14 (by kernel_rfl) rfl #[.agg #[.int .i64 a0_0, .int .i64 a0_1, .slice A0_2 l0_2.length c0_2]] rfl (by (try simp only [List.map_toArray, List.map_cons, List.map_nil]); first | done | rfl | (simp only [List.length_drop, List.length_take]; rfl)) ?_; (with_reducible refine (halidelaw13_few.calls a0_0 a0_1 _ _ l0_2 true _ ?side1 ?side2 A8.out).mono ?_); (case side1 => repeat (first | exact (Kd.C_below HR0_2.out HB.out) | (with_reducible refine Kd.C_alloc ?_ _) | (with_reducible refine Kd.C_drewN ?_ _) | (with_reducible refine Kd.C_drew ?_))); (case side2 => exact HC0_2.out); rintro e w14 ⟨rfl, hb⟩; refine ⟨_, rfl, ?_⟩; have n0_ := Aside0.mk (blk_below (g := gb101) (o := .cells #[.int .i64 a0_0, .int .i64 a0_1, .slice A0_2 l0_2.length c0_2] 35 (0, 0)) (by (with_reducible repeat (first | refine blk_drewN ?_ _ | refine blk_drew ?_ | refine blk_alloc ?_ _)); exact BK101.out) hb); have n1_ := Aside0.mk (below_step (by repeat (first | (with_reducible first | exact HB.out | apply below_alloc | apply pw_below_drewN | apply below_drew1 | refine below_set ?_ GE101.out) | exact HB.out)) hb); clear BK101; clear HB; have BK101 := n0_; have HB := n1_; clear n0_ n1_; (try clear hb); (try clear hb2); (try clear hk); (try clear hi); have hcz15_0 : w14.cell? ⟨gb101, 0, none⟩ = some (.int .i64 a0_0) := (blk_cell BK101.out 0).trans rfl; have hcz15_1 : w14.cell? ⟨gb101, 1, none⟩ = some (.int .i64 a0_1) := (blk_cell BK101.out 1).trans rfl; have hcz15_2 : w14.cell? ⟨gb101, 2, none⟩ = some (.slice A0_2 l0_2.length c0_2) := (blk_cell BK101.out 2).trans rfl; have hfz15_0 := blk_frozen BK101.out 0; have hfz15_1 := blk_frozen BK101.out 1; have hfz15_2 := blk_frozen BK101.out 2) | (go_at_call 20; (with_reducible refine (halidehelp_May.calls a0_0 a0_1 _ _ l0_2 t104 _ ?side1 ?side2 A10.out).mono ?_); (case side1 => repeat (first | exact (Kd.C_below HR0_2.out HB.out) | (with_reducible refine Kd.C_alloc ?_ _) | (with_reducible refine Kd.C_drewN ?_ _) | (with_reducible refine Kd.C_drew ?_))); (case side2 => exact HC0_2.out); rintro e w16 ⟨rfl, hb⟩; have n0_ := Aside0.mk (blk_below (g := gb101) (o := .cells #[.int .i64 a0_0, .int .i64 a0_1, .slice A0_2 l0_2.length c0_2] 35 (0, 0)) (by (with_reducible repeat (first | refine blk_drewN ?_ _ | refine blk_drew ?_ | refine blk_alloc ?_ _)); exact BK101.out) hb); have n1_ := Aside0.mk (below_step (by repeat (first | (with_reducible first | exact HB.out | apply below_alloc | apply pw_below_drewN | apply below_drew1 | refine below_set ?_ GE101.out) | exact HB.out)) hb); clear BK101; clear HB; have BK101 := n0_; have HB := n1_; clear n0_ n1_; (try clear hb); (try clear hb2); (try clear hk); (try clear hi)))
            go_meet
            case rel => exact ⟨_, (true), (by first | rfl | (simp; done) | (simp [*]; done)), H', ⟨by first | omega | exact Nat.le_refl _⟩, ⟨by (with_reducible repeat (first | refine blk_drewN ?_ _ | refine blk_drew ?_ | refine blk_alloc ?_ _)); exact BK101.out⟩, ⟨by repeat (first | (with_reducible first | exact HB.out | apply below_alloc | apply pw_below_drewN | apply below_drew1 | refine below_set ?_ GE101.out) | exact HB.out)⟩⟩
          · rw [if_neg c12] at H
            have c12b0 : decide (a1 < 2) = false := decide_eq_false c12
            clear c12
            have H' := Aside0.mk H
            clear H
            have hcz17_0 : w7.cell? ⟨gb101, 0, none⟩ = some (.int .i64 a0_0) := (blk_cell BK101.out 0).trans rfl
            have hcz17_1 : w7.cell? ⟨gb101, 1, none⟩ = some (.int .i64 a0_1) := (blk_cell BK101.out 1).trans rfl
            have hcz17_2 : w7.cell? ⟨gb101, 2, none⟩ = some (.slice A0_2 l0_2.length c0_2) := (blk_cell BK101.out 2).trans rfl
            have hfz17_0 := blk_frozen BK101.out 0
            have hfz17_1 := blk_frozen BK101.out 1
            have hfz17_2 := blk_frozen BK101.out 2
            go_wp2_with (first | ((with_reducible refine gate_callee (f := 14) rfl ?_); refine goesL_ (some 19) rfl rfl Try.func14 (by kernel_rfl) rfl #[.agg #[.int .i64 a0_0, .int .i64 a0_1, .slice A0_2 l0_2.length c0_2]] rfl (by (try simp only [List.map_toArray, List.map_cons, List.map_nil]); first | done | rfl | (simp only [List.length_drop, List.length_take]; rfl)) ?_; (with_reducible refine (halidelaw13_few.calls a0_0 a0_1 _ _ l0_2 true _ ?side1 ?side2 A8.out).mono ?_); (case side1 => repeat (first | exact (Kd.C_below HR0_2.out HB.out) | (with_reducible refine Kd.C_alloc ?_ _) | (with_reducible refine Kd.C_drewN ?_ _) | (with_reducible refine Kd.C_drew ?_))); (case side2 => exact HC0_2.out); rintro e w18 ⟨rfl, hb⟩; refine ⟨_, rfl, ?_⟩; have n0_ := Aside0.mk (blk_below (g := gb101) (o := .cells #[.int .i64 a0_0, .int .i64 a0_1, .slice A0_2 l0_2.length c0_2] 35 (0, 0)) (by (with_reducible repeat (first | refine blk_drewN ?_ _ | refine blk_drew ?_ | refine blk_alloc ?_ _)); exact BK101.out) hb); have n1_ := Aside0.mk (below_step (by repeat (first | (with_reducible first | exact HB.out | apply below_alloc | apply pw_below_drewN | apply below_drew1 | refine below_set ?_ GE101.out) | exact HB.out)) hb); clear BK101; clear HB; have BK101 := n0_; have HB := n1_; clear n0_ n1_; (try clear hb); (try clear hb2); (try clear hk); (try clear hi); have hcz19_0 : w18.cell? ⟨gb101, 0, none⟩ = some (.int .i64 a0_0) := (blk_cell BK101.out 0).trans rfl; have hcz19_1 : w18.cell? ⟨gb101, 1, none⟩ = some (.int .i64 a0_1) := (blk_cell BK101.out 1).trans rfl; have hcz19_2 : w18.cell? ⟨gb101, 2, none⟩ = some (.slice A0_2 l0_2.length c0_2) := (blk_cell BK101.out 2).trans rfl; have hfz19_0 := blk_frozen BK101.out 0; have hfz19_1 := blk_frozen BK101.out 1; have hfz19_2 := blk_frozen BK101.out 2) | (go_at_call 20; (with_reducible refine (halidehelp_May.calls a0_0 a0_1 _ _ l0_2 t104 _ ?side1 ?side2 A10.out).mono ?_); (case side1 => repeat (first | exact (Kd.C_below HR0_2.out HB.out) | (with_reducible refine Kd.C_alloc ?_ _) | (with_reducible refine Kd.C_drewN ?_ _) | (with_reducible refine Kd.C_drew ?_))); (case side2 => exact HC0_2.out); rintro e w20 ⟨rfl, hb⟩; have n0_ := Aside0.mk (blk_below (g := gb101) (o := .cells #[.int .i64 a0_0, .int .i64 a0_1, .slice A0_2 l0_2.length c0_2] 35 (0, 0)) (by (with_reducible repeat (first | refine blk_drewN ?_ _ | refine blk_drew ?_ | refine blk_alloc ?_ _)); exact BK101.out) hb); have n1_ := Aside0.mk (below_step (by repeat (first | (with_reducible first | exact HB.out | apply below_alloc | apply pw_below_drewN | apply below_drew1 | refine below_set ?_ GE101.out) | exact HB.out)) hb); clear BK101; clear HB; have BK101 := n0_; have HB := n1_; clear n0_ n1_; (try clear hb); (try clear hb2); (try clear hk); (try clear hi)))
            go_meet
            case rel => exact ⟨_, (decide (a1 > 256)), (by first | rfl | (simp; done) | (simp [*]; done)), H', ⟨by first | omega | exact Nat.le_refl _⟩, ⟨by (with_reducible repeat (first | refine blk_drewN ?_ _ | refine blk_drew ?_ | refine blk_alloc ?_ _)); exact BK101.out⟩, ⟨by repeat (first | (with_reducible first | exact HB.out | apply below_alloc | apply pw_below_drewN | apply below_drew1 | refine below_set ?_ GE101.out) | exact HB.out)⟩⟩
        · rw [if_neg c11] at H
          have c11b0 : (t104 == 0) = false := beq_eq_false_iff_ne.mpr c11
          have c11b1 : (t104 != 0) = true := bne_iff_ne.mpr c11
          (first | rw [c11b0] | (simp only [i64_w, i32_w]; rw [c11b0]) | skip)
          have H' := Aside0.mk H
          clear H
          have hcz21_0 : w7.cell? ⟨gb101, 0, none⟩ = some (.int .i64 a0_0) := (blk_cell BK101.out 0).trans rfl
          have hcz21_1 : w7.cell? ⟨gb101, 1, none⟩ = some (.int .i64 a0_1) := (blk_cell BK101.out 1).trans rfl
          have hcz21_2 : w7.cell? ⟨gb101, 2, none⟩ = some (.slice A0_2 l0_2.length c0_2) := (blk_cell BK101.out 2).trans rfl
          have hfz21_0 := blk_frozen BK101.out 0
          have hfz21_1 := blk_frozen BK101.out 1
          have hfz21_2 := blk_frozen BK101.out 2
          go_wp2_with (first | ((with_reducible refine gate_callee (f := 14) rfl ?_); refine goesL_ (some 19) rfl rfl Try.func14 (by kernel_rfl) rfl #[.agg #[.int .i64 a0_0, .int .i64 a0_1, .slice A0_2 l0_2.length c0_2]] rfl (by (try simp only [List.map_toArray, List.map_cons, List.map_nil]); first | done | rfl | (simp only [List.length_drop, List.length_take]; rfl)) ?_; (with_reducible refine (halidelaw13_few.calls a0_0 a0_1 _ _ l0_2 true _ ?side1 ?side2 A8.out).mono ?_); (case side1 => repeat (first | exact (Kd.C_below HR0_2.out HB.out) | (with_reducible refine Kd.C_alloc ?_ _) | (with_reducible refine Kd.C_drewN ?_ _) | (with_reducible refine Kd.C_drew ?_))); (case side2 => exact HC0_2.out); rintro e w22 ⟨rfl, hb⟩; refine ⟨_, rfl, ?_⟩; have n0_ := Aside0.mk (blk_below (g := gb101) (o := .cells #[.int .i64 a0_0, .int .i64 a0_1, .slice A0_2 l0_2.length c0_2] 35 (0, 0)) (by (with_reducible repeat (first | refine blk_drewN ?_ _ | refine blk_drew ?_ | refine blk_alloc ?_ _)); exact BK101.out) hb); have n1_ := Aside0.mk (below_step (by repeat (first | (with_reducible first | exact HB.out | apply below_alloc | apply pw_below_drewN | apply below_drew1 | refine below_set ?_ GE101.out) | exact HB.out)) hb); clear BK101; clear HB; have BK101 := n0_; have HB := n1_; clear n0_ n1_; (try clear hb); (try clear hb2); (try clear hk); (try clear hi); have hcz23_0 : w22.cell? ⟨gb101, 0, none⟩ = some (.int .i64 a0_0) := (blk_cell BK101.out 0).trans rfl; have hcz23_1 : w22.cell? ⟨gb101, 1, none⟩ = some (.int .i64 a0_1) := (blk_cell BK101.out 1).trans rfl; have hcz23_2 : w22.cell? ⟨gb101, 2, none⟩ = some (.slice A0_2 l0_2.length c0_2) := (blk_cell BK101.out 2).trans rfl; have hfz23_0 := blk_frozen BK101.out 0; have hfz23_1 := blk_frozen BK101.out 1; have hfz23_2 := blk_frozen BK101.out 2) | (go_at_call 20; (with_reducible refine (halidehelp_May.calls a0_0 a0_1 _ _ l0_2 t104 _ ?side1 ?side2 A10.out).mono ?_); (case side1 => repeat (first | exact (Kd.C_below HR0_2.out HB.out) | (with_reducible refine Kd.C_alloc ?_ _) | (with_reducible refine Kd.C_drewN ?_ _) | (with_reducible refine Kd.C_drew ?_))); (case side2 => exact HC0_2.out); rintro e w24 ⟨rfl, hb⟩; have n0_ := Aside0.mk (blk_below (g := gb101) (o := .cells #[.int .i64 a0_0, .int .i64 a0_1, .slice A0_2 l0_2.length c0_2] 35 (0, 0)) (by (with_reducible repeat (first | refine blk_drewN ?_ _ | refine blk_drew ?_ | refine blk_alloc ?_ _)); exact BK101.out) hb); have n1_ := Aside0.mk (below_step (by repeat (first | (with_reducible first | exact HB.out | apply below_alloc | apply pw_below_drewN | apply below_drew1 | refine below_set ?_ GE101.out) | exact HB.out)) hb); clear BK101; clear HB; have BK101 := n0_; have HB := n1_; clear n0_ n1_; (try clear hb); (try clear hb2); (try clear hk); (try clear hi)))
          go_meet
          case rel => exact ⟨_, (true), (by first | rfl | (simp; done) | (simp [*]; done)), H', ⟨by first | omega | exact Nat.le_refl _⟩, ⟨by (with_reducible repeat (first | refine blk_drewN ?_ _ | refine blk_drew ?_ | refine blk_alloc ?_ _)); exact BK101.out⟩, ⟨by repeat (first | (with_reducible first | exact HB.out | apply below_alloc | apply pw_below_drewN | apply below_drew1 | refine below_set ?_ GE101.out) | exact HB.out)⟩⟩
      · replace c9 := Bool.eq_false_iff.mpr c9
        subst c9
        have H1 : (halidelaw13_DitherKeeps.j0 k a1 true a0_0 a0_1 l0_2) = some r := by rw [if_neg (show ¬ (false = true) by decide)] at H; exact H
        clear H
        have H := H1
        clear H1
        have H' := Aside0.mk H
        clear H
        have hcz25_0 : w7.cell? ⟨gb101, 0, none⟩ = some (.int .i64 a0_0) := (blk_cell BK101.out 0).trans rfl
        have hcz25_1 : w7.cell? ⟨gb101, 1, none⟩ = some (.int .i64 a0_1) := (blk_cell BK101.out 1).trans rfl
        have hcz25_2 : w7.cell? ⟨gb101, 2, none⟩ = some (.slice A0_2 l0_2.length c0_2) := (blk_cell BK101.out 2).trans rfl
        have hfz25_0 := blk_frozen BK101.out 0
        have hfz25_1 := blk_frozen BK101.out 1
        have hfz25_2 := blk_frozen BK101.out 2
        go_wp2_with (first | ((with_reducible refine gate_callee (f := 14) rfl ?_); refine goesL_ (some 19) rfl rfl Try.func14 (by kernel_rfl) rfl #[.agg #[.int .i64 a0_0, .int .i64 a0_1, .slice A0_2 l0_2.length c0_2]] rfl (by (try simp only [List.map_toArray, List.map_cons, List.map_nil]); first | done | rfl | (simp only [List.length_drop, List.length_take]; rfl)) ?_; (with_reducible refine (halidelaw13_few.calls a0_0 a0_1 _ _ l0_2 false _ ?side1 ?side2 A8.out).mono ?_); (case side1 => repeat (first | exact (Kd.C_below HR0_2.out HB.out) | (with_reducible refine Kd.C_alloc ?_ _) | (with_reducible refine Kd.C_drewN ?_ _) | (with_reducible refine Kd.C_drew ?_))); (case side2 => exact HC0_2.out); rintro e w26 ⟨rfl, hb⟩; refine ⟨_, rfl, ?_⟩; have n0_ := Aside0.mk (blk_below (g := gb101) (o := .cells #[.int .i64 a0_0, .int .i64 a0_1, .slice A0_2 l0_2.length c0_2] 35 (0, 0)) (by (with_reducible repeat (first | refine blk_drewN ?_ _ | refine blk_drew ?_ | refine blk_alloc ?_ _)); exact BK101.out) hb); have n1_ := Aside0.mk (below_step (by repeat (first | (with_reducible first | exact HB.out | apply below_alloc | apply pw_below_drewN | apply below_drew1 | refine below_set ?_ GE101.out) | exact HB.out)) hb); clear BK101; clear HB; have BK101 := n0_; have HB := n1_; clear n0_ n1_; (try clear hb); (try clear hb2); (try clear hk); (try clear hi)))
        go_meet
        case rel => exact ⟨_, (true), (by first | rfl | (simp; done) | (simp [*]; done)), H', ⟨by first | omega | exact Nat.le_refl _⟩, ⟨by (with_reducible repeat (first | refine blk_drewN ?_ _ | refine blk_drew ?_ | refine blk_alloc ?_ _)); exact BK101.out⟩, ⟨by repeat (first | (with_reducible first | exact HB.out | apply below_alloc | apply pw_below_drewN | apply below_drew1 | refine below_set ?_ GE101.out) | exact HB.out)⟩⟩
    case rest =>
      clear HC5
      try clear c1
      try clear p2
      try clear c4
      try clear c5
      try clear c9
      try clear c10
      try clear c11
      try clear c11b0
      try clear c11b1
      try clear c12
      try clear c12b0
      try clear c14
      try clear hcz13_0
      try clear hcz13_1
      try clear hcz13_2
      try clear hcz15_0
      try clear hcz15_1
      try clear hcz15_2
      try clear hcz17_0
      try clear hcz17_1
      try clear hcz17_2
      try clear hcz19_0
      try clear hcz19_1
      try clear hcz19_2
      try clear hcz21_0
      try clear hcz21_1
      try clear hcz21_2
      try clear hcz23_0
      try clear hcz23_1
      try clear hcz23_2
      try clear hcz25_0
      try clear hcz25_1
      try clear hcz25_2
      try clear hfz13_0
      try clear hfz13_1
      try clear hfz13_2
      try clear hfz15_0
      try clear hfz15_1
      try clear hfz15_2
      try clear hfz17_0
      try clear hfz17_1
      try clear hfz17_2
      try clear hfz19_0
      try clear hfz19_1
      try clear hfz19_2
      try clear hfz21_0
      try clear hfz21_1
      try clear hfz21_2
      try clear hfz23_0
      try clear hfz23_1
      try clear hfz23_2
      try clear hfz25_0
      try clear hfz25_1
      try clear hfz25_2
      obtain ⟨kq, x33_4, rfl, HA, HJ4, BK101, HB⟩ := hcut
      cases kq with
      | zero => exact absurd HA.out (by simp [halidelaw13_DitherKeeps.j0])
      | succ kj4 =>
        have H := HA.out
        clear HA
        simp only [halidelaw13_DitherKeeps.j0] at H
        by_cases c27 : x33_4 = true
        · subst c27
          have H1 : (some true) = some r := by rw [if_pos rfl] at H; exact H
          clear H
          have H := H1
          clear H1
          obtain rfl := Option.some.inj H
          go_wp2
          go_ret
          exact ⟨by first | rfl | (simp [errW_none, errW_some] <;> rfl) | (simp [*, errW_none, errW_some] <;> rfl), by repeat (first | (with_reducible first | exact HB.out | apply below_alloc | apply pw_below_drewN | apply below_drew1 | refine below_set ?_ GE101.out) | exact HB.out)⟩
        · replace c27 := Bool.eq_false_iff.mpr c27
          subst c27
          have H1 : ((halidehelp_Copy.f a0_0 a0_1 l0_2).bind fun bt105 => ((dither_Diffuse.f bt105.1 bt105.2.1 bt105.2.2 a1).bind fun bt110 => (if bt110.2.2.2.2 = 0 then (if bt110.1 = a0_0 then (if bt110.2.1 = a0_1 then (halidelaw13_DitherKeeps.j1 kj4 a1 bt110.2.2.2.1 ((bt110.2.2.1.length : Int) != (l0_2.length : Int)) a0_0 a0_1 l0_2 bt110.1 bt110.2.1 bt110.2.2.1) else (halidelaw13_DitherKeeps.j1 kj4 a1 bt110.2.2.2.1 true a0_0 a0_1 l0_2 bt110.1 bt110.2.1 bt110.2.2.1)) else (halidelaw13_DitherKeeps.j1 kj4 a1 bt110.2.2.2.1 true a0_0 a0_1 l0_2 bt110.1 bt110.2.1 bt110.2.2.1)) else (halidelaw13_DitherKeeps.j1 kj4 a1 bt110.2.2.2.1 true a0_0 a0_1 l0_2 bt110.1 bt110.2.1 bt110.2.2.1)))) = some r := by rw [if_neg (show ¬ (false = true) by decide)] at H; exact H
          clear H
          have H := H1
          clear H1
          replace H := Option.bind_eq_some_iff.mp H
          obtain ⟨⟨t105, t106, t107⟩, A280, H⟩ := H
          replace H : ((dither_Diffuse.f t105 t106 t107 a1).bind fun bt110 => (if bt110.2.2.2.2 = 0 then (if bt110.1 = a0_0 then (if bt110.2.1 = a0_1 then (halidelaw13_DitherKeeps.j1 kj4 a1 bt110.2.2.2.1 ((bt110.2.2.1.length : Int) != (l0_2.length : Int)) a0_0 a0_1 l0_2 bt110.1 bt110.2.1 bt110.2.2.1) else (halidelaw13_DitherKeeps.j1 kj4 a1 bt110.2.2.2.1 true a0_0 a0_1 l0_2 bt110.1 bt110.2.1 bt110.2.2.1)) else (halidelaw13_DitherKeeps.j1 kj4 a1 bt110.2.2.2.1 true a0_0 a0_1 l0_2 bt110.1 bt110.2.1 bt110.2.2.1)) else (halidelaw13_DitherKeeps.j1 kj4 a1 bt110.2.2.2.1 true a0_0 a0_1 l0_2 bt110.1 bt110.2.1 bt110.2.2.1))) = some r := H
          have A28 := Aside0.mk A280
          clear A280
          replace H := Option.bind_eq_some_iff.mp H
          obtain ⟨⟨t110, t111, t112, t115, t116⟩, A290, H⟩ := H
          replace H : (if t116 = 0 then (if t110 = a0_0 then (if t111 = a0_1 then (halidelaw13_DitherKeeps.j1 kj4 a1 t115 ((t112.length : Int) != (l0_2.length : Int)) a0_0 a0_1 l0_2 t110 t111 t112) else (halidelaw13_DitherKeeps.j1 kj4 a1 t115 true a0_0 a0_1 l0_2 t110 t111 t112)) else (halidelaw13_DitherKeeps.j1 kj4 a1 t115 true a0_0 a0_1 l0_2 t110 t111 t112)) else (halidelaw13_DitherKeeps.j1 kj4 a1 t115 true a0_0 a0_1 l0_2 t110 t111 t112)) = some r := H
          have A29 := Aside0.mk A290
          clear A290
          have HC30 := Aside0.mk H
          clear H
          have hcz31_0 : wc.cell? ⟨gb101, 0, none⟩ = some (.int .i64 a0_0) := (blk_cell BK101.out 0).trans rfl
          have hcz31_1 : wc.cell? ⟨gb101, 1, none⟩ = some (.int .i64 a0_1) := (blk_cell BK101.out 1).trans rfl
          have hcz31_2 : wc.cell? ⟨gb101, 2, none⟩ = some (.slice A0_2 l0_2.length c0_2) := (blk_cell BK101.out 2).trans rfl
          have hfz31_0 := blk_frozen BK101.out 0
          have hfz31_1 := blk_frozen BK101.out 1
          have hfz31_2 := blk_frozen BK101.out 2
          go_upto_region 6 with (first | ((with_reducible refine gate_callee (f := 15) rfl ?_); refine goesL_ (some 36) rfl rfl Try.func15 (by kernel_rfl) rfl #[.agg #[.int .i64 a0_0, .int .i64 a0_1, .slice A0_2 l0_2.length c0_2]] rfl (by (try simp only [List.map_toArray, List.map_cons, List.map_nil]); first | done | rfl | (simp only [List.length_drop, List.length_take]; rfl)) ?_; (with_reducible refine (halidehelp_Copy.calls a0_0 a0_1 _ _ l0_2 t105 t106 t107 _ ?side1 ?side2 A28.out).mono ?_); (case side1 => repeat (first | exact (Kd.C_below HR0_2.out HB.out) | (with_reducible refine Kd.C_alloc ?_ _) | (with_reducible refine Kd.C_drewN ?_ _) | (with_reducible refine Kd.C_drew ?_))); (case side2 => exact HC0_2.out); rintro e w32 ⟨v108, rfl, ho0, hb⟩; refine ⟨_, rfl, ?_⟩; have n0_ := Aside0.mk (Kd.R_lower ho0 (below_size (by repeat (first | (with_reducible first | exact HB.out | apply below_alloc | apply pw_below_drewN | apply below_drew1 | refine below_set ?_ GE101.out) | exact HB.out)))); have n1_ := Aside0.mk (blk_below (g := gb101) (o := .cells #[.int .i64 a0_0, .int .i64 a0_1, .slice A0_2 l0_2.length c0_2] 35 (0, 0)) (by (with_reducible repeat (first | refine blk_drewN ?_ _ | refine blk_drew ?_ | refine blk_alloc ?_ _)); exact BK101.out) hb); have n2_ := Aside0.mk (below_step (by repeat (first | (with_reducible first | exact HB.out | apply below_alloc | apply pw_below_drewN | apply below_drew1 | refine below_set ?_ GE101.out) | exact HB.out)) hb); clear BK101; clear HB; have HO109 := n0_; have BK101 := n1_; have HB := n2_; clear n0_ n1_ n2_; (try clear hb); (try clear hb2); (try clear hk); (try clear hi); (try clear ho0); obtain ⟨Ao33, co33, eo33⟩ := Kd.R_slice HO109.out; subst eo33) | ((with_reducible refine gate_callee (f := 23) rfl ?_); refine goesL_ (some 38) rfl rfl Try.func23 (by kernel_rfl) rfl #[.agg #[.int .i64 t105, .int .i64 t106, .slice Ao33 t107.length co33], .int .i64 a1] rfl (by (try simp only [List.map_toArray, List.map_cons, List.map_nil]); first | done | rfl | (simp only [List.length_drop, List.length_take]; rfl)) ?_; (with_reducible refine (dither_Diffuse.calls t105 t106 _ _ t107 a1 t110 t111 t112 t115 t116 _ ?side1 ?side2 A29.out).mono ?_); (case side1 => repeat (first | exact (Kd.R_reads' HO109.out).2.2 | (with_reducible refine Kd.C_alloc ?_ _) | (with_reducible refine Kd.C_drewN ?_ _) | (with_reducible refine Kd.C_drew ?_))); (case side2 => exact (Kd.R_reads' HO109.out).2.1); rintro e w34 ⟨v113, rfl, ho0, hb⟩; refine ⟨_, rfl, ?_⟩; have n0_ := Aside0.mk (Kd.R_elder' (by (with_reducible repeat (first | apply Kd.R_alloc | apply Kd.R_drewN | apply Kd.R_drew)); exact HO109.out) (Kd.R_base ho0) hb); have n1_ := Aside0.mk (Kd.R_lower (Kd.R_new' ho0 (Kd.R_lt (by (with_reducible repeat (first | apply Kd.R_alloc | apply Kd.R_drewN | apply Kd.R_drew)); exact HO109.out))) (below_size (by repeat (first | (with_reducible first | exact HB.out | apply below_alloc | apply pw_below_drewN | apply below_drew1 | refine below_set ?_ GE101.out) | exact HB.out)))); have n2_ := Aside0.mk (blk_below (g := gb101) (o := .cells #[.int .i64 a0_0, .int .i64 a0_1, .slice A0_2 l0_2.length c0_2] 35 (0, 0)) (by (with_reducible repeat (first | refine blk_drewN ?_ _ | refine blk_drew ?_ | refine blk_alloc ?_ _)); exact BK101.out) hb); have n3_ := Aside0.mk (below_step (by repeat (first | (with_reducible first | exact HB.out | apply below_alloc | apply pw_below_drewN | apply below_drew1 | refine below_set ?_ GE101.out) | exact HB.out)) hb); clear HO109; clear BK101; clear HB; have HO109 := n0_; have HO114 := n1_; have BK101 := n2_; have HB := n3_; clear n0_ n1_ n2_ n3_; (try clear hb); (try clear hb2); (try clear hk); (try clear hi); (try clear ho0)) | ((with_reducible refine gate_dst (N := 5) rfl ?_); (try (refine gate_guard (by rfl) ?_; dsimp only)); refine box_event ?hg (N := 5) ?hd (cs := #[.int .i64 0, .int .i64 0, .slice none 0 0]) (t := 35) ?hr ?_; (case hd => rfl); (case hg => rfl); (case hr => first | (go_simp; done) | (go_simp; rfl)); intro gb117 hg w35 hbox hb; have n0_ := Aside0.mk (Kd.R_below (by (with_reducible repeat (first | apply Kd.R_alloc | apply Kd.R_drewN | apply Kd.R_drew)); exact HO109.out) hb); have n1_ := Aside0.mk (Kd.R_below (by (with_reducible repeat (first | apply Kd.R_alloc | apply Kd.R_drewN | apply Kd.R_drew)); exact HO114.out) hb); have n2_ := Aside0.mk (blk_below (g := gb101) (o := .cells #[.int .i64 a0_0, .int .i64 a0_1, .slice A0_2 l0_2.length c0_2] 35 (0, 0)) (by (with_reducible repeat (first | refine blk_drewN ?_ _ | refine blk_drew ?_ | refine blk_alloc ?_ _)); exact BK101.out) hb); have n3_ := Aside0.mk (below_step (by repeat (first | (with_reducible first | exact HB.out | apply below_alloc | apply pw_below_drewN | apply below_drew1 | refine below_set ?_ GE101.out) | exact HB.out)) hb); have n4_ := Aside0.mk (hbox); have n5_ := Aside0.mk ((by rw [hg]; exact (below_size (by repeat (first | (with_reducible first | exact HB.out | apply below_alloc | apply pw_below_drewN | apply below_drew1 | refine below_set ?_ GE101.out) | exact HB.out))) : w.heap.size ≤ gb117)); have n6_ := Aside0.mk ((by rw [hg]; exact (below_size (by repeat (first | (with_reducible first | exact HB.out | apply below_alloc | apply pw_below_drewN | apply below_drew1 | refine below_set ?_ GE101.out) | exact HB.out))) : w.heap.size ≤ gb117)); have n7_ := Aside0.mk ((by rw [hg]; exact Nat.ne_of_lt (blk_lt (g := gb101) (o := .cells #[.int .i64 a0_0, .int .i64 a0_1, .slice A0_2 l0_2.length c0_2] 35 (0, 0)) (by (with_reducible repeat (first | refine blk_drewN ?_ _ | refine blk_drew ?_ | refine blk_alloc ?_ _)); exact BK101.out)) : gb101 ≠ gb117)); have n8_ := Aside0.mk ((by rw [hg]; exact Nat.ne_of_gt (blk_lt (g := gb101) (o := .cells #[.int .i64 a0_0, .int .i64 a0_1, .slice A0_2 l0_2.length c0_2] 35 (0, 0)) (by (with_reducible repeat (first | refine blk_drewN ?_ _ | refine blk_drew ?_ | refine blk_alloc ?_ _)); exact BK101.out)) : gb117 ≠ gb101)); clear HO109; clear HO114; clear BK101; clear HB; have HO109 := n0_; have HO114 := n1_; have BK101 := n2_; have HB := n3_; have BK117 := n4_; have GW117 := n5_; have GE117 := n6_; have NB101_117 := n7_; have NB117_101 := n8_; clear n0_ n1_ n2_ n3_ n4_ n5_ n6_ n7_ n8_; clear hb hbox hg; have hnb36 := NB117_101.out; have hnc36 := NB101_117.out; have hcz37_0 : w35.cell? ⟨gb117, 0, none⟩ = some (.int .i64 0) := (blk_cell BK117.out 0).trans rfl; have hcz37_1 : w35.cell? ⟨gb117, 1, none⟩ = some (.int .i64 0) := (blk_cell BK117.out 1).trans rfl; have hcz37_2 : w35.cell? ⟨gb117, 2, none⟩ = some (.slice none 0 0) := (blk_cell BK117.out 2).trans rfl; have hfz37_0 := blk_frozen BK117.out 0; have hfz37_1 := blk_frozen BK117.out 1; have hfz37_2 := blk_frozen BK117.out 2; obtain ⟨Ao38, co38, eo38⟩ := Kd.R_slice HO114.out; subst eo38))
          (try simp only [Act.put, List.setIfInBounds_toArray, List.set_cons_zero, List.set_cons_succ])
          go_cut [66] (fun v66 wc => ∃ (kq : Nat) (x66_29 : Bool), v66 = .bool x66_29 ∧ Aside0 (halidelaw13_DitherKeeps.j1 kq a1 t115 x66_29 a0_0 a0_1 l0_2 t110 t111 t112 = some r) ∧ Aside0 (kq ≤ kj4) ∧ Aside0 (Kd.R (Kd.int .u32) 48 wc w.heap.size (fun _ => True) (.slice Ao38 t112.length co38) t112) ∧ Aside0 (wc.heap[gb101]? = some (.cells #[.int .i64 a0_0, .int .i64 a0_1, (.slice A0_2 l0_2.length c0_2)] 35 (0, 0))) ∧ Aside0 (wc.heap[gb117]? = some (.cells #[.int .i64 t110, .int .i64 t111, (.slice Ao38 t112.length co38)] 35 (0, 0))) ∧ Aside0 (Below w.heap.size w wc))
          case first =>
            have H := HC30.out
            clear HC30
            by_cases c39 : t116 = 0
            · rw [if_pos c39] at H
              have c39b0 : (t116 == 0) = true := beq_iff_eq.mpr c39
              have c39b1 : (t116 != 0) = false := bne_eq_false_iff_eq.mpr c39
              clear c39
              (first | rw [c39b0] | (simp only [i64_w, i32_w]; rw [c39b0]) | skip)
              by_cases c40 : t110 = a0_0
              · rw [if_pos c40] at H
                have c40b0 : (t110 == a0_0) = true := beq_iff_eq.mpr c40
                have c40b1 : (t110 != a0_0) = false := bne_eq_false_iff_eq.mpr c40
                clear c40
                by_cases c41 : t111 = a0_1
                · rw [if_pos c41] at H
                  have c41b0 : (t111 == a0_1) = true := beq_iff_eq.mpr c41
                  have c41b1 : (t111 != a0_1) = false := bne_eq_false_iff_eq.mpr c41
                  clear c41
                  have H' := Aside0.mk H
                  clear H
                  have hnb42 := NB117_101.out
                  have hnc42 := NB101_117.out
                  have hcz43_0 : w35.cell? ⟨gb117, 0, none⟩ = some (.int .i64 0) := (blk_cell BK117.out 0).trans rfl
                  have hcz43_1 : w35.cell? ⟨gb117, 1, none⟩ = some (.int .i64 0) := (blk_cell BK117.out 1).trans rfl
                  have hcz43_2 : w35.cell? ⟨gb117, 2, none⟩ = some (.slice none 0 0) := (blk_cell BK117.out 2).trans rfl
                  have hfz43_0 := blk_frozen BK117.out 0
                  have hfz43_1 := blk_frozen BK117.out 1
                  have hfz43_2 := blk_frozen BK117.out 2
                  have hcz44_0 : w35.cell? ⟨gb101, 0, none⟩ = some (.int .i64 a0_0) := (blk_cell BK101.out 0).trans rfl
                  have hcz44_1 : w35.cell? ⟨gb101, 1, none⟩ = some (.int .i64 a0_1) := (blk_cell BK101.out 1).trans rfl
                  have hcz44_2 : w35.cell? ⟨gb101, 2, none⟩ = some (.slice A0_2 l0_2.length c0_2) := (blk_cell BK101.out 2).trans rfl
                  have hfz44_0 := blk_frozen BK101.out 0
                  have hfz44_1 := blk_frozen BK101.out 1
                  have hfz44_2 := blk_frozen BK101.out 2
                  go_wp2
                  go_meet
                  case rel => exact ⟨_, (((t112.length : Int) != (l0_2.length : Int))), (by first | rfl | (simp; done) | (simp [*]; done)), H', ⟨by have := HJ4.out; first | omega | exact Nat.le_refl _⟩, ⟨by (with_reducible repeat (first | apply Kd.R_alloc | apply Kd.R_drewN | apply Kd.R_drew)); exact Kd.R_mono (Kd.R_far (p := ⟨gb117, 2, none⟩) (Kd.R_far (p := ⟨gb117, 1, none⟩) (Kd.R_far (p := ⟨gb117, 0, none⟩) (Kd.R_types HO114.out BK117.out (by decide)) (fun _ hk => hk.2) (.int .i64 t110)) (fun _ hk => hk.2) (.int .i64 t111)) (fun _ hk => hk.2) (.slice Ao38 t112.length co38)) (fun _ hk => trivial)⟩, ⟨by (with_reducible repeat (first | refine blk_drewN ?_ _ | refine blk_drew ?_ | refine blk_alloc ?_ _)); refine blk_far ?_ NB101_117.out _; (with_reducible repeat (first | refine blk_drewN ?_ _ | refine blk_drew ?_ | refine blk_alloc ?_ _)); refine blk_far ?_ NB101_117.out _; (with_reducible repeat (first | refine blk_drewN ?_ _ | refine blk_drew ?_ | refine blk_alloc ?_ _)); refine blk_far ?_ NB101_117.out _; (with_reducible repeat (first | refine blk_drewN ?_ _ | refine blk_drew ?_ | refine blk_alloc ?_ _)); exact BK101.out⟩, ⟨by (with_reducible repeat (first | refine blk_drewN ?_ _ | refine blk_drew ?_ | refine blk_alloc ?_ _)); refine blk_put (cs := #[.int .i64 t110, .int .i64 t111, .slice none 0 0]) ?_ 2 _ rfl; (with_reducible repeat (first | refine blk_drewN ?_ _ | refine blk_drew ?_ | refine blk_alloc ?_ _)); refine blk_put (cs := #[.int .i64 t110, .int .i64 0, .slice none 0 0]) ?_ 1 _ rfl; (with_reducible repeat (first | refine blk_drewN ?_ _ | refine blk_drew ?_ | refine blk_alloc ?_ _)); refine blk_put (cs := #[.int .i64 0, .int .i64 0, .slice none 0 0]) ?_ 0 _ rfl; (with_reducible repeat (first | refine blk_drewN ?_ _ | refine blk_drew ?_ | refine blk_alloc ?_ _)); exact BK117.out⟩, ⟨by repeat (first | (with_reducible first | exact HB.out | apply below_alloc | apply pw_below_drewN | apply below_drew1 | refine below_set ?_ GE101.out | refine below_set ?_ GE117.out) | exact HB.out)⟩⟩
                · rw [if_neg c41] at H
                  have c41b0 : (t111 == a0_1) = false := beq_eq_false_iff_ne.mpr c41
                  have c41b1 : (t111 != a0_1) = true := bne_iff_ne.mpr c41
                  have H' := Aside0.mk H
                  clear H
                  have hnb45 := NB117_101.out
                  have hnc45 := NB101_117.out
                  have hcz46_0 : w35.cell? ⟨gb117, 0, none⟩ = some (.int .i64 0) := (blk_cell BK117.out 0).trans rfl
                  have hcz46_1 : w35.cell? ⟨gb117, 1, none⟩ = some (.int .i64 0) := (blk_cell BK117.out 1).trans rfl
                  have hcz46_2 : w35.cell? ⟨gb117, 2, none⟩ = some (.slice none 0 0) := (blk_cell BK117.out 2).trans rfl
                  have hfz46_0 := blk_frozen BK117.out 0
                  have hfz46_1 := blk_frozen BK117.out 1
                  have hfz46_2 := blk_frozen BK117.out 2
                  have hcz47_0 : w35.cell? ⟨gb101, 0, none⟩ = some (.int .i64 a0_0) := (blk_cell BK101.out 0).trans rfl
                  have hcz47_1 : w35.cell? ⟨gb101, 1, none⟩ = some (.int .i64 a0_1) := (blk_cell BK101.out 1).trans rfl
                  have hcz47_2 : w35.cell? ⟨gb101, 2, none⟩ = some (.slice A0_2 l0_2.length c0_2) := (blk_cell BK101.out 2).trans rfl
                  have hfz47_0 := blk_frozen BK101.out 0
                  have hfz47_1 := blk_frozen BK101.out 1
                  have hfz47_2 := blk_frozen BK101.out 2
                  go_wp2
                  go_meet
                  case rel => exact ⟨_, (true), (by first | rfl | (simp; done) | (simp [*]; done)), H', ⟨by have := HJ4.out; first | omega | exact Nat.le_refl _⟩, ⟨by (with_reducible repeat (first | apply Kd.R_alloc | apply Kd.R_drewN | apply Kd.R_drew)); exact Kd.R_mono (Kd.R_far (p := ⟨gb117, 2, none⟩) (Kd.R_far (p := ⟨gb117, 1, none⟩) (Kd.R_far (p := ⟨gb117, 0, none⟩) (Kd.R_types HO114.out BK117.out (by decide)) (fun _ hk => hk.2) (.int .i64 t110)) (fun _ hk => hk.2) (.int .i64 t111)) (fun _ hk => hk.2) (.slice Ao38 t112.length co38)) (fun _ hk => trivial)⟩, ⟨by (with_reducible repeat (first | refine blk_drewN ?_ _ | refine blk_drew ?_ | refine blk_alloc ?_ _)); refine blk_far ?_ NB101_117.out _; (with_reducible repeat (first | refine blk_drewN ?_ _ | refine blk_drew ?_ | refine blk_alloc ?_ _)); refine blk_far ?_ NB101_117.out _; (with_reducible repeat (first | refine blk_drewN ?_ _ | refine blk_drew ?_ | refine blk_alloc ?_ _)); refine blk_far ?_ NB101_117.out _; (with_reducible repeat (first | refine blk_drewN ?_ _ | refine blk_drew ?_ | refine blk_alloc ?_ _)); exact BK101.out⟩, ⟨by (with_reducible repeat (first | refine blk_drewN ?_ _ | refine blk_drew ?_ | refine blk_alloc ?_ _)); refine blk_put (cs := #[.int .i64 t110, .int .i64 t111, .slice none 0 0]) ?_ 2 _ rfl; (with_reducible repeat (first | refine blk_drewN ?_ _ | refine blk_drew ?_ | refine blk_alloc ?_ _)); refine blk_put (cs := #[.int .i64 t110, .int .i64 0, .slice none 0 0]) ?_ 1 _ rfl; (with_reducible repeat (first | refine blk_drewN ?_ _ | refine blk_drew ?_ | refine blk_alloc ?_ _)); refine blk_put (cs := #[.int .i64 0, .int .i64 0, .slice none 0 0]) ?_ 0 _ rfl; (with_reducible repeat (first | refine blk_drewN ?_ _ | refine blk_drew ?_ | refine blk_alloc ?_ _)); exact BK117.out⟩, ⟨by repeat (first | (with_reducible first | exact HB.out | apply below_alloc | apply pw_below_drewN | apply below_drew1 | refine below_set ?_ GE101.out | refine below_set ?_ GE117.out) | exact HB.out)⟩⟩
              · rw [if_neg c40] at H
                have c40b0 : (t110 == a0_0) = false := beq_eq_false_iff_ne.mpr c40
                have c40b1 : (t110 != a0_0) = true := bne_iff_ne.mpr c40
                have H' := Aside0.mk H
                clear H
                have hnb48 := NB117_101.out
                have hnc48 := NB101_117.out
                have hcz49_0 : w35.cell? ⟨gb117, 0, none⟩ = some (.int .i64 0) := (blk_cell BK117.out 0).trans rfl
                have hcz49_1 : w35.cell? ⟨gb117, 1, none⟩ = some (.int .i64 0) := (blk_cell BK117.out 1).trans rfl
                have hcz49_2 : w35.cell? ⟨gb117, 2, none⟩ = some (.slice none 0 0) := (blk_cell BK117.out 2).trans rfl
                have hfz49_0 := blk_frozen BK117.out 0
                have hfz49_1 := blk_frozen BK117.out 1
                have hfz49_2 := blk_frozen BK117.out 2
                have hcz50_0 : w35.cell? ⟨gb101, 0, none⟩ = some (.int .i64 a0_0) := (blk_cell BK101.out 0).trans rfl
                have hcz50_1 : w35.cell? ⟨gb101, 1, none⟩ = some (.int .i64 a0_1) := (blk_cell BK101.out 1).trans rfl
                have hcz50_2 : w35.cell? ⟨gb101, 2, none⟩ = some (.slice A0_2 l0_2.length c0_2) := (blk_cell BK101.out 2).trans rfl
                have hfz50_0 := blk_frozen BK101.out 0
                have hfz50_1 := blk_frozen BK101.out 1
                have hfz50_2 := blk_frozen BK101.out 2
                go_wp2
                go_meet
                case rel => exact ⟨_, (true), (by first | rfl | (simp; done) | (simp [*]; done)), H', ⟨by have := HJ4.out; first | omega | exact Nat.le_refl _⟩, ⟨by (with_reducible repeat (first | apply Kd.R_alloc | apply Kd.R_drewN | apply Kd.R_drew)); exact Kd.R_mono (Kd.R_far (p := ⟨gb117, 2, none⟩) (Kd.R_far (p := ⟨gb117, 1, none⟩) (Kd.R_far (p := ⟨gb117, 0, none⟩) (Kd.R_types HO114.out BK117.out (by decide)) (fun _ hk => hk.2) (.int .i64 t110)) (fun _ hk => hk.2) (.int .i64 t111)) (fun _ hk => hk.2) (.slice Ao38 t112.length co38)) (fun _ hk => trivial)⟩, ⟨by (with_reducible repeat (first | refine blk_drewN ?_ _ | refine blk_drew ?_ | refine blk_alloc ?_ _)); refine blk_far ?_ NB101_117.out _; (with_reducible repeat (first | refine blk_drewN ?_ _ | refine blk_drew ?_ | refine blk_alloc ?_ _)); refine blk_far ?_ NB101_117.out _; (with_reducible repeat (first | refine blk_drewN ?_ _ | refine blk_drew ?_ | refine blk_alloc ?_ _)); refine blk_far ?_ NB101_117.out _; (with_reducible repeat (first | refine blk_drewN ?_ _ | refine blk_drew ?_ | refine blk_alloc ?_ _)); exact BK101.out⟩, ⟨by (with_reducible repeat (first | refine blk_drewN ?_ _ | refine blk_drew ?_ | refine blk_alloc ?_ _)); refine blk_put (cs := #[.int .i64 t110, .int .i64 t111, .slice none 0 0]) ?_ 2 _ rfl; (with_reducible repeat (first | refine blk_drewN ?_ _ | refine blk_drew ?_ | refine blk_alloc ?_ _)); refine blk_put (cs := #[.int .i64 t110, .int .i64 0, .slice none 0 0]) ?_ 1 _ rfl; (with_reducible repeat (first | refine blk_drewN ?_ _ | refine blk_drew ?_ | refine blk_alloc ?_ _)); refine blk_put (cs := #[.int .i64 0, .int .i64 0, .slice none 0 0]) ?_ 0 _ rfl; (with_reducible repeat (first | refine blk_drewN ?_ _ | refine blk_drew ?_ | refine blk_alloc ?_ _)); exact BK117.out⟩, ⟨by repeat (first | (with_reducible first | exact HB.out | apply below_alloc | apply pw_below_drewN | apply below_drew1 | refine below_set ?_ GE101.out | refine below_set ?_ GE117.out) | exact HB.out)⟩⟩
            · rw [if_neg c39] at H
              have c39b0 : (t116 == 0) = false := beq_eq_false_iff_ne.mpr c39
              have c39b1 : (t116 != 0) = true := bne_iff_ne.mpr c39
              (first | rw [c39b0] | (simp only [i64_w, i32_w]; rw [c39b0]) | skip)
              have H' := Aside0.mk H
              clear H
              go_wp2
              go_meet
              case rel => exact ⟨_, (true), (by first | rfl | (simp; done) | (simp [*]; done)), H', ⟨by have := HJ4.out; first | omega | exact Nat.le_refl _⟩, ⟨by (with_reducible repeat (first | apply Kd.R_alloc | apply Kd.R_drewN | apply Kd.R_drew)); exact Kd.R_mono (Kd.R_far (p := ⟨gb117, 2, none⟩) (Kd.R_far (p := ⟨gb117, 1, none⟩) (Kd.R_far (p := ⟨gb117, 0, none⟩) (Kd.R_types HO114.out BK117.out (by decide)) (fun _ hk => hk.2) (.int .i64 t110)) (fun _ hk => hk.2) (.int .i64 t111)) (fun _ hk => hk.2) (.slice Ao38 t112.length co38)) (fun _ hk => trivial)⟩, ⟨by (with_reducible repeat (first | refine blk_drewN ?_ _ | refine blk_drew ?_ | refine blk_alloc ?_ _)); refine blk_far ?_ NB101_117.out _; (with_reducible repeat (first | refine blk_drewN ?_ _ | refine blk_drew ?_ | refine blk_alloc ?_ _)); refine blk_far ?_ NB101_117.out _; (with_reducible repeat (first | refine blk_drewN ?_ _ | refine blk_drew ?_ | refine blk_alloc ?_ _)); refine blk_far ?_ NB101_117.out _; (with_reducible repeat (first | refine blk_drewN ?_ _ | refine blk_drew ?_ | refine blk_alloc ?_ _)); exact BK101.out⟩, ⟨by (with_reducible repeat (first | refine blk_drewN ?_ _ | refine blk_drew ?_ | refine blk_alloc ?_ _)); refine blk_put (cs := #[.int .i64 t110, .int .i64 t111, .slice none 0 0]) ?_ 2 _ rfl; (with_reducible repeat (first | refine blk_drewN ?_ _ | refine blk_drew ?_ | refine blk_alloc ?_ _)); refine blk_put (cs := #[.int .i64 t110, .int .i64 0, .slice none 0 0]) ?_ 1 _ rfl; (with_reducible repeat (first | refine blk_drewN ?_ _ | refine blk_drew ?_ | refine blk_alloc ?_ _)); refine blk_put (cs := #[.int .i64 0, .int .i64 0, .slice none 0 0]) ?_ 0 _ rfl; (with_reducible repeat (first | refine blk_drewN ?_ _ | refine blk_drew ?_ | refine blk_alloc ?_ _)); exact BK117.out⟩, ⟨by repeat (first | (with_reducible first | exact HB.out | apply below_alloc | apply pw_below_drewN | apply below_drew1 | refine below_set ?_ GE101.out | refine below_set ?_ GE117.out) | exact HB.out)⟩⟩
          case rest =>
            clear HC30
            try clear c1
            try clear c2
            try clear p2
            try clear c3
            try clear c4
            try clear c5
            try clear c9
            try clear c10
            try clear c11
            try clear c11b0
            try clear c11b1
            try clear c12
            try clear c12b0
            try clear c14
            try clear c15
            try clear c23
            try clear c27
            try clear c36
            try clear c39
            try clear c39b0
            try clear c39b1
            try clear c40
            try clear c40b0
            try clear c40b1
            try clear c41
            try clear c41b0
            try clear c41b1
            try clear c42
            try clear c45
            try clear c48
            try clear hcz13_0
            try clear hcz13_1
            try clear hcz13_2
            try clear hcz15_0
            try clear hcz15_1
            try clear hcz15_2
            try clear hcz17_0
            try clear hcz17_1
            try clear hcz17_2
            try clear hcz19_0
            try clear hcz19_1
            try clear hcz19_2
            try clear hcz21_0
            try clear hcz21_1
            try clear hcz21_2
            try clear hcz23_0
            try clear hcz23_1
            try clear hcz23_2
            try clear hcz25_0
            try clear hcz25_1
            try clear hcz25_2
            try clear hcz31_0
            try clear hcz31_1
            try clear hcz31_2
            try clear hcz37_0
            try clear hcz37_1
            try clear hcz37_2
            try clear hcz43_0
            try clear hcz43_1
            try clear hcz43_2
            try clear hcz44_0
            try clear hcz44_1
            try clear hcz44_2
            try clear hcz46_0
            try clear hcz46_1
            try clear hcz46_2
            try clear hcz47_0
            try clear hcz47_1
            try clear hcz47_2
            try clear hcz49_0
            try clear hcz49_1
            try clear hcz49_2
            try clear hcz50_0
            try clear hcz50_1
            try clear hcz50_2
            try clear hfz13_0
            try clear hfz13_1
            try clear hfz13_2
            try clear hfz15_0
            try clear hfz15_1
            try clear hfz15_2
            try clear hfz17_0
            try clear hfz17_1
            try clear hfz17_2
            try clear hfz19_0
            try clear hfz19_1
            try clear hfz19_2
            try clear hfz21_0
            try clear hfz21_1
            try clear hfz21_2
            try clear hfz23_0
            try clear hfz23_1
            try clear hfz23_2
            try clear hfz25_0
            try clear hfz25_1
            try clear hfz25_2
            try clear hfz31_0
            try clear hfz31_1
            try clear hfz31_2
            try clear hfz37_0
            try clear hfz37_1
            try clear hfz37_2
            try clear hfz43_0
            try clear hfz43_1
            try clear hfz43_2
            try clear hfz44_0
            try clear hfz44_1
            try clear hfz44_2
            try clear hfz46_0
            try clear hfz46_1
            try clear hfz46_2
            try clear hfz47_0
            try clear hfz47_1
            try clear hfz47_2
            try clear hfz49_0
            try clear hfz49_1
            try clear hfz49_2
            try clear hfz50_0
            try clear hfz50_1
            try clear hfz50_2
            try clear p2
            obtain ⟨kq, x66_29, rfl, HA, HJ29, HO_118002, BK101, BK117, HB⟩ := hcut
            cases kq with
            | zero => exact absurd HA.out (by simp [halidelaw13_DitherKeeps.j1])
            | succ kj29 =>
              have H := HA.out
              clear HA
              simp only [halidelaw13_DitherKeeps.j1] at H
              by_cases c51 : x66_29 = true
              · subst c51
                have H1 : (some false) = some r := by rw [if_pos rfl] at H; exact H
                clear H
                have H := H1
                clear H1
                exact absurd (H.trans (congrArg some HT.out)) (by decide)
              · replace c51 := Bool.eq_false_iff.mpr c51
                subst c51
                have H1 : (halidelaw13_DitherKeeps.l0 kj29 a1 (wrap64 (-t115)) 0 a0_0 a0_1 l0_2 t110 t111 t112) = some r := by rw [if_neg (show ¬ (false = true) by decide)] at H; exact H
                clear H
                have H := H1
                clear H1
                have H' := Aside0.mk H
                clear H
                go_wp2
                go_loopg [8, 9] kj29 (fun kq v8 v9 w' => ∃ (x8_3 : Int) (x9_3 : Int), v8 = .int .i64 x8_3 ∧ v9 = .int .i64 x9_3 ∧ Aside0 (halidelaw13_DitherKeeps.l0 kq a1 x8_3 x9_3 a0_0 a0_1 l0_2 t110 t111 t112 = some r) ∧ Aside0 (kq ≤ kj29) ∧ Aside0 (Kd.R (Kd.int .u32) 48 w' w.heap.size (fun _ => True) (.slice Ao38 t112.length co38) t112) ∧ Aside0 (w'.heap[gb101]? = some (.cells #[.int .i64 a0_0, .int .i64 a0_1, (.slice A0_2 l0_2.length c0_2)] 35 (0, 0))) ∧ Aside0 (w'.heap[gb117]? = some (.cells #[.int .i64 t110, .int .i64 t111, (.slice Ao38 t112.length co38)] 35 (0, 0))) ∧ Aside0 (Below w.heap.size w w'))
                case atStart => exact ⟨(wrap64 (-t115)), (0), (by first | rfl | (simp; done) | (simp [*]; done)), (by first | rfl | (simp; done) | (simp [*]; done)), H', ⟨Nat.le_refl _⟩, ⟨by (with_reducible repeat (first | apply Kd.R_alloc | apply Kd.R_drewN | apply Kd.R_drew)); exact HO_118002.out⟩, ⟨by (with_reducible repeat (first | refine blk_drewN ?_ _ | refine blk_drew ?_ | refine blk_alloc ?_ _)); exact BK101.out⟩, ⟨by (with_reducible repeat (first | refine blk_drewN ?_ _ | refine blk_drew ?_ | refine blk_alloc ?_ _)); exact BK117.out⟩, ⟨by repeat (first | (with_reducible first | exact HB.out | apply below_alloc | apply pw_below_drewN | apply below_drew1 | refine below_set ?_ GE101.out | refine below_set ?_ GE117.out) | exact HB.out)⟩⟩
                case round =>
                  clear H'
                  try clear c1
                  try clear c2
                  try clear p2
                  try clear c3
                  try clear c4
                  try clear c5
                  try clear p6
                  try clear c9
                  try clear c10
                  try clear c11
                  try clear c11b0
                  try clear c11b1
                  try clear c12
                  try clear c12b0
                  try clear c14
                  try clear c15
                  try clear c23
                  try clear c27
                  try clear c36
                  try clear c39
                  try clear c39b0
                  try clear c39b1
                  try clear c40
                  try clear c40b0
                  try clear c40b1
                  try clear c41
                  try clear c41b0
                  try clear c41b1
                  try clear c42
                  try clear c45
                  try clear c48
                  try clear c51
                  try clear hcz13_0
                  try clear hcz13_1
                  try clear hcz13_2
                  try clear hcz15_0
                  try clear hcz15_1
                  try clear hcz15_2
                  try clear hcz17_0
                  try clear hcz17_1
                  try clear hcz17_2
                  try clear hcz19_0
                  try clear hcz19_1
                  try clear hcz19_2
                  try clear hcz21_0
                  try clear hcz21_1
                  try clear hcz21_2
                  try clear hcz23_0
                  try clear hcz23_1
                  try clear hcz23_2
                  try clear hcz25_0
                  try clear hcz25_1
                  try clear hcz25_2
                  try clear hcz31_0
                  try clear hcz31_1
                  try clear hcz31_2
                  try clear hcz37_0
                  try clear hcz37_1
                  try clear hcz37_2
                  try clear hcz43_0
                  try clear hcz43_1
                  try clear hcz43_2
                  try clear hcz44_0
                  try clear hcz44_1
                  try clear hcz44_2
                  try clear hcz46_0
                  try clear hcz46_1
                  try clear hcz46_2
                  try clear hcz47_0
                  try clear hcz47_1
                  try clear hcz47_2
                  try clear hcz49_0
                  try clear hcz49_1
                  try clear hcz49_2
                  try clear hcz50_0
                  try clear hcz50_1
                  try clear hcz50_2
                  try clear hfz13_0
                  try clear hfz13_1
                  try clear hfz13_2
                  try clear hfz15_0
                  try clear hfz15_1
                  try clear hfz15_2
                  try clear hfz17_0
                  try clear hfz17_1
                  try clear hfz17_2
                  try clear hfz19_0
                  try clear hfz19_1
                  try clear hfz19_2
                  try clear hfz21_0
                  try clear hfz21_1
                  try clear hfz21_2
                  try clear hfz23_0
                  try clear hfz23_1
                  try clear hfz23_2
                  try clear hfz25_0
                  try clear hfz25_1
                  try clear hfz25_2
                  try clear hfz31_0
                  try clear hfz31_1
                  try clear hfz31_2
                  try clear hfz37_0
                  try clear hfz37_1
                  try clear hfz37_2
                  try clear hfz43_0
                  try clear hfz43_1
                  try clear hfz43_2
                  try clear hfz44_0
                  try clear hfz44_1
                  try clear hfz44_2
                  try clear hfz46_0
                  try clear hfz46_1
                  try clear hfz46_2
                  try clear hfz47_0
                  try clear hfz47_1
                  try clear hfz47_2
                  try clear hfz49_0
                  try clear hfz49_1
                  try clear hfz49_2
                  try clear hfz50_0
                  try clear hfz50_1
                  try clear hfz50_2
                  try clear p2
                  obtain ⟨x8_3, x9_3, rfl, rfl, HA, HK3, HO_118002, BK101, BK117, HB⟩ := hrel
                  cases gk with
                  | zero => exact absurd HA.out (by simp [halidelaw13_DitherKeeps.l0])
                  | succ k3 =>
                    have H := HA.out
                    clear HA
                    simp only [halidelaw13_DitherKeeps.l0] at H
                    by_cases c52 : x9_3 < (l0_2.length : Int)
                    · rw [if_pos c52] at H
                      have c52b0 : decide (x9_3 < (l0_2.length : Int)) = true := decide_eq_true c52
                      clear c52
                      have H' := Aside0.mk H
                      clear H
                      have hnb53 := NB101_117.out
                      have hnc53 := NB117_101.out
                      have hcz54_0 : wr.cell? ⟨gb101, 0, none⟩ = some (.int .i64 a0_0) := (blk_cell BK101.out 0).trans rfl
                      have hcz54_1 : wr.cell? ⟨gb101, 1, none⟩ = some (.int .i64 a0_1) := (blk_cell BK101.out 1).trans rfl
                      have hcz54_2 : wr.cell? ⟨gb101, 2, none⟩ = some (.slice A0_2 l0_2.length c0_2) := (blk_cell BK101.out 2).trans rfl
                      have hfz54_0 := blk_frozen BK101.out 0
                      have hfz54_1 := blk_frozen BK101.out 1
                      have hfz54_2 := blk_frozen BK101.out 2
                      go_wp2
                      go_loopg [8, 10, 11] k3 (fun kq v8 v10 v11 w' => ∃ (x8_4 : Int) (x10_4 : Bool) (x11_4 : Int), v8 = .int .i64 x8_4 ∧ v10 = .bool x10_4 ∧ v11 = .int .i64 x11_4 ∧ Aside0 (halidelaw13_DitherKeeps.l1 kq a1 x8_4 x9_3 x10_4 x11_4 a0_0 a0_1 l0_2 t110 t111 t112 = some r) ∧ Aside0 (kq ≤ k3) ∧ Aside0 (Kd.R (Kd.int .u32) 48 w' w.heap.size (fun _ => True) (.slice Ao38 t112.length co38) t112) ∧ Aside0 (w'.heap[gb101]? = some (.cells #[.int .i64 a0_0, .int .i64 a0_1, (.slice A0_2 l0_2.length c0_2)] 35 (0, 0))) ∧ Aside0 (w'.heap[gb117]? = some (.cells #[.int .i64 t110, .int .i64 t111, (.slice Ao38 t112.length co38)] 35 (0, 0))) ∧ Aside0 (Below w.heap.size w w'))
                      case atStart => exact ⟨(x8_3), (false), (0), (by first | rfl | (simp; done) | (simp [*]; done)), (by first | rfl | (simp; done) | (simp [*]; done)), (by first | rfl | (simp; done) | (simp [*]; done)), H', ⟨Nat.le_refl _⟩, ⟨by (with_reducible repeat (first | apply Kd.R_alloc | apply Kd.R_drewN | apply Kd.R_drew)); exact HO_118002.out⟩, ⟨by (with_reducible repeat (first | refine blk_drewN ?_ _ | refine blk_drew ?_ | refine blk_alloc ?_ _)); exact BK101.out⟩, ⟨by (with_reducible repeat (first | refine blk_drewN ?_ _ | refine blk_drew ?_ | refine blk_alloc ?_ _)); exact BK117.out⟩, ⟨by repeat (first | (with_reducible first | exact HB.out | apply below_alloc | apply pw_below_drewN | apply below_drew1 | refine below_set ?_ GE101.out | refine below_set ?_ GE117.out) | exact HB.out)⟩⟩
                      case round =>
                        clear H'
                        try clear c1
                        try clear c2
                        try clear p2
                        try clear c3
                        try clear c4
                        try clear c5
                        try clear p6
                        try clear c9
                        try clear c10
                        try clear c11
                        try clear c11b0
                        try clear c11b1
                        try clear c12
                        try clear c12b0
                        try clear c14
                        try clear c15
                        try clear c23
                        try clear c27
                        try clear c36
                        try clear c39
                        try clear c39b0
                        try clear c39b1
                        try clear c40
                        try clear c40b0
                        try clear c40b1
                        try clear c41
                        try clear c41b0
                        try clear c41b1
                        try clear c42
                        try clear c45
                        try clear c48
                        try clear c51
                        try clear c52
                        try clear c52b0
                        try clear c53
                        try clear hcz13_0
                        try clear hcz13_1
                        try clear hcz13_2
                        try clear hcz15_0
                        try clear hcz15_1
                        try clear hcz15_2
                        try clear hcz17_0
                        try clear hcz17_1
                        try clear hcz17_2
                        try clear hcz19_0
                        try clear hcz19_1
                        try clear hcz19_2
                        try clear hcz21_0
                        try clear hcz21_1
                        try clear hcz21_2
                        try clear hcz23_0
                        try clear hcz23_1
                        try clear hcz23_2
                        try clear hcz25_0
                        try clear hcz25_1
                        try clear hcz25_2
                        try clear hcz31_0
                        try clear hcz31_1
                        try clear hcz31_2
                        try clear hcz37_0
                        try clear hcz37_1
                        try clear hcz37_2
                        try clear hcz43_0
                        try clear hcz43_1
                        try clear hcz43_2
                        try clear hcz44_0
                        try clear hcz44_1
                        try clear hcz44_2
                        try clear hcz46_0
                        try clear hcz46_1
                        try clear hcz46_2
                        try clear hcz47_0
                        try clear hcz47_1
                        try clear hcz47_2
                        try clear hcz49_0
                        try clear hcz49_1
                        try clear hcz49_2
                        try clear hcz50_0
                        try clear hcz50_1
                        try clear hcz50_2
                        try clear hcz54_0
                        try clear hcz54_1
                        try clear hcz54_2
                        try clear hfz13_0
                        try clear hfz13_1
                        try clear hfz13_2
                        try clear hfz15_0
                        try clear hfz15_1
                        try clear hfz15_2
                        try clear hfz17_0
                        try clear hfz17_1
                        try clear hfz17_2
                        try clear hfz19_0
                        try clear hfz19_1
                        try clear hfz19_2
                        try clear hfz21_0
                        try clear hfz21_1
                        try clear hfz21_2
                        try clear hfz23_0
                        try clear hfz23_1
                        try clear hfz23_2
                        try clear hfz25_0
                        try clear hfz25_1
                        try clear hfz25_2
                        try clear hfz31_0
                        try clear hfz31_1
                        try clear hfz31_2
                        try clear hfz37_0
                        try clear hfz37_1
                        try clear hfz37_2
                        try clear hfz43_0
                        try clear hfz43_1
                        try clear hfz43_2
                        try clear hfz44_0
                        try clear hfz44_1
                        try clear hfz44_2
                        try clear hfz46_0
                        try clear hfz46_1
                        try clear hfz46_2
                        try clear hfz47_0
                        try clear hfz47_1
                        try clear hfz47_2
                        try clear hfz49_0
                        try clear hfz49_1
                        try clear hfz49_2
                        try clear hfz50_0
                        try clear hfz50_1
                        try clear hfz50_2
                        try clear hfz54_0
                        try clear hfz54_1
                        try clear hfz54_2
                        try clear p2
                        try clear p6
                        obtain ⟨x8_4, x10_4, x11_4, rfl, rfl, rfl, HA, HK4, HO_118002, BK101, BK117, HB⟩ := hrel
                        cases gk with
                        | zero => exact absurd HA.out (by simp [halidelaw13_DitherKeeps.l1])
                        | succ k4 =>
                          have H := HA.out
                          clear HA
                          simp only [halidelaw13_DitherKeeps.l1] at H
                          have HC55 := Aside0.mk H
                          clear H
                          go_upto_region 14 with (fail)
                          go_cut [82] (fun v82 wc => ∃ (kq : Nat) (x82_54 : Bool), v82 = .bool x82_54 ∧ Aside0 (halidelaw13_DitherKeeps.j4 kq a1 x8_4 x9_3 x10_4 x11_4 x82_54 a0_0 a0_1 l0_2 t110 t111 t112 = some r) ∧ Aside0 (kq ≤ k4) ∧ Aside0 (Kd.R (Kd.int .u32) 48 wc w.heap.size (fun _ => True) (.slice Ao38 t112.length co38) t112) ∧ Aside0 (wc.heap[gb101]? = some (.cells #[.int .i64 a0_0, .int .i64 a0_1, (.slice A0_2 l0_2.length c0_2)] 35 (0, 0))) ∧ Aside0 (wc.heap[gb117]? = some (.cells #[.int .i64 t110, .int .i64 t111, (.slice Ao38 t112.length co38)] 35 (0, 0))) ∧ Aside0 (Below w.heap.size w wc))
                          case first =>
                            have H := HC55.out
                            clear HC55
                            by_cases c56 : x11_4 < a1
                            · rw [if_pos c56] at H
                              have c56b0 : decide (x11_4 < a1) = true := decide_eq_true c56
                              clear c56
                              (first | rw [c56b0] | (simp only [i64_w, i32_w]; rw [c56b0]) | skip)
                              have H' := Aside0.mk H
                              clear H
                              go_wp2
                              go_meet
                              case rel => exact ⟨_, (!x10_4), (by first | rfl | (simp; done) | (simp [*]; done)), H', ⟨by have := HJ4.out; have := HJ29.out; have := HK3.out; have := HK4.out; first | omega | exact Nat.le_refl _⟩, ⟨by (with_reducible repeat (first | apply Kd.R_alloc | apply Kd.R_drewN | apply Kd.R_drew)); exact HO_118002.out⟩, ⟨by (with_reducible repeat (first | refine blk_drewN ?_ _ | refine blk_drew ?_ | refine blk_alloc ?_ _)); exact BK101.out⟩, ⟨by (with_reducible repeat (first | refine blk_drewN ?_ _ | refine blk_drew ?_ | refine blk_alloc ?_ _)); exact BK117.out⟩, ⟨by repeat (first | (with_reducible first | exact HB.out | apply below_alloc | apply pw_below_drewN | apply below_drew1 | refine below_set ?_ GE101.out | refine below_set ?_ GE117.out) | exact HB.out)⟩⟩
                            · rw [if_neg c56] at H
                              have c56b0 : decide (x11_4 < a1) = false := decide_eq_false c56
                              clear c56
                              (first | rw [c56b0] | (simp only [i64_w, i32_w]; rw [c56b0]) | skip)
                              have H' := Aside0.mk H
                              clear H
                              go_wp2
                              go_meet
                              case rel => exact ⟨_, (false), (by first | rfl | (simp; done) | (simp [*]; done)), H', ⟨by have := HJ4.out; have := HJ29.out; have := HK3.out; have := HK4.out; first | omega | exact Nat.le_refl _⟩, ⟨by (with_reducible repeat (first | apply Kd.R_alloc | apply Kd.R_drewN | apply Kd.R_drew)); exact HO_118002.out⟩, ⟨by (with_reducible repeat (first | refine blk_drewN ?_ _ | refine blk_drew ?_ | refine blk_alloc ?_ _)); exact BK101.out⟩, ⟨by (with_reducible repeat (first | refine blk_drewN ?_ _ | refine blk_drew ?_ | refine blk_alloc ?_ _)); exact BK117.out⟩, ⟨by repeat (first | (with_reducible first | exact HB.out | apply below_alloc | apply pw_below_drewN | apply below_drew1 | refine below_set ?_ GE101.out | refine below_set ?_ GE117.out) | exact HB.out)⟩⟩
                          case rest =>
                            clear HC55
                            try clear c1
                            try clear c2
                            try clear p2
                            try clear c3
                            try clear c4
                            try clear c5
                            try clear p6
                            try clear c9
                            try clear c10
                            try clear c11
                            try clear c11b0
                            try clear c11b1
                            try clear c12
                            try clear c12b0
                            try clear c14
                            try clear c15
                            try clear c23
                            try clear c27
                            try clear c36
                            try clear c39
                            try clear c39b0
                            try clear c39b1
                            try clear c40
                            try clear c40b0
                            try clear c40b1
                            try clear c41
                            try clear c41b0
                            try clear c41b1
                            try clear c42
                            try clear c45
                            try clear c48
                            try clear c51
                            try clear c52
                            try clear c52b0
                            try clear c53
                            try clear c56
                            try clear c56b0
                            try clear hcz13_0
                            try clear hcz13_1
                            try clear hcz13_2
                            try clear hcz15_0
                            try clear hcz15_1
                            try clear hcz15_2
                            try clear hcz17_0
                            try clear hcz17_1
                            try clear hcz17_2
                            try clear hcz19_0
                            try clear hcz19_1
                            try clear hcz19_2
                            try clear hcz21_0
                            try clear hcz21_1
                            try clear hcz21_2
                            try clear hcz23_0
                            try clear hcz23_1
                            try clear hcz23_2
                            try clear hcz25_0
                            try clear hcz25_1
                            try clear hcz25_2
                            try clear hcz31_0
                            try clear hcz31_1
                            try clear hcz31_2
                            try clear hcz37_0
                            try clear hcz37_1
                            try clear hcz37_2
                            try clear hcz43_0
                            try clear hcz43_1
                            try clear hcz43_2
                            try clear hcz44_0
                            try clear hcz44_1
                            try clear hcz44_2
                            try clear hcz46_0
                            try clear hcz46_1
                            try clear hcz46_2
                            try clear hcz47_0
                            try clear hcz47_1
                            try clear hcz47_2
                            try clear hcz49_0
                            try clear hcz49_1
                            try clear hcz49_2
                            try clear hcz50_0
                            try clear hcz50_1
                            try clear hcz50_2
                            try clear hcz54_0
                            try clear hcz54_1
                            try clear hcz54_2
                            try clear hfz13_0
                            try clear hfz13_1
                            try clear hfz13_2
                            try clear hfz15_0
                            try clear hfz15_1
                            try clear hfz15_2
                            try clear hfz17_0
                            try clear hfz17_1
                            try clear hfz17_2
                            try clear hfz19_0
                            try clear hfz19_1
                            try clear hfz19_2
                            try clear hfz21_0
                            try clear hfz21_1
                            try clear hfz21_2
                            try clear hfz23_0
                            try clear hfz23_1
                            try clear hfz23_2
                            try clear hfz25_0
                            try clear hfz25_1
                            try clear hfz25_2
                            try clear hfz31_0
                            try clear hfz31_1
                            try clear hfz31_2
                            try clear hfz37_0
                            try clear hfz37_1
                            try clear hfz37_2
                            try clear hfz43_0
                            try clear hfz43_1
                            try clear hfz43_2
                            try clear hfz44_0
                            try clear hfz44_1
                            try clear hfz44_2
                            try clear hfz46_0
                            try clear hfz46_1
                            try clear hfz46_2
                            try clear hfz47_0
                            try clear hfz47_1
                            try clear hfz47_2
                            try clear hfz49_0
                            try clear hfz49_1
                            try clear hfz49_2
                            try clear hfz50_0
                            try clear hfz50_1
                            try clear hfz50_2
                            try clear hfz54_0
                            try clear hfz54_1
                            try clear hfz54_2
                            try clear p2
                            try clear p6
                            obtain ⟨kq, x82_54, rfl, HA, HJ54, HO_118002, BK101, BK117, HB⟩ := hcut
                            cases kq with
                            | zero => exact absurd HA.out (by simp [halidelaw13_DitherKeeps.j4])
                            | succ kj54 =>
                              have H := HA.out
                              clear HA
                              simp only [halidelaw13_DitherKeeps.j4] at H
                              by_cases c57 : x82_54 = true
                              · subst c57
                                have H1 : ((dither_Level.f a1 x11_4).bind fun bt120 => (if bt120.2 = 0 then (if 0 ≤ x9_3 then (if x9_3 < (t112.length : Int) then (if bt120.1 = (rd t112 x9_3) then ((dither_Unit.f a1 x11_4).bind fun bt123 => (halidelaw13_DitherKeeps.l1 kj54 a1 (wrap64 (x8_4 - bt123.1)) x9_3 true (wrap64 (x11_4 + 1)) a0_0 a0_1 l0_2 t110 t111 t112)) else (halidelaw13_DitherKeeps.l1 kj54 a1 x8_4 x9_3 x10_4 (wrap64 (x11_4 + 1)) a0_0 a0_1 l0_2 t110 t111 t112)) else (none)) else (none)) else (halidelaw13_DitherKeeps.l1 kj54 a1 x8_4 x9_3 x10_4 (wrap64 (x11_4 + 1)) a0_0 a0_1 l0_2 t110 t111 t112))) = some r := by rw [if_pos rfl] at H; exact H
                                clear H
                                have H := H1
                                clear H1
                                replace H := Option.bind_eq_some_iff.mp H
                                obtain ⟨⟨t120, t121⟩, A580, H⟩ := H
                                replace H : (if t121 = 0 then (if 0 ≤ x9_3 then (if x9_3 < (t112.length : Int) then (if t120 = (rd t112 x9_3) then ((dither_Unit.f a1 x11_4).bind fun bt123 => (halidelaw13_DitherKeeps.l1 kj54 a1 (wrap64 (x8_4 - bt123.1)) x9_3 true (wrap64 (x11_4 + 1)) a0_0 a0_1 l0_2 t110 t111 t112)) else (halidelaw13_DitherKeeps.l1 kj54 a1 x8_4 x9_3 x10_4 (wrap64 (x11_4 + 1)) a0_0 a0_1 l0_2 t110 t111 t112)) else (none)) else (none)) else (halidelaw13_DitherKeeps.l1 kj54 a1 x8_4 x9_3 x10_4 (wrap64 (x11_4 + 1)) a0_0 a0_1 l0_2 t110 t111 t112)) = some r := H
                                have A58 := Aside0.mk A580
                                clear A580
                                by_cases c59 : t121 = 0
                                · rw [if_pos c59] at H
                                  have c59b0 : (t121 == 0) = true := beq_iff_eq.mpr c59
                                  have c59b1 : (t121 != 0) = false := bne_eq_false_iff_eq.mpr c59
                                  clear c59
                                  by_cases c60 : 0 ≤ x9_3
                                  · rw [if_pos c60] at H
                                    have c60b0 : decide (0 ≤ x9_3) = true := decide_eq_true c60
                                    clear c60
                                    by_cases c61 : x9_3 < (t112.length : Int)
                                    · rw [if_pos c61] at H
                                      have c61b0 : decide (x9_3 < (t112.length : Int)) = true := decide_eq_true c61
                                      clear c61
                                      by_cases c62 : t120 = (rd t112 x9_3)
                                      · rw [if_pos c62] at H
                                        have c62b0 : (t120 == (rd t112 x9_3)) = true := beq_iff_eq.mpr c62
                                        have c62b1 : (t120 != (rd t112 x9_3)) = false := bne_eq_false_iff_eq.mpr c62
                                        clear c62
                                        replace H := Option.bind_eq_some_iff.mp H
                                        obtain ⟨⟨t123, t124⟩, A630, H⟩ := H
                                        replace H : (halidelaw13_DitherKeeps.l1 kj54 a1 (wrap64 (x8_4 - t123)) x9_3 true (wrap64 (x11_4 + 1)) a0_0 a0_1 l0_2 t110 t111 t112) = some r := H
                                        have A63 := Aside0.mk A630
                                        clear A630
                                        have H' := Aside0.mk H
                                        clear H
                                        go_wp2_with (first | ((with_reducible refine gate_callee (f := 24) rfl ?_); refine goesL_ (some 88) rfl rfl Try.func24 (by kernel_rfl) rfl #[.int .i64 a1, .int .i64 x11_4] rfl (by (try simp only [List.map_toArray, List.map_cons, List.map_nil]); first | done | rfl | (simp only [List.length_drop, List.length_take]; rfl)) ?_; (with_reducible refine (dither_Level.calls a1 x11_4 t120 t121 _ A58.out).mono ?_); rintro e w' ⟨rfl, ⟨nd, rfl⟩⟩; refine ⟨_, rfl, ?_⟩; have hnb64 := NB117_101.out; have hnc64 := NB101_117.out; have hcz65_0 : wc.cell? ⟨gb117, 0, none⟩ = some (.int .i64 t110) := (blk_cell BK117.out 0).trans rfl; have hcz65_1 : wc.cell? ⟨gb117, 1, none⟩ = some (.int .i64 t111) := (blk_cell BK117.out 1).trans rfl; have hcz65_2 : wc.cell? ⟨gb117, 2, none⟩ = some (.slice Ao38 t112.length co38) := (blk_cell BK117.out 2).trans rfl; have hfz65_0 := blk_frozen BK117.out 0; have hfz65_1 := blk_frozen BK117.out 1; have hfz65_2 := blk_frozen BK117.out 2; have p122 : 0 ≤ (x9_3 : Int) := of_decide_eq_true (by first | (with_reducible assumption) | assumption); have q122 : x9_3 < (t112.length : Int) := of_decide_eq_true (by first | (with_reducible assumption) | assumption); obtain ⟨ad122, e122, hx122_0⟩ := Kd.at_int (Kd.R_reads' HO_118002.out).2.2 x9_3 p122 q122; cases e122; replace p122 := eq_true p122; replace q122 := eq_true q122) | ((with_reducible refine gate_callee (f := 25) rfl ?_); refine goesL_ (some 105) rfl rfl Try.func25 (by kernel_rfl) rfl #[.int .i64 a1, .int .i64 x11_4] rfl (by (try simp only [List.map_toArray, List.map_cons, List.map_nil]); first | done | rfl | (simp only [List.length_drop, List.length_take]; rfl)) ?_; (with_reducible refine (dither_Unit.calls a1 x11_4 t123 t124 _ A63.out).mono ?_); rintro e w' ⟨rfl, ⟨nd, rfl⟩⟩; refine ⟨_, rfl, ?_⟩))
                                        go_roundg kj54
                                        case measure => have := HJ4.out; have := HJ29.out; have := HK3.out; have := HK4.out; have := HJ54.out; omega
                                        case rel => exact ⟨(wrap64 (x8_4 - t123)), (true), (wrap64 (x11_4 + 1)), (by first | rfl | (simp; done) | (simp [*]; done)), (by first | rfl | (simp; done) | (simp [*]; done)), (by first | rfl | (simp; done) | (simp [*]; done)), H', ⟨by have := HJ4.out; have := HJ29.out; have := HK3.out; have := HK4.out; have := HJ54.out; omega⟩, ⟨by (with_reducible repeat (first | apply Kd.R_alloc | apply Kd.R_drewN | apply Kd.R_drew)); exact HO_118002.out⟩, ⟨by (with_reducible repeat (first | refine blk_drewN ?_ _ | refine blk_drew ?_ | refine blk_alloc ?_ _)); exact BK101.out⟩, ⟨by (with_reducible repeat (first | refine blk_drewN ?_ _ | refine blk_drew ?_ | refine blk_alloc ?_ _)); exact BK117.out⟩, ⟨by repeat (first | (with_reducible first | exact HB.out | apply below_alloc | apply pw_below_drewN | apply below_drew1 | refine below_set ?_ GE101.out | refine below_set ?_ GE117.out) | exact HB.out)⟩⟩
                                      · rw [if_neg c62] at H
                                        have c62b0 : (t120 == (rd t112 x9_3)) = false := beq_eq_false_iff_ne.mpr c62
                                        have c62b1 : (t120 != (rd t112 x9_3)) = true := bne_iff_ne.mpr c62
                                        have H' := Aside0.mk H
                                        clear H
                                        go_wp2_with (first | ((with_reducible refine gate_callee (f := 24) rfl ?_); refine goesL_ (some 88) rfl rfl Try.func24 (by kernel_rfl) rfl #[.int .i64 a1, .int .i64 x11_4] rfl (by (try simp only [List.map_toArray, List.map_cons, List.map_nil]); first | done | rfl | (simp only [List.length_drop, List.length_take]; rfl)) ?_; (with_reducible refine (dither_Level.calls a1 x11_4 t120 t121 _ A58.out).mono ?_); rintro e w' ⟨rfl, ⟨nd, rfl⟩⟩; refine ⟨_, rfl, ?_⟩; have hnb66 := NB117_101.out; have hnc66 := NB101_117.out; have hcz67_0 : wc.cell? ⟨gb117, 0, none⟩ = some (.int .i64 t110) := (blk_cell BK117.out 0).trans rfl; have hcz67_1 : wc.cell? ⟨gb117, 1, none⟩ = some (.int .i64 t111) := (blk_cell BK117.out 1).trans rfl; have hcz67_2 : wc.cell? ⟨gb117, 2, none⟩ = some (.slice Ao38 t112.length co38) := (blk_cell BK117.out 2).trans rfl; have hfz67_0 := blk_frozen BK117.out 0; have hfz67_1 := blk_frozen BK117.out 1; have hfz67_2 := blk_frozen BK117.out 2; have p122 : 0 ≤ (x9_3 : Int) := of_decide_eq_true (by first | (with_reducible assumption) | assumption); have q122 : x9_3 < (t112.length : Int) := of_decide_eq_true (by first | (with_reducible assumption) | assumption); obtain ⟨ad122, e122, hx122_0⟩ := Kd.at_int (Kd.R_reads' HO_118002.out).2.2 x9_3 p122 q122; cases e122; replace p122 := eq_true p122; replace q122 := eq_true q122))
                                        go_roundg kj54
                                        case measure => have := HJ4.out; have := HJ29.out; have := HK3.out; have := HK4.out; have := HJ54.out; omega
                                        case rel => exact ⟨(x8_4), (x10_4), (wrap64 (x11_4 + 1)), (by first | rfl | (simp; done) | (simp [*]; done)), (by first | rfl | (simp; done) | (simp [*]; done)), (by first | rfl | (simp; done) | (simp [*]; done)), H', ⟨by have := HJ4.out; have := HJ29.out; have := HK3.out; have := HK4.out; have := HJ54.out; omega⟩, ⟨by (with_reducible repeat (first | apply Kd.R_alloc | apply Kd.R_drewN | apply Kd.R_drew)); exact HO_118002.out⟩, ⟨by (with_reducible repeat (first | refine blk_drewN ?_ _ | refine blk_drew ?_ | refine blk_alloc ?_ _)); exact BK101.out⟩, ⟨by (with_reducible repeat (first | refine blk_drewN ?_ _ | refine blk_drew ?_ | refine blk_alloc ?_ _)); exact BK117.out⟩, ⟨by repeat (first | (with_reducible first | exact HB.out | apply below_alloc | apply pw_below_drewN | apply below_drew1 | refine below_set ?_ GE101.out | refine below_set ?_ GE117.out) | exact HB.out)⟩⟩
                                    · rw [if_neg c61] at H
                                      exact absurd H (by simp)
                                  · rw [if_neg c60] at H
                                    exact absurd H (by simp)
                                · rw [if_neg c59] at H
                                  have c59b0 : (t121 == 0) = false := beq_eq_false_iff_ne.mpr c59
                                  have c59b1 : (t121 != 0) = true := bne_iff_ne.mpr c59
                                  have H' := Aside0.mk H
                                  clear H
                                  go_wp2_with (first | ((with_reducible refine gate_callee (f := 24) rfl ?_); refine goesL_ (some 88) rfl rfl Try.func24 (by kernel_rfl) rfl #[.int .i64 a1, .int .i64 x11_4] rfl (by (try simp only [List.map_toArray, List.map_cons, List.map_nil]); first | done | rfl | (simp only [List.length_drop, List.length_take]; rfl)) ?_; (with_reducible refine (dither_Level.calls a1 x11_4 t120 t121 _ A58.out).mono ?_); rintro e w' ⟨rfl, ⟨nd, rfl⟩⟩; refine ⟨_, rfl, ?_⟩))
                                  go_roundg kj54
                                  case measure => have := HJ4.out; have := HJ29.out; have := HK3.out; have := HK4.out; have := HJ54.out; omega
                                  case rel => exact ⟨(x8_4), (x10_4), (wrap64 (x11_4 + 1)), (by first | rfl | (simp; done) | (simp [*]; done)), (by first | rfl | (simp; done) | (simp [*]; done)), (by first | rfl | (simp; done) | (simp [*]; done)), H', ⟨by have := HJ4.out; have := HJ29.out; have := HK3.out; have := HK4.out; have := HJ54.out; omega⟩, ⟨by (with_reducible repeat (first | apply Kd.R_alloc | apply Kd.R_drewN | apply Kd.R_drew)); exact HO_118002.out⟩, ⟨by (with_reducible repeat (first | refine blk_drewN ?_ _ | refine blk_drew ?_ | refine blk_alloc ?_ _)); exact BK101.out⟩, ⟨by (with_reducible repeat (first | refine blk_drewN ?_ _ | refine blk_drew ?_ | refine blk_alloc ?_ _)); exact BK117.out⟩, ⟨by repeat (first | (with_reducible first | exact HB.out | apply below_alloc | apply pw_below_drewN | apply below_drew1 | refine below_set ?_ GE101.out | refine below_set ?_ GE117.out) | exact HB.out)⟩⟩
                              · replace c57 := Bool.eq_false_iff.mpr c57
                                subst c57
                                have H1 : (if x10_4 = true then (if 0 ≤ x9_3 then (if x9_3 < (l0_2.length : Int) then ((dither_Units.f (rd l0_2 x9_3)).bind fun t119 => (halidelaw13_DitherKeeps.l0 kj54 a1 (wrap64 (x8_4 + t119)) (wrap64 (x9_3 + 1)) a0_0 a0_1 l0_2 t110 t111 t112)) else (none)) else (none)) else (some false)) = some r := by rw [if_neg (show ¬ (false = true) by decide)] at H; exact H
                                clear H
                                have H := H1
                                clear H1
                                by_cases c68 : x10_4 = true
                                · subst c68
                                  have H1 : (if 0 ≤ x9_3 then (if x9_3 < (l0_2.length : Int) then ((dither_Units.f (rd l0_2 x9_3)).bind fun t119 => (halidelaw13_DitherKeeps.l0 kj54 a1 (wrap64 (x8_4 + t119)) (wrap64 (x9_3 + 1)) a0_0 a0_1 l0_2 t110 t111 t112)) else (none)) else (none)) = some r := by rw [if_pos rfl] at H; exact H
                                  clear H
                                  have H := H1
                                  clear H1
                                  by_cases c69 : 0 ≤ x9_3
                                  · rw [if_pos c69] at H
                                    have c69b0 : decide (0 ≤ x9_3) = true := decide_eq_true c69
                                    clear c69
                                    by_cases c70 : x9_3 < (l0_2.length : Int)
                                    · rw [if_pos c70] at H
                                      have c70b0 : decide (x9_3 < (l0_2.length : Int)) = true := decide_eq_true c70
                                      clear c70
                                      replace H := Option.bind_eq_some_iff.mp H
                                      obtain ⟨t119, A710, H⟩ := H
                                      replace H : (halidelaw13_DitherKeeps.l0 kj54 a1 (wrap64 (x8_4 + t119)) (wrap64 (x9_3 + 1)) a0_0 a0_1 l0_2 t110 t111 t112) = some r := H
                                      have A71 := Aside0.mk A710
                                      clear A710
                                      have H' := Aside0.mk H
                                      clear H
                                      have hnb72 := NB101_117.out
                                      have hnc72 := NB117_101.out
                                      have hcz73_0 : wc.cell? ⟨gb101, 0, none⟩ = some (.int .i64 a0_0) := (blk_cell BK101.out 0).trans rfl
                                      have hcz73_1 : wc.cell? ⟨gb101, 1, none⟩ = some (.int .i64 a0_1) := (blk_cell BK101.out 1).trans rfl
                                      have hcz73_2 : wc.cell? ⟨gb101, 2, none⟩ = some (.slice A0_2 l0_2.length c0_2) := (blk_cell BK101.out 2).trans rfl
                                      have hfz73_0 := blk_frozen BK101.out 0
                                      have hfz73_1 := blk_frozen BK101.out 1
                                      have hfz73_2 := blk_frozen BK101.out 2
                                      have p118 : 0 ≤ (x9_3 : Int) := of_decide_eq_true (by first | (with_reducible assumption) | assumption)
                                      have q118 : x9_3 < (l0_2.length : Int) := of_decide_eq_true (by first | (with_reducible assumption) | assumption)
                                      obtain ⟨ad118, e118, hx118_0⟩ := Kd.at_int HR0_2.out x9_3 p118 q118
                                      cases e118
                                      replace hx118_0 := (HB.out.cell (World.block_lt_of_cell? w _ hx118_0)).trans hx118_0
                                      replace p118 := eq_true p118
                                      replace q118 := eq_true q118
                                      go_wp2_with (first | ((with_reducible refine gate_callee (f := 26) rfl ?_); refine goesL_ (some 119) rfl rfl Try.func26 (by kernel_rfl) rfl #[.int .u32 (rd l0_2 x9_3)] rfl (by (try simp only [List.map_toArray, List.map_cons, List.map_nil]); first | done | rfl | (simp only [List.length_drop, List.length_take]; rfl)) ?_; (with_reducible refine (dither_Units.calls (rd l0_2 x9_3) t119 _ A71.out).mono ?_); rintro e w74 ⟨rfl, hb⟩; refine ⟨_, rfl, ?_⟩; have n0_ := Aside0.mk (Kd.R_below (by (with_reducible repeat (first | apply Kd.R_alloc | apply Kd.R_drewN | apply Kd.R_drew)); exact HO_118002.out) hb); have n1_ := Aside0.mk (blk_below (g := gb101) (o := .cells #[.int .i64 a0_0, .int .i64 a0_1, .slice (some ad118) l0_2.length c0_2] 35 (0, 0)) (by (with_reducible repeat (first | refine blk_drewN ?_ _ | refine blk_drew ?_ | refine blk_alloc ?_ _)); exact BK101.out) hb); have n2_ := Aside0.mk (blk_below (g := gb117) (o := .cells #[.int .i64 t110, .int .i64 t111, .slice Ao38 t112.length co38] 35 (0, 0)) (by (with_reducible repeat (first | refine blk_drewN ?_ _ | refine blk_drew ?_ | refine blk_alloc ?_ _)); exact BK117.out) hb); have n3_ := Aside0.mk (below_step (by repeat (first | (with_reducible first | exact HB.out | apply below_alloc | apply pw_below_drewN | apply below_drew1 | refine below_set ?_ GE101.out | refine below_set ?_ GE117.out) | exact HB.out)) hb); clear HO_118002; clear BK101; clear BK117; clear HB; have HO_118002 := n0_; have BK101 := n1_; have BK117 := n2_; have HB := n3_; clear n0_ n1_ n2_ n3_; (try clear hb); (try clear hb2); (try clear hk); (try clear hi)))
                                      go_roundg kj54
                                      case measure => have := HJ4.out; have := HJ29.out; have := HK3.out; have := HK4.out; have := HJ54.out; omega
                                      case rel => exact ⟨(wrap64 (x8_4 + t119)), (wrap64 (x9_3 + 1)), (by first | rfl | (simp; done) | (simp [*]; done)), (by first | rfl | (simp; done) | (simp [*]; done)), H', ⟨by have := HJ4.out; have := HJ29.out; have := HK3.out; have := HK4.out; have := HJ54.out; omega⟩, ⟨by (with_reducible repeat (first | apply Kd.R_alloc | apply Kd.R_drewN | apply Kd.R_drew)); exact HO_118002.out⟩, ⟨by (with_reducible repeat (first | refine blk_drewN ?_ _ | refine blk_drew ?_ | refine blk_alloc ?_ _)); exact BK101.out⟩, ⟨by (with_reducible repeat (first | refine blk_drewN ?_ _ | refine blk_drew ?_ | refine blk_alloc ?_ _)); exact BK117.out⟩, ⟨by repeat (first | (with_reducible first | exact HB.out | apply below_alloc | apply pw_below_drewN | apply below_drew1 | refine below_set ?_ GE101.out | refine below_set ?_ GE117.out) | exact HB.out)⟩⟩
                                    · rw [if_neg c70] at H
                                      exact absurd H (by simp)
                                  · rw [if_neg c69] at H
                                    exact absurd H (by simp)
                                · replace c68 := Bool.eq_false_iff.mpr c68
                                  subst c68
                                  have H1 : (some false) = some r := by rw [if_neg (show ¬ (false = true) by decide)] at H; exact H
                                  clear H
                                  have H := H1
                                  clear H1
                                  exact absurd (H.trans (congrArg some HT.out)) (by decide)
                    · rw [if_neg c52] at H
                      have c52b0 : decide (x9_3 < (l0_2.length : Int)) = false := decide_eq_false c52
                      clear c52
                      obtain rfl := Option.some.inj H
                      have hnb75 := NB101_117.out
                      have hnc75 := NB117_101.out
                      have hcz76_0 : wr.cell? ⟨gb101, 0, none⟩ = some (.int .i64 a0_0) := (blk_cell BK101.out 0).trans rfl
                      have hcz76_1 : wr.cell? ⟨gb101, 1, none⟩ = some (.int .i64 a0_1) := (blk_cell BK101.out 1).trans rfl
                      have hcz76_2 : wr.cell? ⟨gb101, 2, none⟩ = some (.slice A0_2 l0_2.length c0_2) := (blk_cell BK101.out 2).trans rfl
                      have hfz76_0 := blk_frozen BK101.out 0
                      have hfz76_1 := blk_frozen BK101.out 1
                      have hfz76_2 := blk_frozen BK101.out 2
                      go_wp2
                      go_ret
                      exact ⟨by first | rfl | (simp [errW_none, errW_some] <;> rfl) | (simp [*, errW_none, errW_some] <;> rfl), by repeat (first | (with_reducible first | exact HB.out | apply below_alloc | apply pw_below_drewN | apply below_drew1 | refine below_set ?_ GE101.out | refine below_set ?_ GE117.out) | exact HB.out)⟩
  · replace c4 := Bool.eq_false_iff.mpr c4
    subst c4
    have H1 : (some false) = some r := by rw [if_neg (show ¬ (false = true) by decide)] at H; exact H
    clear H
    have H := H1
    clear H1
    exact absurd (H.trans (congrArg some HT.out)) (by decide)

end Go.Proofs.Ytmipbbkieadecaa.PDE
