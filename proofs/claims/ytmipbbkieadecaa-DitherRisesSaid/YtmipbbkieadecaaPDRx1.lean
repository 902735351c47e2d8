-- Written by a program of this session (hprint.py: the kit's printer, with this session's contracts beside it). Lean checks it.
import Derived.Test.YtmipbbkieadecaaPDRx0
import Derived.Test.YtmipbbkieadecaaH6
import Derived.Test.YtmipbbkieadecaaM9
import Derived.Test.YtmipbbkieadecaaPDKx1
namespace Go.Proofs.Ytmipbbkieadecaa.PDR
open Go.Proofs.Ytmipbbkieadecaa.PDA Go.Proofs.Ytmipbbkieadecaa.PDB Go.Proofs.Ytmipbbkieadecaa.PDC Go.Proofs.Ytmipbbkieadecaa.PDK
open Go.RowKit Go.Proofs.YtmipbbkieadecaaW.PrintWords Go.Proofs.YtmipbbkieadecaaW.PrintLast Go.Proofs.YtmipbbkieadecaaW.PrintMore
attribute [local go_sem] max2_int min2_int max_two min_two max_three min_three max_four min_four   -- for this text's walks alone
set_option linter.unusedVariables false
set_option linter.unusedSimpArgs false

/-! ### halidelaw13_DitherRises: function 7 -/
def halidelaw13_DitherRises.j0 : Nat → Int → Int → Bool → Int → Int → List Int → Int → Int → List Int → Option (Bool)
  | 0, _, _, _, _, _, _, _, _, _ => none
  | k + 1, x13, x14, x119, x124000, x124001, x124002, x134000, x134001, x134002 => if x119 = true then (some false) else (if leF x13 x14 = true then (if 0 < (x124002.length : Int) then ((math_Float32frombits.f (rd x124002 0)).bind fun t138 => (if 0 < (x134002.length : Int) then ((math_Float32frombits.f (rd x134002 0)).bind fun t140 => (some (leF t138 t140))) else (none))) else (none)) else (some true))
def halidelaw13_DitherRises.f (k : Nat) (a0 : Int) (a1 : Int) (a2 : Int) (a3 : Int) (a4 : Int) (a5 : Int) : Option (Bool) := (halidelaw13_known.f k).bind fun t101 => (if t101 = true then ((math_Float32frombits.f a0).bind fun t102 => ((math_Float32frombits.f a1).bind fun t103 => ((dither_Ordered.f 4 1 (([0, 1065353216, 0, 0] : List Int)) a2 a3 a4 a5).bind fun bt107 => ((dither_Ordered.f 1 1 (([a0] : List Int)) a2 a3 a4 a5).bind fun bt117 => ((dither_Ordered.f 1 1 (([a1] : List Int)) a2 a3 a4 a5).bind fun bt127 => (if bt107.2.2.2 = 0 then (if bt117.2.2.2 = 0 then (if bt127.2.2.2 = 0 then (if (bt107.2.2.1.length : Int) = 4 then (if (bt117.2.2.1.length : Int) = 1 then (if (bt127.2.2.1.length : Int) = 1 then (if 0 < (bt107.2.2.1.length : Int) then (if (rd bt107.2.2.1 0) = 0 then (if 1 < (bt107.2.2.1.length : Int) then (if (rd bt107.2.2.1 1) = 1065353216 then (if 2 < (bt107.2.2.1.length : Int) then (halidelaw13_DitherRises.j0 k t102 t103 ((rd bt107.2.2.1 2) != 0) bt117.1 bt117.2.1 bt117.2.2.1 bt127.1 bt127.2.1 bt127.2.2.1) else (none)) else (halidelaw13_DitherRises.j0 k t102 t103 true bt117.1 bt117.2.1 bt117.2.2.1 bt127.1 bt127.2.1 bt127.2.2.1)) else (none)) else (halidelaw13_DitherRises.j0 k t102 t103 true bt117.1 bt117.2.1 bt117.2.2.1 bt127.1 bt127.2.1 bt127.2.2.1)) else (none)) else (halidelaw13_DitherRises.j0 k t102 t103 true bt117.1 bt117.2.1 bt117.2.2.1 bt127.1 bt127.2.1 bt127.2.2.1)) else (halidelaw13_DitherRises.j0 k t102 t103 true bt117.1 bt117.2.1 bt117.2.2.1 bt127.1 bt127.2.1 bt127.2.2.1)) else (halidelaw13_DitherRises.j0 k t102 t103 true bt117.1 bt117.2.1 bt117.2.2.1 bt127.1 bt127.2.1 bt127.2.2.1)) else (halidelaw13_DitherRises.j0 k t102 t103 true bt117.1 bt117.2.1 bt117.2.2.1 bt127.1 bt127.2.1 bt127.2.2.1)) else (halidelaw13_DitherRises.j0 k t102 t103 true bt117.1 bt117.2.1 bt117.2.2.1 bt127.1 bt127.2.1 bt127.2.2.1)) else (if bt107.2.2.2 = bt117.2.2.2 then (if bt107.2.2.2 = bt127.2.2.2 then (some ((bt117.2.2.1.length : Int) == 0)) else (some false)) else (some false)))))))) else (some false))
theorem halidelaw13_DitherRises.mono_l : ∀ k, (∀ y0 y1 y2 y3 y4 y5 y6 y7 y8, LeO (halidelaw13_DitherRises.j0 k y0 y1 y2 y3 y4 y5 y6 y7 y8) (halidelaw13_DitherRises.j0 (k + 1) y0 y1 y2 y3 y4 y5 y6 y7 y8))
  | 0 => fun _ _ _ _ _ _ _ _ _ r h => by simp [halidelaw13_DitherRises.j0] at h
  | k + 1 => by
    have ih0 := halidelaw13_DitherRises.mono_l k
    · intro y0 y1 y2 y3 y4 y5 y6 y7 y8
      unfold halidelaw13_DitherRises.j0
      repeat' first
      | (with_reducible exact ih0 _ _ _ _ _ _ _ _ _)
      | (with_reducible exact halidelaw13_known.mono _)
      | (with_reducible exact LeO.refl _)
      | (with_reducible exact LeO.none _)
      | (with_reducible refine LeO.ite ?_ ?_)
      | (with_reducible refine LeO.bind ?_ (fun _ => ?_))
      | exact ih0 _ _ _ _ _ _ _ _ _
      | exact halidelaw13_known.mono _
      | exact LeO.none _
      | refine LeO.ite ?_ ?_
      | refine LeO.bind ?_ (fun _ => ?_)
theorem halidelaw13_DitherRises.mono : ∀ a0 a1 a2 a3 a4 a5 k, LeO (halidelaw13_DitherRises.f k a0 a1 a2 a3 a4 a5) (halidelaw13_DitherRises.f (k + 1) a0 a1 a2 a3 a4 a5) := by
  intro a0 a1 a2 a3 a4 a5 k
  have ih0 := halidelaw13_DitherRises.mono_l k
  unfold halidelaw13_DitherRises.f
  repeat' first
      | (with_reducible exact ih0 _ _ _ _ _ _ _ _ _)
      | (with_reducible exact halidelaw13_known.mono _)
      | (with_reducible exact LeO.refl _)
      | (with_reducible exact LeO.none _)
      | (with_reducible refine LeO.ite ?_ ?_)
      | (with_reducible refine LeO.bind ?_ (fun _ => ?_))
      | exact ih0 _ _ _ _ _ _ _ _ _
      | exact halidelaw13_known.mono _
      | exact LeO.none _
      | refine LeO.ite ?_ ?_
      | refine LeO.bind ?_ (fun _ => ?_)
attribute [local go_sem] call29i
set_option maxHeartbeats 8000000 in
set_option maxRecDepth 100000 in
theorem halidelaw13_DitherRises.calls (k : Nat) (a0 : Int) (a1 : Int) (a2 : Int) (a3 : Int) (a4 : Int) (a5 : Int) (r : Bool) (w : World) (h : halidelaw13_DitherRises.f k a0 a1 a2 a3 a4 a5 = some r) (HT0 : r = true := by decide) :
    Calls Try.prog 7 #[.int .u32 a0, .int .u32 a1, .int .i64 a2, .int .i64 a3, .int .i64 a4, .int .i64 a5] w fun e w' => e = .returned (.bool r) ∧ Below w.heap.size w w' := by
  have HT := Aside0.mk HT0
  clear HT0
  have hu35 := Try.underlying35
  have HB := Aside0.mk (Below.refl w.heap.size w)
  have H : ((halidelaw13_known.f k).bind fun t101 => (if t101 = true then ((math_Float32frombits.f a0).bind fun t102 => ((math_Float32frombits.f a1).bind fun t103 => ((dither_Ordered.f 4 1 (([0, 1065353216, 0, 0] : List Int)) a2 a3 a4 a5).bind fun bt107 => ((dither_Ordered.f 1 1 (([a0] : List Int)) a2 a3 a4 a5).bind fun bt117 => ((dither_Ordered.f 1 1 (([a1] : List Int)) a2 a3 a4 a5).bind fun bt127 => (if bt107.2.2.2 = 0 then (if bt117.2.2.2 = 0 then (if bt127.2.2.2 = 0 then (if (bt107.2.2.1.length : Int) = 4 then (if (bt117.2.2.1.length : Int) = 1 then (if (bt127.2.2.1.length : Int) = 1 then (if 0 < (bt107.2.2.1.length : Int) then (if (rd bt107.2.2.1 0) = 0 then (if 1 < (bt107.2.2.1.length : Int) then (if (rd bt107.2.2.1 1) = 1065353216 then (if 2 < (bt107.2.2.1.length : Int) then (halidelaw13_DitherRises.j0 k t102 t103 ((rd bt107.2.2.1 2) != 0) bt117.1 bt117.2.1 bt117.2.2.1 bt127.1 bt127.2.1 bt127.2.2.1) else (none)) else (halidelaw13_DitherRises.j0 k t102 t103 true bt117.1 bt117.2.1 bt117.2.2.1 bt127.1 bt127.2.1 bt127.2.2.1)) else (none)) else (halidelaw13_DitherRises.j0 k t102 t103 true bt117.1 bt117.2.1 bt117.2.2.1 bt127.1 bt127.2.1 bt127.2.2.1)) else (none)) else (halidelaw13_DitherRises.j0 k t102 t103 true bt117.1 bt117.2.1 bt117.2.2.1 bt127.1 bt127.2.1 bt127.2.2.1)) else (halidelaw13_DitherRises.j0 k t102 t103 true bt117.1 bt117.2.1 bt117.2.2.1 bt127.1 bt127.2.1 bt127.2.2.1)) else (halidelaw13_DitherRises.j0 k t102 t103 true bt117.1 bt117.2.1 bt117.2.2.1 bt127.1 bt127.2.1 bt127.2.2.1)) else (halidelaw13_DitherRises.j0 k t102 t103 true bt117.1 bt117.2.1 bt117.2.2.1 bt127.1 bt127.2.1 bt127.2.2.1)) else (halidelaw13_DitherRises.j0 k t102 t103 true bt117.1 bt117.2.1 bt117.2.2.1 bt127.1 bt127.2.1 bt127.2.2.1)) else (if bt107.2.2.2 = bt117.2.2.2 then (if bt107.2.2.2 = bt127.2.2.2 then (some ((bt117.2.2.1.length : Int) == 0)) else (some false)) else (some false)))))))) else (some false))) = some r := h
  clear h
  replace H := Option.bind_eq_some_iff.mp H
  obtain ⟨t101, A70, H⟩ := H
  replace H : (if t101 = true then ((math_Float32frombits.f a0).bind fun t102 => ((math_Float32frombits.f a1).bind fun t103 => ((dither_Ordered.f 4 1 (([0, 1065353216, 0, 0] : List Int)) a2 a3 a4 a5).bind fun bt107 => ((dither_Ordered.f 1 1 (([a0] : List Int)) a2 a3 a4 a5).bind fun bt117 => ((dither_Ordered.f 1 1 (([a1] : List Int)) a2 a3 a4 a5).bind fun bt127 => (if bt107.2.2.2 = 0 then (if bt117.2.2.2 = 0 then (if bt127.2.2.2 = 0 then (if (bt107.2.2.1.length : Int) = 4 then (if (bt117.2.2.1.length : Int) = 1 then (if (bt127.2.2.1.length : Int) = 1 then (if 0 < (bt107.2.2.1.length : Int) then (if (rd bt107.2.2.1 0) = 0 then (if 1 < (bt107.2.2.1.length : Int) then (if (rd bt107.2.2.1 1) = 1065353216 then (if 2 < (bt107.2.2.1.length : Int) then (halidelaw13_DitherRises.j0 k t102 t103 ((rd bt107.2.2.1 2) != 0) bt117.1 bt117.2.1 bt117.2.2.1 bt127.1 bt127.2.1 bt127.2.2.1) else (none)) else (halidelaw13_DitherRises.j0 k t102 t103 true bt117.1 bt117.2.1 bt117.2.2.1 bt127.1 bt127.2.1 bt127.2.2.1)) else (none)) else (halidelaw13_DitherRises.j0 k t102 t103 true bt117.1 bt117.2.1 bt117.2.2.1 bt127.1 bt127.2.1 bt127.2.2.1)) else (none)) else (halidelaw13_DitherRises.j0 k t102 t103 true bt117.1 bt117.2.1 bt117.2.2.1 bt127.1 bt127.2.1 bt127.2.2.1)) else (halidelaw13_DitherRises.j0 k t102 t103 true bt117.1 bt117.2.1 bt117.2.2.1 bt127.1 bt127.2.1 bt127.2.2.1)) else (halidelaw13_DitherRises.j0 k t102 t103 true bt117.1 bt117.2.1 bt117.2.2.1 bt127.1 bt127.2.1 bt127.2.2.1)) else (halidelaw13_DitherRises.j0 k t102 t103 true bt117.1 bt117.2.1 bt117.2.2.1 bt127.1 bt127.2.1 bt127.2.2.1)) else (halidelaw13_DitherRises.j0 k t102 t103 true bt117.1 bt117.2.1 bt117.2.2.1 bt127.1 bt127.2.1 bt127.2.2.1)) else (if bt107.2.2.2 = bt117.2.2.2 then (if bt107.2.2.2 = bt127.2.2.2 then (some ((bt117.2.2.1.length : Int) == 0)) else (some false)) else (some false)))))))) else (some false)) = some r := H
  have A7 := Aside0.mk A70
  clear A70
  by_cases c8 : t101 = true
  · subst c8
    have H1 : ((math_Float32frombits.f a0).bind fun t102 => ((math_Float32frombits.f a1).bind fun t103 => ((dither_Ordered.f 4 1 (([0, 1065353216, 0, 0] : List Int)) a2 a3 a4 a5).bind fun bt107 => ((dither_Ordered.f 1 1 (([a0] : List Int)) a2 a3 a4 a5).bind fun bt117 => ((dither_Ordered.f 1 1 (([a1] : List Int)) a2 a3 a4 a5).bind fun bt127 => (if bt107.2.2.2 = 0 then (if bt117.2.2.2 = 0 then (if bt127.2.2.2 = 0 then (if (bt107.2.2.1.length : Int) = 4 then (if (bt117.2.2.1.length : Int) = 1 then (if (bt127.2.2.1.length : Int) = 1 then (if 0 < (bt107.2.2.1.length : Int) then (if (rd bt107.2.2.1 0) = 0 then (if 1 < (bt107.2.2.1.length : Int) then (if (rd bt107.2.2.1 1) = 1065353216 then (if 2 < (bt107.2.2.1.length : Int) then (halidelaw13_DitherRises.j0 k t102 t103 ((rd bt107.2.2.1 2) != 0) bt117.1 bt117.2.1 bt117.2.2.1 bt127.1 bt127.2.1 bt127.2.2.1) else (none)) else (halidelaw13_DitherRises.j0 k t102 t103 true bt117.1 bt117.2.1 bt117.2.2.1 bt127.1 bt127.2.1 bt127.2.2.1)) else (none)) else (halidelaw13_DitherRises.j0 k t102 t103 true bt117.1 bt117.2.1 bt117.2.2.1 bt127.1 bt127.2.1 bt127.2.2.1)) else (none)) else (halidelaw13_DitherRises.j0 k t102 t103 true bt117.1 bt117.2.1 bt117.2.2.1 bt127.1 bt127.2.1 bt127.2.2.1)) else (halidelaw13_DitherRises.j0 k t102 t103 true bt117.1 bt117.2.1 bt117.2.2.1 bt127.1 bt127.2.1 bt127.2.2.1)) else (halidelaw13_DitherRises.j0 k t102 t103 true bt117.1 bt117.2.1 bt117.2.2.1 bt127.1 bt127.2.1 bt127.2.2.1)) else (halidelaw13_DitherRises.j0 k t102 t103 true bt117.1 bt117.2.1 bt117.2.2.1 bt127.1 bt127.2.1 bt127.2.2.1)) else (halidelaw13_DitherRises.j0 k t102 t103 true bt117.1 bt117.2.1 bt117.2.2.1 bt127.1 bt127.2.1 bt127.2.2.1)) else (if bt107.2.2.2 = bt117.2.2.2 then (if bt107.2.2.2 = bt127.2.2.2 then (some ((bt117.2.2.1.length : Int) == 0)) else (some false)) else (some false)))))))) = some r := by rw [if_pos rfl] at H; exact H
    clear H
    have H := H1
    clear H1
    replace H := Option.bind_eq_some_iff.mp H
    obtain ⟨t102, A90, H⟩ := H
    replace H : ((math_Float32frombits.f a1).bind fun t103 => ((dither_Ordered.f 4 1 (([0, 1065353216, 0, 0] : List Int)) a2 a3 a4 a5).bind fun bt107 => ((dither_Ordered.f 1 1 (([a0] : List Int)) a2 a3 a4 a5).bind fun bt117 => ((dither_Ordered.f 1 1 (([a1] : List Int)) a2 a3 a4 a5).bind fun bt127 => (if bt107.2.2.2 = 0 then (if bt117.2.2.2 = 0 then (if bt127.2.2.2 = 0 then (if (bt107.2.2.1.length : Int) = 4 then (if (bt117.2.2.1.length : Int) = 1 then (if (bt127.2.2.1.length : Int) = 1 then (if 0 < (bt107.2.2.1.length : Int) then (if (rd bt107.2.2.1 0) = 0 then (if 1 < (bt107.2.2.1.length : Int) then (if (rd bt107.2.2.1 1) = 1065353216 then (if 2 < (bt107.2.2.1.length : Int) then (halidelaw13_DitherRises.j0 k t102 t103 ((rd bt107.2.2.1 2) != 0) bt117.1 bt117.2.1 bt117.2.2.1 bt127.1 bt127.2.1 bt127.2.2.1) else (none)) else (halidelaw13_DitherRises.j0 k t102 t103 true bt117.1 bt117.2.1 bt117.2.2.1 bt127.1 bt127.2.1 bt127.2.2.1)) else (none)) else (halidelaw13_DitherRises.j0 k t102 t103 true bt117.1 bt117.2.1 bt117.2.2.1 bt127.1 bt127.2.1 bt127.2.2.1)) else (none)) else (halidelaw13_DitherRises.j0 k t102 t103 true bt117.1 bt117.2.1 bt117.2.2.1 bt127.1 bt127.2.1 bt127.2.2.1)) else (halidelaw13_DitherRises.j0 k t102 t103 true bt117.1 bt117.2.1 bt117.2.2.1 bt127.1 bt127.2.1 bt127.2.2.1)) else (halidelaw13_DitherRises.j0 k t102 t103 true bt117.1 bt117.2.1 bt117.2.2.1 bt127.1 bt127.2.1 bt127.2.2.1)) else (halidelaw13_DitherRises.j0 k t102 t103 true bt117.1 bt117.2.1 bt117.2.2.1 bt127.1 bt127.2.1 bt127.2.2.1)) else (halidelaw13_DitherRises.j0 k t102 t103 true bt117.1 bt117.2.1 bt117.2.2.1 bt127.1 bt127.2.1 bt127.2.2.1)) else (if bt107.2.2.2 = bt117.2.2.2 then (if bt107.2.2.2 = bt127.2.2.2 then (some ((bt117.2.2.1.length : Int) == 0)) else (some false)) else (some false))))))) = some r := H
    have A9 := Aside0.mk A90
    clear A90
    replace H := Option.bind_eq_some_iff.mp H
    obtain ⟨t103, A100, H⟩ := H
    replace H : ((dither_Ordered.f 4 1 (([0, 1065353216, 0, 0] : List Int)) a2 a3 a4 a5).bind fun bt107 => ((dither_Ordered.f 1 1 (([a0] : List Int)) a2 a3 a4 a5).bind fun bt117 => ((dither_Ordered.f 1 1 (([a1] : List Int)) a2 a3 a4 a5).bind fun bt127 => (if bt107.2.2.2 = 0 then (if bt117.2.2.2 = 0 then (if bt127.2.2.2 = 0 then (if (bt107.2.2.1.length : Int) = 4 then (if (bt117.2.2.1.length : Int) = 1 then (if (bt127.2.2.1.length : Int) = 1 then (if 0 < (bt107.2.2.1.length : Int) then (if (rd bt107.2.2.1 0) = 0 then (if 1 < (bt107.2.2.1.length : Int) then (if (rd bt107.2.2.1 1) = 1065353216 then (if 2 < (bt107.2.2.1.length : Int) then (halidelaw13_DitherRises.j0 k t102 t103 ((rd bt107.2.2.1 2) != 0) bt117.1 bt117.2.1 bt117.2.2.1 bt127.1 bt127.2.1 bt127.2.2.1) else (none)) else (halidelaw13_DitherRises.j0 k t102 t103 true bt117.1 bt117.2.1 bt117.2.2.1 bt127.1 bt127.2.1 bt127.2.2.1)) else (none)) else (halidelaw13_DitherRises.j0 k t102 t103 true bt117.1 bt117.2.1 bt117.2.2.1 bt127.1 bt127.2.1 bt127.2.2.1)) else (none)) else (halidelaw13_DitherRises.j0 k t102 t103 true bt117.1 bt117.2.1 bt117.2.2.1 bt127.1 bt127.2.1 bt127.2.2.1)) else (halidelaw13_DitherRises.j0 k t102 t103 true bt117.1 bt117.2.1 bt117.2.2.1 bt127.1 bt127.2.1 bt127.2.2.1)) else (halidelaw13_DitherRises.j0 k t102 t103 true bt117.1 bt117.2.1 bt117.2.2.1 bt127.1 bt127.2.1 bt127.2.2.1)) else (halidelaw13_DitherRises.j0 k t102 t103 true bt117.1 bt117.2.1 bt117.2.2.1 bt127.1 bt127.2.1 bt127.2.2.1)) else (halidelaw13_DitherRises.j0 k t102 t103 true bt117.1 bt117.2.1 bt117.2.2.1 bt127.1 bt127.2.1 bt127.2.2.1)) else (if bt107.2.2.2 = bt117.2.2.2 then (if bt107.2.2.2 = bt127.2.2.2 then (some ((bt117.2.2.1.length : Int) == 0)) else (some false)) else (some false)))))) = some r := H
    have A10 := Aside0.mk A100
    clear A100
    obtain ⟨y104, hy104⟩ : ∃ y_ : List Int, y_ = (([0, 1065353216, 0, 0] : List Int)) := ⟨_, rfl⟩
    replace H : ((dither_Ordered.f 4 1 y104 a2 a3 a4 a5).bind fun bt107 => ((dither_Ordered.f 1 1 (([a0] : List Int)) a2 a3 a4 a5).bind fun bt117 => ((dither_Ordered.f 1 1 (([a1] : List Int)) a2 a3 a4 a5).bind fun bt127 => (if bt107.2.2.2 = 0 then (if bt117.2.2.2 = 0 then (if bt127.2.2.2 = 0 then (if (bt107.2.2.1.length : Int) = 4 then (if (bt117.2.2.1.length : Int) = 1 then (if (bt127.2.2.1.length : Int) = 1 then (if 0 < (bt107.2.2.1.length : Int) then (if (rd bt107.2.2.1 0) = 0 then (if 1 < (bt107.2.2.1.length : Int) then (if (rd bt107.2.2.1 1) = 1065353216 then (if 2 < (bt107.2.2.1.length : Int) then (halidelaw13_DitherRises.j0 k t102 t103 ((rd bt107.2.2.1 2) != 0) bt117.1 bt117.2.1 bt117.2.2.1 bt127.1 bt127.2.1 bt127.2.2.1) else (none)) else (halidelaw13_DitherRises.j0 k t102 t103 true bt117.1 bt117.2.1 bt117.2.2.1 bt127.1 bt127.2.1 bt127.2.2.1)) else (none)) else (halidelaw13_DitherRises.j0 k t102 t103 true bt117.1 bt117.2.1 bt117.2.2.1 bt127.1 bt127.2.1 bt127.2.2.1)) else (none)) else (halidelaw13_DitherRises.j0 k t102 t103 true bt117.1 bt117.2.1 bt117.2.2.1 bt127.1 bt127.2.1 bt127.2.2.1)) else (halidelaw13_DitherRises.j0 k t102 t103 true bt117.1 bt117.2.1 bt117.2.2.1 bt127.1 bt127.2.1 bt127.2.2.1)) else (halidelaw13_DitherRises.j0 k t102 t103 true bt117.1 bt117.2.1 bt117.2.2.1 bt127.1 bt127.2.1 bt127.2.2.1)) else (halidelaw13_DitherRises.j0 k t102 t103 true bt117.1 bt117.2.1 bt117.2.2.1 bt127.1 bt127.2.1 bt127.2.2.1)) else (halidelaw13_DitherRises.j0 k t102 t103 true bt117.1 bt117.2.1 bt117.2.2.1 bt127.1 bt127.2.1 bt127.2.2.1)) else (if bt107.2.2.2 = bt117.2.2.2 then (if bt107.2.2.2 = bt127.2.2.2 then (some ((bt117.2.2.1.length : Int) == 0)) else (some false)) else (some false)))))) = some r := by first | (rw [hy104]; with_reducible exact H) | (have H2_ := (Option.bind_some _ _).symm.trans H; rw [hy104]; with_reducible exact H2_) | (have H2_ := (Option.bind_some _ _).symm.trans H; with_reducible exact H2_) | with_reducible exact H | (rw [hy104]; exact H) | exact H
    have Ny104 := Aside0.mk hy104
    clear hy104
    replace H := Option.bind_eq_some_iff.mp H
    obtain ⟨⟨t107, t108, t109, t112⟩, A110, H⟩ := H
    replace H : ((dither_Ordered.f 1 1 (([a0] : List Int)) a2 a3 a4 a5).bind fun bt117 => ((dither_Ordered.f 1 1 (([a1] : List Int)) a2 a3 a4 a5).bind fun bt127 => (if t112 = 0 then (if bt117.2.2.2 = 0 then (if bt127.2.2.2 = 0 then (if (t109.length : Int) = 4 then (if (bt117.2.2.1.length : Int) = 1 then (if (bt127.2.2.1.length : Int) = 1 then (if 0 < (t109.length : Int) then (if (rd t109 0) = 0 then (if 1 < (t109.length : Int) then (if (rd t109 1) = 1065353216 then (if 2 < (t109.length : Int) then (halidelaw13_DitherRises.j0 k t102 t103 ((rd t109 2) != 0) bt117.1 bt117.2.1 bt117.2.2.1 bt127.1 bt127.2.1 bt127.2.2.1) else (none)) else (halidelaw13_DitherRises.j0 k t102 t103 true bt117.1 bt117.2.1 bt117.2.2.1 bt127.1 bt127.2.1 bt127.2.2.1)) else (none)) else (halidelaw13_DitherRises.j0 k t102 t103 true bt117.1 bt117.2.1 bt117.2.2.1 bt127.1 bt127.2.1 bt127.2.2.1)) else (none)) else (halidelaw13_DitherRises.j0 k t102 t103 true bt117.1 bt117.2.1 bt117.2.2.1 bt127.1 bt127.2.1 bt127.2.2.1)) else (halidelaw13_DitherRises.j0 k t102 t103 true bt117.1 bt117.2.1 bt117.2.2.1 bt127.1 bt127.2.1 bt127.2.2.1)) else (halidelaw13_DitherRises.j0 k t102 t103 true bt117.1 bt117.2.1 bt117.2.2.1 bt127.1 bt127.2.1 bt127.2.2.1)) else (halidelaw13_DitherRises.j0 k t102 t103 true bt117.1 bt117.2.1 bt117.2.2.1 bt127.1 bt127.2.1 bt127.2.2.1)) else (halidelaw13_DitherRises.j0 k t102 t103 true bt117.1 bt117.2.1 bt117.2.2.1 bt127.1 bt127.2.1 bt127.2.2.1)) else (if t112 = bt117.2.2.2 then (if t112 = bt127.2.2.2 then (some ((bt117.2.2.1.length : Int) == 0)) else (some false)) else (some false))))) = some r := H
    have A11 := Aside0.mk A110
    clear A110
    obtain ⟨y114, hy114⟩ : ∃ y_ : List Int, y_ = (([a0] : List Int)) := ⟨_, rfl⟩
    replace H : ((dither_Ordered.f 1 1 y114 a2 a3 a4 a5).bind fun bt117 => ((dither_Ordered.f 1 1 (([a1] : List Int)) a2 a3 a4 a5).bind fun bt127 => (if t112 = 0 then (if bt117.2.2.2 = 0 then (if bt127.2.2.2 = 0 then (if (t109.length : Int) = 4 then (if (bt117.2.2.1.length : Int) = 1 then (if (bt127.2.2.1.length : Int) = 1 then (if 0 < (t109.length : Int) then (if (rd t109 0) = 0 then (if 1 < (t109.length : Int) then (if (rd t109 1) = 1065353216 then (if 2 < (t109.length : Int) then (halidelaw13_DitherRises.j0 k t102 t103 ((rd t109 2) != 0) bt117.1 bt117.2.1 bt117.2.2.1 bt127.1 bt127.2.1 bt127.2.2.1) else (none)) else (halidelaw13_DitherRises.j0 k t102 t103 true bt117.1 bt117.2.1 bt117.2.2.1 bt127.1 bt127.2.1 bt127.2.2.1)) else (none)) else (halidelaw13_DitherRises.j0 k t102 t103 true bt117.1 bt117.2.1 bt117.2.2.1 bt127.1 bt127.2.1 bt127.2.2.1)) else (none)) else (halidelaw13_DitherRises.j0 k t102 t103 true bt117.1 bt117.2.1 bt117.2.2.1 bt127.1 bt127.2.1 bt127.2.2.1)) else (halidelaw13_DitherRises.j0 k t102 t103 true bt117.1 bt117.2.1 bt117.2.2.1 bt127.1 bt127.2.1 bt127.2.2.1)) else (halidelaw13_DitherRises.j0 k t102 t103 true bt117.1 bt117.2.1 bt117.2.2.1 bt127.1 bt127.2.1 bt127.2.2.1)) else (halidelaw13_DitherRises.j0 k t102 t103 true bt117.1 bt117.2.1 bt117.2.2.1 bt127.1 bt127.2.1 bt127.2.2.1)) else (halidelaw13_DitherRises.j0 k t102 t103 true bt117.1 bt117.2.1 bt117.2.2.1 bt127.1 bt127.2.1 bt127.2.2.1)) else (if t112 = bt117.2.2.2 then (if t112 = bt127.2.2.2 then (some ((bt117.2.2.1.length : Int) == 0)) else (some false)) else (some false))))) = some r := by first | (rw [hy114]; with_reducible exact H) | (have H2_ := (Option.bind_some _ _).symm.trans H; rw [hy114]; with_reducible exact H2_) | (have H2_ := (Option.bind_some _ _).symm.trans H; with_reducible exact H2_) | with_reducible exact H | (rw [hy114]; exact H) | exact H
    have Ny114 := Aside0.mk hy114
    clear hy114
    replace H := Option.bind_eq_some_iff.mp H
    obtain ⟨⟨t117, t118, t119, t122⟩, A120, H⟩ := H
    replace H : ((dither_Ordered.f 1 1 (([a1] : List Int)) a2 a3 a4 a5).bind fun bt127 => (if t112 = 0 then (if t122 = 0 then (if bt127.2.2.2 = 0 then (if (t109.length : Int) = 4 then (if (t119.length : Int) = 1 then (if (bt127.2.2.1.length : Int) = 1 then (if 0 < (t109.length : Int) then (if (rd t109 0) = 0 then (if 1 < (t109.length : Int) then (if (rd t109 1) = 1065353216 then (if 2 < (t109.length : Int) then (halidelaw13_DitherRises.j0 k t102 t103 ((rd t109 2) != 0) t117 t118 t119 bt127.1 bt127.2.1 bt127.2.2.1) else (none)) else (halidelaw13_DitherRises.j0 k t102 t103 true t117 t118 t119 bt127.1 bt127.2.1 bt127.2.2.1)) else (none)) else (halidelaw13_DitherRises.j0 k t102 t103 true t117 t118 t119 bt127.1 bt127.2.1 bt127.2.2.1)) else (none)) else (halidelaw13_DitherRises.j0 k t102 t103 true t117 t118 t119 bt127.1 bt127.2.1 bt127.2.2.1)) else (halidelaw13_DitherRises.j0 k t102 t103 true t117 t118 t119 bt127.1 bt127.2.1 bt127.2.2.1)) else (halidelaw13_DitherRises.j0 k t102 t103 true t117 t118 t119 bt127.1 bt127.2.1 bt127.2.2.1)) else (halidelaw13_DitherRises.j0 k t102 t103 true t117 t118 t119 bt127.1 bt127.2.1 bt127.2.2.1)) else (halidelaw13_DitherRises.j0 k t102 t103 true t117 t118 t119 bt127.1 bt127.2.1 bt127.2.2.1)) else (if t112 = t122 then (if t112 = bt127.2.2.2 then (some ((t119.length : Int) == 0)) else (some false)) else (some false)))) = some r := H
    have A12 := Aside0.mk A120
    clear A120
    obtain ⟨y124, hy124⟩ : ∃ y_ : List Int, y_ = (([a1] : List Int)) := ⟨_, rfl⟩
    replace H : ((dither_Ordered.f 1 1 y124 a2 a3 a4 a5).bind fun bt127 => (if t112 = 0 then (if t122 = 0 then (if bt127.2.2.2 = 0 then (if (t109.length : Int) = 4 then (if (t119.length : Int) = 1 then (if (bt127.2.2.1.length : Int) = 1 then (if 0 < (t109.length : Int) then (if (rd t109 0) = 0 then (if 1 < (t109.length : Int) then (if (rd t109 1) = 1065353216 then (if 2 < (t109.length : Int) then (halidelaw13_DitherRises.j0 k t102 t103 ((rd t109 2) != 0) t117 t118 t119 bt127.1 bt127.2.1 bt127.2.2.1) else (none)) else (halidelaw13_DitherRises.j0 k t102 t103 true t117 t118 t119 bt127.1 bt127.2.1 bt127.2.2.1)) else (none)) else (halidelaw13_DitherRises.j0 k t102 t103 true t117 t118 t119 bt127.1 bt127.2.1 bt127.2.2.1)) else (none)) else (halidelaw13_DitherRises.j0 k t102 t103 true t117 t118 t119 bt127.1 bt127.2.1 bt127.2.2.1)) else (halidelaw13_DitherRises.j0 k t102 t103 true t117 t118 t119 bt127.1 bt127.2.1 bt127.2.2.1)) else (halidelaw13_DitherRises.j0 k t102 t103 true t117 t118 t119 bt127.1 bt127.2.1 bt127.2.2.1)) else (halidelaw13_DitherRises.j0 k t102 t103 true t117 t118 t119 bt127.1 bt127.2.1 bt127.2.2.1)) else (halidelaw13_DitherRises.j0 k t102 t103 true t117 t118 t119 bt127.1 bt127.2.1 bt127.2.2.1)) else (if t112 = t122 then (if t112 = bt127.2.2.2 then (some ((t119.length : Int) == 0)) else (some false)) else (some false)))) = some r := by first | (rw [hy124]; with_reducible exact H) | (have H2_ := (Option.bind_some _ _).symm.trans H; rw [hy124]; with_reducible exact H2_) | (have H2_ := (Option.bind_some _ _).symm.trans H; with_reducible exact H2_) | with_reducible exact H | (rw [hy124]; exact H) | exact H
    have Ny124 := Aside0.mk hy124
    clear hy124
    replace H := Option.bind_eq_some_iff.mp H
    obtain ⟨⟨t127, t128, t129, t132⟩, A130, H⟩ := H
    replace H : (if t112 = 0 then (if t122 = 0 then (if t132 = 0 then (if (t109.length : Int) = 4 then (if (t119.length : Int) = 1 then (if (t129.length : Int) = 1 then (if 0 < (t109.length : Int) then (if (rd t109 0) = 0 then (if 1 < (t109.length : Int) then (if (rd t109 1) = 1065353216 then (if 2 < (t109.length : Int) then (halidelaw13_DitherRises.j0 k t102 t103 ((rd t109 2) != 0) t117 t118 t119 t127 t128 t129) else (none)) else (halidelaw13_DitherRises.j0 k t102 t103 true t117 t118 t119 t127 t128 t129)) else (none)) else (halidelaw13_DitherRises.j0 k t102 t103 true t117 t118 t119 t127 t128 t129)) else (none)) else (halidelaw13_DitherRises.j0 k t102 t103 true t117 t118 t119 t127 t128 t129)) else (halidelaw13_DitherRises.j0 k t102 t103 true t117 t118 t119 t127 t128 t129)) else (halidelaw13_DitherRises.j0 k t102 t103 true t117 t118 t119 t127 t128 t129)) else (halidelaw13_DitherRises.j0 k t102 t103 true t117 t118 t119 t127 t128 t129)) else (halidelaw13_DitherRises.j0 k t102 t103 true t117 t118 t119 t127 t128 t129)) else (if t112 = t122 then (if t112 = t132 then (some ((t119.length : Int) == 0)) else (some false)) else (some false))) = some r := H
    have A13 := Aside0.mk A130
    clear A130
    by_cases c14 : t112 = 0
    · rw [if_pos c14] at H
      have c14b0 : (t112 == 0) = true := beq_iff_eq.mpr c14
      have c14b1 : (t112 != 0) = false := bne_eq_false_iff_eq.mpr c14
      clear c14
      have HC15 := Aside0.mk H
      clear H
      go_enter Try.func7, Try.ntmps7
      go_upto_region 9 with (first | (go_at_call 10; (with_reducible refine (halidelaw13_known.calls k  true _ A7.out).mono ?_); rintro e w16 ⟨rfl, hb⟩; have n0_ := Aside0.mk (below_step (by repeat (first | (with_reducible first | exact HB.out | apply below_alloc | apply pw_below_drewN | apply below_drew1) | exact HB.out)) hb); clear HB; have HB := n0_; clear n0_; (try clear hb); (try clear hb2); (try clear hk); (try clear hi)) | (go_at_call 29; (with_reducible refine (math_Float32frombits.calls a0 t102 _ A9.out).mono ?_); rintro e w' ⟨rfl, ⟨nd, rfl⟩⟩; (try first | exact ⟨rfl, _, World.drewN_drewN _ _ _⟩ | exact ⟨rfl, _, Eq.trans (World.drewN_drewN _ _ _) (congrArg (World.drewN _) (Nat.add_assoc _ _ _))⟩)) | (go_at_call 29; (with_reducible refine (math_Float32frombits.calls a1 t103 _ A10.out).mono ?_); rintro e w' ⟨rfl, ⟨nd, rfl⟩⟩; (try first | exact ⟨rfl, _, World.drewN_drewN _ _ _⟩ | exact ⟨rfl, _, Eq.trans (World.drewN_drewN _ _ _) (congrArg (World.drewN _) (Nat.add_assoc _ _ _))⟩)) | ((with_reducible refine gate_dst (N := 28) rfl ?_); (try (refine gate_guard (by rfl) ?_; dsimp only)); refine Kd.R_lit (Kd.int .u32) _ 48 ?hg (N := 28) ?hd (xs := ([0, 1065353216, 0, 0] : List Int)) (inner := [.int .u32 0, .int .u32 1065353216, .int .u32 0, .int .u32 0]) (ok := fun _ => True) (okp := fun _ => True) ?hr ?hp (fun _ hk => hk) trivial (Below.refl _ _) (Nat.le_refl _) (by simp) ?_; (case hd => rfl); (case hg => rfl); (case hr => first | (go_simp; done) | (go_simp; rfl)); (case hp => exact (Reps.one (show Kd.M (Kd.int .u32) _ _ _ 0 [.int .u32 0] from rfl) (Reps.one (show Kd.M (Kd.int .u32) _ _ _ 1065353216 [.int .u32 1065353216] from rfl) (Reps.one (show Kd.M (Kd.int .u32) _ _ _ 0 [.int .u32 0] from rfl) (Reps.one (show Kd.M (Kd.int .u32) _ _ _ 0 [.int .u32 0] from rfl) (Reps.none _ _)))))); intro v105 w17 ho18 hb hg_ hnew_; clear hg_ hnew_; (first | rw [← Ny104.out] at ho18 | (simp only [Int.reduceToNat] at ho18; rw [← Ny104.out] at ho18)); have n0_ := Aside0.mk (Kd.R_lower ho18 (below_size (by repeat (first | (with_reducible first | exact HB.out | apply below_alloc | apply pw_below_drewN | apply below_drew1) | exact HB.out)))); have n1_ := Aside0.mk (below_step (by repeat (first | (with_reducible first | exact HB.out | apply below_alloc | apply pw_below_drewN | apply below_drew1) | exact HB.out)) hb); clear HB; have HO106 := n0_; have HB := n1_; clear n0_ n1_; clear hb ho18; obtain ⟨Ao19, co19, eo19⟩ := Kd.R_slice HO106.out; subst eo19) | (go_at_call 16; (with_reducible refine (dither_Ordered.calls 4 1 _ _ y104 a2 a3 a4 a5 t107 t108 t109 t112 _ ?side1 ?side2 A11.out).mono ?_); (case side1 => repeat (first | exact (Kd.R_reads' HO106.out).2.2 | (with_reducible refine Kd.C_alloc ?_ _) | (with_reducible refine Kd.C_drewN ?_ _) | (with_reducible refine Kd.C_drew ?_))); (case side2 => exact (Kd.R_reads' HO106.out).2.1); rintro e w20 ⟨v110, rfl, ho0, hb⟩; have n0_ := Aside0.mk (Kd.R_elder' (by (with_reducible repeat (first | apply Kd.R_alloc | apply Kd.R_drewN | apply Kd.R_drew)); exact HO106.out) (Kd.R_base ho0) hb); have n1_ := Aside0.mk (Kd.R_lower (Kd.R_new' ho0 (Kd.R_lt (by (with_reducible repeat (first | apply Kd.R_alloc | apply Kd.R_drewN | apply Kd.R_drew)); exact HO106.out))) (below_size (by repeat (first | (with_reducible first | exact HB.out | apply below_alloc | apply pw_below_drewN | apply below_drew1) | exact HB.out)))); have n2_ := Aside0.mk (below_step (by repeat (first | (with_reducible first | exact HB.out | apply below_alloc | apply pw_below_drewN | apply below_drew1) | exact HB.out)) hb); clear HO106; clear HB; have HO106 := n0_; have HO111 := n1_; have HB := n2_; clear n0_ n1_ n2_; (try clear hb); (try clear hb2); (try clear hk); (try clear hi); (try clear ho0)) | ((with_reducible refine gate_dst (N := 15) rfl ?_); (try (refine gate_guard (by rfl) ?_; dsimp only)); refine box_event ?hg (N := 15) ?hd (cs := #[.int .i64 0, .int .i64 0, .slice none 0 0]) (t := 35) ?hr ?_; (case hd => rfl); (case hg => rfl); (case hr => first | (go_simp; done) | (go_simp; rfl)); intro gb113 hg w21 hbox hb; have n0_ := Aside0.mk (Kd.R_below (by (with_reducible repeat (first | apply Kd.R_alloc | apply Kd.R_drewN | apply Kd.R_drew)); exact HO106.out) hb); have n1_ := Aside0.mk (Kd.R_below (by (with_reducible repeat (first | apply Kd.R_alloc | apply Kd.R_drewN | apply Kd.R_drew)); exact HO111.out) hb); have n2_ := Aside0.mk (below_step (by repeat (first | (with_reducible first | exact HB.out | apply below_alloc | apply pw_below_drewN | apply below_drew1) | exact HB.out)) hb); have n3_ := Aside0.mk (hbox); have n4_ := Aside0.mk ((by rw [hg]; exact (below_size (by repeat (first | (with_reducible first | exact HB.out | apply below_alloc | apply pw_below_drewN | apply below_drew1) | exact HB.out))) : w.heap.size ≤ gb113)); have n5_ := Aside0.mk ((by rw [hg]; exact (below_size (by repeat (first | (with_reducible first | exact HB.out | apply below_alloc | apply pw_below_drewN | apply below_drew1) | exact HB.out))) : w.heap.size ≤ gb113)); clear HO106; clear HO111; clear HB; have HO106 := n0_; have HO111 := n1_; have HB := n2_; have BK113 := n3_; have GW113 := n4_; have GE113 := n5_; clear n0_ n1_ n2_ n3_ n4_ n5_; clear hb hbox hg; have hcz22_0 : w21.cell? ⟨gb113, 0, none⟩ = some (.int .i64 0) := (blk_cell BK113.out 0).trans rfl; have hcz22_1 : w21.cell? ⟨gb113, 1, none⟩ = some (.int .i64 0) := (blk_cell BK113.out 1).trans rfl; have hcz22_2 : w21.cell? ⟨gb113, 2, none⟩ = some (.slice none 0 0) := (blk_cell BK113.out 2).trans rfl; have hfz22_0 := blk_frozen BK113.out 0; have hfz22_1 := blk_frozen BK113.out 1; have hfz22_2 := blk_frozen BK113.out 2; obtain ⟨Ao23, co23, eo23⟩ := Kd.R_slice HO111.out; subst eo23) | ((with_reducible refine gate_dst (N := 39) rfl ?_); (try (refine gate_guard (by rfl) ?_; dsimp only)); refine Kd.R_lit (Kd.int .u32) _ 48 ?hg (N := 39) ?hd (xs := ([a0] : List Int)) (inner := [.int .u32 a0]) (ok := fun _ => True) (okp := fun _ => True) ?hr ?hp (fun _ hk => hk) trivial (Below.refl _ _) (Nat.le_refl _) (by simp) ?_; (case hd => rfl); (case hg => rfl); (case hr => first | (go_simp; done) | (go_simp; rfl)); (case hp => exact (Reps.one (show Kd.M (Kd.int .u32) _ _ _ a0 [.int .u32 a0] from rfl) (Reps.none _ _))); intro v115 w24 ho25 hb hg_ hnew_; clear hg_ hnew_; (first | rw [← Ny114.out] at ho25 | (simp only [Int.reduceToNat] at ho25; rw [← Ny114.out] at ho25)); have n0_ := Aside0.mk (Kd.R_elder' (by (with_reducible repeat (first | apply Kd.R_alloc | apply Kd.R_drewN | apply Kd.R_drew)); exact (Kd.R_mono (Kd.R_far (p := ⟨gb113, 2, none⟩) (Kd.R_far (p := ⟨gb113, 1, none⟩) (Kd.R_far (p := ⟨gb113, 0, none⟩) (Kd.R_types HO106.out BK113.out (by decide)) (fun _ hk => hk.2) (.int .i64 t107)) (fun _ hk => hk.2) (.int .i64 t108)) (fun _ hk => hk.2) (.slice Ao23 t109.length co23)) (fun _ h_ => h_.1))) (Kd.R_base ho25) hb); have n1_ := Aside0.mk (Kd.R_elder' (by (with_reducible repeat (first | apply Kd.R_alloc | apply Kd.R_drewN | apply Kd.R_drew)); exact (Kd.R_mono (Kd.R_far (p := ⟨gb113, 2, none⟩) (Kd.R_far (p := ⟨gb113, 1, none⟩) (Kd.R_far (p := ⟨gb113, 0, none⟩) (Kd.R_types HO111.out BK113.out (by decide)) (fun _ hk => hk.2) (.int .i64 t107)) (fun _ hk => hk.2) (.int .i64 t108)) (fun _ hk => hk.2) (.slice Ao23 t109.length co23)) (fun _ h_ => h_.1))) (Kd.R_base ho25) hb); have n2_ := Aside0.mk (Kd.R_lower (Kd.R_new' (Kd.R_new' ho25 (Kd.R_lt (by (with_reducible repeat (first | apply Kd.R_alloc | apply Kd.R_drewN | apply Kd.R_drew)); exact (Kd.R_mono (Kd.R_far (p := ⟨gb113, 2, none⟩) (Kd.R_far (p := ⟨gb113, 1, none⟩) (Kd.R_far (p := ⟨gb113, 0, none⟩) (Kd.R_types HO106.out BK113.out (by decide)) (fun _ hk => hk.2) (.int .i64 t107)) (fun _ hk => hk.2) (.int .i64 t108)) (fun _ hk => hk.2) (.slice Ao23 t109.length co23)) (fun _ h_ => h_.1))))) (Kd.R_lt (by (with_reducible repeat (first | apply Kd.R_alloc | apply Kd.R_drewN | apply Kd.R_drew)); exact (Kd.R_mono (Kd.R_far (p := ⟨gb113, 2, none⟩) (Kd.R_far (p := ⟨gb113, 1, none⟩) (Kd.R_far (p := ⟨gb113, 0, none⟩) (Kd.R_types HO111.out BK113.out (by decide)) (fun _ hk => hk.2) (.int .i64 t107)) (fun _ hk => hk.2) (.int .i64 t108)) (fun _ hk => hk.2) (.slice Ao23 t109.length co23)) (fun _ h_ => h_.1))))) (below_size (by repeat (first | (with_reducible first | exact HB.out | apply below_alloc | apply pw_below_drewN | apply below_drew1 | refine below_set ?_ GE113.out) | exact HB.out)))); have n3_ := Aside0.mk (blk_below (g := gb113) (o := .cells #[.int .i64 t107, .int .i64 t108, .slice Ao23 t109.length co23] 35 (0, 0)) (by (with_reducible repeat (first | refine blk_drewN ?_ _ | refine blk_drew ?_ | refine blk_alloc ?_ _)); refine blk_put (cs := #[.int .i64 t107, .int .i64 t108, .slice none 0 0]) ?_ 2 _ rfl; (with_reducible repeat (first | refine blk_drewN ?_ _ | refine blk_drew ?_ | refine blk_alloc ?_ _)); refine blk_put (cs := #[.int .i64 t107, .int .i64 0, .slice none 0 0]) ?_ 1 _ rfl; (with_reducible repeat (first | refine blk_drewN ?_ _ | refine blk_drew ?_ | refine blk_alloc ?_ _)); refine blk_put (cs := #[.int .i64 0, .int .i64 0, .slice none 0 0]) ?_ 0 _ rfl; (with_reducible repeat (first | refine blk_drewN ?_ _ | refine blk_drew ?_ | refine blk_alloc ?_ _)); exact BK113.out) hb); have n4_ := Aside0.mk (below_step (by repeat (first | (with_reducible first | exact HB.out | apply below_alloc | apply pw_below_drewN | apply below_drew1 | refine below_set ?_ GE113.out) | exact HB.out)) hb); clear HO106; clear HO111; clear BK113; clear HB; have HO106 := n0_; have HO111 := n1_; have HO116 := n2_; have BK113 := n3_; have HB := n4_; clear n0_ n1_ n2_ n3_ n4_; clear hb ho25; obtain ⟨Ao26, co26, eo26⟩ := Kd.R_slice HO116.out; subst eo26) | (go_at_call 16; (with_reducible refine (dither_Ordered.calls 1 1 _ _ y114 a2 a3 a4 a5 t117 t118 t119 t122 _ ?side1 ?side2 A12.out).mono ?_); (case side1 => repeat (first | exact (Kd.R_reads' HO116.out).2.2 | (with_reducible refine Kd.C_alloc ?_ _) | (with_reducible refine Kd.C_drewN ?_ _) | (with_reducible refine Kd.C_drew ?_))); (case side2 => exact (Kd.R_reads' HO116.out).2.1); rintro e w27 ⟨v120, rfl, ho0, hb⟩; have n0_ := Aside0.mk (Kd.R_elder' (by (with_reducible repeat (first | apply Kd.R_alloc | apply Kd.R_drewN | apply Kd.R_drew)); exact HO106.out) (Kd.R_base ho0) hb); have n1_ := Aside0.mk (Kd.R_elder' (by (with_reducible repeat (first | apply Kd.R_alloc | apply Kd.R_drewN | apply Kd.R_drew)); exact HO111.out) (Kd.R_base ho0) hb); have n2_ := Aside0.mk (Kd.R_elder' (by (with_reducible repeat (first | apply Kd.R_alloc | apply Kd.R_drewN | apply Kd.R_drew)); exact HO116.out) (Kd.R_base ho0) hb); have n3_ := Aside0.mk (Kd.R_lower (Kd.R_new' (Kd.R_new' (Kd.R_new' ho0 (Kd.R_lt (by (with_reducible repeat (first | apply Kd.R_alloc | apply Kd.R_drewN | apply Kd.R_drew)); exact HO106.out))) (Kd.R_lt (by (with_reducible repeat (first | apply Kd.R_alloc | apply Kd.R_drewN | apply Kd.R_drew)); exact HO111.out))) (Kd.R_lt (by (with_reducible repeat (first | apply Kd.R_alloc | apply Kd.R_drewN | apply Kd.R_drew)); exact HO116.out))) (below_size (by repeat (first | (with_reducible first | exact HB.out | apply below_alloc | apply pw_below_drewN | apply below_drew1 | refine below_set ?_ GE113.out) | exact HB.out)))); have n4_ := Aside0.mk (blk_below (g := gb113) (o := .cells #[.int .i64 t107, .int .i64 t108, .slice Ao23 t109.length co23] 35 (0, 0)) (by (with_reducible repeat (first | refine blk_drewN ?_ _ | refine blk_drew ?_ | refine blk_alloc ?_ _)); exact BK113.out) hb); have n5_ := Aside0.mk (below_step (by repeat (first | (with_reducible first | exact HB.out | apply below_alloc | apply pw_below_drewN | apply below_drew1 | refine below_set ?_ GE113.out) | exact HB.out)) hb); clear HO106; clear HO111; clear HO116; clear BK113; clear HB; have HO106 := n0_; have HO111 := n1_; have HO116 := n2_; have HO121 := n3_; have BK113 := n4_; have HB := n5_; clear n0_ n1_ n2_ n3_ n4_ n5_; (try clear hb); (try clear hb2); (try clear hk); (try clear hi); (try clear ho0)) | ((with_reducible refine gate_dst (N := 17) rfl ?_); (try (refine gate_guard (by rfl) ?_; dsimp only)); refine box_event ?hg (N := 17) ?hd (cs := #[.int .i64 0, .int .i64 0, .slice none 0 0]) (t := 35) ?hr ?_; (case hd => rfl); (case hg => rfl); (case hr => first | (go_simp; done) | (go_simp; rfl)); intro gb123 hg w28 hbox hb; have n0_ := Aside0.mk (Kd.R_below (by (with_reducible repeat (first | apply Kd.R_alloc | apply Kd.R_drewN | apply Kd.R_drew)); exact HO106.out) hb); have n1_ := Aside0.mk (Kd.R_below (by (with_reducible repeat (first | apply Kd.R_alloc | apply Kd.R_drewN | apply Kd.R_drew)); exact HO111.out) hb); have n2_ := Aside0.mk (Kd.R_below (by (with_reducible repeat (first | apply Kd.R_alloc | apply Kd.R_drewN | apply Kd.R_drew)); exact HO116.out) hb); have n3_ := Aside0.mk (Kd.R_below (by (with_reducible repeat (first | apply Kd.R_alloc | apply Kd.R_drewN | apply Kd.R_drew)); exact HO121.out) hb); have n4_ := Aside0.mk (blk_below (g := gb113) (o := .cells #[.int .i64 t107, .int .i64 t108, .slice Ao23 t109.length co23] 35 (0, 0)) (by (with_reducible repeat (first | refine blk_drewN ?_ _ | refine blk_drew ?_ | refine blk_alloc ?_ _)); exact BK113.out) hb); have n5_ := Aside0.mk (below_step (by repeat (first | (with_reducible first | exact HB.out | apply below_alloc | apply pw_below_drewN | apply below_drew1 | refine below_set ?_ GE113.out) | exact HB.out)) hb); have n6_ := Aside0.mk (hbox); have n7_ := Aside0.mk ((by rw [hg]; exact (below_size (by repeat (first | (with_reducible first | exact HB.out | apply below_alloc | apply pw_below_drewN | apply below_drew1 | refine below_set ?_ GE113.out) | exact HB.out))) : w.heap.size ≤ gb123)); have n8_ := Aside0.mk ((by rw [hg]; exact (below_size (by repeat (first | (with_reducible first | exact HB.out | apply below_alloc | apply pw_below_drewN | apply below_drew1 | refine below_set ?_ GE113.out) | exact HB.out))) : w.heap.size ≤ gb123)); have n9_ := Aside0.mk ((by rw [hg]; exact Nat.ne_of_lt (blk_lt (g := gb113) (o := .cells #[.int .i64 t107, .int .i64 t108, .slice Ao23 t109.length co23] 35 (0, 0)) (by (with_reducible repeat (first | refine blk_drewN ?_ _ | refine blk_drew ?_ | refine blk_alloc ?_ _)); exact BK113.out)) : gb113 ≠ gb123)); have n10_ := Aside0.mk ((by rw [hg]; exact Nat.ne_of_gt (blk_lt (g := gb113) (o := .cells #[.int .i64 t107, .int .i64 t108, .slice Ao23 t109.length co23] 35 (0, 0)) (by (with_reducible repeat (first | refine blk_drewN ?_ _ | refine blk_drew ?_ | refine blk_alloc ?_ _)); exact BK113.out)) : gb123 ≠ gb113)); clear HO106; clear HO111; clear HO116; clear HO121; clear BK113; clear HB; have HO106 := n0_; have HO111 := n1_; have HO116 := n2_; have HO121 := n3_; have BK113 := n4_; have HB := n5_; have BK123 := n6_; have GW123 := n7_; have GE123 := n8_; have NB113_123 := n9_; have NB123_113 := n10_; clear n0_ n1_ n2_ n3_ n4_ n5_ n6_ n7_ n8_ n9_ n10_; clear hb hbox hg; have hnb29 := NB123_113.out; have hnc29 := NB113_123.out; have hcz30_0 : w28.cell? ⟨gb123, 0, none⟩ = some (.int .i64 0) := (blk_cell BK123.out 0).trans rfl; have hcz30_1 : w28.cell? ⟨gb123, 1, none⟩ = some (.int .i64 0) := (blk_cell BK123.out 1).trans rfl; have hcz30_2 : w28.cell? ⟨gb123, 2, none⟩ = some (.slice none 0 0) := (blk_cell BK123.out 2).trans rfl; have hfz30_0 := blk_frozen BK123.out 0; have hfz30_1 := blk_frozen BK123.out 1; have hfz30_2 := blk_frozen BK123.out 2; obtain ⟨Ao31, co31, eo31⟩ := Kd.R_slice HO121.out; subst eo31) | ((with_reducible refine gate_dst (N := 50) rfl ?_); (try (refine gate_guard (by rfl) ?_; dsimp only)); refine Kd.R_lit (Kd.int .u32) _ 48 ?hg (N := 50) ?hd (xs := ([a1] : List Int)) (inner := [.int .u32 a1]) (ok := fun _ => True) (okp := fun _ => True) ?hr ?hp (fun _ hk => hk) trivial (Below.refl _ _) (Nat.le_refl _) (by simp) ?_; (case hd => rfl); (case hg => rfl); (case hr => first | (go_simp; done) | (go_simp; rfl)); (case hp => exact (Reps.one (show Kd.M (Kd.int .u32) _ _ _ a1 [.int .u32 a1] from rfl) (Reps.none _ _))); intro v125 w32 ho33 hb hg_ hnew_; clear hg_ hnew_; (first | rw [← Ny124.out] at ho33 | (simp only [Int.reduceToNat] at ho33; rw [← Ny124.out] at ho33)); have n0_ := Aside0.mk (Kd.R_elder' (by (with_reducible repeat (first | apply Kd.R_alloc | apply Kd.R_drewN | apply Kd.R_drew)); exact (Kd.R_mono (Kd.R_far (p := ⟨gb123, 2, none⟩) (Kd.R_far (p := ⟨gb123, 1, none⟩) (Kd.R_far (p := ⟨gb123, 0, none⟩) (Kd.R_types HO106.out BK123.out (by decide)) (fun _ hk => hk.2) (.int .i64 t117)) (fun _ hk => hk.2) (.int .i64 t118)) (fun _ hk => hk.2) (.slice Ao31 t119.length co31)) (fun _ h_ => h_.1))) (Kd.R_base ho33) hb); have n1_ := Aside0.mk (Kd.R_elder' (by (with_reducible repeat (first | apply Kd.R_alloc | apply Kd.R_drewN | apply Kd.R_drew)); exact (Kd.R_mono (Kd.R_far (p := ⟨gb123, 2, none⟩) (Kd.R_far (p := ⟨gb123, 1, none⟩) (Kd.R_far (p := ⟨gb123, 0, none⟩) (Kd.R_types HO111.out BK123.out (by decide)) (fun _ hk => hk.2) (.int .i64 t117)) (fun _ hk => hk.2) (.int .i64 t118)) (fun _ hk => hk.2) (.slice Ao31 t119.length co31)) (fun _ h_ => h_.1))) (Kd.R_base ho33) hb); have n2_ := Aside0.mk (Kd.R_elder' (by (with_reducible repeat (first | apply Kd.R_alloc | apply Kd.R_drewN | apply Kd.R_drew)); exact (Kd.R_mono (Kd.R_far (p := ⟨gb123, 2, none⟩) (Kd.R_far (p := ⟨gb123, 1, none⟩) (Kd.R_far (p := ⟨gb123, 0, none⟩) (Kd.R_types HO116.out BK123.out (by decide)) (fun _ hk => hk.2) (.int .i64 t117)) (fun _ hk => hk.2) (.int .i64 t118)) (fun _ hk => hk.2) (.slice Ao31 t119.length co31)) (fun _ h_ => h_.1))) (Kd.R_base ho33) hb); have n3_ := Aside0.mk (Kd.R_elder' (by (with_reducible repeat (first | apply Kd.R_alloc | apply Kd.R_drewN | apply Kd.R_drew)); exact (Kd.R_mono (Kd.R_far (p := ⟨gb123, 2, none⟩) (Kd.R_far (p := ⟨gb123, 1, none⟩) (Kd.R_far (p := ⟨gb123, 0, none⟩) (Kd.R_types HO121.out BK123.out (by decide)) (fun _ hk => hk.2) (.int .i64 t117)) (fun _ hk => hk.2) (.int .i64 t118)) (fun _ hk => hk.2) (.slice Ao31 t119.length co31)) (fun _ h_ => h_.1))) (Kd.R_base ho33) hb); have n4_ := Aside0.mk (Kd.R_lower (Kd.R_new' (Kd.R_new' (Kd.R_new' (Kd.R_new' ho33 (Kd.R_lt (by (with_reducible repeat (first | apply Kd.R_alloc | apply Kd.R_drewN | apply Kd.R_drew)); exact (Kd.R_mono (Kd.R_far (p := ⟨gb123, 2, none⟩) (Kd.R_far (p := ⟨gb123, 1, none⟩) (Kd.R_far (p := ⟨gb123, 0, none⟩) (Kd.R_types HO106.out BK123.out (by decide)) (fun _ hk => hk.2) (.int .i64 t117)) (fun _ hk => hk.2) (.int .i64 t118)) (fun _ hk => hk.2) (.slice Ao31 t119.length co31)) (fun _ h_ => h_.1))))) (Kd.R_lt (by (with_reducible repeat (first | apply Kd.R_alloc | apply Kd.R_drewN | apply Kd.R_drew)); exact (Kd.R_mono (Kd.R_far (p := ⟨gb123, 2, none⟩) (Kd.R_far (p := ⟨gb123, 1, none⟩) (Kd.R_far (p := ⟨gb123, 0, none⟩) (Kd.R_types HO111.out BK123.out (by decide)) (fun _ hk => hk.2) (.int .i64 t117)) (fun _ hk => hk.2) (.int .i64 t118)) (fun _ hk => hk.2) (.slice Ao31 t119.length co31)) (fun _ h_ => h_.1))))) (Kd.R_lt (by (with_reducible repeat (first | apply Kd.R_alloc | apply Kd.R_drewN | apply Kd.R_drew)); exact (Kd.R_mono (Kd.R_far (p := ⟨gb123, 2, none⟩) (Kd.R_far (p := ⟨gb123, 1, none⟩) (Kd.R_far (p := ⟨gb123, 0, none⟩) (Kd.R_types HO116.out BK123.out (by decide)) (fun _ hk => hk.2) (.int .i64 t117)) (fun _ hk => hk.2) (.int .i64 t118)) (fun _ hk => hk.2) (.slice Ao31 t119.length co31)) (fun _ h_ => h_.1))))) (Kd.R_lt (by (with_reducible repeat (first | apply Kd.R_alloc | apply Kd.R_drewN | apply Kd.R_drew)); exact (Kd.R_mono (Kd.R_far (p := ⟨gb123, 2, none⟩) (Kd.R_far (p := ⟨gb123, 1, none⟩) (Kd.R_far (p := ⟨gb123, 0, none⟩) (Kd.R_types HO121.out BK123.out (by decide)) (fun _ hk => hk.2) (.int .i64 t117)) (fun _ hk => hk.2) (.int .i64 t118)) (fun _ hk => hk.2) (.slice Ao31 t119.length co31)) (fun _ h_ => h_.1))))) (below_size (by repeat (first | (with_reducible first | exact HB.out | apply below_alloc | apply pw_below_drewN | apply below_drew1 | refine below_set ?_ GE113.out | refine below_set ?_ GE123.out) | exact HB.out)))); have n5_ := Aside0.mk (blk_below (g := gb113) (o := .cells #[.int .i64 t107, .int .i64 t108, .slice Ao23 t109.length co23] 35 (0, 0)) (by (with_reducible repeat (first | refine blk_drewN ?_ _ | refine blk_drew ?_ | refine blk_alloc ?_ _)); refine blk_far ?_ NB113_123.out _; (with_reducible repeat (first | refine blk_drewN ?_ _ | refine blk_drew ?_ | refine blk_alloc ?_ _)); refine blk_far ?_ NB113_123.out _; (with_reducible repeat (first | refine blk_drewN ?_ _ | refine blk_drew ?_ | refine blk_alloc ?_ _)); refine blk_far ?_ NB113_123.out _; (with_reducible repeat (first | refine blk_drewN ?_ _ | refine blk_drew ?_ | refine blk_alloc ?_ _)); exact BK113.out) hb); have n6_ := Aside0.mk (blk_below (g := gb123) (o := .cells #[.int .i64 t117, .int .i64 t118, .slice Ao31 t119.length co31] 35 (0, 0)) (by (with_reducible repeat (first | refine blk_drewN ?_ _ | refine blk_drew ?_ | refine blk_alloc ?_ _)); refine blk_put (cs := #[.int .i64 t117, .int .i64 t118, .slice none 0 0]) ?_ 2 _ rfl; (with_reducible repeat (first | refine blk_drewN ?_ _ | refine blk_drew ?_ | refine blk_alloc ?_ _)); refine blk_put (cs := #[.int .i64 t117, .int .i64 0, .slice none 0 0]) ?_ 1 _ rfl; (with_reducible repeat (first | refine blk_drewN ?_ _ | refine blk_drew ?_ | refine blk_alloc ?_ _)); refine blk_put (cs := #[.int .i64 0, .int .i64 0, .slice none 0 0]) ?_ 0 _ rfl; (with_reducible repeat (first | refine blk_drewN ?_ _ | refine blk_drew ?_ | refine blk_alloc ?_ _)); exact BK123.out) hb); have n7_ := Aside0.mk (below_step (by repeat (first | (with_reducible first | exact HB.out | apply below_alloc | apply pw_below_drewN | apply below_drew1 | refine below_set ?_ GE113.out | refine below_set ?_ GE123.out) | exact HB.out)) hb); clear HO106; clear HO111; clear HO116; clear HO121; clear BK113; clear BK123; clear HB; have HO106 := n0_; have HO111 := n1_; have HO116 := n2_; have HO121 := n3_; have HO126 := n4_; have BK113 := n5_; have BK123 := n6_; have HB := n7_; clear n0_ n1_ n2_ n3_ n4_ n5_ n6_ n7_; clear hb ho33; obtain ⟨Ao34, co34, eo34⟩ := Kd.R_slice HO126.out; subst eo34) | (go_at_call 16; (with_reducible refine (dither_Ordered.calls 1 1 _ _ y124 a2 a3 a4 a5 t127 t128 t129 t132 _ ?side1 ?side2 A13.out).mono ?_); (case side1 => repeat (first | exact (Kd.R_reads' HO126.out).2.2 | (with_reducible refine Kd.C_alloc ?_ _) | (with_reducible refine Kd.C_drewN ?_ _) | (with_reducible refine Kd.C_drew ?_))); (case side2 => exact (Kd.R_reads' HO126.out).2.1); rintro e w35 ⟨v130, rfl, ho0, hb⟩; have n0_ := Aside0.mk (Kd.R_elder' (by (with_reducible repeat (first | apply Kd.R_alloc | apply Kd.R_drewN | apply Kd.R_drew)); exact HO106.out) (Kd.R_base ho0) hb); have n1_ := Aside0.mk (Kd.R_elder' (by (with_reducible repeat (first | apply Kd.R_alloc | apply Kd.R_drewN | apply Kd.R_drew)); exact HO111.out) (Kd.R_base ho0) hb); have n2_ := Aside0.mk (Kd.R_elder' (by (with_reducible repeat (first | apply Kd.R_alloc | apply Kd.R_drewN | apply Kd.R_drew)); exact HO116.out) (Kd.R_base ho0) hb); have n3_ := Aside0.mk (Kd.R_elder' (by (with_reducible repeat (first | apply Kd.R_alloc | apply Kd.R_drewN | apply Kd.R_drew)); exact HO121.out) (Kd.R_base ho0) hb); have n4_ := Aside0.mk (Kd.R_elder' (by (with_reducible repeat (first | apply Kd.R_alloc | apply Kd.R_drewN | apply Kd.R_drew)); exact HO126.out) (Kd.R_base ho0) hb); have n5_ := Aside0.mk (Kd.R_lower (Kd.R_new' (Kd.R_new' (Kd.R_new' (Kd.R_new' (Kd.R_new' ho0 (Kd.R_lt (by (with_reducible repeat (first | apply Kd.R_alloc | apply Kd.R_drewN | apply Kd.R_drew)); exact HO106.out))) (Kd.R_lt (by (with_reducible repeat (first | apply Kd.R_alloc | apply Kd.R_drewN | apply Kd.R_drew)); exact HO111.out))) (Kd.R_lt (by (with_reducible repeat (first | apply Kd.R_alloc | apply Kd.R_drewN | apply Kd.R_drew)); exact HO116.out))) (Kd.R_lt (by (with_reducible repeat (first | apply Kd.R_alloc | apply Kd.R_drewN | apply Kd.R_drew)); exact HO121.out))) (Kd.R_lt (by (with_reducible repeat (first | apply Kd.R_alloc | apply Kd.R_drewN | apply Kd.R_drew)); exact HO126.out))) (below_size (by repeat (first | (with_reducible first | exact HB.out | apply below_alloc | apply pw_below_drewN | apply below_drew1 | refine below_set ?_ GE113.out | refine below_set ?_ GE123.out) | exact HB.out)))); have n6_ := Aside0.mk (blk_below (g := gb113) (o := .cells #[.int .i64 t107, .int .i64 t108, .slice Ao23 t109.length co23] 35 (0, 0)) (by (with_reducible repeat (first | refine blk_drewN ?_ _ | refine blk_drew ?_ | refine blk_alloc ?_ _)); exact BK113.out) hb); have n7_ := Aside0.mk (blk_below (g := gb123) (o := .cells #[.int .i64 t117, .int .i64 t118, .slice Ao31 t119.length co31] 35 (0, 0)) (by (with_reducible repeat (first | refine blk_drewN ?_ _ | refine blk_drew ?_ | refine blk_alloc ?_ _)); exact BK123.out) hb); have n8_ := Aside0.mk (below_step (by repeat (first | (with_reducible first | exact HB.out | apply below_alloc | apply pw_below_drewN | apply below_drew1 | refine below_set ?_ GE113.out | refine below_set ?_ GE123.out) | exact HB.out)) hb); clear HO106; clear HO111; clear HO116; clear HO121; clear HO126; clear BK113; clear BK123; clear HB; have HO106 := n0_; have HO111 := n1_; have HO116 := n2_; have HO121 := n3_; have HO126 := n4_; have HO131 := n5_; have BK113 := n6_; have BK123 := n7_; have HB := n8_; clear n0_ n1_ n2_ n3_ n4_ n5_ n6_ n7_ n8_; (try clear hb); (try clear hb2); (try clear hk); (try clear hi); (try clear ho0)) | ((with_reducible refine gate_dst (N := 19) rfl ?_); (try (refine gate_guard (by rfl) ?_; dsimp only)); refine box_event ?hg (N := 19) ?hd (cs := #[.int .i64 0, .int .i64 0, .slice none 0 0]) (t := 35) ?hr ?_; (case hd => rfl); (case hg => rfl); (case hr => first | (go_simp; done) | (go_simp; rfl)); intro gb133 hg w36 hbox hb; have n0_ := Aside0.mk (Kd.R_below (by (with_reducible repeat (first | apply Kd.R_alloc | apply Kd.R_drewN | apply Kd.R_drew)); exact HO106.out) hb); have n1_ := Aside0.mk (Kd.R_below (by (with_reducible repeat (first | apply Kd.R_alloc | apply Kd.R_drewN | apply Kd.R_drew)); exact HO111.out) hb); have n2_ := Aside0.mk (Kd.R_below (by (with_reducible repeat (first | apply Kd.R_alloc | apply Kd.R_drewN | apply Kd.R_drew)); exact HO116.out) hb); have n3_ := Aside0.mk (Kd.R_below (by (with_reducible repeat (first | apply Kd.R_alloc | apply Kd.R_drewN | apply Kd.R_drew)); exact HO121.out) hb); have n4_ := Aside0.mk (Kd.R_below (by (with_reducible repeat (first | apply Kd.R_alloc | apply Kd.R_drewN | apply Kd.R_drew)); exact HO126.out) hb); have n5_ := Aside0.mk (Kd.R_below (by (with_reducible repeat (first | apply Kd.R_alloc | apply Kd.R_drewN | apply Kd.R_drew)); exact HO131.out) hb); have n6_ := Aside0.mk (blk_below (g := gb113) (o := .cells #[.int .i64 t107, .int .i64 t108, .slice Ao23 t109.length co23] 35 (0, 0)) (by (with_reducible repeat (first | refine blk_drewN ?_ _ | refine blk_drew ?_ | refine blk_alloc ?_ _)); exact BK113.out) hb); have n7_ := Aside0.mk (blk_below (g := gb123) (o := .cells #[.int .i64 t117, .int .i64 t118, .slice Ao31 t119.length co31] 35 (0, 0)) (by (with_reducible repeat (first | refine blk_drewN ?_ _ | refine blk_drew ?_ | refine blk_alloc ?_ _)); exact BK123.out) hb); have n8_ := Aside0.mk (below_step (by repeat (first | (with_reducible first | exact HB.out | apply below_alloc | apply pw_below_drewN | apply below_drew1 | refine below_set ?_ GE113.out | refine below_set ?_ GE123.out) | exact HB.out)) hb); have n9_ := Aside0.mk (hbox); have n10_ := Aside0.mk ((by rw [hg]; exact (below_size (by repeat (first | (with_reducible first | exact HB.out | apply below_alloc | apply pw_below_drewN | apply below_drew1 | refine below_set ?_ GE113.out | refine below_set ?_ GE123.out) | exact HB.out))) : w.heap.size ≤ gb133)); have n11_ := Aside0.mk ((by rw [hg]; exact (below_size (by repeat (first | (with_reducible first | exact HB.out | apply below_alloc | apply pw_below_drewN | apply below_drew1 | refine below_set ?_ GE113.out | refine below_set ?_ GE123.out) | exact HB.out))) : w.heap.size ≤ gb133)); have n12_ := Aside0.mk ((by rw [hg]; exact Nat.ne_of_lt (blk_lt (g := gb113) (o := .cells #[.int .i64 t107, .int .i64 t108, .slice Ao23 t109.length co23] 35 (0, 0)) (by (with_reducible repeat (first | refine blk_drewN ?_ _ | refine blk_drew ?_ | refine blk_alloc ?_ _)); exact BK113.out)) : gb113 ≠ gb133)); have n13_ := Aside0.mk ((by rw [hg]; exact Nat.ne_of_gt (blk_lt (g := gb113) (o := .cells #[.int .i64 t107, .int .i64 t108, .slice Ao23 t109.length co23] 35 (0, 0)) (by (with_reducible repeat (first | refine blk_drewN ?_ _ | refine blk_drew ?_ | refine blk_alloc ?_ _)); exact BK113.out)) : gb133 ≠ gb113)); have n14_ := Aside0.mk ((by rw [hg]; exact Nat.ne_of_lt (blk_lt (g := gb123) (o := .cells #[.int .i64 t117, .int .i64 t118, .slice Ao31 t119.length co31] 35 (0, 0)) (by (with_reducible repeat (first | refine blk_drewN ?_ _ | refine blk_drew ?_ | refine blk_alloc ?_ _)); exact BK123.out)) : gb123 ≠ gb133)); have n15_ := Aside0.mk ((by rw [hg]; exact Nat.ne_of_gt (blk_lt (g := gb123) (o := .cells #[.int .i64 t117, .int .i64 t118, .slice Ao31 t119.length co31] 35 (0, 0)) (by (with_reducible repeat (first | refine blk_drewN ?_ _ | refine blk_drew ?_ | refine blk_alloc ?_ _)); exact BK123.out)) : gb133 ≠ gb123)); clear HO106; clear HO111; clear HO116; clear HO121; clear HO126; clear HO131; clear BK113; clear BK123; clear HB; have HO106 := n0_; have HO111 := n1_; have HO116 := n2_; have HO121 := n3_; have HO126 := n4_; have HO131 := n5_; have BK113 := n6_; have BK123 := n7_; have HB := n8_; have BK133 := n9_; have GW133 := n10_; have GE133 := n11_; have NB113_133 := n12_; have NB133_113 := n13_; have NB123_133 := n14_; have NB133_123 := n15_; clear n0_ n1_ n2_ n3_ n4_ n5_ n6_ n7_ n8_ n9_ n10_ n11_ n12_ n13_ n14_ n15_; clear hb hbox hg; have hnb37 := NB133_113.out; have hnc37 := NB113_133.out; have hnb38 := NB133_123.out; have hnc38 := NB123_133.out; have hcz39_0 : w36.cell? ⟨gb133, 0, none⟩ = some (.int .i64 0) := (blk_cell BK133.out 0).trans rfl; have hcz39_1 : w36.cell? ⟨gb133, 1, none⟩ = some (.int .i64 0) := (blk_cell BK133.out 1).trans rfl; have hcz39_2 : w36.cell? ⟨gb133, 2, none⟩ = some (.slice none 0 0) := (blk_cell BK133.out 2).trans rfl; have hfz39_0 := blk_frozen BK133.out 0; have hfz39_1 := blk_frozen BK133.out 1; have hfz39_2 := blk_frozen BK133.out 2; obtain ⟨Ao40, co40, eo40⟩ := Kd.R_slice HO131.out; subst eo40))
      repeat (go_quiet (fail); try go_wp2)
      (try simp only [Act.put, List.setIfInBounds_toArray, List.set_cons_zero, List.set_cons_succ])
      go_cut [119] (fun v119 wc => ∃ (kq : Nat) (x119_14 : Bool), v119 = .bool x119_14 ∧ Aside0 (halidelaw13_DitherRises.j0 kq t102 t103 x119_14 t117 t118 t119 t127 t128 t129 = some r) ∧ Aside0 (kq ≤ k) ∧ Aside0 (Kd.R (Kd.int .u32) 48 wc w.heap.size (fun k_ => some k_ ≠ ((.slice Ao31 t119.length co31) : Value).ownBlock ∧ some k_ ≠ ((.slice Ao40 t129.length co40) : Value).ownBlock) (.slice Ao23 t109.length co23) t109) ∧ Aside0 (Kd.R (Kd.int .u32) 48 wc w.heap.size (fun k_ => some k_ ≠ ((.slice Ao23 t109.length co23) : Value).ownBlock ∧ some k_ ≠ ((.slice Ao40 t129.length co40) : Value).ownBlock) (.slice Ao31 t119.length co31) t119) ∧ Aside0 (Kd.R (Kd.int .u32) 48 wc w.heap.size (fun k_ => some k_ ≠ ((.slice Ao23 t109.length co23) : Value).ownBlock ∧ some k_ ≠ ((.slice Ao31 t119.length co31) : Value).ownBlock) (.slice Ao40 t129.length co40) t129) ∧ Aside0 (wc.heap[gb113]? = some (.cells #[.int .i64 t107, .int .i64 t108, (.slice Ao23 t109.length co23)] 35 (0, 0))) ∧ Aside0 (wc.heap[gb123]? = some (.cells #[.int .i64 t117, .int .i64 t118, (.slice Ao31 t119.length co31)] 35 (0, 0))) ∧ Aside0 (wc.heap[gb133]? = some (.cells #[.int .i64 t127, .int .i64 t128, (.slice Ao40 t129.length co40)] 35 (0, 0))) ∧ Aside0 (Below w.heap.size w wc))
      case first =>
        have H := HC15.out
        clear HC15
        by_cases c41 : t122 = 0
        · rw [if_pos c41] at H
          have c41b0 : (t122 == 0) = true := beq_iff_eq.mpr c41
          have c41b1 : (t122 != 0) = false := bne_eq_false_iff_eq.mpr c41
          clear c41
          (first | rw [c41b0] | (simp only [i64_w, i32_w]; rw [c41b0]) | skip)
          by_cases c42 : t132 = 0
          · rw [if_pos c42] at H
            have c42b0 : (t132 == 0) = true := beq_iff_eq.mpr c42
            have c42b1 : (t132 != 0) = false := bne_eq_false_iff_eq.mpr c42
            clear c42
            by_cases c43 : (t109.length : Int) = 4
            · rw [if_pos c43] at H
              have c43b0 : ((t109.length : Int) == 4) = true := beq_iff_eq.mpr c43
              have c43b1 : ((t109.length : Int) != 4) = false := bne_eq_false_iff_eq.mpr c43
              clear c43
              by_cases c44 : (t119.length : Int) = 1
              · rw [if_pos c44] at H
                have c44b0 : ((t119.length : Int) == 1) = true := beq_iff_eq.mpr c44
                have c44b1 : ((t119.length : Int) != 1) = false := bne_eq_false_iff_eq.mpr c44
                clear c44
                by_cases c45 : (t129.length : Int) = 1
                · rw [if_pos c45] at H
                  have c45b0 : ((t129.length : Int) == 1) = true := beq_iff_eq.mpr c45
                  have c45b1 : ((t129.length : Int) != 1) = false := bne_eq_false_iff_eq.mpr c45
                  clear c45
                  by_cases c46 : 0 < (t109.length : Int)
                  · rw [if_pos c46] at H
                    have c46b0 : decide (0 < (t109.length : Int)) = true := decide_eq_true c46
                    have c46b1 : decide (0 < t109.length) = true := decide_eq_true (by omega)
                    clear c46
                    by_cases c47 : (rd t109 0) = 0
                    · rw [if_pos c47] at H
                      have c47b0 : ((rd t109 0) == 0) = true := beq_iff_eq.mpr c47
                      have c47b1 : ((rd t109 0) != 0) = false := bne_eq_false_iff_eq.mpr c47
                      clear c47
                      by_cases c48 : 1 < (t109.length : Int)
                      · rw [if_pos c48] at H
                        have c48b0 : decide (1 < (t109.length : Int)) = true := decide_eq_true c48
                        have c48b1 : decide (1 < t109.length) = true := decide_eq_true (by omega)
                        clear c48
                        by_cases c49 : (rd t109 1) = 1065353216
                        · rw [if_pos c49] at H
                          have c49b0 : ((rd t109 1) == 1065353216) = true := beq_iff_eq.mpr c49
                          have c49b1 : ((rd t109 1) != 1065353216) = false := bne_eq_false_iff_eq.mpr c49
                          clear c49
                          by_cases c50 : 2 < (t109.length : Int)
                          · rw [if_pos c50] at H
                            have c50b0 : decide (2 < (t109.length : Int)) = true := decide_eq_true c50
                            have c50b1 : decide (2 < t109.length) = true := decide_eq_true (by omega)
                            clear c50
                            have H' := Aside0.mk H
                            clear H
                            have hnb51 := NB113_123.out
                            have hnc51 := NB123_113.out
                            have hnb52 := NB113_133.out
                            have hnc52 := NB133_113.out
                            have hcz53_0 : w36.cell? ⟨gb113, 0, none⟩ = some (.int .i64 t107) := (blk_cell BK113.out 0).trans rfl
                            have hcz53_1 : w36.cell? ⟨gb113, 1, none⟩ = some (.int .i64 t108) := (blk_cell BK113.out 1).trans rfl
                            have hcz53_2 : w36.cell? ⟨gb113, 2, none⟩ = some (.slice Ao23 t109.length co23) := (blk_cell BK113.out 2).trans rfl
                            have hfz53_0 := blk_frozen BK113.out 0
                            have hfz53_1 := blk_frozen BK113.out 1
                            have hfz53_2 := blk_frozen BK113.out 2
                            have hnb54 := NB123_133.out
                            have hnc54 := NB133_123.out
                            have hcz55_0 : w36.cell? ⟨gb123, 0, none⟩ = some (.int .i64 t117) := (blk_cell BK123.out 0).trans rfl
                            have hcz55_1 : w36.cell? ⟨gb123, 1, none⟩ = some (.int .i64 t118) := (blk_cell BK123.out 1).trans rfl
                            have hcz55_2 : w36.cell? ⟨gb123, 2, none⟩ = some (.slice Ao31 t119.length co31) := (blk_cell BK123.out 2).trans rfl
                            have hfz55_0 := blk_frozen BK123.out 0
                            have hfz55_1 := blk_frozen BK123.out 1
                            have hfz55_2 := blk_frozen BK123.out 2
                            have hcz56_0 : w36.cell? ⟨gb133, 0, none⟩ = some (.int .i64 0) := (blk_cell BK133.out 0).trans rfl
                            have hcz56_1 : w36.cell? ⟨gb133, 1, none⟩ = some (.int .i64 0) := (blk_cell BK133.out 1).trans rfl
                            have hcz56_2 : w36.cell? ⟨gb133, 2, none⟩ = some (.slice none 0 0) := (blk_cell BK133.out 2).trans rfl
                            have hfz56_0 := blk_frozen BK133.out 0
                            have hfz56_1 := blk_frozen BK133.out 1
                            have hfz56_2 := blk_frozen BK133.out 2
                            have p134 : 0 ≤ (0 : Int) := (by omega)
                            have q134 : 0 < (t109.length : Int) := of_decide_eq_true (by first | (with_reducible assumption) | assumption)
                            obtain ⟨ad134, e134, hx134_0⟩ := Kd.at_int (Kd.R_reads' HO111.out).2.2 0 p134 q134
                            cases e134
                            have qi134 : (0 < t109.length) = True := eq_true (by omega)
                            (try rw [show ((0 : Int)).toNat = 0 from rfl] at hx134_0)
                            (try rw [Addr.add_zero'] at hx134_0)
                            have hn134_0 : ad134.block ≠ gb133 := Kd.own_blk (Kd.R_ne HO111.out BK133.out (by decide))
                            have hn134_1 : ad134.block ≠ gb133 := Kd.own_blk (Kd.R_ne HO111.out BK133.out (by decide))
                            have hn134_2 : ad134.block ≠ gb133 := Kd.own_blk (Kd.R_ne HO111.out BK133.out (by decide))
                            replace hx134_0 := (cell_far (p := ⟨gb133, 0, none⟩) (by first | (rw [add_block]; exact hn134_0) | (show (Addr.add _ _).block ≠ _; rw [add_block]; exact hn134_0) | exact hn134_0) (.int .i64 t127)).trans hx134_0
                            replace hx134_0 := (cell_far (p := ⟨gb133, 1, none⟩) (by first | (rw [add_block]; exact hn134_1) | (show (Addr.add _ _).block ≠ _; rw [add_block]; exact hn134_1) | exact hn134_1) (.int .i64 t128)).trans hx134_0
                            replace hx134_0 := (cell_far (p := ⟨gb133, 2, none⟩) (by first | (rw [add_block]; exact hn134_2) | (show (Addr.add _ _).block ≠ _; rw [add_block]; exact hn134_2) | exact hn134_2) (.slice Ao40 t129.length co40)).trans hx134_0
                            (try have hy134_0 := fun (n_ : Nat) => (show (((((w36.drewN n_).setCell ⟨gb133, 0, none⟩ (.int .i64 t127)).setCell ⟨gb133, 1, none⟩ (.int .i64 t128)).setCell ⟨gb133, 2, none⟩ (.slice Ao40 t129.length co40))).cell? _ = some _ from hx134_0))
                            clear hn134_0
                            clear hn134_1
                            clear hn134_2
                            replace p134 := eq_true p134
                            replace q134 := eq_true q134
                            have p135 : 0 ≤ (1 : Int) := (by omega)
                            have q135 : 1 < (t109.length : Int) := of_decide_eq_true (by first | (with_reducible assumption) | assumption)
                            obtain ⟨ad135, e135, hx135_0⟩ := Kd.at_int (Kd.R_reads' HO111.out).2.2 1 p135 q135
                            obtain rfl : ad134 = ad135 := (by injection e135)
                            (try simp only [show (1 : Int).toNat = 1 from rfl, Nat.reduceMul, Nat.reduceEqDiff, Go.Addr.add, ↓reduceIte] at hx135_0)
                            have qi135 : (1 < t109.length) = True := eq_true (by omega)
                            (try rw [show ((1 : Int)).toNat = 1 from rfl] at hx135_0)
                            have hn135_0 : ad134.block ≠ gb133 := Kd.own_blk (Kd.R_ne HO111.out BK133.out (by decide))
                            have hn135_1 : ad134.block ≠ gb133 := Kd.own_blk (Kd.R_ne HO111.out BK133.out (by decide))
                            have hn135_2 : ad134.block ≠ gb133 := Kd.own_blk (Kd.R_ne HO111.out BK133.out (by decide))
                            replace hx135_0 := (cell_far (p := ⟨gb133, 0, none⟩) (by first | (rw [add_block]; exact hn135_0) | (show (Addr.add _ _).block ≠ _; rw [add_block]; exact hn135_0) | exact hn135_0) (.int .i64 t127)).trans hx135_0
                            replace hx135_0 := (cell_far (p := ⟨gb133, 1, none⟩) (by first | (rw [add_block]; exact hn135_1) | (show (Addr.add _ _).block ≠ _; rw [add_block]; exact hn135_1) | exact hn135_1) (.int .i64 t128)).trans hx135_0
                            replace hx135_0 := (cell_far (p := ⟨gb133, 2, none⟩) (by first | (rw [add_block]; exact hn135_2) | (show (Addr.add _ _).block ≠ _; rw [add_block]; exact hn135_2) | exact hn135_2) (.slice Ao40 t129.length co40)).trans hx135_0
                            (try have hy135_0 := fun (n_ : Nat) => (show (((((w36.drewN n_).setCell ⟨gb133, 0, none⟩ (.int .i64 t127)).setCell ⟨gb133, 1, none⟩ (.int .i64 t128)).setCell ⟨gb133, 2, none⟩ (.slice Ao40 t129.length co40))).cell? _ = some _ from hx135_0))
                            clear hn135_0
                            clear hn135_1
                            clear hn135_2
                            replace p135 := eq_true p135
                            replace q135 := eq_true q135
                            have p136 : 0 ≤ (2 : Int) := (by omega)
                            have q136 : 2 < (t109.length : Int) := of_decide_eq_true (by first | (with_reducible assumption) | assumption)
                            obtain ⟨ad136, e136, hx136_0⟩ := Kd.at_int (Kd.R_reads' HO111.out).2.2 2 p136 q136
                            obtain rfl : ad134 = ad136 := (by injection e136)
                            (try simp only [show (2 : Int).toNat = 2 from rfl, Nat.reduceMul, Nat.reduceEqDiff, Go.Addr.add, ↓reduceIte] at hx136_0)
                            have qi136 : (2 < t109.length) = True := eq_true (by omega)
                            (try rw [show ((2 : Int)).toNat = 2 from rfl] at hx136_0)
                            have hn136_0 : ad134.block ≠ gb133 := Kd.own_blk (Kd.R_ne HO111.out BK133.out (by decide))
                            have hn136_1 : ad134.block ≠ gb133 := Kd.own_blk (Kd.R_ne HO111.out BK133.out (by decide))
                            have hn136_2 : ad134.block ≠ gb133 := Kd.own_blk (Kd.R_ne HO111.out BK133.out (by decide))
                            replace hx136_0 := (cell_far (p := ⟨gb133, 0, none⟩) (by first | (rw [add_block]; exact hn136_0) | (show (Addr.add _ _).block ≠ _; rw [add_block]; exact hn136_0) | exact hn136_0) (.int .i64 t127)).trans hx136_0
                            replace hx136_0 := (cell_far (p := ⟨gb133, 1, none⟩) (by first | (rw [add_block]; exact hn136_1) | (show (Addr.add _ _).block ≠ _; rw [add_block]; exact hn136_1) | exact hn136_1) (.int .i64 t128)).trans hx136_0
                            replace hx136_0 := (cell_far (p := ⟨gb133, 2, none⟩) (by first | (rw [add_block]; exact hn136_2) | (show (Addr.add _ _).block ≠ _; rw [add_block]; exact hn136_2) | exact hn136_2) (.slice Ao40 t129.length co40)).trans hx136_0
                            (try have hy136_0 := fun (n_ : Nat) => (show (((((w36.drewN n_).setCell ⟨gb133, 0, none⟩ (.int .i64 t127)).setCell ⟨gb133, 1, none⟩ (.int .i64 t128)).setCell ⟨gb133, 2, none⟩ (.slice Ao40 t129.length co40))).cell? _ = some _ from hx136_0))
                            clear hn136_0
                            clear hn136_1
                            clear hn136_2
                            replace p136 := eq_true p136
                            replace q136 := eq_true q136
                            go_wp2
                            repeat (go_quiet (fail); try go_wp2)
                            go_meet
                            case rel => exact ⟨_, (((rd t109 2) != 0)), (by first | rfl | (simp; done) | (simp [*]; done)), H', ⟨by first | omega | exact Nat.le_refl _⟩, ⟨by (with_reducible repeat (first | apply Kd.R_alloc | apply Kd.R_drewN | apply Kd.R_drew)); exact Kd.R_mono (Kd.R_far (p := ⟨gb133, 2, none⟩) (Kd.R_far (p := ⟨gb133, 1, none⟩) (Kd.R_far (p := ⟨gb133, 0, none⟩) (Kd.R_types HO111.out BK133.out (by decide)) (fun _ hk => hk.2) (.int .i64 t127)) (fun _ hk => hk.2) (.int .i64 t128)) (fun _ hk => hk.2) (.slice Ao40 t129.length co40)) (fun _ hk => ⟨hk.1.1.1.2, hk.1.2⟩)⟩, ⟨by (with_reducible repeat (first | apply Kd.R_alloc | apply Kd.R_drewN | apply Kd.R_drew)); exact Kd.R_mono (Kd.R_far (p := ⟨gb133, 2, none⟩) (Kd.R_far (p := ⟨gb133, 1, none⟩) (Kd.R_far (p := ⟨gb133, 0, none⟩) (Kd.R_types HO121.out BK133.out (by decide)) (fun _ hk => hk.2) (.int .i64 t127)) (fun _ hk => hk.2) (.int .i64 t128)) (fun _ hk => hk.2) (.slice Ao40 t129.length co40)) (fun _ hk => ⟨hk.1.1.1.1.2, hk.1.2⟩)⟩, ⟨by (with_reducible repeat (first | apply Kd.R_alloc | apply Kd.R_drewN | apply Kd.R_drew)); exact Kd.R_mono (Kd.R_far (p := ⟨gb133, 2, none⟩) (Kd.R_far (p := ⟨gb133, 1, none⟩) (Kd.R_far (p := ⟨gb133, 0, none⟩) (Kd.R_types HO131.out BK133.out (by decide)) (fun _ hk => hk.2) (.int .i64 t127)) (fun _ hk => hk.2) (.int .i64 t128)) (fun _ hk => hk.2) (.slice Ao40 t129.length co40)) (fun _ hk => ⟨hk.1.1.1.1.2, hk.1.1.2⟩)⟩, ⟨by (with_reducible repeat (first | refine blk_drewN ?_ _ | refine blk_drew ?_ | refine blk_alloc ?_ _)); refine blk_far ?_ NB113_133.out _; (with_reducible repeat (first | refine blk_drewN ?_ _ | refine blk_drew ?_ | refine blk_alloc ?_ _)); refine blk_far ?_ NB113_133.out _; (with_reducible repeat (first | refine blk_drewN ?_ _ | refine blk_drew ?_ | refine blk_alloc ?_ _)); refine blk_far ?_ NB113_133.out _; (with_reducible repeat (first | refine blk_drewN ?_ _ | refine blk_drew ?_ | refine blk_alloc ?_ _)); exact BK113.out⟩, ⟨by (with_reducible repeat (first | refine blk_drewN ?_ _ | refine blk_drew ?_ | refine blk_alloc ?_ _)); refine blk_far ?_ NB123_133.out _; (with_reducible repeat (first | refine blk_drewN ?_ _ | refine blk_drew ?_ | refine blk_alloc ?_ _)); refine blk_far ?_ NB123_133.out _; (with_reducible repeat (first | refine blk_drewN ?_ _ | refine blk_drew ?_ | refine blk_alloc ?_ _)); refine blk_far ?_ NB123_133.out _; (with_reducible repeat (first | refine blk_drewN ?_ _ | refine blk_drew ?_ | refine blk_alloc ?_ _)); exact BK123.out⟩, ⟨by (with_reducible repeat (first | refine blk_drewN ?_ _ | refine blk_drew ?_ | refine blk_alloc ?_ _)); refine blk_put (cs := #[.int .i64 t127, .int .i64 t128, .slice none 0 0]) ?_ 2 _ rfl; (with_reducible repeat (first | refine blk_drewN ?_ _ | refine blk_drew ?_ | refine blk_alloc ?_ _)); refine blk_put (cs := #[.int .i64 t127, .int .i64 0, .slice none 0 0]) ?_ 1 _ rfl; (with_reducible repeat (first | refine blk_drewN ?_ _ | refine blk_drew ?_ | refine blk_alloc ?_ _)); refine blk_put (cs := #[.int .i64 0, .int .i64 0, .slice none 0 0]) ?_ 0 _ rfl; (with_reducible repeat (first | refine blk_drewN ?_ _ | refine blk_drew ?_ | refine blk_alloc ?_ _)); exact BK133.out⟩, ⟨by repeat (first | (with_reducible first | exact HB.out | apply below_alloc | apply pw_below_drewN | apply below_drew1 | refine below_set ?_ GE113.out | refine below_set ?_ GE123.out | refine below_set ?_ GE133.out) | exact HB.out)⟩⟩
                          · rw [if_neg c50] at H
                            exact absurd H (by simp)
                        · rw [if_neg c49] at H
                          have c49b0 : ((rd t109 1) == 1065353216) = false := beq_eq_false_iff_ne.mpr c49
                          have c49b1 : ((rd t109 1) != 1065353216) = true := bne_iff_ne.mpr c49
                          have H' := Aside0.mk H
                          clear H
                          have hnb57 := NB113_123.out
                          have hnc57 := NB123_113.out
                          have hnb58 := NB113_133.out
                          have hnc58 := NB133_113.out
                          have hcz59_0 : w36.cell? ⟨gb113, 0, none⟩ = some (.int .i64 t107) := (blk_cell BK113.out 0).trans rfl
                          have hcz59_1 : w36.cell? ⟨gb113, 1, none⟩ = some (.int .i64 t108) := (blk_cell BK113.out 1).trans rfl
                          have hcz59_2 : w36.cell? ⟨gb113, 2, none⟩ = some (.slice Ao23 t109.length co23) := (blk_cell BK113.out 2).trans rfl
                          have hfz59_0 := blk_frozen BK113.out 0
                          have hfz59_1 := blk_frozen BK113.out 1
                          have hfz59_2 := blk_frozen BK113.out 2
                          have hnb60 := NB123_133.out
                          have hnc60 := NB133_123.out
                          have hcz61_0 : w36.cell? ⟨gb123, 0, none⟩ = some (.int .i64 t117) := (blk_cell BK123.out 0).trans rfl
                          have hcz61_1 : w36.cell? ⟨gb123, 1, none⟩ = some (.int .i64 t118) := (blk_cell BK123.out 1).trans rfl
                          have hcz61_2 : w36.cell? ⟨gb123, 2, none⟩ = some (.slice Ao31 t119.length co31) := (blk_cell BK123.out 2).trans rfl
                          have hfz61_0 := blk_frozen BK123.out 0
                          have hfz61_1 := blk_frozen BK123.out 1
                          have hfz61_2 := blk_frozen BK123.out 2
                          have hcz62_0 : w36.cell? ⟨gb133, 0, none⟩ = some (.int .i64 0) := (blk_cell BK133.out 0).trans rfl
                          have hcz62_1 : w36.cell? ⟨gb133, 1, none⟩ = some (.int .i64 0) := (blk_cell BK133.out 1).trans rfl
                          have hcz62_2 : w36.cell? ⟨gb133, 2, none⟩ = some (.slice none 0 0) := (blk_cell BK133.out 2).trans rfl
                          have hfz62_0 := blk_frozen BK133.out 0
                          have hfz62_1 := blk_frozen BK133.out 1
                          have hfz62_2 := blk_frozen BK133.out 2
                          have p134 : 0 ≤ (0 : Int) := (by omega)
                          have q134 : 0 < (t109.length : Int) := of_decide_eq_true (by first | (with_reducible assumption) | assumption)
                          obtain ⟨ad134, e134, hx134_0⟩ := Kd.at_int (Kd.R_reads' HO111.out).2.2 0 p134 q134
                          cases e134
                          have qi134 : (0 < t109.length) = True := eq_true (by omega)
                          (try rw [show ((0 : Int)).toNat = 0 from rfl] at hx134_0)
                          (try rw [Addr.add_zero'] at hx134_0)
                          have hn134_0 : ad134.block ≠ gb133 := Kd.own_blk (Kd.R_ne HO111.out BK133.out (by decide))
                          have hn134_1 : ad134.block ≠ gb133 := Kd.own_blk (Kd.R_ne HO111.out BK133.out (by decide))
                          have hn134_2 : ad134.block ≠ gb133 := Kd.own_blk (Kd.R_ne HO111.out BK133.out (by decide))
                          replace hx134_0 := (cell_far (p := ⟨gb133, 0, none⟩) (by first | (rw [add_block]; exact hn134_0) | (show (Addr.add _ _).block ≠ _; rw [add_block]; exact hn134_0) | exact hn134_0) (.int .i64 t127)).trans hx134_0
                          replace hx134_0 := (cell_far (p := ⟨gb133, 1, none⟩) (by first | (rw [add_block]; exact hn134_1) | (show (Addr.add _ _).block ≠ _; rw [add_block]; exact hn134_1) | exact hn134_1) (.int .i64 t128)).trans hx134_0
                          replace hx134_0 := (cell_far (p := ⟨gb133, 2, none⟩) (by first | (rw [add_block]; exact hn134_2) | (show (Addr.add _ _).block ≠ _; rw [add_block]; exact hn134_2) | exact hn134_2) (.slice Ao40 t129.length co40)).trans hx134_0
                          (try have hy134_0 := fun (n_ : Nat) => (show (((((w36.drewN n_).setCell ⟨gb133, 0, none⟩ (.int .i64 t127)).setCell ⟨gb133, 1, none⟩ (.int .i64 t128)).setCell ⟨gb133, 2, none⟩ (.slice Ao40 t129.length co40))).cell? _ = some _ from hx134_0))
                          clear hn134_0
                          clear hn134_1
                          clear hn134_2
                          replace p134 := eq_true p134
                          replace q134 := eq_true q134
                          have p135 : 0 ≤ (1 : Int) := (by omega)
                          have q135 : 1 < (t109.length : Int) := of_decide_eq_true (by first | (with_reducible assumption) | assumption)
                          obtain ⟨ad135, e135, hx135_0⟩ := Kd.at_int (Kd.R_reads' HO111.out).2.2 1 p135 q135
                          obtain rfl : ad134 = ad135 := (by injection e135)
                          (try simp only [show (1 : Int).toNat = 1 from rfl, Nat.reduceMul, Nat.reduceEqDiff, Go.Addr.add, ↓reduceIte] at hx135_0)
                          have qi135 : (1 < t109.length) = True := eq_true (by omega)
                          (try rw [show ((1 : Int)).toNat = 1 from rfl] at hx135_0)
                          have hn135_0 : ad134.block ≠ gb133 := Kd.own_blk (Kd.R_ne HO111.out BK133.out (by decide))
                          have hn135_1 : ad134.block ≠ gb133 := Kd.own_blk (Kd.R_ne HO111.out BK133.out (by decide))
                          have hn135_2 : ad134.block ≠ gb133 := Kd.own_blk (Kd.R_ne HO111.out BK133.out (by decide))
                          replace hx135_0 := (cell_far (p := ⟨gb133, 0, none⟩) (by first | (rw [add_block]; exact hn135_0) | (show (Addr.add _ _).block ≠ _; rw [add_block]; exact hn135_0) | exact hn135_0) (.int .i64 t127)).trans hx135_0
                          replace hx135_0 := (cell_far (p := ⟨gb133, 1, none⟩) (by first | (rw [add_block]; exact hn135_1) | (show (Addr.add _ _).block ≠ _; rw [add_block]; exact hn135_1) | exact hn135_1) (.int .i64 t128)).trans hx135_0
                          replace hx135_0 := (cell_far (p := ⟨gb133, 2, none⟩) (by first | (rw [add_block]; exact hn135_2) | (show (Addr.add _ _).block ≠ _; rw [add_block]; exact hn135_2) | exact hn135_2) (.slice Ao40 t129.length co40)).trans hx135_0
                          (try have hy135_0 := fun (n_ : Nat) => (show (((((w36.drewN n_).setCell ⟨gb133, 0, none⟩ (.int .i64 t127)).setCell ⟨gb133, 1, none⟩ (.int .i64 t128)).setCell ⟨gb133, 2, none⟩ (.slice Ao40 t129.length co40))).cell? _ = some _ from hx135_0))
                          clear hn135_0
                          clear hn135_1
                          clear hn135_2
                          replace p135 := eq_true p135
                          replace q135 := eq_true q135
                          go_wp2
                          repeat (go_quiet (fail); try go_wp2)
                          go_meet
                          case rel => exact ⟨_, (true), (by first | rfl | (simp; done) | (simp [*]; done)), H', ⟨by first | omega | exact Nat.le_refl _⟩, ⟨by (with_reducible repeat (first | apply Kd.R_alloc | apply Kd.R_drewN | apply Kd.R_drew)); exact Kd.R_mono (Kd.R_far (p := ⟨gb133, 2, none⟩) (Kd.R_far (p := ⟨gb133, 1, none⟩) (Kd.R_far (p := ⟨gb133, 0, none⟩) (Kd.R_types HO111.out BK133.out (by decide)) (fun _ hk => hk.2) (.int .i64 t127)) (fun _ hk => hk.2) (.int .i64 t128)) (fun _ hk => hk.2) (.slice Ao40 t129.length co40)) (fun _ hk => ⟨hk.1.1.1.2, hk.1.2⟩)⟩, ⟨by (with_reducible repeat (first | apply Kd.R_alloc | apply Kd.R_drewN | apply Kd.R_drew)); exact Kd.R_mono (Kd.R_far (p := ⟨gb133, 2, none⟩) (Kd.R_far (p := ⟨gb133, 1, none⟩) (Kd.R_far (p := ⟨gb133, 0, none⟩) (Kd.R_types HO121.out BK133.out (by decide)) (fun _ hk => hk.2) (.int .i64 t127)) (fun _ hk => hk.2) (.int .i64 t128)) (fun _ hk => hk.2) (.slice Ao40 t129.length co40)) (fun _ hk => ⟨hk.1.1.1.1.2, hk.1.2⟩)⟩, ⟨by (with_reducible repeat (first | apply Kd.R_alloc | apply Kd.R_drewN | apply Kd.R_drew)); exact Kd.R_mono (Kd.R_far (p := ⟨gb133, 2, none⟩) (Kd.R_far (p := ⟨gb133, 1, none⟩) (Kd.R_far (p := ⟨gb133, 0, none⟩) (Kd.R_types HO131.out BK133.out (by decide)) (fun _ hk => hk.2) (.int .i64 t127)) (fun _ hk => hk.2) (.int .i64 t128)) (fun _ hk => hk.2) (.slice Ao40 t129.length co40)) (fun _ hk => ⟨hk.1.1.1.1.2, hk.1.1.2⟩)⟩, ⟨by (with_reducible repeat (first | refine blk_drewN ?_ _ | refine blk_drew ?_ | refine blk_alloc ?_ _)); refine blk_far ?_ NB113_133.out _; (with_reducible repeat (first | refine blk_drewN ?_ _ | refine blk_drew ?_ | refine blk_alloc ?_ _)); refine blk_far ?_ NB113_133.out _; (with_reducible repeat (first | refine blk_drewN ?_ _ | refine blk_drew ?_ | refine blk_alloc ?_ _)); refine blk_far ?_ NB113_133.out _; (with_reducible repeat (first | refine blk_drewN ?_ _ | refine blk_drew ?_ | refine blk_alloc ?_ _)); exact BK113.out⟩, ⟨by (with_reducible repeat (first | refine blk_drewN ?_ _ | refine blk_drew ?_ | refine blk_alloc ?_ _)); refine blk_far ?_ NB123_133.out _; (with_reducible repeat (first | refine blk_drewN ?_ _ | refine blk_drew ?_ | refine blk_alloc ?_ _)); refine blk_far ?_ NB123_133.out _; (with_reducible repeat (first | refine blk_drewN ?_ _ | refine blk_drew ?_ | refine blk_alloc ?_ _)); refine blk_far ?_ NB123_133.out _; (with_reducible repeat (first | refine blk_drewN ?_ _ | refine blk_drew ?_ | refine blk_alloc ?_ _)); exact BK123.out⟩, ⟨by (with_reducible repeat (first | refine blk_drewN ?_ _ | refine blk_drew ?_ | refine blk_alloc ?_ _)); refine blk_put (cs := #[.int .i64 t127, .int .i64 t128, .slice none 0 0]) ?_ 2 _ rfl; (with_reducible repeat (first | refine blk_drewN ?_ _ | refine blk_drew ?_ | refine blk_alloc ?_ _)); refine blk_put (cs := #[.int .i64 t127, .int .i64 0, .slice none 0 0]) ?_ 1 _ rfl; (with_reducible repeat (first | refine blk_drewN ?_ _ | refine blk_drew ?_ | refine blk_alloc ?_ _)); refine blk_put (cs := #[.int .i64 0, .int .i64 0, .slice none 0 0]) ?_ 0 _ rfl; (with_reducible repeat (first | refine blk_drewN ?_ _ | refine blk_drew ?_ | refine blk_alloc ?_ _)); exact BK133.out⟩, ⟨by repeat (first | (with_reducible first | exact HB.out | apply below_alloc | apply pw_below_drewN | apply below_drew1 | refine below_set ?_ GE113.out | refine below_set ?_ GE123.out | refine below_set ?_ GE133.out) | exact HB.out)⟩⟩
                      · rw [if_neg c48] at H
                        exact absurd H (by simp)
                    · rw [if_neg c47] at H
                      have c47b0 : ((rd t109 0) == 0) = false := beq_eq_false_iff_ne.mpr c47
                      have c47b1 : ((rd t109 0) != 0) = true := bne_iff_ne.mpr c47
                      have H' := Aside0.mk H
                      clear H
                      have hnb63 := NB113_123.out
                      have hnc63 := NB123_113.out
                      have hnb64 := NB113_133.out
                      have hnc64 := NB133_113.out
                      have hcz65_0 : w36.cell? ⟨gb113, 0, none⟩ = some (.int .i64 t107) := (blk_cell BK113.out 0).trans rfl
                      have hcz65_1 : w36.cell? ⟨gb113, 1, none⟩ = some (.int .i64 t108) := (blk_cell BK113.out 1).trans rfl
                      have hcz65_2 : w36.cell? ⟨gb113, 2, none⟩ = some (.slice Ao23 t109.length co23) := (blk_cell BK113.out 2).trans rfl
                      have hfz65_0 := blk_frozen BK113.out 0
                      have hfz65_1 := blk_frozen BK113.out 1
                      have hfz65_2 := blk_frozen BK113.out 2
                      have hnb66 := NB123_133.out
                      have hnc66 := NB133_123.out
                      have hcz67_0 : w36.cell? ⟨gb123, 0, none⟩ = some (.int .i64 t117) := (blk_cell BK123.out 0).trans rfl
                      have hcz67_1 : w36.cell? ⟨gb123, 1, none⟩ = some (.int .i64 t118) := (blk_cell BK123.out 1).trans rfl
                      have hcz67_2 : w36.cell? ⟨gb123, 2, none⟩ = some (.slice Ao31 t119.length co31) := (blk_cell BK123.out 2).trans rfl
                      have hfz67_0 := blk_frozen BK123.out 0
                      have hfz67_1 := blk_frozen BK123.out 1
                      have hfz67_2 := blk_frozen BK123.out 2
                      have hcz68_0 : w36.cell? ⟨gb133, 0, none⟩ = some (.int .i64 0) := (blk_cell BK133.out 0).trans rfl
                      have hcz68_1 : w36.cell? ⟨gb133, 1, none⟩ = some (.int .i64 0) := (blk_cell BK133.out 1).trans rfl
                      have hcz68_2 : w36.cell? ⟨gb133, 2, none⟩ = some (.slice none 0 0) := (blk_cell BK133.out 2).trans rfl
                      have hfz68_0 := blk_frozen BK133.out 0
                      have hfz68_1 := blk_frozen BK133.out 1
                      have hfz68_2 := blk_frozen BK133.out 2
                      have p134 : 0 ≤ (0 : Int) := (by omega)
                      have q134 : 0 < (t109.length : Int) := of_decide_eq_true (by first | (with_reducible assumption) | assumption)
                      obtain ⟨ad134, e134, hx134_0⟩ := Kd.at_int (Kd.R_reads' HO111.out).2.2 0 p134 q134
                      cases e134
                      have qi134 : (0 < t109.length) = True := eq_true (by omega)
                      (try rw [show ((0 : Int)).toNat = 0 from rfl] at hx134_0)
                      (try rw [Addr.add_zero'] at hx134_0)
                      have hn134_0 : ad134.block ≠ gb133 := Kd.own_blk (Kd.R_ne HO111.out BK133.out (by decide))
                      have hn134_1 : ad134.block ≠ gb133 := Kd.own_blk (Kd.R_ne HO111.out BK133.out (by decide))
                      have hn134_2 : ad134.block ≠ gb133 := Kd.own_blk (Kd.R_ne HO111.out BK133.out (by decide))
                      replace hx134_0 := (cell_far (p := ⟨gb133, 0, none⟩) (by first | (rw [add_block]; exact hn134_0) | (show (Addr.add _ _).block ≠ _; rw [add_block]; exact hn134_0) | exact hn134_0) (.int .i64 t127)).trans hx134_0
                      replace hx134_0 := (cell_far (p := ⟨gb133, 1, none⟩) (by first | (rw [add_block]; exact hn134_1) | (show (Addr.add _ _).block ≠ _; rw [add_block]; exact hn134_1) | exact hn134_1) (.int .i64 t128)).trans hx134_0
                      replace hx134_0 := (cell_far (p := ⟨gb133, 2, none⟩) (by first | (rw [add_block]; exact hn134_2) | (show (Addr.add _ _).block ≠ _; rw [add_block]; exact hn134_2) | exact hn134_2) (.slice Ao40 t129.length co40)).trans hx134_0
                      (try have hy134_0 := fun (n_ : Nat) => (show (((((w36.drewN n_).setCell ⟨gb133, 0, none⟩ (.int .i64 t127)).setCell ⟨gb133, 1, none⟩ (.int .i64 t128)).setCell ⟨gb133, 2, none⟩ (.slice Ao40 t129.length co40))).cell? _ = some _ from hx134_0))
                      clear hn134_0
                      clear hn134_1
                      clear hn134_2
                      replace p134 := eq_true p134
                      replace q134 := eq_true q134
                      go_wp2
                      repeat (go_quiet (fail); try go_wp2)
                      go_meet
                      case rel => exact ⟨_, (true), (by first | rfl | (simp; done) | (simp [*]; done)), H', ⟨by first | omega | exact Nat.le_refl _⟩, ⟨by (with_reducible repeat (first | apply Kd.R_alloc | apply Kd.R_drewN | apply Kd.R_drew)); exact Kd.R_mono (Kd.R_far (p := ⟨gb133, 2, none⟩) (Kd.R_far (p := ⟨gb133, 1, none⟩) (Kd.R_far (p := ⟨gb133, 0, none⟩) (Kd.R_types HO111.out BK133.out (by decide)) (fun _ hk => hk.2) (.int .i64 t127)) (fun _ hk => hk.2) (.int .i64 t128)) (fun _ hk => hk.2) (.slice Ao40 t129.length co40)) (fun _ hk => ⟨hk.1.1.1.2, hk.1.2⟩)⟩, ⟨by (with_reducible repeat (first | apply Kd.R_alloc | apply Kd.R_drewN | apply Kd.R_drew)); exact Kd.R_mono (Kd.R_far (p := ⟨gb133, 2, none⟩) (Kd.R_far (p := ⟨gb133, 1, none⟩) (Kd.R_far (p := ⟨gb133, 0, none⟩) (Kd.R_types HO121.out BK133.out (by decide)) (fun _ hk => hk.2) (.int .i64 t127)) (fun _ hk => hk.2) (.int .i64 t128)) (fun _ hk => hk.2) (.slice Ao40 t129.length co40)) (fun _ hk => ⟨hk.1.1.1.1.2, hk.1.2⟩)⟩, ⟨by (with_reducible repeat (first | apply Kd.R_alloc | apply Kd.R_drewN | apply Kd.R_drew)); exact Kd.R_mono (Kd.R_far (p := ⟨gb133, 2, none⟩) (Kd.R_far (p := ⟨gb133, 1, none⟩) (Kd.R_far (p := ⟨gb133, 0, none⟩) (Kd.R_types HO131.out BK133.out (by decide)) (fun _ hk => hk.2) (.int .i64 t127)) (fun _ hk => hk.2) (.int .i64 t128)) (fun _ hk => hk.2) (.slice Ao40 t129.length co40)) (fun _ hk => ⟨hk.1.1.1.1.2, hk.1.1.2⟩)⟩, ⟨by (with_reducible repeat (first | refine blk_drewN ?_ _ | refine blk_drew ?_ | refine blk_alloc ?_ _)); refine blk_far ?_ NB113_133.out _; (with_reducible repeat (first | refine blk_drewN ?_ _ | refine blk_drew ?_ | refine blk_alloc ?_ _)); refine blk_far ?_ NB113_133.out _; (with_reducible repeat (first | refine blk_drewN ?_ _ | refine blk_drew ?_ | refine blk_alloc ?_ _)); refine blk_far ?_ NB113_133.out _; (with_reducible repeat (first | refine blk_drewN ?_ _ | refine blk_drew ?_ | refine blk_alloc ?_ _)); exact BK113.out⟩, ⟨by (with_reducible repeat (first | refine blk_drewN ?_ _ | refine blk_drew ?_ | refine blk_alloc ?_ _)); refine blk_far ?_ NB123_133.out _; (with_reducible repeat (first | refine blk_drewN ?_ _ | refine blk_drew ?_ | refine blk_alloc ?_ _)); refine blk_far ?_ NB123_133.out _; (with_reducible repeat (first | refine blk_drewN ?_ _ | refine blk_drew ?_ | refine blk_alloc ?_ _)); refine blk_far ?_ NB123_133.out _; (with_reducible repeat (first | refine blk_drewN ?_ _ | refine blk_drew ?_ | refine blk_alloc ?_ _)); exact BK123.out⟩, ⟨by (with_reducible repeat (first | refine blk_drewN ?_ _ | refine blk_drew ?_ | refine blk_alloc ?_ _)); refine blk_put (cs := #[.int .i64 t127, .int .i64 t128, .slice none 0 0]) ?_ 2 _ rfl; (with_reducible repeat (first | refine blk_drewN ?_ _ | refine blk_drew ?_ | refine blk_alloc ?_ _)); refine blk_put (cs := #[.int .i64 t127, .int .i64 0, .slice none 0 0]) ?_ 1 _ rfl; (with_reducible repeat (first | refine blk_drewN ?_ _ | refine blk_drew ?_ | refine blk_alloc ?_ _)); refine blk_put (cs := #[.int .i64 0, .int .i64 0, .slice none 0 0]) ?_ 0 _ rfl; (with_reducible repeat (first | refine blk_drewN ?_ _ | refine blk_drew ?_ | refine blk_alloc ?_ _)); exact BK133.out⟩, ⟨by repeat (first | (with_reducible first | exact HB.out | apply below_alloc | apply pw_below_drewN | apply below_drew1 | refine below_set ?_ GE113.out | refine below_set ?_ GE123.out | refine below_set ?_ GE133.out) | exact HB.out)⟩⟩
                  · rw [if_neg c46] at H
                    exact absurd H (by simp)
                · rw [if_neg c45] at H
                  have c45b0 : ((t129.length : Int) == 1) = false := beq_eq_false_iff_ne.mpr c45
                  have c45b1 : ((t129.length : Int) != 1) = true := bne_iff_ne.mpr c45
                  have H' := Aside0.mk H
                  clear H
                  have hnb69 := NB113_123.out
                  have hnc69 := NB123_113.out
                  have hnb70 := NB113_133.out
                  have hnc70 := NB133_113.out
                  have hcz71_0 : w36.cell? ⟨gb113, 0, none⟩ = some (.int .i64 t107) := (blk_cell BK113.out 0).trans rfl
                  have hcz71_1 : w36.cell? ⟨gb113, 1, none⟩ = some (.int .i64 t108) := (blk_cell BK113.out 1).trans rfl
                  have hcz71_2 : w36.cell? ⟨gb113, 2, none⟩ = some (.slice Ao23 t109.length co23) := (blk_cell BK113.out 2).trans rfl
                  have hfz71_0 := blk_frozen BK113.out 0
                  have hfz71_1 := blk_frozen BK113.out 1
                  have hfz71_2 := blk_frozen BK113.out 2
                  have hnb72 := NB123_133.out
                  have hnc72 := NB133_123.out
                  have hcz73_0 : w36.cell? ⟨gb123, 0, none⟩ = some (.int .i64 t117) := (blk_cell BK123.out 0).trans rfl
                  have hcz73_1 : w36.cell? ⟨gb123, 1, none⟩ = some (.int .i64 t118) := (blk_cell BK123.out 1).trans rfl
                  have hcz73_2 : w36.cell? ⟨gb123, 2, none⟩ = some (.slice Ao31 t119.length co31) := (blk_cell BK123.out 2).trans rfl
                  have hfz73_0 := blk_frozen BK123.out 0
                  have hfz73_1 := blk_frozen BK123.out 1
                  have hfz73_2 := blk_frozen BK123.out 2
                  have hcz74_0 : w36.cell? ⟨gb133, 0, none⟩ = some (.int .i64 0) := (blk_cell BK133.out 0).trans rfl
                  have hcz74_1 : w36.cell? ⟨gb133, 1, none⟩ = some (.int .i64 0) := (blk_cell BK133.out 1).trans rfl
                  have hcz74_2 : w36.cell? ⟨gb133, 2, none⟩ = some (.slice none 0 0) := (blk_cell BK133.out 2).trans rfl
                  have hfz74_0 := blk_frozen BK133.out 0
                  have hfz74_1 := blk_frozen BK133.out 1
                  have hfz74_2 := blk_frozen BK133.out 2
                  go_wp2
                  repeat (go_quiet (fail); try go_wp2)
                  go_meet
                  case rel => exact ⟨_, (true), (by first | rfl | (simp; done) | (simp [*]; done)), H', ⟨by first | omega | exact Nat.le_refl _⟩, ⟨by (with_reducible repeat (first | apply Kd.R_alloc | apply Kd.R_drewN | apply Kd.R_drew)); exact Kd.R_mono (Kd.R_far (p := ⟨gb133, 2, none⟩) (Kd.R_far (p := ⟨gb133, 1, none⟩) (Kd.R_far (p := ⟨gb133, 0, none⟩) (Kd.R_types HO111.out BK133.out (by decide)) (fun _ hk => hk.2) (.int .i64 t127)) (fun _ hk => hk.2) (.int .i64 t128)) (fun _ hk => hk.2) (.slice Ao40 t129.length co40)) (fun _ hk => ⟨hk.1.1.1.2, hk.1.2⟩)⟩, ⟨by (with_reducible repeat (first | apply Kd.R_alloc | apply Kd.R_drewN | apply Kd.R_drew)); exact Kd.R_mono (Kd.R_far (p := ⟨gb133, 2, none⟩) (Kd.R_far (p := ⟨gb133, 1, none⟩) (Kd.R_far (p := ⟨gb133, 0, none⟩) (Kd.R_types HO121.out BK133.out (by decide)) (fun _ hk => hk.2) (.int .i64 t127)) (fun _ hk => hk.2) (.int .i64 t128)) (fun _ hk => hk.2) (.slice Ao40 t129.length co40)) (fun _ hk => ⟨hk.1.1.1.1.2, hk.1.2⟩)⟩, ⟨by (with_reducible repeat (first | apply Kd.R_alloc | apply Kd.R_drewN | apply Kd.R_drew)); exact Kd.R_mono (Kd.R_far (p := ⟨gb133, 2, none⟩) (Kd.R_far (p := ⟨gb133, 1, none⟩) (Kd.R_far (p := ⟨gb133, 0, none⟩) (Kd.R_types HO131.out BK133.out (by decide)) (fun _ hk => hk.2) (.int .i64 t127)) (fun _ hk => hk.2) (.int .i64 t128)) (fun _ hk => hk.2) (.slice Ao40 t129.length co40)) (fun _ hk => ⟨hk.1.1.1.1.2, hk.1.1.2⟩)⟩, ⟨by (with_reducible repeat (first | refine blk_drewN ?_ _ | refine blk_drew ?_ | refine blk_alloc ?_ _)); refine blk_far ?_ NB113_133.out _; (with_reducible repeat (first | refine blk_drewN ?_ _ | refine blk_drew ?_ | refine blk_alloc ?_ _)); refine blk_far ?_ NB113_133.out _; (with_reducible repeat (first | refine blk_drewN ?_ _ | refine blk_drew ?_ | refine blk_alloc ?_ _)); refine blk_far ?_ NB113_133.out _; (with_reducible repeat (first | refine blk_drewN ?_ _ | refine blk_drew ?_ | refine blk_alloc ?_ _)); exact BK113.out⟩, ⟨by (with_reducible repeat (first | refine blk_drewN ?_ _ | refine blk_drew ?_ | refine blk_alloc ?_ _)); refine blk_far ?_ NB123_133.out _; (with_reducible repeat (first | refine blk_drewN ?_ _ | refine blk_drew ?_ | refine blk_alloc ?_ _)); refine blk_far ?_ NB123_133.out _; (with_reducible repeat (first | refine blk_drewN ?_ _ | refine blk_drew ?_ | refine blk_alloc ?_ _)); refine blk_far ?_ NB123_133.out _; (with_reducible repeat (first | refine blk_drewN ?_ _ | refine blk_drew ?_ | refine blk_alloc ?_ _)); exact BK123.out⟩, ⟨by (with_reducible repeat (first | refine blk_drewN ?_ _ | refine blk_drew ?_ | refine blk_alloc ?_ _)); refine blk_put (cs := #[.int .i64 t127, .int .i64 t128, .slice none 0 0]) ?_ 2 _ rfl; (with_reducible repeat (first | refine blk_drewN ?_ _ | refine blk_drew ?_ | refine blk_alloc ?_ _)); refine blk_put (cs := #[.int .i64 t127, .int .i64 0, .slice none 0 0]) ?_ 1 _ rfl; (with_reducible repeat (first | refine blk_drewN ?_ _ | refine blk_drew ?_ | refine blk_alloc ?_ _)); refine blk_put (cs := #[.int .i64 0, .int .i64 0, .slice none 0 0]) ?_ 0 _ rfl; (with_reducible repeat (first | refine blk_drewN ?_ _ | refine blk_drew ?_ | refine blk_alloc ?_ _)); exact BK133.out⟩, ⟨by repeat (first | (with_reducible first | exact HB.out | apply below_alloc | apply pw_below_drewN | apply below_drew1 | refine below_set ?_ GE113.out | refine below_set ?_ GE123.out | refine below_set ?_ GE133.out) | exact HB.out)⟩⟩
              · rw [if_neg c44] at H
                have c44b0 : ((t119.length : Int) == 1) = false := beq_eq_false_iff_ne.mpr c44
                have c44b1 : ((t119.length : Int) != 1) = true := bne_iff_ne.mpr c44
                have H' := Aside0.mk H
                clear H
                have hnb75 := NB113_123.out
                have hnc75 := NB123_113.out
                have hnb76 := NB113_133.out
                have hnc76 := NB133_113.out
                have hcz77_0 : w36.cell? ⟨gb113, 0, none⟩ = some (.int .i64 t107) := (blk_cell BK113.out 0).trans rfl
                have hcz77_1 : w36.cell? ⟨gb113, 1, none⟩ = some (.int .i64 t108) := (blk_cell BK113.out 1).trans rfl
                have hcz77_2 : w36.cell? ⟨gb113, 2, none⟩ = some (.slice Ao23 t109.length co23) := (blk_cell BK113.out 2).trans rfl
                have hfz77_0 := blk_frozen BK113.out 0
                have hfz77_1 := blk_frozen BK113.out 1
                have hfz77_2 := blk_frozen BK113.out 2
                have hnb78 := NB123_133.out
                have hnc78 := NB133_123.out
                have hcz79_0 : w36.cell? ⟨gb123, 0, none⟩ = some (.int .i64 t117) := (blk_cell BK123.out 0).trans rfl
                have hcz79_1 : w36.cell? ⟨gb123, 1, none⟩ = some (.int .i64 t118) := (blk_cell BK123.out 1).trans rfl
                have hcz79_2 : w36.cell? ⟨gb123, 2, none⟩ = some (.slice Ao31 t119.length co31) := (blk_cell BK123.out 2).trans rfl
                have hfz79_0 := blk_frozen BK123.out 0
                have hfz79_1 := blk_frozen BK123.out 1
                have hfz79_2 := blk_frozen BK123.out 2
                go_wp2
                repeat (go_quiet (fail); try go_wp2)
                go_meet
                case rel => exact ⟨_, (true), (by first | rfl | (simp; done) | (simp [*]; done)), H', ⟨by first | omega | exact Nat.le_refl _⟩, ⟨by (with_reducible repeat (first | apply Kd.R_alloc | apply Kd.R_drewN | apply Kd.R_drew)); exact Kd.R_mono (Kd.R_far (p := ⟨gb133, 2, none⟩) (Kd.R_far (p := ⟨gb133, 1, none⟩) (Kd.R_far (p := ⟨gb133, 0, none⟩) (Kd.R_types HO111.out BK133.out (by decide)) (fun _ hk => hk.2) (.int .i64 t127)) (fun _ hk => hk.2) (.int .i64 t128)) (fun _ hk => hk.2) (.slice Ao40 t129.length co40)) (fun _ hk => ⟨hk.1.1.1.2, hk.1.2⟩)⟩, ⟨by (with_reducible repeat (first | apply Kd.R_alloc | apply Kd.R_drewN | apply Kd.R_drew)); exact Kd.R_mono (Kd.R_far (p := ⟨gb133, 2, none⟩) (Kd.R_far (p := ⟨gb133, 1, none⟩) (Kd.R_far (p := ⟨gb133, 0, none⟩) (Kd.R_types HO121.out BK133.out (by decide)) (fun _ hk => hk.2) (.int .i64 t127)) (fun _ hk => hk.2) (.int .i64 t128)) (fun _ hk => hk.2) (.slice Ao40 t129.length co40)) (fun _ hk => ⟨hk.1.1.1.1.2, hk.1.2⟩)⟩, ⟨by (with_reducible repeat (first | apply Kd.R_alloc | apply Kd.R_drewN | apply Kd.R_drew)); exact Kd.R_mono (Kd.R_far (p := ⟨gb133, 2, none⟩) (Kd.R_far (p := ⟨gb133, 1, none⟩) (Kd.R_far (p := ⟨gb133, 0, none⟩) (Kd.R_types HO131.out BK133.out (by decide)) (fun _ hk => hk.2) (.int .i64 t127)) (fun _ hk => hk.2) (.int .i64 t128)) (fun _ hk => hk.2) (.slice Ao40 t129.length co40)) (fun _ hk => ⟨hk.1.1.1.1.2, hk.1.1.2⟩)⟩, ⟨by (with_reducible repeat (first | refine blk_drewN ?_ _ | refine blk_drew ?_ | refine blk_alloc ?_ _)); refine blk_far ?_ NB113_133.out _; (with_reducible repeat (first | refine blk_drewN ?_ _ | refine blk_drew ?_ | refine blk_alloc ?_ _)); refine blk_far ?_ NB113_133.out _; (with_reducible repeat (first | refine blk_drewN ?_ _ | refine blk_drew ?_ | refine blk_alloc ?_ _)); refine blk_far ?_ NB113_133.out _; (with_reducible repeat (first | refine blk_drewN ?_ _ | refine blk_drew ?_ | refine blk_alloc ?_ _)); exact BK113.out⟩, ⟨by (with_reducible repeat (first | refine blk_drewN ?_ _ | refine blk_drew ?_ | refine blk_alloc ?_ _)); refine blk_far ?_ NB123_133.out _; (with_reducible repeat (first | refine blk_drewN ?_ _ | refine blk_drew ?_ | refine blk_alloc ?_ _)); refine blk_far ?_ NB123_133.out _; (with_reducible repeat (first | refine blk_drewN ?_ _ | refine blk_drew ?_ | refine blk_alloc ?_ _)); refine blk_far ?_ NB123_133.out _; (with_reducible repeat (first | refine blk_drewN ?_ _ | refine blk_drew ?_ | refine blk_alloc ?_ _)); exact BK123.out⟩, ⟨by (with_reducible repeat (first | refine blk_drewN ?_ _ | refine blk_drew ?_ | refine blk_alloc ?_ _)); refine blk_put (cs := #[.int .i64 t127, .int .i64 t128, .slice none 0 0]) ?_ 2 _ rfl; (with_reducible repeat (first | refine blk_drewN ?_ _ | refine blk_drew ?_ | refine blk_alloc ?_ _)); refine blk_put (cs := #[.int .i64 t127, .int .i64 0, .slice none 0 0]) ?_ 1 _ rfl; (with_reducible repeat (first | refine blk_drewN ?_ _ | refine blk_drew ?_ | refine blk_alloc ?_ _)); refine blk_put (cs := #[.int .i64 0, .int .i64 0, .slice none 0 0]) ?_ 0 _ rfl; (with_reducible repeat (first | refine blk_drewN ?_ _ | refine blk_drew ?_ | refine blk_alloc ?_ _)); exact BK133.out⟩, ⟨by repeat (first | (with_reducible first | exact HB.out | apply below_alloc | apply pw_below_drewN | apply below_drew1 | refine below_set ?_ GE113.out | refine below_set ?_ GE123.out | refine below_set ?_ GE133.out) | exact HB.out)⟩⟩
            · rw [if_neg c43] at H
              have c43b0 : ((t109.length : Int) == 4) = false := beq_eq_false_iff_ne.mpr c43
              have c43b1 : ((t109.length : Int) != 4) = true := bne_iff_ne.mpr c43
              have H' := Aside0.mk H
              clear H
              have hnb80 := NB113_123.out
              have hnc80 := NB123_113.out
              have hnb81 := NB113_133.out
              have hnc81 := NB133_113.out
              have hcz82_0 : w36.cell? ⟨gb113, 0, none⟩ = some (.int .i64 t107) := (blk_cell BK113.out 0).trans rfl
              have hcz82_1 : w36.cell? ⟨gb113, 1, none⟩ = some (.int .i64 t108) := (blk_cell BK113.out 1).trans rfl
              have hcz82_2 : w36.cell? ⟨gb113, 2, none⟩ = some (.slice Ao23 t109.length co23) := (blk_cell BK113.out 2).trans rfl
              have hfz82_0 := blk_frozen BK113.out 0
              have hfz82_1 := blk_frozen BK113.out 1
              have hfz82_2 := blk_frozen BK113.out 2
              go_wp2
              repeat (go_quiet (fail); try go_wp2)
              go_meet
              case rel => exact ⟨_, (true), (by first | rfl | (simp; done) | (simp [*]; done)), H', ⟨by first | omega | exact Nat.le_refl _⟩, ⟨by (with_reducible repeat (first | apply Kd.R_alloc | apply Kd.R_drewN | apply Kd.R_drew)); exact Kd.R_mono (Kd.R_far (p := ⟨gb133, 2, none⟩) (Kd.R_far (p := ⟨gb133, 1, none⟩) (Kd.R_far (p := ⟨gb133, 0, none⟩) (Kd.R_types HO111.out BK133.out (by decide)) (fun _ hk => hk.2) (.int .i64 t127)) (fun _ hk => hk.2) (.int .i64 t128)) (fun _ hk => hk.2) (.slice Ao40 t129.length co40)) (fun _ hk => ⟨hk.1.1.1.2, hk.1.2⟩)⟩, ⟨by (with_reducible repeat (first | apply Kd.R_alloc | apply Kd.R_drewN | apply Kd.R_drew)); exact Kd.R_mono (Kd.R_far (p := ⟨gb133, 2, none⟩) (Kd.R_far (p := ⟨gb133, 1, none⟩) (Kd.R_far (p := ⟨gb133, 0, none⟩) (Kd.R_types HO121.out BK133.out (by decide)) (fun _ hk => hk.2) (.int .i64 t127)) (fun _ hk => hk.2) (.int .i64 t128)) (fun _ hk => hk.2) (.slice Ao40 t129.length co40)) (fun _ hk => ⟨hk.1.1.1.1.2, hk.1.2⟩)⟩, ⟨by (with_reducible repeat (first | apply Kd.R_alloc | apply Kd.R_drewN | apply Kd.R_drew)); exact Kd.R_mono (Kd.R_far (p := ⟨gb133, 2, none⟩) (Kd.R_far (p := ⟨gb133, 1, none⟩) (Kd.R_far (p := ⟨gb133, 0, none⟩) (Kd.R_types HO131.out BK133.out (by decide)) (fun _ hk => hk.2) (.int .i64 t127)) (fun _ hk => hk.2) (.int .i64 t128)) (fun _ hk => hk.2) (.slice Ao40 t129.length co40)) (fun _ hk => ⟨hk.1.1.1.1.2, hk.1.1.2⟩)⟩, ⟨by (with_reducible repeat (first | refine blk_drewN ?_ _ | refine blk_drew ?_ | refine blk_alloc ?_ _)); refine blk_far ?_ NB113_133.out _; (with_reducible repeat (first | refine blk_drewN ?_ _ | refine blk_drew ?_ | refine blk_alloc ?_ _)); refine blk_far ?_ NB113_133.out _; (with_reducible repeat (first | refine blk_drewN ?_ _ | refine blk_drew ?_ | refine blk_alloc ?_ _)); refine blk_far ?_ NB113_133.out _; (with_reducible repeat (first | refine blk_drewN ?_ _ | refine blk_drew ?_ | refine blk_alloc ?_ _)); exact BK113.out⟩, ⟨by (with_reducible repeat (first | refine blk_drewN ?_ _ | refine blk_drew ?_ | refine blk_alloc ?_ _)); refine blk_far ?_ NB123_133.out _; (with_reducible repeat (first | refine blk_drewN ?_ _ | refine blk_drew ?_ | refine blk_alloc ?_ _)); refine blk_far ?_ NB123_133.out _; (with_reducible repeat (first | refine blk_drewN ?_ _ | refine blk_drew ?_ | refine blk_alloc ?_ _)); refine blk_far ?_ NB123_133.out _; (with_reducible repeat (first | refine blk_drewN ?_ _ | refine blk_drew ?_ | refine blk_alloc ?_ _)); exact BK123.out⟩, ⟨by (with_reducible repeat (first | refine blk_drewN ?_ _ | refine blk_drew ?_ | refine blk_alloc ?_ _)); refine blk_put (cs := #[.int .i64 t127, .int .i64 t128, .slice none 0 0]) ?_ 2 _ rfl; (with_reducible repeat (first | refine blk_drewN ?_ _ | refine blk_drew ?_ | refine blk_alloc ?_ _)); refine blk_put (cs := #[.int .i64 t127, .int .i64 0, .slice none 0 0]) ?_ 1 _ rfl; (with_reducible repeat (first | refine blk_drewN ?_ _ | refine blk_drew ?_ | refine blk_alloc ?_ _)); refine blk_put (cs := #[.int .i64 0, .int .i64 0, .slice none 0 0]) ?_ 0 _ rfl; (with_reducible repeat (first | refine blk_drewN ?_ _ | refine blk_drew ?_ | refine blk_alloc ?_ _)); exact BK133.out⟩, ⟨by repeat (first | (with_reducible first | exact HB.out | apply below_alloc | apply pw_below_drewN | apply below_drew1 | refine below_set ?_ GE113.out | refine below_set ?_ GE123.out | refine below_set ?_ GE133.out) | exact HB.out)⟩⟩
          · rw [if_neg c42] at H
            have c42b0 : (t132 == 0) = false := beq_eq_false_iff_ne.mpr c42
            have c42b1 : (t132 != 0) = true := bne_iff_ne.mpr c42
            have H' := Aside0.mk H
            clear H
            go_wp2
            repeat (go_quiet (fail); try go_wp2)
            go_meet
            case rel => exact ⟨_, (true), (by first | rfl | (simp; done) | (simp [*]; done)), H', ⟨by first | omega | exact Nat.le_refl _⟩, ⟨by (with_reducible repeat (first | apply Kd.R_alloc | apply Kd.R_drewN | apply Kd.R_drew)); exact Kd.R_mono (Kd.R_far (p := ⟨gb133, 2, none⟩) (Kd.R_far (p := ⟨gb133, 1, none⟩) (Kd.R_far (p := ⟨gb133, 0, none⟩) (Kd.R_types HO111.out BK133.out (by decide)) (fun _ hk => hk.2) (.int .i64 t127)) (fun _ hk => hk.2) (.int .i64 t128)) (fun _ hk => hk.2) (.slice Ao40 t129.length co40)) (fun _ hk => ⟨hk.1.1.1.2, hk.1.2⟩)⟩, ⟨by (with_reducible repeat (first | apply Kd.R_alloc | apply Kd.R_drewN | apply Kd.R_drew)); exact Kd.R_mono (Kd.R_far (p := ⟨gb133, 2, none⟩) (Kd.R_far (p := ⟨gb133, 1, none⟩) (Kd.R_far (p := ⟨gb133, 0, none⟩) (Kd.R_types HO121.out BK133.out (by decide)) (fun _ hk => hk.2) (.int .i64 t127)) (fun _ hk => hk.2) (.int .i64 t128)) (fun _ hk => hk.2) (.slice Ao40 t129.length co40)) (fun _ hk => ⟨hk.1.1.1.1.2, hk.1.2⟩)⟩, ⟨by (with_reducible repeat (first | apply Kd.R_alloc | apply Kd.R_drewN | apply Kd.R_drew)); exact Kd.R_mono (Kd.R_far (p := ⟨gb133, 2, none⟩) (Kd.R_far (p := ⟨gb133, 1, none⟩) (Kd.R_far (p := ⟨gb133, 0, none⟩) (Kd.R_types HO131.out BK133.out (by decide)) (fun _ hk => hk.2) (.int .i64 t127)) (fun _ hk => hk.2) (.int .i64 t128)) (fun _ hk => hk.2) (.slice Ao40 t129.length co40)) (fun _ hk => ⟨hk.1.1.1.1.2, hk.1.1.2⟩)⟩, ⟨by (with_reducible repeat (first | refine blk_drewN ?_ _ | refine blk_drew ?_ | refine blk_alloc ?_ _)); refine blk_far ?_ NB113_133.out _; (with_reducible repeat (first | refine blk_drewN ?_ _ | refine blk_drew ?_ | refine blk_alloc ?_ _)); refine blk_far ?_ NB113_133.out _; (with_reducible repeat (first | refine blk_drewN ?_ _ | refine blk_drew ?_ | refine blk_alloc ?_ _)); refine blk_far ?_ NB113_133.out _; (with_reducible repeat (first | refine blk_drewN ?_ _ | refine blk_drew ?_ | refine blk_alloc ?_ _)); exact BK113.out⟩, ⟨by (with_reducible repeat (first | refine blk_drewN ?_ _ | refine blk_drew ?_ | refine blk_alloc ?_ _)); refine blk_far ?_ NB123_133.out _; (with_reducible repeat (first | refine blk_drewN ?_ _ | refine blk_drew ?_ | refine blk_alloc ?_ _)); refine blk_far ?_ NB123_133.out _; (with_reducible repeat (first | refine blk_drewN ?_ _ | refine blk_drew ?_ | refine blk_alloc ?_ _)); refine blk_far ?_ NB123_133.out _; (with_reducible repeat (first | refine blk_drewN ?_ _ | refine blk_drew ?_ | refine blk_alloc ?_ _)); exact BK123.out⟩, ⟨by (with_reducible repeat (first | refine blk_drewN ?_ _ | refine blk_drew ?_ | refine blk_alloc ?_ _)); refine blk_put (cs := #[.int .i64 t127, .int .i64 t128, .slice none 0 0]) ?_ 2 _ rfl; (with_reducible repeat (first | refine blk_drewN ?_ _ | refine blk_drew ?_ | refine blk_alloc ?_ _)); refine blk_put (cs := #[.int .i64 t127, .int .i64 0, .slice none 0 0]) ?_ 1 _ rfl; (with_reducible repeat (first | refine blk_drewN ?_ _ | refine blk_drew ?_ | refine blk_alloc ?_ _)); refine blk_put (cs := #[.int .i64 0, .int .i64 0, .slice none 0 0]) ?_ 0 _ rfl; (with_reducible repeat (first | refine blk_drewN ?_ _ | refine blk_drew ?_ | refine blk_alloc ?_ _)); exact BK133.out⟩, ⟨by repeat (first | (with_reducible first | exact HB.out | apply below_alloc | apply pw_below_drewN | apply below_drew1 | refine below_set ?_ GE113.out | refine below_set ?_ GE123.out | refine below_set ?_ GE133.out) | exact HB.out)⟩⟩
        · rw [if_neg c41] at H
          have c41b0 : (t122 == 0) = false := beq_eq_false_iff_ne.mpr c41
          have c41b1 : (t122 != 0) = true := bne_iff_ne.mpr c41
          (first | rw [c41b0] | (simp only [i64_w, i32_w]; rw [c41b0]) | skip)
          have H' := Aside0.mk H
          clear H
          go_wp2
          repeat (go_quiet (fail); try go_wp2)
          go_meet
          case rel => exact ⟨_, (true), (by first | rfl | (simp; done) | (simp [*]; done)), H', ⟨by first | omega | exact Nat.le_refl _⟩, ⟨by (with_reducible repeat (first | apply Kd.R_alloc | apply Kd.R_drewN | apply Kd.R_drew)); exact Kd.R_mono (Kd.R_far (p := ⟨gb133, 2, none⟩) (Kd.R_far (p := ⟨gb133, 1, none⟩) (Kd.R_far (p := ⟨gb133, 0, none⟩) (Kd.R_types HO111.out BK133.out (by decide)) (fun _ hk => hk.2) (.int .i64 t127)) (fun _ hk => hk.2) (.int .i64 t128)) (fun _ hk => hk.2) (.slice Ao40 t129.length co40)) (fun _ hk => ⟨hk.1.1.1.2, hk.1.2⟩)⟩, ⟨by (with_reducible repeat (first | apply Kd.R_alloc | apply Kd.R_drewN | apply Kd.R_drew)); exact Kd.R_mono (Kd.R_far (p := ⟨gb133, 2, none⟩) (Kd.R_far (p := ⟨gb133, 1, none⟩) (Kd.R_far (p := ⟨gb133, 0, none⟩) (Kd.R_types HO121.out BK133.out (by decide)) (fun _ hk => hk.2) (.int .i64 t127)) (fun _ hk => hk.2) (.int .i64 t128)) (fun _ hk => hk.2) (.slice Ao40 t129.length co40)) (fun _ hk => ⟨hk.1.1.1.1.2, hk.1.2⟩)⟩, ⟨by (with_reducible repeat (first | apply Kd.R_alloc | apply Kd.R_drewN | apply Kd.R_drew)); exact Kd.R_mono (Kd.R_far (p := ⟨gb133, 2, none⟩) (Kd.R_far (p := ⟨gb133, 1, none⟩) (Kd.R_far (p := ⟨gb133, 0, none⟩) (Kd.R_types HO131.out BK133.out (by decide)) (fun _ hk => hk.2) (.int .i64 t127)) (fun _ hk => hk.2) (.int .i64 t128)) (fun _ hk => hk.2) (.slice Ao40 t129.length co40)) (fun _ hk => ⟨hk.1.1.1.1.2, hk.1.1.2⟩)⟩, ⟨by (with_reducible repeat (first | refine blk_drewN ?_ _ | refine blk_drew ?_ | refine blk_alloc ?_ _)); refine blk_far ?_ NB113_133.out _; (with_reducible repeat (first | refine blk_drewN ?_ _ | refine blk_drew ?_ | refine blk_alloc ?_ _)); refine blk_far ?_ NB113_133.out _; (with_reducible repeat (first | refine blk_drewN ?_ _ | refine blk_drew ?_ | refine blk_alloc ?_ _)); refine blk_far ?_ NB113_133.out _; (with_reducible repeat (first | refine blk_drewN ?_ _ | refine blk_drew ?_ | refine blk_alloc ?_ _)); exact BK113.out⟩, ⟨by (with_reducible repeat (first | refine blk_drewN ?_ _ | refine blk_drew ?_ | refine blk_alloc ?_ _)); refine blk_far ?_ NB123_133.out _; (with_reducible repeat (first | refine blk_drewN ?_ _ | refine blk_drew ?_ | refine blk_alloc ?_ _)); refine blk_far ?_ NB123_133.out _; (with_reducible repeat (first | refine blk_drewN ?_ _ | refine blk_drew ?_ | refine blk_alloc ?_ _)); refine blk_far ?_ NB123_133.out _; (with_reducible repeat (first | refine blk_drewN ?_ _ | refine blk_drew ?_ | refine blk_alloc ?_ _)); exact BK123.out⟩, ⟨by (with_reducible repeat (first | refine blk_drewN ?_ _ | refine blk_drew ?_ | refine blk_alloc ?_ _)); refine blk_put (cs := #[.int .i64 t127, .int .i64 t128, .slice none 0 0]) ?_ 2 _ rfl; (with_reducible repeat (first | refine blk_drewN ?_ _ | refine blk_drew ?_ | refine blk_alloc ?_ _)); refine blk_put (cs := #[.int .i64 t127, .int .i64 0, .slice none 0 0]) ?_ 1 _ rfl; (with_reducible repeat (first | refine blk_drewN ?_ _ | refine blk_drew ?_ | refine blk_alloc ?_ _)); refine blk_put (cs := #[.int .i64 0, .int .i64 0, .slice none 0 0]) ?_ 0 _ rfl; (with_reducible repeat (first | refine blk_drewN ?_ _ | refine blk_drew ?_ | refine blk_alloc ?_ _)); exact BK133.out⟩, ⟨by repeat (first | (with_reducible first | exact HB.out | apply below_alloc | apply pw_below_drewN | apply below_drew1 | refine below_set ?_ GE113.out | refine below_set ?_ GE123.out | refine below_set ?_ GE133.out) | exact HB.out)⟩⟩
      case rest =>
        clear HC15
        try clear c1
        try clear p1
        try clear q1
        try clear hx1
        try clear qi1
        try clear c2
        try clear p2
        try clear c3
        try clear c4
        try clear c5
        try clear c6
        try clear c7
        try clear c8
        try clear p13
        try clear q13
        try clear hx13
        try clear qi13
        try clear c14
        try clear c14b0
        try clear c14b1
        try clear c29
        try clear c37
        try clear c38
        try clear c41
        try clear c41b0
        try clear c41b1
        try clear c42
        try clear c42b0
        try clear c42b1
        try clear c43
        try clear c43b0
        try clear c43b1
        try clear c44
        try clear c44b0
        try clear c44b1
        try clear c45
        try clear c45b0
        try clear c45b1
        try clear c46
        try clear c46b0
        try clear c46b1
        try clear c47
        try clear c47b0
        try clear c47b1
        try clear c48
        try clear c48b0
        try clear c48b1
        try clear c49
        try clear c49b0
        try clear c49b1
        try clear c50
        try clear c50b0
        try clear c50b1
        try clear c51
        try clear c52
        try clear c54
        try clear c57
        try clear c58
        try clear c60
        try clear c63
        try clear c64
        try clear c66
        try clear c69
        try clear c70
        try clear c72
        try clear c75
        try clear c76
        try clear c78
        try clear c80
        try clear c81
        try clear hcz22_0
        try clear hcz22_1
        try clear hcz22_2
        try clear hcz30_0
        try clear hcz30_1
        try clear hcz30_2
        try clear hcz39_0
        try clear hcz39_1
        try clear hcz39_2
        try clear hcz53_0
        try clear hcz53_1
        try clear hcz53_2
        try clear hcz55_0
        try clear hcz55_1
        try clear hcz55_2
        try clear hcz56_0
        try clear hcz56_1
        try clear hcz56_2
        try clear hcz59_0
        try clear hcz59_1
        try clear hcz59_2
        try clear hcz61_0
        try clear hcz61_1
        try clear hcz61_2
        try clear hcz62_0
        try clear hcz62_1
        try clear hcz62_2
        try clear hcz65_0
        try clear hcz65_1
        try clear hcz65_2
        try clear hcz67_0
        try clear hcz67_1
        try clear hcz67_2
        try clear hcz68_0
        try clear hcz68_1
        try clear hcz68_2
        try clear hcz71_0
        try clear hcz71_1
        try clear hcz71_2
        try clear hcz73_0
        try clear hcz73_1
        try clear hcz73_2
        try clear hcz74_0
        try clear hcz74_1
        try clear hcz74_2
        try clear hcz77_0
        try clear hcz77_1
        try clear hcz77_2
        try clear hcz79_0
        try clear hcz79_1
        try clear hcz79_2
        try clear hcz82_0
        try clear hcz82_1
        try clear hcz82_2
        try clear hfz22_0
        try clear hfz22_1
        try clear hfz22_2
        try clear hfz30_0
        try clear hfz30_1
        try clear hfz30_2
        try clear hfz39_0
        try clear hfz39_1
        try clear hfz39_2
        try clear hfz53_0
        try clear hfz53_1
        try clear hfz53_2
        try clear hfz55_0
        try clear hfz55_1
        try clear hfz55_2
        try clear hfz56_0
        try clear hfz56_1
        try clear hfz56_2
        try clear hfz59_0
        try clear hfz59_1
        try clear hfz59_2
        try clear hfz61_0
        try clear hfz61_1
        try clear hfz61_2
        try clear hfz62_0
        try clear hfz62_1
        try clear hfz62_2
        try clear hfz65_0
        try clear hfz65_1
        try clear hfz65_2
        try clear hfz67_0
        try clear hfz67_1
        try clear hfz67_2
        try clear hfz68_0
        try clear hfz68_1
        try clear hfz68_2
        try clear hfz71_0
        try clear hfz71_1
        try clear hfz71_2
        try clear hfz73_0
        try clear hfz73_1
        try clear hfz73_2
        try clear hfz74_0
        try clear hfz74_1
        try clear hfz74_2
        try clear hfz77_0
        try clear hfz77_1
        try clear hfz77_2
        try clear hfz79_0
        try clear hfz79_1
        try clear hfz79_2
        try clear hfz82_0
        try clear hfz82_1
        try clear hfz82_2
        try clear hx134_0
        try clear hx135_0
        try clear hx136_0
        try clear p134
        try clear p135
        try clear p136
        try clear q134
        try clear q135
        try clear q136
        obtain ⟨kq, x119_14, rfl, HA, HJ14, HO_114002, HO_124002, HO_134002, BK113, BK123, BK133, HB⟩ := hcut
        cases kq with
        | zero => exact absurd HA.out (by simp [halidelaw13_DitherRises.j0])
        | succ kj14 =>
          have H := HA.out
          clear HA
          simp only [halidelaw13_DitherRises.j0] at H
          by_cases c83 : x119_14 = true
          · subst c83
            have H1 : (some false) = some r := by rw [if_pos rfl] at H; exact H
            clear H
            have H := H1
            clear H1
            exact absurd (H.trans (congrArg some HT.out)) (by decide)
          · replace c83 := Bool.eq_false_iff.mpr c83
            subst c83
            have H1 : (if leF t102 t103 = true then (if 0 < (t119.length : Int) then ((math_Float32frombits.f (rd t119 0)).bind fun t138 => (if 0 < (t129.length : Int) then ((math_Float32frombits.f (rd t129 0)).bind fun t140 => (some (leF t138 t140))) else (none))) else (none)) else (some true)) = some r := by rw [if_neg (show ¬ (false = true) by decide)] at H; exact H
            clear H
            have H := H1
            clear H1
            by_cases c84 : leF t102 t103 = true
            · rw [if_pos c84] at H
              have c84b0 : (FloatKind.f32.format.order a0.toNat a1.toNat == some .lt || FloatKind.f32.format.order a0.toNat a1.toNat == some .eq) = true := by rw [show a0 = t102 from Option.some.inj A9.out, show a1 = t103 from Option.some.inj A10.out]; exact c84
              clear c84
              by_cases c85 : 0 < (t119.length : Int)
              · rw [if_pos c85] at H
                have c85b0 : decide (0 < (t119.length : Int)) = true := decide_eq_true c85
                have c85b1 : decide (0 < t119.length) = true := decide_eq_true (by omega)
                clear c85
                replace H := Option.bind_eq_some_iff.mp H
                obtain ⟨t138, A860, H⟩ := H
                replace H : (if 0 < (t129.length : Int) then ((math_Float32frombits.f (rd t129 0)).bind fun t140 => (some (leF t138 t140))) else (none)) = some r := H
                have A86 := Aside0.mk A860
                clear A860
                by_cases c87 : 0 < (t129.length : Int)
                · rw [if_pos c87] at H
                  have c87b0 : decide (0 < (t129.length : Int)) = true := decide_eq_true c87
                  have c87b1 : decide (0 < t129.length) = true := decide_eq_true (by omega)
                  clear c87
                  replace H := Option.bind_eq_some_iff.mp H
                  obtain ⟨t140, A880, H⟩ := H
                  replace H : (some (leF t138 t140)) = some r := H
                  have A88 := Aside0.mk A880
                  clear A880
                  obtain rfl := Option.some.inj H
                  obtain rfl : rd t119 0 = t138 := Option.some.inj A86.out
                  obtain rfl : rd t129 0 = t140 := Option.some.inj A88.out
                  have hnb89 := NB123_113.out
                  have hnc89 := NB113_123.out
                  have hnb90 := NB123_133.out
                  have hnc90 := NB133_123.out
                  have hcz91_0 : wc.cell? ⟨gb123, 0, none⟩ = some (.int .i64 t117) := (blk_cell BK123.out 0).trans rfl
                  have hcz91_1 : wc.cell? ⟨gb123, 1, none⟩ = some (.int .i64 t118) := (blk_cell BK123.out 1).trans rfl
                  have hcz91_2 : wc.cell? ⟨gb123, 2, none⟩ = some (.slice Ao31 t119.length co31) := (blk_cell BK123.out 2).trans rfl
                  have hfz91_0 := blk_frozen BK123.out 0
                  have hfz91_1 := blk_frozen BK123.out 1
                  have hfz91_2 := blk_frozen BK123.out 2
                  have p137 : 0 ≤ (0 : Int) := (by omega)
                  have q137 : 0 < (t119.length : Int) := of_decide_eq_true (by first | (with_reducible assumption) | assumption)
                  obtain ⟨ad137, e137, hx137_0⟩ := Kd.at_int (Kd.R_reads' HO_124002.out).2.2 0 p137 q137
                  cases e137
                  have qi137 : (0 < t119.length) = True := eq_true (by omega)
                  (try rw [show ((0 : Int)).toNat = 0 from rfl] at hx137_0)
                  (try rw [Addr.add_zero'] at hx137_0)
                  replace p137 := eq_true p137
                  replace q137 := eq_true q137
                  have hnb92 := NB133_113.out; have hnc92 := NB113_133.out; have hcz93_0 : wc.cell? ⟨gb133, 0, none⟩ = some (.int .i64 t127) := (blk_cell BK133.out 0).trans rfl; have hcz93_1 : wc.cell? ⟨gb133, 1, none⟩ = some (.int .i64 t128) := (blk_cell BK133.out 1).trans rfl; have hcz93_2 : wc.cell? ⟨gb133, 2, none⟩ = some (.slice Ao40 t129.length co40) := (blk_cell BK133.out 2).trans rfl; have hfz93_0 := blk_frozen BK133.out 0; have hfz93_1 := blk_frozen BK133.out 1; have hfz93_2 := blk_frozen BK133.out 2; have p139 : 0 ≤ (0 : Int) := (by omega); have q139 : 0 < (t129.length : Int) := of_decide_eq_true (by first | (with_reducible assumption) | assumption); obtain ⟨ad139, e139, hx139_0⟩ := Kd.at_int (Kd.R_reads' HO_134002.out).2.2 0 p139 q139; cases e139; have qi139 : (0 < t129.length) = True := eq_true (by omega); (try rw [show ((0 : Int)).toNat = 0 from rfl] at hx139_0); (try rw [Addr.add_zero'] at hx139_0); replace p139 := eq_true p139; replace q139 := eq_true q139
                  go_wp2
                  repeat (go_quiet (fail); try go_wp2)
                  go_ret
                  exact ⟨by first | rfl | (simp [errW_none, errW_some] <;> rfl) | (simp [*, errW_none, errW_some] <;> rfl), by repeat (first | (with_reducible first | exact HB.out | apply below_alloc | apply pw_below_drewN | apply below_drew1 | refine below_set ?_ GE113.out | refine below_set ?_ GE123.out | refine below_set ?_ GE133.out) | exact HB.out)⟩
                · rw [if_neg c87] at H
                  exact absurd H (by simp)
              · rw [if_neg c85] at H
                exact absurd H (by simp)
            · rw [if_neg c84] at H
              have c84b0 : (FloatKind.f32.format.order a0.toNat a1.toNat == some .lt || FloatKind.f32.format.order a0.toNat a1.toNat == some .eq) = false := by rw [show a0 = t102 from Option.some.inj A9.out, show a1 = t103 from Option.some.inj A10.out]; exact Bool.eq_false_iff.mpr c84
              clear c84
              obtain rfl := Option.some.inj H
              go_wp2
              repeat (go_quiet (fail); try go_wp2)
              go_ret
              exact ⟨by first | rfl | (simp [errW_none, errW_some] <;> rfl) | (simp [*, errW_none, errW_some] <;> rfl), by repeat (first | (with_reducible first | exact HB.out | apply below_alloc | apply pw_below_drewN | apply below_drew1 | refine below_set ?_ GE113.out | refine below_set ?_ GE123.out | refine below_set ?_ GE133.out) | exact HB.out)⟩
    · rw [if_neg c14] at H
      have c14b0 : (t112 == 0) = false := beq_eq_false_iff_ne.mpr c14
      have c14b1 : (t112 != 0) = true := bne_iff_ne.mpr c14
      by_cases c94 : t112 = t122
      · rw [if_pos c94] at H
        have c94b0 : (t112 == t122) = true := beq_iff_eq.mpr c94
        have c94b1 : (t112 != t122) = false := bne_eq_false_iff_eq.mpr c94
        clear c94
        by_cases c95 : t112 = t132
        · rw [if_pos c95] at H
          have c95b0 : (t112 == t132) = true := beq_iff_eq.mpr c95
          have c95b1 : (t112 != t132) = false := bne_eq_false_iff_eq.mpr c95
          clear c95
          obtain rfl := Option.some.inj H
          go_enter Try.func7, Try.ntmps7
          go_wp2_with (first | (go_at_call 10; (with_reducible refine (halidelaw13_known.calls k  true _ A7.out).mono ?_); rintro e w96 ⟨rfl, hb⟩; have n0_ := Aside0.mk (below_step (by repeat (first | (with_reducible first | exact HB.out | apply below_alloc | apply pw_below_drewN | apply below_drew1) | exact HB.out)) hb); clear HB; have HB := n0_; clear n0_; (try clear hb); (try clear hb2); (try clear hk); (try clear hi)) | (go_at_call 29; (with_reducible refine (math_Float32frombits.calls a0 t102 _ A9.out).mono ?_); rintro e w' ⟨rfl, ⟨nd, rfl⟩⟩; (try first | exact ⟨rfl, _, World.drewN_drewN _ _ _⟩ | exact ⟨rfl, _, Eq.trans (World.drewN_drewN _ _ _) (congrArg (World.drewN _) (Nat.add_assoc _ _ _))⟩)) | (go_at_call 29; (with_reducible refine (math_Float32frombits.calls a1 t103 _ A10.out).mono ?_); rintro e w' ⟨rfl, ⟨nd, rfl⟩⟩; (try first | exact ⟨rfl, _, World.drewN_drewN _ _ _⟩ | exact ⟨rfl, _, Eq.trans (World.drewN_drewN _ _ _) (congrArg (World.drewN _) (Nat.add_assoc _ _ _))⟩)) | ((with_reducible refine gate_dst (N := 28) rfl ?_); (try (refine gate_guard (by rfl) ?_; dsimp only)); refine Kd.R_lit (Kd.int .u32) _ 48 ?hg (N := 28) ?hd (xs := ([0, 1065353216, 0, 0] : List Int)) (inner := [.int .u32 0, .int .u32 1065353216, .int .u32 0, .int .u32 0]) (ok := fun _ => True) (okp := fun _ => True) ?hr ?hp (fun _ hk => hk) trivial (Below.refl _ _) (Nat.le_refl _) (by simp) ?_; (case hd => rfl); (case hg => rfl); (case hr => first | (go_simp; done) | (go_simp; rfl)); (case hp => exact (Reps.one (show Kd.M (Kd.int .u32) _ _ _ 0 [.int .u32 0] from rfl) (Reps.one (show Kd.M (Kd.int .u32) _ _ _ 1065353216 [.int .u32 1065353216] from rfl) (Reps.one (show Kd.M (Kd.int .u32) _ _ _ 0 [.int .u32 0] from rfl) (Reps.one (show Kd.M (Kd.int .u32) _ _ _ 0 [.int .u32 0] from rfl) (Reps.none _ _)))))); intro v105 w97 ho98 hb hg_ hnew_; clear hg_ hnew_; (first | rw [← Ny104.out] at ho98 | (simp only [Int.reduceToNat] at ho98; rw [← Ny104.out] at ho98)); have n0_ := Aside0.mk (Kd.R_lower ho98 (below_size (by repeat (first | (with_reducible first | exact HB.out | apply below_alloc | apply pw_below_drewN | apply below_drew1) | exact HB.out)))); have n1_ := Aside0.mk (below_step (by repeat (first | (with_reducible first | exact HB.out | apply below_alloc | apply pw_below_drewN | apply below_drew1) | exact HB.out)) hb); clear HB; have HO106 := n0_; have HB := n1_; clear n0_ n1_; clear hb ho98; obtain ⟨Ao99, co99, eo99⟩ := Kd.R_slice HO106.out; subst eo99) | (go_at_call 16; (with_reducible refine (dither_Ordered.calls 4 1 _ _ y104 a2 a3 a4 a5 t107 t108 t109 t112 _ ?side1 ?side2 A11.out).mono ?_); (case side1 => repeat (first | exact (Kd.R_reads' HO106.out).2.2 | (with_reducible refine Kd.C_alloc ?_ _) | (with_reducible refine Kd.C_drewN ?_ _) | (with_reducible refine Kd.C_drew ?_))); (case side2 => exact (Kd.R_reads' HO106.out).2.1); rintro e w100 ⟨v110, rfl, ho0, hb⟩; have n0_ := Aside0.mk (Kd.R_elder' (by (with_reducible repeat (first | apply Kd.R_alloc | apply Kd.R_drewN | apply Kd.R_drew)); exact HO106.out) (Kd.R_base ho0) hb); have n1_ := Aside0.mk (Kd.R_lower (Kd.R_new' ho0 (Kd.R_lt (by (with_reducible repeat (first | apply Kd.R_alloc | apply Kd.R_drewN | apply Kd.R_drew)); exact HO106.out))) (below_size (by repeat (first | (with_reducible first | exact HB.out | apply below_alloc | apply pw_below_drewN | apply below_drew1) | exact HB.out)))); have n2_ := Aside0.mk (below_step (by repeat (first | (with_reducible first | exact HB.out | apply below_alloc | apply pw_below_drewN | apply below_drew1) | exact HB.out)) hb); clear HO106; clear HB; have HO106 := n0_; have HO111 := n1_; have HB := n2_; clear n0_ n1_ n2_; (try clear hb); (try clear hb2); (try clear hk); (try clear hi); (try clear ho0)) | ((with_reducible refine gate_dst (N := 15) rfl ?_); (try (refine gate_guard (by rfl) ?_; dsimp only)); refine box_event ?hg (N := 15) ?hd (cs := #[.int .i64 0, .int .i64 0, .slice none 0 0]) (t := 35) ?hr ?_; (case hd => rfl); (case hg => rfl); (case hr => first | (go_simp; done) | (go_simp; rfl)); intro gb113 hg w101 hbox hb; have n0_ := Aside0.mk (Kd.R_below (by (with_reducible repeat (first | apply Kd.R_alloc | apply Kd.R_drewN | apply Kd.R_drew)); exact HO106.out) hb); have n1_ := Aside0.mk (Kd.R_below (by (with_reducible repeat (first | apply Kd.R_alloc | apply Kd.R_drewN | apply Kd.R_drew)); exact HO111.out) hb); have n2_ := Aside0.mk (below_step (by repeat (first | (with_reducible first | exact HB.out | apply below_alloc | apply pw_below_drewN | apply below_drew1) | exact HB.out)) hb); have n3_ := Aside0.mk (hbox); have n4_ := Aside0.mk ((by rw [hg]; exact (below_size (by repeat (first | (with_reducible first | exact HB.out | apply below_alloc | apply pw_below_drewN | apply below_drew1) | exact HB.out))) : w.heap.size ≤ gb113)); have n5_ := Aside0.mk ((by rw [hg]; exact (below_size (by repeat (first | (with_reducible first | exact HB.out | apply below_alloc | apply pw_below_drewN | apply below_drew1) | exact HB.out))) : w.heap.size ≤ gb113)); clear HO106; clear HO111; clear HB; have HO106 := n0_; have HO111 := n1_; have HB := n2_; have BK113 := n3_; have GW113 := n4_; have GE113 := n5_; clear n0_ n1_ n2_ n3_ n4_ n5_; clear hb hbox hg; have hcz102_0 : w101.cell? ⟨gb113, 0, none⟩ = some (.int .i64 0) := (blk_cell BK113.out 0).trans rfl; have hcz102_1 : w101.cell? ⟨gb113, 1, none⟩ = some (.int .i64 0) := (blk_cell BK113.out 1).trans rfl; have hcz102_2 : w101.cell? ⟨gb113, 2, none⟩ = some (.slice none 0 0) := (blk_cell BK113.out 2).trans rfl; have hfz102_0 := blk_frozen BK113.out 0; have hfz102_1 := blk_frozen BK113.out 1; have hfz102_2 := blk_frozen BK113.out 2; obtain ⟨Ao103, co103, eo103⟩ := Kd.R_slice HO111.out; subst eo103) | ((with_reducible refine gate_dst (N := 39) rfl ?_); (try (refine gate_guard (by rfl) ?_; dsimp only)); refine Kd.R_lit (Kd.int .u32) _ 48 ?hg (N := 39) ?hd (xs := ([a0] : List Int)) (inner := [.int .u32 a0]) (ok := fun _ => True) (okp := fun _ => True) ?hr ?hp (fun _ hk => hk) trivial (Below.refl _ _) (Nat.le_refl _) (by simp) ?_; (case hd => rfl); (case hg => rfl); (case hr => first | (go_simp; done) | (go_simp; rfl)); (case hp => exact (Reps.one (show Kd.M (Kd.int .u32) _ _ _ a0 [.int .u32 a0] from rfl) (Reps.none _ _))); intro v115 w104 ho105 hb hg_ hnew_; clear hg_ hnew_; (first | rw [← Ny114.out] at ho105 | (simp only [Int.reduceToNat] at ho105; rw [← Ny114.out] at ho105)); have n0_ := Aside0.mk (Kd.R_elder' (by (with_reducible repeat (first | apply Kd.R_alloc | apply Kd.R_drewN | apply Kd.R_drew)); exact (Kd.R_mono (Kd.R_far (p := ⟨gb113, 2, none⟩) (Kd.R_far (p := ⟨gb113, 1, none⟩) (Kd.R_far (p := ⟨gb113, 0, none⟩) (Kd.R_types HO106.out BK113.out (by decide)) (fun _ hk => hk.2) (.int .i64 t107)) (fun _ hk => hk.2) (.int .i64 t108)) (fun _ hk => hk.2) (.slice Ao103 t109.length co103)) (fun _ h_ => h_.1))) (Kd.R_base ho105) hb); have n1_ := Aside0.mk (Kd.R_elder' (by (with_reducible repeat (first | apply Kd.R_alloc | apply Kd.R_drewN | apply Kd.R_drew)); exact (Kd.R_mono (Kd.R_far (p := ⟨gb113, 2, none⟩) (Kd.R_far (p := ⟨gb113, 1, none⟩) (Kd.R_far (p := ⟨gb113, 0, none⟩) (Kd.R_types HO111.out BK113.out (by decide)) (fun _ hk => hk.2) (.int .i64 t107)) (fun _ hk => hk.2) (.int .i64 t108)) (fun _ hk => hk.2) (.slice Ao103 t109.length co103)) (fun _ h_ => h_.1))) (Kd.R_base ho105) hb); have n2_ := Aside0.mk (Kd.R_lower (Kd.R_new' (Kd.R_new' ho105 (Kd.R_lt (by (with_reducible repeat (first | apply Kd.R_alloc | apply Kd.R_drewN | apply Kd.R_drew)); exact (Kd.R_mono (Kd.R_far (p := ⟨gb113, 2, none⟩) (Kd.R_far (p := ⟨gb113, 1, none⟩) (Kd.R_far (p := ⟨gb113, 0, none⟩) (Kd.R_types HO106.out BK113.out (by decide)) (fun _ hk => hk.2) (.int .i64 t107)) (fun _ hk => hk.2) (.int .i64 t108)) (fun _ hk => hk.2) (.slice Ao103 t109.length co103)) (fun _ h_ => h_.1))))) (Kd.R_lt (by (with_reducible repeat (first | apply Kd.R_alloc | apply Kd.R_drewN | apply Kd.R_drew)); exact (Kd.R_mono (Kd.R_far (p := ⟨gb113, 2, none⟩) (Kd.R_far (p := ⟨gb113, 1, none⟩) (Kd.R_far (p := ⟨gb113, 0, none⟩) (Kd.R_types HO111.out BK113.out (by decide)) (fun _ hk => hk.2) (.int .i64 t107)) (fun _ hk => hk.2) (.int .i64 t108)) (fun _ hk => hk.2) (.slice Ao103 t109.length co103)) (fun _ h_ => h_.1))))) (below_size (by repeat (first | (with_reducible first | exact HB.out | apply below_alloc | apply pw_below_drewN | apply below_drew1 | refine below_set ?_ GE113.out) | exact HB.out)))); have n3_ := Aside0.mk (blk_below (g := gb113) (o := .cells #[.int .i64 t107, .int .i64 t108, .slice Ao103 t109.length co103] 35 (0, 0)) (by (with_reducible repeat (first | refine blk_drewN ?_ _ | refine blk_drew ?_ | refine blk_alloc ?_ _)); refine blk_put (cs := #[.int .i64 t107, .int .i64 t108, .slice none 0 0]) ?_ 2 _ rfl; (with_reducible repeat (first | refine blk_drewN ?_ _ | refine blk_drew ?_ | refine blk_alloc ?_ _)); refine blk_put (cs := #[.int .i64 t107, .int .i64 0, .slice none 0 0]) ?_ 1 _ rfl; (with_reducible repeat (first | refine blk_drewN ?_ _ | refine blk_drew ?_ | refine blk_alloc ?_ _)); refine blk_put (cs := #[.int .i64 0, .int .i64 0, .slice none 0 0]) ?_ 0 _ rfl; (with_reducible repeat (first | refine blk_drewN ?_ _ | refine blk_drew ?_ | refine blk_alloc ?_ _)); exact BK113.out) hb); have n4_ := Aside0.mk (below_step (by repeat (first | (with_reducible first | exact HB.out | apply below_alloc | apply pw_below_drewN | apply below_drew1 | refine below_set ?_ GE113.out) | exact HB.out)) hb); clear HO106; clear HO111; clear BK113; clear HB; have HO106 := n0_; have HO111 := n1_; have HO116 := n2_; have BK113 := n3_; have HB := n4_; clear n0_ n1_ n2_ n3_ n4_; clear hb ho105; obtain ⟨Ao106, co106, eo106⟩ := Kd.R_slice HO116.out; subst eo106) | (go_at_call 16; (with_reducible refine (dither_Ordered.calls 1 1 _ _ y114 a2 a3 a4 a5 t117 t118 t119 t122 _ ?side1 ?side2 A12.out).mono ?_); (case side1 => repeat (first | exact (Kd.R_reads' HO116.out).2.2 | (with_reducible refine Kd.C_alloc ?_ _) | (with_reducible refine Kd.C_drewN ?_ _) | (with_reducible refine Kd.C_drew ?_))); (case side2 => exact (Kd.R_reads' HO116.out).2.1); rintro e w107 ⟨v120, rfl, ho0, hb⟩; have n0_ := Aside0.mk (Kd.R_elder' (by (with_reducible repeat (first | apply Kd.R_alloc | apply Kd.R_drewN | apply Kd.R_drew)); exact HO106.out) (Kd.R_base ho0) hb); have n1_ := Aside0.mk (Kd.R_elder' (by (with_reducible repeat (first | apply Kd.R_alloc | apply Kd.R_drewN | apply Kd.R_drew)); exact HO111.out) (Kd.R_base ho0) hb); have n2_ := Aside0.mk (Kd.R_elder' (by (with_reducible repeat (first | apply Kd.R_alloc | apply Kd.R_drewN | apply Kd.R_drew)); exact HO116.out) (Kd.R_base ho0) hb); have n3_ := Aside0.mk (Kd.R_lower (Kd.R_new' (Kd.R_new' (Kd.R_new' ho0 (Kd.R_lt (by (with_reducible repeat (first | apply Kd.R_alloc | apply Kd.R_drewN | apply Kd.R_drew)); exact HO106.out))) (Kd.R_lt (by (with_reducible repeat (first | apply Kd.R_alloc | apply Kd.R_drewN | apply Kd.R_drew)); exact HO111.out))) (Kd.R_lt (by (with_reducible repeat (first | apply Kd.R_alloc | apply Kd.R_drewN | apply Kd.R_drew)); exact HO116.out))) (below_size (by repeat (first | (with_reducible first | exact HB.out | apply below_alloc | apply pw_below_drewN | apply below_drew1 | refine below_set ?_ GE113.out) | exact HB.out)))); have n4_ := Aside0.mk (blk_below (g := gb113) (o := .cells #[.int .i64 t107, .int .i64 t108, .slice Ao103 t109.length co103] 35 (0, 0)) (by (with_reducible repeat (first | refine blk_drewN ?_ _ | refine blk_drew ?_ | refine blk_alloc ?_ _)); exact BK113.out) hb); have n5_ := Aside0.mk (below_step (by repeat (first | (with_reducible first | exact HB.out | apply below_alloc | apply pw_below_drewN | apply below_drew1 | refine below_set ?_ GE113.out) | exact HB.out)) hb); clear HO106; clear HO111; clear HO116; clear BK113; clear HB; have HO106 := n0_; have HO111 := n1_; have HO116 := n2_; have HO121 := n3_; have BK113 := n4_; have HB := n5_; clear n0_ n1_ n2_ n3_ n4_ n5_; (try clear hb); (try clear hb2); (try clear hk); (try clear hi); (try clear ho0)) | ((with_reducible refine gate_dst (N := 17) rfl ?_); (try (refine gate_guard (by rfl) ?_; dsimp only)); refine box_event ?hg (N := 17) ?hd (cs := #[.int .i64 0, .int .i64 0, .slice none 0 0]) (t := 35) ?hr ?_; (case hd => rfl); (case hg => rfl); (case hr => first | (go_simp; done) | (go_simp; rfl)); intro gb123 hg w108 hbox hb; have n0_ := Aside0.mk (Kd.R_below (by (with_reducible repeat (first | apply Kd.R_alloc | apply Kd.R_drewN | apply Kd.R_drew)); exact HO106.out) hb); have n1_ := Aside0.mk (Kd.R_below (by (with_reducible repeat (first | apply Kd.R_alloc | apply Kd.R_drewN | apply Kd.R_drew)); exact HO111.out) hb); have n2_ := Aside0.mk (Kd.R_below (by (with_reducible repeat (first | apply Kd.R_alloc | apply Kd.R_drewN | apply Kd.R_drew)); exact HO116.out) hb); have n3_ := Aside0.mk (Kd.R_below (by (with_reducible repeat (first | apply Kd.R_alloc | apply Kd.R_drewN | apply Kd.R_drew)); exact HO121.out) hb); have n4_ := Aside0.mk (blk_below (g := gb113) (o := .cells #[.int .i64 t107, .int .i64 t108, .slice Ao103 t109.length co103] 35 (0, 0)) (by (with_reducible repeat (first | refine blk_drewN ?_ _ | refine blk_drew ?_ | refine blk_alloc ?_ _)); exact BK113.out) hb); have n5_ := Aside0.mk (below_step (by repeat (first | (with_reducible first | exact HB.out | apply below_alloc | apply pw_below_drewN | apply below_drew1 | refine below_set ?_ GE113.out) | exact HB.out)) hb); have n6_ := Aside0.mk (hbox); have n7_ := Aside0.mk ((by rw [hg]; exact (below_size (by repeat (first | (with_reducible first | exact HB.out | apply below_alloc | apply pw_below_drewN | apply below_drew1 | refine below_set ?_ GE113.out) | exact HB.out))) : w.heap.size ≤ gb123)); have n8_ := Aside0.mk ((by rw [hg]; exact (below_size (by repeat (first | (with_reducible first | exact HB.out | apply below_alloc | apply pw_below_drewN | apply below_drew1 | refine below_set ?_ GE113.out) | exact HB.out))) : w.heap.size ≤ gb123)); have n9_ := Aside0.mk ((by rw [hg]; exact Nat.ne_of_lt (blk_lt (g := gb113) (o := .cells #[.int .i64 t107, .int .i64 t108, .slice Ao103 t109.length co103] 35 (0, 0)) (by (with_reducible repeat (first | refine blk_drewN ?_ _ | refine blk_drew ?_ | refine blk_alloc ?_ _)); exact BK113.out)) : gb113 ≠ gb123)); have n10_ := Aside0.mk ((by rw [hg]; exact Nat.ne_of_gt (blk_lt (g := gb113) (o := .cells #[.int .i64 t107, .int .i64 t108, .slice Ao103 t109.length co103] 35 (0, 0)) (by (with_reducible repeat (first | refine blk_drewN ?_ _ | refine blk_drew ?_ | refine blk_alloc ?_ _)); exact BK113.out)) : gb123 ≠ gb113)); clear HO106; clear HO111; clear HO116; clear HO121; clear BK113; clear HB; have HO106 := n0_; have HO111 := n1_; have HO116 := n2_; have HO121 := n3_; have BK113 := n4_; have HB := n5_; have BK123 := n6_; have GW123 := n7_; have GE123 := n8_; have NB113_123 := n9_; have NB123_113 := n10_; clear n0_ n1_ n2_ n3_ n4_ n5_ n6_ n7_ n8_ n9_ n10_; clear hb hbox hg; have hnb109 := NB123_113.out; have hnc109 := NB113_123.out; have hcz110_0 : w108.cell? ⟨gb123, 0, none⟩ = some (.int .i64 0) := (blk_cell BK123.out 0).trans rfl; have hcz110_1 : w108.cell? ⟨gb123, 1, none⟩ = some (.int .i64 0) := (blk_cell BK123.out 1).trans rfl; have hcz110_2 : w108.cell? ⟨gb123, 2, none⟩ = some (.slice none 0 0) := (blk_cell BK123.out 2).trans rfl; have hfz110_0 := blk_frozen BK123.out 0; have hfz110_1 := blk_frozen BK123.out 1; have hfz110_2 := blk_frozen BK123.out 2; obtain ⟨Ao111, co111, eo111⟩ := Kd.R_slice HO121.out; subst eo111) | ((with_reducible refine gate_dst (N := 50) rfl ?_); (try (refine gate_guard (by rfl) ?_; dsimp only)); refine Kd.R_lit (Kd.int .u32) _ 48 ?hg (N := 50) ?hd (xs := ([a1] : List Int)) (inner := [.int .u32 a1]) (ok := fun _ => True) (okp := fun _ => True) ?hr ?hp (fun _ hk => hk) trivial (Below.refl _ _) (Nat.le_refl _) (by simp) ?_; (case hd => rfl); (case hg => rfl); (case hr => first | (go_simp; done) | (go_simp; rfl)); (case hp => exact (Reps.one (show Kd.M (Kd.int .u32) _ _ _ a1 [.int .u32 a1] from rfl) (Reps.none _ _))); intro v125 w112 ho113 hb hg_ hnew_; clear hg_ hnew_; (first | rw [← Ny124.out] at ho113 | (simp only [Int.reduceToNat] at ho113; rw [← Ny124.out] at ho113)); have n0_ := Aside0.mk (Kd.R_elder' (by (with_reducible repeat (first | apply Kd.R_alloc | apply Kd.R_drewN | apply Kd.R_drew)); exact (Kd.R_mono (Kd.R_far (p := ⟨gb123, 2, none⟩) (Kd.R_far (p := ⟨gb123, 1, none⟩) (Kd.R_far (p := ⟨gb123, 0, none⟩) (Kd.R_types HO106.out BK123.out (by decide)) (fun _ hk => hk.2) (.int .i64 t117)) (fun _ hk => hk.2) (.int .i64 t118)) (fun _ hk => hk.2) (.slice Ao111 t119.length co111)) (fun _ h_ => h_.1))) (Kd.R_base ho113) hb); have n1_ := Aside0.mk (Kd.R_elder' (by (with_reducible repeat (first | apply Kd.R_alloc | apply Kd.R_drewN | apply Kd.R_drew)); exact (Kd.R_mono (Kd.R_far (p := ⟨gb123, 2, none⟩) (Kd.R_far (p := ⟨gb123, 1, none⟩) (Kd.R_far (p := ⟨gb123, 0, none⟩) (Kd.R_types HO111.out BK123.out (by decide)) (fun _ hk => hk.2) (.int .i64 t117)) (fun _ hk => hk.2) (.int .i64 t118)) (fun _ hk => hk.2) (.slice Ao111 t119.length co111)) (fun _ h_ => h_.1))) (Kd.R_base ho113) hb); have n2_ := Aside0.mk (Kd.R_elder' (by (with_reducible repeat (first | apply Kd.R_alloc | apply Kd.R_drewN | apply Kd.R_drew)); exact (Kd.R_mono (Kd.R_far (p := ⟨gb123, 2, none⟩) (Kd.R_far (p := ⟨gb123, 1, none⟩) (Kd.R_far (p := ⟨gb123, 0, none⟩) (Kd.R_types HO116.out BK123.out (by decide)) (fun _ hk => hk.2) (.int .i64 t117)) (fun _ hk => hk.2) (.int .i64 t118)) (fun _ hk => hk.2) (.slice Ao111 t119.length co111)) (fun _ h_ => h_.1))) (Kd.R_base ho113) hb); have n3_ := Aside0.mk (Kd.R_elder' (by (with_reducible repeat (first | apply Kd.R_alloc | apply Kd.R_drewN | apply Kd.R_drew)); exact (Kd.R_mono (Kd.R_far (p := ⟨gb123, 2, none⟩) (Kd.R_far (p := ⟨gb123, 1, none⟩) (Kd.R_far (p := ⟨gb123, 0, none⟩) (Kd.R_types HO121.out BK123.out (by decide)) (fun _ hk => hk.2) (.int .i64 t117)) (fun _ hk => hk.2) (.int .i64 t118)) (fun _ hk => hk.2) (.slice Ao111 t119.length co111)) (fun _ h_ => h_.1))) (Kd.R_base ho113) hb); have n4_ := Aside0.mk (Kd.R_lower (Kd.R_new' (Kd.R_new' (Kd.R_new' (Kd.R_new' ho113 (Kd.R_lt (by (with_reducible repeat (first | apply Kd.R_alloc | apply Kd.R_drewN | apply Kd.R_drew)); exact (Kd.R_mono (Kd.R_far (p := ⟨gb123, 2, none⟩) (Kd.R_far (p := ⟨gb123, 1, none⟩) (Kd.R_far (p := ⟨gb123, 0, none⟩) (Kd.R_types HO106.out BK123.out (by decide)) (fun _ hk => hk.2) (.int .i64 t117)) (fun _ hk => hk.2) (.int .i64 t118)) (fun _ hk => hk.2) (.slice Ao111 t119.length co111)) (fun _ h_ => h_.1))))) (Kd.R_lt (by (with_reducible repeat (first | apply Kd.R_alloc | apply Kd.R_drewN | apply Kd.R_drew)); exact (Kd.R_mono (Kd.R_far (p := ⟨gb123, 2, none⟩) (Kd.R_far (p := ⟨gb123, 1, none⟩) (Kd.R_far (p := ⟨gb123, 0, none⟩) (Kd.R_types HO111.out BK123.out (by decide)) (fun _ hk => hk.2) (.int .i64 t117)) (fun _ hk => hk.2) (.int .i64 t118)) (fun _ hk => hk.2) (.slice Ao111 t119.length co111)) (fun _ h_ => h_.1))))) (Kd.R_lt (by (with_reducible repeat (first | apply Kd.R_alloc | apply Kd.R_drewN | apply Kd.R_drew)); exact (Kd.R_mono (Kd.R_far (p := ⟨gb123, 2, none⟩) (Kd.R_far (p := ⟨gb123, 1, none⟩) (Kd.R_far (p := ⟨gb123, 0, none⟩) (Kd.R_types HO116.out BK123.out (by decide)) (fun _ hk => hk.2) (.int .i64 t117)) (fun _ hk => hk.2) (.int .i64 t118)) (fun _ hk => hk.2) (.slice Ao111 t119.length co111)) (fun _ h_ => h_.1))))) (Kd.R_lt (by (with_reducible repeat (first | apply Kd.R_alloc | apply Kd.R_drewN | apply Kd.R_drew)); exact (Kd.R_mono (Kd.R_far (p := ⟨gb123, 2, none⟩) (Kd.R_far (p := ⟨gb123, 1, none⟩) (Kd.R_far (p := ⟨gb123, 0, none⟩) (Kd.R_types HO121.out BK123.out (by decide)) (fun _ hk => hk.2) (.int .i64 t117)) (fun _ hk => hk.2) (.int .i64 t118)) (fun _ hk => hk.2) (.slice Ao111 t119.length co111)) (fun _ h_ => h_.1))))) (below_size (by repeat (first | (with_reducible first | exact HB.out | apply below_alloc | apply pw_below_drewN | apply below_drew1 | refine below_set ?_ GE113.out | refine below_set ?_ GE123.out) | exact HB.out)))); have n5_ := Aside0.mk (blk_below (g := gb113) (o := .cells #[.int .i64 t107, .int .i64 t108, .slice Ao103 t109.length co103] 35 (0, 0)) (by (with_reducible repeat (first | refine blk_drewN ?_ _ | refine blk_drew ?_ | refine blk_alloc ?_ _)); refine blk_far ?_ NB113_123.out _; (with_reducible repeat (first | refine blk_drewN ?_ _ | refine blk_drew ?_ | refine blk_alloc ?_ _)); refine blk_far ?_ NB113_123.out _; (with_reducible repeat (first | refine blk_drewN ?_ _ | refine blk_drew ?_ | refine blk_alloc ?_ _)); refine blk_far ?_ NB113_123.out _; (with_reducible repeat (first | refine blk_drewN ?_ _ | refine blk_drew ?_ | refine blk_alloc ?_ _)); exact BK113.out) hb); have n6_ := Aside0.mk (blk_below (g := gb123) (o := .cells #[.int .i64 t117, .int .i64 t118, .slice Ao111 t119.length co111] 35 (0, 0)) (by (with_reducible repeat (first | refine blk_drewN ?_ _ | refine blk_drew ?_ | refine blk_alloc ?_ _)); refine blk_put (cs := #[.int .i64 t117, .int .i64 t118, .slice none 0 0]) ?_ 2 _ rfl; (with_reducible repeat (first | refine blk_drewN ?_ _ | refine blk_drew ?_ | refine blk_alloc ?_ _)); refine blk_put (cs := #[.int .i64 t117, .int .i64 0, .slice none 0 0]) ?_ 1 _ rfl; (with_reducible repeat (first | refine blk_drewN ?_ _ | refine blk_drew ?_ | refine blk_alloc ?_ _)); refine blk_put (cs := #[.int .i64 0, .int .i64 0, .slice none 0 0]) ?_ 0 _ rfl; (with_reducible repeat (first | refine blk_drewN ?_ _ | refine blk_drew ?_ | refine blk_alloc ?_ _)); exact BK123.out) hb); have n7_ := Aside0.mk (below_step (by repeat (first | (with_reducible first | exact HB.out | apply below_alloc | apply pw_below_drewN | apply below_drew1 | refine below_set ?_ GE113.out | refine below_set ?_ GE123.out) | exact HB.out)) hb); clear HO106; clear HO111; clear HO116; clear HO121; clear BK113; clear BK123; clear HB; have HO106 := n0_; have HO111 := n1_; have HO116 := n2_; have HO121 := n3_; have HO126 := n4_; have BK113 := n5_; have BK123 := n6_; have HB := n7_; clear n0_ n1_ n2_ n3_ n4_ n5_ n6_ n7_; clear hb ho113; obtain ⟨Ao114, co114, eo114⟩ := Kd.R_slice HO126.out; subst eo114) | (go_at_call 16; (with_reducible refine (dither_Ordered.calls 1 1 _ _ y124 a2 a3 a4 a5 t127 t128 t129 t132 _ ?side1 ?side2 A13.out).mono ?_); (case side1 => repeat (first | exact (Kd.R_reads' HO126.out).2.2 | (with_reducible refine Kd.C_alloc ?_ _) | (with_reducible refine Kd.C_drewN ?_ _) | (with_reducible refine Kd.C_drew ?_))); (case side2 => exact (Kd.R_reads' HO126.out).2.1); rintro e w115 ⟨v130, rfl, ho0, hb⟩; have n0_ := Aside0.mk (Kd.R_elder' (by (with_reducible repeat (first | apply Kd.R_alloc | apply Kd.R_drewN | apply Kd.R_drew)); exact HO106.out) (Kd.R_base ho0) hb); have n1_ := Aside0.mk (Kd.R_elder' (by (with_reducible repeat (first | apply Kd.R_alloc | apply Kd.R_drewN | apply Kd.R_drew)); exact HO111.out) (Kd.R_base ho0) hb); have n2_ := Aside0.mk (Kd.R_elder' (by (with_reducible repeat (first | apply Kd.R_alloc | apply Kd.R_drewN | apply Kd.R_drew)); exact HO116.out) (Kd.R_base ho0) hb); have n3_ := Aside0.mk (Kd.R_elder' (by (with_reducible repeat (first | apply Kd.R_alloc | apply Kd.R_drewN | apply Kd.R_drew)); exact HO121.out) (Kd.R_base ho0) hb); have n4_ := Aside0.mk (Kd.R_elder' (by (with_reducible repeat (first | apply Kd.R_alloc | apply Kd.R_drewN | apply Kd.R_drew)); exact HO126.out) (Kd.R_base ho0) hb); have n5_ := Aside0.mk (Kd.R_lower (Kd.R_new' (Kd.R_new' (Kd.R_new' (Kd.R_new' (Kd.R_new' ho0 (Kd.R_lt (by (with_reducible repeat (first | apply Kd.R_alloc | apply Kd.R_drewN | apply Kd.R_drew)); exact HO106.out))) (Kd.R_lt (by (with_reducible repeat (first | apply Kd.R_alloc | apply Kd.R_drewN | apply Kd.R_drew)); exact HO111.out))) (Kd.R_lt (by (with_reducible repeat (first | apply Kd.R_alloc | apply Kd.R_drewN | apply Kd.R_drew)); exact HO116.out))) (Kd.R_lt (by (with_reducible repeat (first | apply Kd.R_alloc | apply Kd.R_drewN | apply Kd.R_drew)); exact HO121.out))) (Kd.R_lt (by (with_reducible repeat (first | apply Kd.R_alloc | apply Kd.R_drewN | apply Kd.R_drew)); exact HO126.out))) (below_size (by repeat (first | (with_reducible first | exact HB.out | apply below_alloc | apply pw_below_drewN | apply below_drew1 | refine below_set ?_ GE113.out | refine below_set ?_ GE123.out) | exact HB.out)))); have n6_ := Aside0.mk (blk_below (g := gb113) (o := .cells #[.int .i64 t107, .int .i64 t108, .slice Ao103 t109.length co103] 35 (0, 0)) (by (with_reducible repeat (first | refine blk_drewN ?_ _ | refine blk_drew ?_ | refine blk_alloc ?_ _)); exact BK113.out) hb); have n7_ := Aside0.mk (blk_below (g := gb123) (o := .cells #[.int .i64 t117, .int .i64 t118, .slice Ao111 t119.length co111] 35 (0, 0)) (by (with_reducible repeat (first | refine blk_drewN ?_ _ | refine blk_drew ?_ | refine blk_alloc ?_ _)); exact BK123.out) hb); have n8_ := Aside0.mk (below_step (by repeat (first | (with_reducible first | exact HB.out | apply below_alloc | apply pw_below_drewN | apply below_drew1 | refine below_set ?_ GE113.out | refine below_set ?_ GE123.out) | exact HB.out)) hb); clear HO106; clear HO111; clear HO116; clear HO121; clear HO126; clear BK113; clear BK123; clear HB; have HO106 := n0_; have HO111 := n1_; have HO116 := n2_; have HO121 := n3_; have HO126 := n4_; have HO131 := n5_; have BK113 := n6_; have BK123 := n7_; have HB := n8_; clear n0_ n1_ n2_ n3_ n4_ n5_ n6_ n7_ n8_; (try clear hb); (try clear hb2); (try clear hk); (try clear hi); (try clear ho0)) | ((with_reducible refine gate_dst (N := 19) rfl ?_); (try (refine gate_guard (by rfl) ?_; dsimp only)); refine box_event ?hg (N := 19) ?hd (cs := #[.int .i64 0, .int .i64 0, .slice none 0 0]) (t := 35) ?hr ?_; (case hd => rfl); (case hg => rfl); (case hr => first | (go_simp; done) | (go_simp; rfl)); intro gb133 hg w116 hbox hb; have n0_ := Aside0.mk (Kd.R_below (by (with_reducible repeat (first | apply Kd.R_alloc | apply Kd.R_drewN | apply Kd.R_drew)); exact HO106.out) hb); have n1_ := Aside0.mk (Kd.R_below (by (with_reducible repeat (first | apply Kd.R_alloc | apply Kd.R_drewN | apply Kd.R_drew)); exact HO111.out) hb); have n2_ := Aside0.mk (Kd.R_below (by (with_reducible repeat (first | apply Kd.R_alloc | apply Kd.R_drewN | apply Kd.R_drew)); exact HO116.out) hb); have n3_ := Aside0.mk (Kd.R_below (by (with_reducible repeat (first | apply Kd.R_alloc | apply Kd.R_drewN | apply Kd.R_drew)); exact HO121.out) hb); have n4_ := Aside0.mk (Kd.R_below (by (with_reducible repeat (first | apply Kd.R_alloc | apply Kd.R_drewN | apply Kd.R_drew)); exact HO126.out) hb); have n5_ := Aside0.mk (Kd.R_below (by (with_reducible repeat (first | apply Kd.R_alloc | apply Kd.R_drewN | apply Kd.R_drew)); exact HO131.out) hb); have n6_ := Aside0.mk (blk_below (g := gb113) (o := .cells #[.int .i64 t107, .int .i64 t108, .slice Ao103 t109.length co103] 35 (0, 0)) (by (with_reducible repeat (first | refine blk_drewN ?_ _ | refine blk_drew ?_ | refine blk_alloc ?_ _)); exact BK113.out) hb); have n7_ := Aside0.mk (blk_below (g := gb123) (o := .cells #[.int .i64 t117, .int .i64 t118, .slice Ao111 t119.length co111] 35 (0, 0)) (by (with_reducible repeat (first | refine blk_drewN ?_ _ | refine blk_drew ?_ | refine blk_alloc ?_ _)); exact BK123.out) hb); have n8_ := Aside0.mk (below_step (by repeat (first | (with_reducible first | exact HB.out | apply below_alloc | apply pw_below_drewN | apply below_drew1 | refine below_set ?_ GE113.out | refine below_set ?_ GE123.out) | exact HB.out)) hb); have n9_ := Aside0.mk (hbox); have n10_ := Aside0.mk ((by rw [hg]; exact (below_size (by repeat (first | (with_reducible first | exact HB.out | apply below_alloc | apply pw_below_drewN | apply below_drew1 | refine below_set ?_ GE113.out | refine below_set ?_ GE123.out) | exact HB.out))) : w.heap.size ≤ gb133)); have n11_ := Aside0.mk ((by rw [hg]; exact (below_size (by repeat (first | (with_reducible first | exact HB.out | apply below_alloc | apply pw_below_drewN | apply below_drew1 | refine below_set ?_ GE113.out | refine below_set ?_ GE123.out) | exact HB.out))) : w.heap.size ≤ gb133)); have n12_ := Aside0.mk ((by rw [hg]; exact Nat.ne_of_lt (blk_lt (g := gb113) (o := .cells #[.int .i64 t107, .int .i64 t108, .slice Ao103 t109.length co103] 35 (0, 0)) (by (with_reducible repeat (first | refine blk_drewN ?_ _ | refine blk_drew ?_ | refine blk_alloc ?_ _)); exact BK113.out)) : gb113 ≠ gb133)); have n13_ := Aside0.mk ((by rw [hg]; exact Nat.ne_of_gt (blk_lt (g := gb113) (o := .cells #[.int .i64 t107, .int .i64 t108, .slice Ao103 t109.length co103] 35 (0, 0)) (by (with_reducible repeat (first | refine blk_drewN ?_ _ | refine blk_drew ?_ | refine blk_alloc ?_ _)); exact BK113.out)) : gb133 ≠ gb113)); have n14_ := Aside0.mk ((by rw [hg]; exact Nat.ne_of_lt (blk_lt (g := gb123) (o := .cells #[.int .i64 t117, .int .i64 t118, .slice Ao111 t119.length co111] 35 (0, 0)) (by (with_reducible repeat (first | refine blk_drewN ?_ _ | refine blk_drew ?_ | refine blk_alloc ?_ _)); exact BK123.out)) : gb123 ≠ gb133)); have n15_ := Aside0.mk ((by rw [hg]; exact Nat.ne_of_gt (blk_lt (g := gb123) (o := .cells #[.int .i64 t117, .int .i64 t118, .slice Ao111 t119.length co111] 35 (0, 0)) (by (with_reducible repeat (first | refine blk_drewN ?_ _ | refine blk_drew ?_ | refine blk_alloc ?_ _)); exact BK123.out)) : gb133 ≠ gb123)); clear HO106; clear HO111; clear HO116; clear HO121; clear HO126; clear HO131; clear BK113; clear BK123; clear HB; have HO106 := n0_; have HO111 := n1_; have HO116 := n2_; have HO121 := n3_; have HO126 := n4_; have HO131 := n5_; have BK113 := n6_; have BK123 := n7_; have HB := n8_; have BK133 := n9_; have GW133 := n10_; have GE133 := n11_; have NB113_133 := n12_; have NB133_113 := n13_; have NB123_133 := n14_; have NB133_123 := n15_; clear n0_ n1_ n2_ n3_ n4_ n5_ n6_ n7_ n8_ n9_ n10_ n11_ n12_ n13_ n14_ n15_; clear hb hbox hg; have hnb117 := NB133_113.out; have hnc117 := NB113_133.out; have hnb118 := NB133_123.out; have hnc118 := NB123_133.out; have hcz119_0 : w116.cell? ⟨gb133, 0, none⟩ = some (.int .i64 0) := (blk_cell BK133.out 0).trans rfl; have hcz119_1 : w116.cell? ⟨gb133, 1, none⟩ = some (.int .i64 0) := (blk_cell BK133.out 1).trans rfl; have hcz119_2 : w116.cell? ⟨gb133, 2, none⟩ = some (.slice none 0 0) := (blk_cell BK133.out 2).trans rfl; have hfz119_0 := blk_frozen BK133.out 0; have hfz119_1 := blk_frozen BK133.out 1; have hfz119_2 := blk_frozen BK133.out 2; obtain ⟨Ao120, co120, eo120⟩ := Kd.R_slice HO131.out; subst eo120; have hcz121_0 : w116.cell? ⟨gb123, 0, none⟩ = some (.int .i64 t117) := (blk_cell BK123.out 0).trans rfl; have hcz121_1 : w116.cell? ⟨gb123, 1, none⟩ = some (.int .i64 t118) := (blk_cell BK123.out 1).trans rfl; have hcz121_2 : w116.cell? ⟨gb123, 2, none⟩ = some (.slice Ao111 t119.length co111) := (blk_cell BK123.out 2).trans rfl; have hfz121_0 := blk_frozen BK123.out 0; have hfz121_1 := blk_frozen BK123.out 1; have hfz121_2 := blk_frozen BK123.out 2))
          repeat (go_quiet (fail); try go_wp2)
          go_ret
          exact ⟨by first | rfl | (simp [errW_none, errW_some] <;> rfl) | (simp [*, errW_none, errW_some] <;> rfl), by repeat (first | (with_reducible first | exact HB.out | apply below_alloc | apply pw_below_drewN | apply below_drew1 | refine below_set ?_ GE113.out | refine below_set ?_ GE123.out | refine below_set ?_ GE133.out) | exact HB.out)⟩
        · rw [if_neg c95] at H
          have c95b0 : (t112 == t132) = false := beq_eq_false_iff_ne.mpr c95
          have c95b1 : (t112 != t132) = true := bne_iff_ne.mpr c95
          exact absurd (H.trans (congrArg some HT.out)) (by decide)
      · rw [if_neg c94] at H
        have c94b0 : (t112 == t122) = false := beq_eq_false_iff_ne.mpr c94
        have c94b1 : (t112 != t122) = true := bne_iff_ne.mpr c94
        exact absurd (H.trans (congrArg some HT.out)) (by decide)
  · replace c8 := Bool.eq_false_iff.mpr c8
    subst c8
    have H1 : (some false) = some r := by rw [if_neg (show ¬ (false = true) by decide)] at H; exact H
    clear H
    have H := H1
    clear H1
    exact absurd (H.trans (congrArg some HT.out)) (by decide)

end Go.Proofs.Ytmipbbkieadecaa.PDR
