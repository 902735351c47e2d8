import Derived.Test.YtobdfiglgdbecaaXPGAx0
import Derived.Test.YtobdfiglgdbecaaXDI
import Derived.Test.YtobdfiglgdbecaaXNR
namespace Go.Proofs.Ytobdfiglgdbecaa.PGA
open Go.Proofs.Ytobdfiglgdbecaa.PGB
open Go.RowKit Go.Proofs.YtobdfiglgdbecaaW.PrintWords Go.Proofs.YtobdfiglgdbecaaW.PrintLast Go.Proofs.YtobdfiglgdbecaaW.PrintMore
attribute [local go_sem] max2_int min2_int max_two min_two max_three min_three max_four min_four
set_option linter.unusedVariables false
set_option linter.unusedSimpArgs false

def Cd.f (a7 : Int) (bq : Int) (a8 : Int) (br : Int) : Option (Bool) := if a7 < a8 then (some (decide (bq < br))) else (some false)
set_option maxHeartbeats 8000000 in
set_option maxRecDepth 100000 in
theorem Cd.calls (a7 : Int) (bq : Int) (a8 : Int) (br : Int) (r : Bool) (w : World) (h : Cd.f a7 bq a8 br = some r) :
  Calls Try.prog 62 #[.agg #[.int .i64 a7, .int .i64 bq, .int .i64 a8, .int .i64 br]] w fun e w' => e = .returned (.bool r) ∧ Below w.heap.size w w' := by
 have hu58 := Try.underlying58
 have HB := Aa.mk (Below.refl w.heap.size w)
 have H : (if a7 < a8 then (some (decide (bq < br))) else (some false)) = some r := h
 clear h
 by_cases c2 : a7 < a8
 ·rw [if_pos c2] at H
  have bn : decide (a7 < a8) = true := decide_eq_true c2
  clear c2
  obtain rfl := Option.some.inj H
  go_enter Try.func62, Try.ntmps62
  go_wp2_with (first | ((with_reducible refine Bo (N := 1) rfl ?_); refine B2 ?hg (N := 1) ?hd (cs := #[.int .i64 a7, .int .i64 bq, .int .i64 a8, .int .i64 br]) (t := 58) ?hr ?_; (case hd => rfl); (case hg => rfl); (case hr => first | (go_simp; done) | (go_simp; rfl)); intro aJ hg w3 hbox hb; have n0_ := Aa.mk (Ai (lU HB.out) hb); have n1_ := Aa.mk (hbox); have n2_ := Aa.mk ((by rw [hg]; exact (Af (lU HB.out)) : w.heap.size ≤ aJ)); have n3_ := Aa.mk ((by rw [hg]; exact (Af (lU HB.out)) : w.heap.size ≤ aJ)); clear HB; have HB := n0_; have aE := n1_; have dg := n2_; have bJ := n3_; clear n0_ n1_ n2_ n3_; clear hb hbox hg; have eK : w3.cell? ⟨aJ, 0, none⟩ = some (.int .i64 a7) := (Ak aE.out 0).trans rfl; have eL : w3.cell? ⟨aJ, 1, none⟩ = some (.int .i64 bq) := (Ak aE.out 1).trans rfl; have eM : w3.cell? ⟨aJ, 2, none⟩ = some (.int .i64 a8) := (Ak aE.out 2).trans rfl; have eN : w3.cell? ⟨aJ, 3, none⟩ = some (.int .i64 br) := (Ak aE.out 3).trans rfl; have eO := Ag aE.out 0; have eP := Ag aE.out 1; have eQ := Ag aE.out 2; have eR := Ag aE.out 3))
  go_ret
  exact ⟨by first | rfl | (simp [Av, Au] <;> rfl) | (simp [*, Av, Au] <;> rfl), by repeat (first | (with_reducible first | exact HB.out | apply Ae | apply Ac | apply Ad | refine Ar ?_ bJ.out) | exact HB.out)⟩
 ·rw [if_neg c2] at H
  have bn : decide (a7 < a8) = false := decide_eq_false c2
  clear c2
  obtain rfl := Option.some.inj H
  go_enter Try.func62, Try.ntmps62
  go_wp2_with (first | ((with_reducible refine Bo (N := 1) rfl ?_); refine B2 ?hg (N := 1) ?hd (cs := #[.int .i64 a7, .int .i64 bq, .int .i64 a8, .int .i64 br]) (t := 58) ?hr ?_; (case hd => rfl); (case hg => rfl); (case hr => first | (go_simp; done) | (go_simp; rfl)); intro aJ hg w5 hbox hb; have n0_ := Aa.mk (Ai (lU HB.out) hb); have n1_ := Aa.mk (hbox); have n2_ := Aa.mk ((by rw [hg]; exact (Af (lU HB.out)) : w.heap.size ≤ aJ)); have n3_ := Aa.mk ((by rw [hg]; exact (Af (lU HB.out)) : w.heap.size ≤ aJ)); clear HB; have HB := n0_; have aE := n1_; have dg := n2_; have bJ := n3_; clear n0_ n1_ n2_ n3_; clear hb hbox hg; have bK : w5.cell? ⟨aJ, 0, none⟩ = some (.int .i64 a7) := (Ak aE.out 0).trans rfl; have bL : w5.cell? ⟨aJ, 1, none⟩ = some (.int .i64 bq) := (Ak aE.out 1).trans rfl; have bM : w5.cell? ⟨aJ, 2, none⟩ = some (.int .i64 a8) := (Ak aE.out 2).trans rfl; have eS : w5.cell? ⟨aJ, 3, none⟩ = some (.int .i64 br) := (Ak aE.out 3).trans rfl; have bN := Ag aE.out 0; have bO := Ag aE.out 1; have bP := Ag aE.out 2; have eT := Ag aE.out 3))
  go_ret
  exact ⟨by first | rfl | (simp [Av, Au] <;> rfl) | (simp [*, Av, Au] <;> rfl), by repeat (first | (with_reducible first | exact HB.out | apply Ae | apply Ac | apply Ad | refine Ar ?_ bJ.out) | exact HB.out)⟩

def Bq.l0 : Nat → List (S58) → Int → Int → Option (Int)
 | 0, _, _, _ => none
 | k + 1, x8, x9, x10 => if x10 < x9 then (if 0 ≤ x10 then (if x10 < (x8.length : Int) then ((Cd.f ((rd_T58 x8 x10).f0) ((rd_T58 x8 x10).f1) ((rd_T58 x8 x10).f2) ((rd_T58 x8 x10).f3)).bind fun cX => (if cX = true then ((Cg.f (([(rd_T58 x8 x10).f0, (rd_T58 x8 x10).f1, (rd_T58 x8 x10).f2, (rd_T58 x8 x10).f3] : List Int))).bind fun cY => (if cY = true then (Bq.l0 k x8 x9 (wrap64 (x10 + 1))) else (some 61))) else (Bq.l0 k x8 x9 (wrap64 (x10 + 1))))) else (none)) else (none)) else (some 0)
def Bq.f (k : Nat) (l0 : List (S58)) : Option (Int) := if (l0.length : Int) > 4096 then (some 60) else (Bq.l0 k l0 (l0.length : Int) 0)
set_option maxHeartbeats 8000000 in
set_option maxRecDepth 100000 in
theorem Bq.calls (k : Nat) (A0 : Option Addr) (c0 : Nat) (l0 : List (S58)) (r : Int) (w : World) (hr0 : Kd.C k58 w A0 l0.length l0) (hc0 : l0.length ≤ c0) (h : Bq.f k l0 = some r) :
  Calls Try.prog 42 #[.slice A0 l0.length c0] w fun e w' => e = .returned (.int .i64 r) ∧ Below w.heap.size w w' := by
 have hu58 := Try.underlying58
 have HR0 := Aa.mk hr0
 have HC0 := Aa.mk hc0
 clear hr0 hc0
 have HB := Aa.mk (Below.refl w.heap.size w)
 have H : (if (l0.length : Int) > 4096 then (some 60) else (Bq.l0 k l0 (l0.length : Int) 0)) = some r := h
 clear h
 by_cases c2 : (l0.length : Int) > 4096
 ·rw [if_pos c2] at H
  have bn : decide (4096 < (l0.length : Int)) = true := decide_eq_true c2
  have dh : decide (4096 < l0.length) = true := decide_eq_true (by omega)
  clear c2
  obtain rfl := Option.some.inj H
  go_enter Try.func42, Try.ntmps42
  go_wp2
  go_ret
  exact ⟨by first | rfl | (simp [Av, Au] <;> rfl) | (simp [*, Av, Au] <;> rfl), by repeat (first | (with_reducible first | exact HB.out | apply Ae | apply Ac | apply Ad) | exact HB.out)⟩
 ·rw [if_neg c2] at H
  have bn : decide (4096 < (l0.length : Int)) = false := decide_eq_false c2
  have dh : decide (4096 < l0.length) = false := decide_eq_false (by omega)
  clear c2
  have H' := Aa.mk H
  clear H
  go_enter Try.func42, Try.ntmps42
  go_wp2
  go_loopg [10] k (fun kq v10 w' => ∃ (aa : Int), v10 = .int .i64 aa ∧ Aa (Bq.l0 kq l0 (l0.length : Int) aa = some r) ∧ Aa (kq ≤ k) ∧ Aa (Below w.heap.size w w'))
  case atStart => exact ⟨(0), (by first | rfl | (simp; done) | (simp [*]; done)), H', ⟨Nat.le_refl _⟩, ⟨by repeat (first | (with_reducible first | exact HB.out | apply Ae | apply Ac | apply Ad) | exact HB.out)⟩⟩
  case round =>
   clear H'
   try clear c2
   try clear bn
   try clear dh
   try clear p2
   obtain ⟨aa, rfl, HA, HK1, HB⟩ := hrel
   cases gk with
   | zero => exact absurd HA.out (by simp [Bq.l0])
   | succ k1 =>
    have H := HA.out
    clear HA
    simp only [Bq.l0] at H
    by_cases c3 : aa < (l0.length : Int)
    ·rw [if_pos c3] at H
     have bQ : decide (aa < (l0.length : Int)) = true := decide_eq_true c3
     clear c3
     by_cases c4 : 0 ≤ aa
     ·rw [if_pos c4] at H
      have b4 : decide (0 ≤ aa) = true := decide_eq_true c4
      clear c4
      by_cases c5 : aa < (l0.length : Int)
      ·rw [if_pos c5] at H
       have di : decide (aa < (l0.length : Int)) = true := decide_eq_true c5
       clear c5
       replace H := Option.bind_eq_some_iff.mp H
       obtain ⟨cX, A60, H⟩ := H
       try dsimp only at H
       have A6 := Aa.mk A60
       clear A60
       by_cases c7 : cX = true
       ·subst c7
        have H1 := H
        rw [if_pos rfl] at H1
        clear H
        have H := H1
        clear H1
        obtain ⟨dj, bR⟩ : ∃ y_ : List Int, y_ = (([(rd_T58 l0 aa).f0, (rd_T58 l0 aa).f1, (rd_T58 l0 aa).f2, (rd_T58 l0 aa).f3] : List Int)) := ⟨_, rfl⟩
        (try rw [Option.bind_some] at H); try rw [← bR] at H
        have bD := Aa.mk bR
        clear bR
        replace H := Option.bind_eq_some_iff.mp H
        obtain ⟨cY, A80, H⟩ := H
        try dsimp only at H
        have A8 := Aa.mk A80
        clear A80
        by_cases c9 : cY = true
        ·subst c9
         have H1 := H
         rw [if_pos rfl] at H1
         clear H
         have H := H1
         clear H1
         have H' := Aa.mk H
         clear H
         have bg : 0 ≤ (aa : Int) := of_decide_eq_true (by with_reducible assumption)
         have bh : aa < (l0.length : Int) := of_decide_eq_true (by with_reducible assumption)
         obtain ⟨cT, e102, aw, ax, ay, az⟩ := at_T58 HR0.out aa bg bh
         cases e102
         replace aw := (HB.out.cell (World.block_lt_of_cell? w _ aw)).trans aw
         replace ax := (HB.out.cell (World.block_lt_of_cell? w _ ax)).trans ax
         replace ay := (HB.out.cell (World.block_lt_of_cell? w _ ay)).trans ay
         replace az := (HB.out.cell (World.block_lt_of_cell? w _ az)).trans az
         replace bg := eq_true bg
         replace bh := eq_true bh
         go_wp2_with (first | ((with_reducible refine Bo (N := 4) rfl ?_); (try (refine Cf (by rfl) ?_; dsimp only)); refine B2 ?hg (N := 4) ?hd (cs := #[.int .i64 0, .int .i64 0, .int .i64 0, .int .i64 0]) (t := 58) ?hr ?_; (case hd => rfl); (case hg => rfl); (case hr => first | (go_simp; done) | (go_simp; rfl)); intro an hg w10 hbox hb; have n0_ := Aa.mk (Ai (lU HB.out) hb); have n1_ := Aa.mk (hbox); have n2_ := Aa.mk ((by rw [hg]; exact (Af (lU HB.out)) : w.heap.size ≤ an)); have n3_ := Aa.mk ((by rw [hg]; exact (Af (lU HB.out)) : w.heap.size ≤ an)); clear HB; have HB := n0_; have ah := n1_; have cU := n2_; have aZ := n3_; clear n0_ n1_ n2_ n3_; clear hb hbox hg; have dC : w10.cell? ⟨an, 0, none⟩ = some (.int .i64 0) := (Ak ah.out 0).trans rfl; have dD : w10.cell? ⟨an, 1, none⟩ = some (.int .i64 0) := (Ak ah.out 1).trans rfl; have dE : w10.cell? ⟨an, 2, none⟩ = some (.int .i64 0) := (Ak ah.out 2).trans rfl; have dF : w10.cell? ⟨an, 3, none⟩ = some (.int .i64 0) := (Ak ah.out 3).trans rfl; have dG := Ag ah.out 0; have dH := Ag ah.out 1; have dI := Ag ah.out 2; have dJ := Ag ah.out 3) | ((with_reducible refine Ap (f := 62) rfl ?_); refine Br (some 15) rfl rfl Try.func62 (by kernel_rfl) rfl #[.agg #[.int .i64 ((rd_T58 l0 aa).f0), .int .i64 ((rd_T58 l0 aa).f1), .int .i64 ((rd_T58 l0 aa).f2), .int .i64 ((rd_T58 l0 aa).f3)]] rfl (by (try simp only [List.map_toArray, List.map_cons, List.map_nil]); first | done | rfl | (simp only [List.length_drop, List.length_take]; rfl)) ?_; (with_reducible refine (Cd.calls ((rd_T58 l0 aa).f0) ((rd_T58 l0 aa).f1) ((rd_T58 l0 aa).f2) ((rd_T58 l0 aa).f3) true _ A6.out).mono ?_); rintro e w12 ⟨rfl, hb⟩; refine ⟨_, rfl, ?_⟩; have n0_ := Aa.mk (B7 (g := an) (o := .cells #[.int .i64 ((rd_T58 l0 aa).f0), .int .i64 ((rd_T58 l0 aa).f1), .int .i64 ((rd_T58 l0 aa).f2), .int .i64 ((rd_T58 l0 aa).f3)] 58 (0, 0)) (by (with_reducible repeat (first | refine Ay ?_ _ | refine Bc ?_ | refine Az ?_ _)); refine Bk (cs := #[.int .i64 ((rd_T58 l0 aa).f0), .int .i64 ((rd_T58 l0 aa).f1), .int .i64 ((rd_T58 l0 aa).f2), .int .i64 0]) ?_ 3 _ rfl; (with_reducible repeat (first | refine Ay ?_ _ | refine Bc ?_ | refine Az ?_ _)); refine Bk (cs := #[.int .i64 ((rd_T58 l0 aa).f0), .int .i64 ((rd_T58 l0 aa).f1), .int .i64 0, .int .i64 0]) ?_ 2 _ rfl; (with_reducible repeat (first | refine Ay ?_ _ | refine Bc ?_ | refine Az ?_ _)); refine Bk (cs := #[.int .i64 ((rd_T58 l0 aa).f0), .int .i64 0, .int .i64 0, .int .i64 0]) ?_ 1 _ rfl; (with_reducible repeat (first | refine Ay ?_ _ | refine Bc ?_ | refine Az ?_ _)); refine Bk (cs := #[.int .i64 0, .int .i64 0, .int .i64 0, .int .i64 0]) ?_ 0 _ rfl; exact bU <| ah.out) hb); have n1_ := Aa.mk (Ai (by repeat (first | (with_reducible first | exact HB.out | apply Ae | apply Ac | apply Ad | refine Ar ?_ aZ.out) | exact HB.out)) hb); clear ah; clear HB; have ah := n0_; have HB := n1_; clear n0_ n1_; (try clear hb); (try clear hb2); (try clear hk); (try clear hi); have b5 : w12.cell? ⟨an, 0, none⟩ = some (.int .i64 ((rd_T58 l0 aa).f0)) := (Ak ah.out 0).trans rfl; have b6 : w12.cell? ⟨an, 1, none⟩ = some (.int .i64 ((rd_T58 l0 aa).f1)) := (Ak ah.out 1).trans rfl; have b7 : w12.cell? ⟨an, 2, none⟩ = some (.int .i64 ((rd_T58 l0 aa).f2)) := (Ak ah.out 2).trans rfl; have b8 : w12.cell? ⟨an, 3, none⟩ = some (.int .i64 ((rd_T58 l0 aa).f3)) := (Ak ah.out 3).trans rfl; have b9 := Ag ah.out 0; have cd := Ag ah.out 1; have cg := Ag ah.out 2; have ch := Ag ah.out 3) | ((with_reducible refine Bo (N := 25) rfl ?_); (try (refine Cf (by rfl) ?_; dsimp only)); refine Kd.C3 (Kd.int .i64) _ 3 ?hg (N := 25) ?hd (xs := ([(rd_T58 l0 aa).f0, (rd_T58 l0 aa).f1, (rd_T58 l0 aa).f2, (rd_T58 l0 aa).f3] : List Int)) (inner := [.int .i64 ((rd_T58 l0 aa).f0), .int .i64 ((rd_T58 l0 aa).f1), .int .i64 ((rd_T58 l0 aa).f2), .int .i64 ((rd_T58 l0 aa).f3)]) (ok := fun _ => True) (okp := fun _ => True) ?hr ?hp (fun _ hk => hk) trivial (Below.refl _ _) (Nat.le_refl _) (by simp) ?_; (case hd => rfl); (case hg => rfl); (case hr => first | (go_simp; done) | (go_simp; rfl)); (case hp => exact (Reps.one (show Kd.M (Kd.int .i64) _ _ _ ((rd_T58 l0 aa).f0) [.int .i64 ((rd_T58 l0 aa).f0)] from rfl) (Reps.one (show Kd.M (Kd.int .i64) _ _ _ ((rd_T58 l0 aa).f1) [.int .i64 ((rd_T58 l0 aa).f1)] from rfl) (Reps.one (show Kd.M (Kd.int .i64) _ _ _ ((rd_T58 l0 aa).f2) [.int .i64 ((rd_T58 l0 aa).f2)] from rfl) (Reps.one (show Kd.M (Kd.int .i64) _ _ _ ((rd_T58 l0 aa).f3) [.int .i64 ((rd_T58 l0 aa).f3)] from rfl) (Reps.none _ _)))))); intro v106 w14 ho15 hb hg_ hnew_; clear hg_ hnew_; (first | rw [← bD.out] at ho15 | (simp only [Int.reduceToNat] at ho15; rw [← bD.out] at ho15)); have n0_ := Aa.mk (Kd.Bv ho15 (Af (by repeat (first | (with_reducible first | exact HB.out | apply Ae | apply Ac | apply Ad | refine Ar ?_ aZ.out) | exact HB.out)))); have n1_ := Aa.mk (B7 (g := an) (o := .cells #[.int .i64 ((rd_T58 l0 aa).f0), .int .i64 ((rd_T58 l0 aa).f1), .int .i64 ((rd_T58 l0 aa).f2), .int .i64 ((rd_T58 l0 aa).f3)] 58 (0, 0)) (by exact bU <| ah.out) hb); have n2_ := Aa.mk (Ai (by repeat (first | (with_reducible first | exact HB.out | apply Ae | apply Ac | apply Ad | refine Ar ?_ aZ.out) | exact HB.out)) hb); clear ah; clear HB; have bi := n0_; have ah := n1_; have HB := n2_; clear n0_ n1_ n2_; clear hb ho15; obtain ⟨fz, fA, eU⟩ := Kd.Bi bi.out; subst eU) | (go_at_call 70; (with_reducible refine (Cg.calls _ _ dj true _ ?side1 ?side2 A8.out).mono ?_); (case side1 => repeat (first | exact (Kd.Aq bi.out).2.2 | (with_reducible refine Kd.Bh ?_ _) | (with_reducible refine Kd.Bg ?_ _) | (with_reducible refine Kd.Bp ?_))); (case side2 => exact (Kd.Aq bi.out).2.1); rintro e w' ⟨rfl, ⟨nd, rfl⟩⟩))
         go_roundg k1
         case measure => have := HK1.out; omega
         case rel => exact ⟨(wrap64 (aa + 1)), (by first | rfl | (simp; done) | (simp [*]; done)), H', ⟨by have := HK1.out; omega⟩, ⟨by repeat (first | (with_reducible first | exact HB.out | apply Ae | apply Ac | apply Ad | refine Ar ?_ aZ.out) | exact HB.out)⟩⟩
        ·replace c9 := Bool.eq_false_iff.mpr c9
         subst c9
         have H1 := H
         rw [if_neg (show ¬ (false = true) by decide)] at H1
         clear H
         have H := H1
         clear H1
         obtain rfl := Option.some.inj H
         have bg : 0 ≤ (aa : Int) := of_decide_eq_true (by with_reducible assumption)
         have bh : aa < (l0.length : Int) := of_decide_eq_true (by with_reducible assumption)
         obtain ⟨cT, e102, aw, ax, ay, az⟩ := at_T58 HR0.out aa bg bh
         cases e102
         replace aw := (HB.out.cell (World.block_lt_of_cell? w _ aw)).trans aw
         replace ax := (HB.out.cell (World.block_lt_of_cell? w _ ax)).trans ax
         replace ay := (HB.out.cell (World.block_lt_of_cell? w _ ay)).trans ay
         replace az := (HB.out.cell (World.block_lt_of_cell? w _ az)).trans az
         replace bg := eq_true bg
         replace bh := eq_true bh
         go_wp2_with (first | ((with_reducible refine Bo (N := 4) rfl ?_); (try (refine Cf (by rfl) ?_; dsimp only)); refine B2 ?hg (N := 4) ?hd (cs := #[.int .i64 0, .int .i64 0, .int .i64 0, .int .i64 0]) (t := 58) ?hr ?_; (case hd => rfl); (case hg => rfl); (case hr => first | (go_simp; done) | (go_simp; rfl)); intro an hg w17 hbox hb; have n0_ := Aa.mk (Ai (lU HB.out) hb); have n1_ := Aa.mk (hbox); have n2_ := Aa.mk ((by rw [hg]; exact (Af (lU HB.out)) : w.heap.size ≤ an)); have n3_ := Aa.mk ((by rw [hg]; exact (Af (lU HB.out)) : w.heap.size ≤ an)); clear HB; have HB := n0_; have ah := n1_; have cU := n2_; have aZ := n3_; clear n0_ n1_ n2_ n3_; clear hb hbox hg; have ci : w17.cell? ⟨an, 0, none⟩ = some (.int .i64 0) := (Ak ah.out 0).trans rfl; have cj : w17.cell? ⟨an, 1, none⟩ = some (.int .i64 0) := (Ak ah.out 1).trans rfl; have cl : w17.cell? ⟨an, 2, none⟩ = some (.int .i64 0) := (Ak ah.out 2).trans rfl; have cn : w17.cell? ⟨an, 3, none⟩ = some (.int .i64 0) := (Ak ah.out 3).trans rfl; have co := Ag ah.out 0; have cp := Ag ah.out 1; have cq := Ag ah.out 2; have ct := Ag ah.out 3) | ((with_reducible refine Ap (f := 62) rfl ?_); refine Br (some 15) rfl rfl Try.func62 (by kernel_rfl) rfl #[.agg #[.int .i64 ((rd_T58 l0 aa).f0), .int .i64 ((rd_T58 l0 aa).f1), .int .i64 ((rd_T58 l0 aa).f2), .int .i64 ((rd_T58 l0 aa).f3)]] rfl (by (try simp only [List.map_toArray, List.map_cons, List.map_nil]); first | done | rfl | (simp only [List.length_drop, List.length_take]; rfl)) ?_; (with_reducible refine (Cd.calls ((rd_T58 l0 aa).f0) ((rd_T58 l0 aa).f1) ((rd_T58 l0 aa).f2) ((rd_T58 l0 aa).f3) true _ A6.out).mono ?_); rintro e w19 ⟨rfl, hb⟩; refine ⟨_, rfl, ?_⟩; have n0_ := Aa.mk (B7 (g := an) (o := .cells #[.int .i64 ((rd_T58 l0 aa).f0), .int .i64 ((rd_T58 l0 aa).f1), .int .i64 ((rd_T58 l0 aa).f2), .int .i64 ((rd_T58 l0 aa).f3)] 58 (0, 0)) (by (with_reducible repeat (first | refine Ay ?_ _ | refine Bc ?_ | refine Az ?_ _)); refine Bk (cs := #[.int .i64 ((rd_T58 l0 aa).f0), .int .i64 ((rd_T58 l0 aa).f1), .int .i64 ((rd_T58 l0 aa).f2), .int .i64 0]) ?_ 3 _ rfl; (with_reducible repeat (first | refine Ay ?_ _ | refine Bc ?_ | refine Az ?_ _)); refine Bk (cs := #[.int .i64 ((rd_T58 l0 aa).f0), .int .i64 ((rd_T58 l0 aa).f1), .int .i64 0, .int .i64 0]) ?_ 2 _ rfl; (with_reducible repeat (first | refine Ay ?_ _ | refine Bc ?_ | refine Az ?_ _)); refine Bk (cs := #[.int .i64 ((rd_T58 l0 aa).f0), .int .i64 0, .int .i64 0, .int .i64 0]) ?_ 1 _ rfl; (with_reducible repeat (first | refine Ay ?_ _ | refine Bc ?_ | refine Az ?_ _)); refine Bk (cs := #[.int .i64 0, .int .i64 0, .int .i64 0, .int .i64 0]) ?_ 0 _ rfl; exact bU <| ah.out) hb); have n1_ := Aa.mk (Ai (by repeat (first | (with_reducible first | exact HB.out | apply Ae | apply Ac | apply Ad | refine Ar ?_ aZ.out) | exact HB.out)) hb); clear ah; clear HB; have ah := n0_; have HB := n1_; clear n0_ n1_; (try clear hb); (try clear hb2); (try clear hk); (try clear hi); have cu : w19.cell? ⟨an, 0, none⟩ = some (.int .i64 ((rd_T58 l0 aa).f0)) := (Ak ah.out 0).trans rfl; have cv : w19.cell? ⟨an, 1, none⟩ = some (.int .i64 ((rd_T58 l0 aa).f1)) := (Ak ah.out 1).trans rfl; have cw : w19.cell? ⟨an, 2, none⟩ = some (.int .i64 ((rd_T58 l0 aa).f2)) := (Ak ah.out 2).trans rfl; have cx : w19.cell? ⟨an, 3, none⟩ = some (.int .i64 ((rd_T58 l0 aa).f3)) := (Ak ah.out 3).trans rfl; have cy := Ag ah.out 0; have cz := Ag ah.out 1; have cA := Ag ah.out 2; have cB := Ag ah.out 3) | ((with_reducible refine Bo (N := 25) rfl ?_); (try (refine Cf (by rfl) ?_; dsimp only)); refine Kd.C3 (Kd.int .i64) _ 3 ?hg (N := 25) ?hd (xs := ([(rd_T58 l0 aa).f0, (rd_T58 l0 aa).f1, (rd_T58 l0 aa).f2, (rd_T58 l0 aa).f3] : List Int)) (inner := [.int .i64 ((rd_T58 l0 aa).f0), .int .i64 ((rd_T58 l0 aa).f1), .int .i64 ((rd_T58 l0 aa).f2), .int .i64 ((rd_T58 l0 aa).f3)]) (ok := fun _ => True) (okp := fun _ => True) ?hr ?hp (fun _ hk => hk) trivial (Below.refl _ _) (Nat.le_refl _) (by simp) ?_; (case hd => rfl); (case hg => rfl); (case hr => first | (go_simp; done) | (go_simp; rfl)); (case hp => exact (Reps.one (show Kd.M (Kd.int .i64) _ _ _ ((rd_T58 l0 aa).f0) [.int .i64 ((rd_T58 l0 aa).f0)] from rfl) (Reps.one (show Kd.M (Kd.int .i64) _ _ _ ((rd_T58 l0 aa).f1) [.int .i64 ((rd_T58 l0 aa).f1)] from rfl) (Reps.one (show Kd.M (Kd.int .i64) _ _ _ ((rd_T58 l0 aa).f2) [.int .i64 ((rd_T58 l0 aa).f2)] from rfl) (Reps.one (show Kd.M (Kd.int .i64) _ _ _ ((rd_T58 l0 aa).f3) [.int .i64 ((rd_T58 l0 aa).f3)] from rfl) (Reps.none _ _)))))); intro v106 w21 ho22 hb hg_ hnew_; clear hg_ hnew_; (first | rw [← bD.out] at ho22 | (simp only [Int.reduceToNat] at ho22; rw [← bD.out] at ho22)); have n0_ := Aa.mk (Kd.Bv ho22 (Af (by repeat (first | (with_reducible first | exact HB.out | apply Ae | apply Ac | apply Ad | refine Ar ?_ aZ.out) | exact HB.out)))); have n1_ := Aa.mk (B7 (g := an) (o := .cells #[.int .i64 ((rd_T58 l0 aa).f0), .int .i64 ((rd_T58 l0 aa).f1), .int .i64 ((rd_T58 l0 aa).f2), .int .i64 ((rd_T58 l0 aa).f3)] 58 (0, 0)) (by exact bU <| ah.out) hb); have n2_ := Aa.mk (Ai (by repeat (first | (with_reducible first | exact HB.out | apply Ae | apply Ac | apply Ad | refine Ar ?_ aZ.out) | exact HB.out)) hb); clear ah; clear HB; have bi := n0_; have ah := n1_; have HB := n2_; clear n0_ n1_ n2_; clear hb ho22; obtain ⟨cC, cD, cZ⟩ := Kd.Bi bi.out; subst cZ) | (go_at_call 70; (with_reducible refine (Cg.calls _ _ dj false _ ?side1 ?side2 A8.out).mono ?_); (case side1 => repeat (first | exact (Kd.Aq bi.out).2.2 | (with_reducible refine Kd.Bh ?_ _) | (with_reducible refine Kd.Bg ?_ _) | (with_reducible refine Kd.Bp ?_))); (case side2 => exact (Kd.Aq bi.out).2.1); rintro e w' ⟨rfl, ⟨nd, rfl⟩⟩))
         go_ret
         exact ⟨by first | rfl | (simp [Av, Au] <;> rfl) | (simp [*, Av, Au] <;> rfl), by repeat (first | (with_reducible first | exact HB.out | apply Ae | apply Ac | apply Ad | refine Ar ?_ aZ.out) | exact HB.out)⟩
       ·replace c7 := Bool.eq_false_iff.mpr c7
        subst c7
        have H1 := H
        rw [if_neg (show ¬ (false = true) by decide)] at H1
        clear H
        have H := H1
        clear H1
        have H' := Aa.mk H
        clear H
        have bg : 0 ≤ (aa : Int) := of_decide_eq_true (by with_reducible assumption)
        have bh : aa < (l0.length : Int) := of_decide_eq_true (by with_reducible assumption)
        obtain ⟨cT, e102, aw, ax, ay, az⟩ := at_T58 HR0.out aa bg bh
        cases e102
        replace aw := (HB.out.cell (World.block_lt_of_cell? w _ aw)).trans aw
        replace ax := (HB.out.cell (World.block_lt_of_cell? w _ ax)).trans ax
        replace ay := (HB.out.cell (World.block_lt_of_cell? w _ ay)).trans ay
        replace az := (HB.out.cell (World.block_lt_of_cell? w _ az)).trans az
        replace bg := eq_true bg
        replace bh := eq_true bh
        go_wp2_with (first | ((with_reducible refine Bo (N := 4) rfl ?_); (try (refine Cf (by rfl) ?_; dsimp only)); refine B2 ?hg (N := 4) ?hd (cs := #[.int .i64 0, .int .i64 0, .int .i64 0, .int .i64 0]) (t := 58) ?hr ?_; (case hd => rfl); (case hg => rfl); (case hr => first | (go_simp; done) | (go_simp; rfl)); intro an hg w24 hbox hb; have n0_ := Aa.mk (Ai (lU HB.out) hb); have n1_ := Aa.mk (hbox); have n2_ := Aa.mk ((by rw [hg]; exact (Af (lU HB.out)) : w.heap.size ≤ an)); have n3_ := Aa.mk ((by rw [hg]; exact (Af (lU HB.out)) : w.heap.size ≤ an)); clear HB; have HB := n0_; have ah := n1_; have cU := n2_; have aZ := n3_; clear n0_ n1_ n2_ n3_; clear hb hbox hg; have cE : w24.cell? ⟨an, 0, none⟩ = some (.int .i64 0) := (Ak ah.out 0).trans rfl; have cF : w24.cell? ⟨an, 1, none⟩ = some (.int .i64 0) := (Ak ah.out 1).trans rfl; have cG : w24.cell? ⟨an, 2, none⟩ = some (.int .i64 0) := (Ak ah.out 2).trans rfl; have dK : w24.cell? ⟨an, 3, none⟩ = some (.int .i64 0) := (Ak ah.out 3).trans rfl; have cH := Ag ah.out 0; have cI := Ag ah.out 1; have cJ := Ag ah.out 2; have dL := Ag ah.out 3) | ((with_reducible refine Ap (f := 62) rfl ?_); refine Br (some 15) rfl rfl Try.func62 (by kernel_rfl) rfl #[.agg #[.int .i64 ((rd_T58 l0 aa).f0), .int .i64 ((rd_T58 l0 aa).f1), .int .i64 ((rd_T58 l0 aa).f2), .int .i64 ((rd_T58 l0 aa).f3)]] rfl (by (try simp only [List.map_toArray, List.map_cons, List.map_nil]); first | done | rfl | (simp only [List.length_drop, List.length_take]; rfl)) ?_; (with_reducible refine (Cd.calls ((rd_T58 l0 aa).f0) ((rd_T58 l0 aa).f1) ((rd_T58 l0 aa).f2) ((rd_T58 l0 aa).f3) false _ A6.out).mono ?_); rintro e w26 ⟨rfl, hb⟩; refine ⟨_, rfl, ?_⟩; have n0_ := Aa.mk (B7 (g := an) (o := .cells #[.int .i64 ((rd_T58 l0 aa).f0), .int .i64 ((rd_T58 l0 aa).f1), .int .i64 ((rd_T58 l0 aa).f2), .int .i64 ((rd_T58 l0 aa).f3)] 58 (0, 0)) (by (with_reducible repeat (first | refine Ay ?_ _ | refine Bc ?_ | refine Az ?_ _)); refine Bk (cs := #[.int .i64 ((rd_T58 l0 aa).f0), .int .i64 ((rd_T58 l0 aa).f1), .int .i64 ((rd_T58 l0 aa).f2), .int .i64 0]) ?_ 3 _ rfl; (with_reducible repeat (first | refine Ay ?_ _ | refine Bc ?_ | refine Az ?_ _)); refine Bk (cs := #[.int .i64 ((rd_T58 l0 aa).f0), .int .i64 ((rd_T58 l0 aa).f1), .int .i64 0, .int .i64 0]) ?_ 2 _ rfl; (with_reducible repeat (first | refine Ay ?_ _ | refine Bc ?_ | refine Az ?_ _)); refine Bk (cs := #[.int .i64 ((rd_T58 l0 aa).f0), .int .i64 0, .int .i64 0, .int .i64 0]) ?_ 1 _ rfl; (with_reducible repeat (first | refine Ay ?_ _ | refine Bc ?_ | refine Az ?_ _)); refine Bk (cs := #[.int .i64 0, .int .i64 0, .int .i64 0, .int .i64 0]) ?_ 0 _ rfl; exact bU <| ah.out) hb); have n1_ := Aa.mk (Ai (by repeat (first | (with_reducible first | exact HB.out | apply Ae | apply Ac | apply Ad | refine Ar ?_ aZ.out) | exact HB.out)) hb); clear ah; clear HB; have ah := n0_; have HB := n1_; clear n0_ n1_; (try clear hb); (try clear hb2); (try clear hk); (try clear hi)))
        go_roundg k1
        case measure => have := HK1.out; omega
        case rel => exact ⟨(wrap64 (aa + 1)), (by first | rfl | (simp; done) | (simp [*]; done)), H', ⟨by have := HK1.out; omega⟩, ⟨by repeat (first | (with_reducible first | exact HB.out | apply Ae | apply Ac | apply Ad | refine Ar ?_ aZ.out) | exact HB.out)⟩⟩
      ·rw [if_neg c5] at H
       exact absurd H (by simp)
     ·rw [if_neg c4] at H
      exact absurd H (by simp)
    ·rw [if_neg c3] at H
     have bQ : decide (aa < (l0.length : Int)) = false := decide_eq_false c3
     clear c3
     obtain rfl := Option.some.inj H
     go_wp2
     go_ret
     exact ⟨by first | rfl | (simp [Av, Au] <;> rfl) | (simp [*, Av, Au] <;> rfl), by repeat (first | (with_reducible first | exact HB.out | apply Ae | apply Ac | apply Ad) | exact HB.out)⟩

mutual
def Bm.l0 : Nat → List (S58) → Bool → List (S91) → Int → Int → Option ((List (S58)) × Int)
 | 0, _, _, _, _, _ => none
 | k + 1, x4, x5, x10, x11, x12 => if x12 < x11 then (if 0 ≤ x12 then (if x12 < (x10.length : Int) then (Bm.l1 k x4 x5 x10 x11 x12 ((rd_T91 x10 x12).f2) (((rd_T91 x10 x12).f2).length : Int) 0 ((rd_T91 x10 x12).f0) ((rd_T91 x10 x12).f1) ((rd_T91 x10 x12).f2)) else (none)) else (none)) else (if x5 = true then (some (([] : List (S58)), 60)) else (some (x4, 0)))
def Bm.l1 : Nat → List (S58) → Bool → List (S91) → Int → Int → List (S93) → Int → Int → Int → Int → List (S93) → Option ((List (S58)) × Int)
 | 0, _, _, _, _, _, _, _, _, _, _, _ => none
 | k + 1, x4, x5, x10, x11, x12, x17, x18, x19, a9, ba, bE => if x19 < x18 then (if 0 ≤ x19 then (if x19 < (x17.length : Int) then ((Cg.f (([(rd_T93 x17 x19).f0, (rd_T93 x17 x19).f1, a9, ba] : List Int))).bind fun da => (if da = true then (if (x4.length : Int) = 4096 then (Bm.l1 k x4 true x10 x11 x12 x17 x18 (wrap64 (x19 + 1)) a9 ba bE) else (if x4.length < 4398046511104 then (Bm.l1 k (x4 ++ [(⟨(rd_T93 x17 x19).f0, a9, (rd_T93 x17 x19).f1, ba⟩ : S58)]) x5 x10 x11 x12 x17 x18 (wrap64 (x19 + 1)) a9 ba bE) else (none))) else (some (([] : List (S58)), 61)))) else (none)) else (none)) else (Bm.l0 k x4 x5 x10 x11 (wrap64 (x12 + 1)))
end
def Bm.f (k : Nat) (l0 : List (S91)) : Option ((List (S58)) × Int) := Bm.l0 k ([] : List (S58)) false l0 (l0.length : Int) 0
set_option maxHeartbeats 8000000 in
set_option maxRecDepth 100000 in
theorem Bm.calls (k : Nat) (A0 : Option Addr) (c0 : Nat) (l0 : List (S91)) (r1 : List (S58)) (r2 : Int) (w : World) (hr0 : Kd.C k91 w A0 l0.length l0) (hc0 : l0.length ≤ c0) (h : Bm.f k l0 = some (r1, r2)) :
  Calls Try.prog 46 #[.slice A0 l0.length c0] w fun e w' => ∃ v0_ : Value, e = .returned (.tuple #[v0_, .int .i64 r2]) ∧ Kd.R k58 58 w' w.heap.size (fun _ => True) v0_ r1 ∧ Below w.heap.size w w' := by
 have hu91 := Try.underlying91
 have hu93 := Try.underlying93
 have hu58 := Try.underlying58
 have HR0 := Aa.mk hr0
 have HC0 := Aa.mk hc0
 clear hr0 hc0
 have HB := Aa.mk (Below.refl w.heap.size w)
 have H : (Bm.l0 k ([] : List (S58)) false l0 (l0.length : Int) 0) = some (r1, r2) := h
 clear h
 have H' := Aa.mk H
 clear H
 go_enter Try.func46, Try.ntmps46
 go_wp2
 go_loopg [4, 5, 12] k (fun kq v4 v5 v12 w' => ∃ (cK : List (S58)) (bS : Bool) (ab : Int), v5 = .bool bS ∧ v12 = .int .i64 ab ∧ Aa (Bm.l0 kq cK bS l0 (l0.length : Int) ab = some (r1, r2)) ∧ Aa (kq ≤ k) ∧ Aa (Kd.R k58 58 w' w.heap.size (fun _ => True) v4 cK) ∧ Aa (Below w.heap.size w w'))
 case atStart => exact ⟨(([] : List (S58))), (false), (0), (by first | rfl | (simp; done) | (simp [*]; done)), (by first | rfl | (simp; done) | (simp [*]; done)), H', ⟨Nat.le_refl _⟩, ⟨by first | exact Kd.C0 _ _ _ _ _ | exact Kd.N_nil _ _ _ _ _ | exact Kd.V_nil _ _ _ _ _ | exact Kd.Q_nil _ _ _ _ _ | exact Kd.S_nil _ _ _ _ _⟩, ⟨by repeat (first | (with_reducible first | exact HB.out | apply Ae | apply Ac | apply Ad) | exact HB.out)⟩⟩
 case round =>
  clear H'
  obtain ⟨cK, bS, ab, rfl, rfl, HA, HK1, av, HB⟩ := hrel
  cases gk with
  | zero => exact absurd HA.out (by simp [Bm.l0])
  | succ k1 =>
   have H := HA.out
   clear HA
   simp only [Bm.l0] at H
   by_cases c2 : ab < (l0.length : Int)
   ·rw [if_pos c2] at H
    have bn : decide (ab < (l0.length : Int)) = true := decide_eq_true c2
    clear c2
    by_cases c3 : 0 ≤ ab
    ·rw [if_pos c3] at H
     have bQ : decide (0 ≤ ab) = true := decide_eq_true c3
     clear c3
     by_cases c4 : ab < (l0.length : Int)
     ·rw [if_pos c4] at H
      have b4 : decide (ab < (l0.length : Int)) = true := decide_eq_true c4
      clear c4
      have H' := Aa.mk H
      clear H
      have cL : 0 ≤ (ab : Int) := of_decide_eq_true (by with_reducible assumption)
      have cM : ab < (l0.length : Int) := of_decide_eq_true (by with_reducible assumption)
      obtain ⟨fm, bT, ar, e109, bb, bc, be, bF, hi109_2⟩ := at_T91 HR0.out ab cL cM
      cases e109
      replace bb := (HB.out.cell (World.block_lt_of_cell? w _ bb)).trans bb
      replace bc := (HB.out.cell (World.block_lt_of_cell? w _ bc)).trans bc
      replace be := (HB.out.cell (World.block_lt_of_cell? w _ be)).trans be
      have bs := Aa.mk hi109_2
      have dM := Aa.mk bF
      clear hi109_2 bF
      replace cL := eq_true cL
      replace cM := eq_true cM
      go_wp2_with (first | ((with_reducible refine Bo (N := 7) rfl ?_); refine B2 ?hg (N := 7) ?hd (cs := #[.int .i64 0, .int .i64 0, .slice none 0 0]) (t := 91) ?hr ?_; (case hd => rfl); (case hg => rfl); (case hr => first | (go_simp; done) | (go_simp; rfl)); intro ai hg w5 hbox hb; have n0_ := Aa.mk (Kd.At (by exact rU <| av.out) hb); have n1_ := Aa.mk (Ai (lU HB.out) hb); have n2_ := Aa.mk (hbox); have n3_ := Aa.mk ((by rw [hg]; exact (Af (lU HB.out)) : w.heap.size ≤ ai)); have n4_ := Aa.mk ((by rw [hg]; exact (Af (lU HB.out)) : w.heap.size ≤ ai)); clear av; clear HB; have av := n0_; have HB := n1_; have ag := n2_; have fo := n3_; have au := n4_; clear n0_ n1_ n2_ n3_ n4_; clear hb hbox hg; have bK : w5.cell? ⟨ai, 0, none⟩ = some (.int .i64 0) := (Ak ag.out 0).trans rfl; have bL : w5.cell? ⟨ai, 1, none⟩ = some (.int .i64 0) := (Ak ag.out 1).trans rfl; have bM : w5.cell? ⟨ai, 2, none⟩ = some (.slice none 0 0) := (Ak ag.out 2).trans rfl; have bN := Ag ag.out 0; have bO := Ag ag.out 1; have bP := Ag ag.out 2))
      go_loopg [4, 5, 19] k1 (fun kq v4 v5 v19 w' => ∃ (a5 : List (S58)) (bV : Bool) (af : Int), v5 = .bool bV ∧ v19 = .int .i64 af ∧ Aa (Bm.l1 kq a5 bV l0 (l0.length : Int) ab ((rd_T91 l0 ab).f2) (((rd_T91 l0 ab).f2).length : Int) af ((rd_T91 l0 ab).f0) ((rd_T91 l0 ab).f1) ((rd_T91 l0 ab).f2) = some (r1, r2)) ∧ Aa (kq ≤ k1) ∧ Aa (Kd.R k58 58 w' w.heap.size (fun _ => True) v4 a5) ∧ Aa (w'.heap[ai]? = some (.cells #[.int .i64 ((rd_T91 l0 ab).f0), .int .i64 ((rd_T91 l0 ab).f1), (.slice bT ((rd_T91 l0 ab).f2).length ar)] 91 (0, 0))) ∧ Aa (Below w.heap.size w w'))
      case atStart => exact ⟨(cK), (bS), (0), (by first | rfl | (simp; done) | (simp [*]; done)), (by first | rfl | (simp; done) | (simp [*]; done)), H', ⟨Nat.le_refl _⟩, ⟨by exact rU <| Kd.Bj (Kd.Cc (p := ⟨ai, 2, none⟩) (Kd.Cc (p := ⟨ai, 1, none⟩) (Kd.Cc (p := ⟨ai, 0, none⟩) (Kd.C2 av.out ag.out (by decide)) (fun _ hk => hk.2) (.int .i64 ((rd_T91 l0 ab).f0))) (fun _ hk => hk.2) (.int .i64 ((rd_T91 l0 ab).f1))) (fun _ hk => hk.2) (.slice bT ((rd_T91 l0 ab).f2).length ar)) (fun _ hk => trivial)⟩, ⟨by (with_reducible repeat (first | refine Ay ?_ _ | refine Bc ?_ | refine Az ?_ _)); refine Bk (cs := #[.int .i64 ((rd_T91 l0 ab).f0), .int .i64 ((rd_T91 l0 ab).f1), .slice none 0 0]) ?_ 2 _ rfl; (with_reducible repeat (first | refine Ay ?_ _ | refine Bc ?_ | refine Az ?_ _)); refine Bk (cs := #[.int .i64 ((rd_T91 l0 ab).f0), .int .i64 0, .slice none 0 0]) ?_ 1 _ rfl; (with_reducible repeat (first | refine Ay ?_ _ | refine Bc ?_ | refine Az ?_ _)); refine Bk (cs := #[.int .i64 0, .int .i64 0, .slice none 0 0]) ?_ 0 _ rfl; exact bU <| ag.out⟩, ⟨by repeat (first | (with_reducible first | exact HB.out | apply Ae | apply Ac | apply Ad | refine Ar ?_ au.out) | exact HB.out)⟩⟩
      case round =>
       clear H'
       try clear c1
       try clear p1
       try clear q1
       try clear hx1
       try clear c2
       try clear bn
       try clear p2
       try clear c3
       try clear bQ
       try clear c4
       try clear b4
       try clear bK
       try clear bL
       try clear bM
       try clear bN
       try clear bO
       try clear bP
       try clear bb
       try clear bc
       try clear be
       try clear cL
       try clear cM
       obtain ⟨a5, bV, af, rfl, rfl, HA, HK2, av, ag, HB⟩ := hrel
       cases gk with
       | zero => exact absurd HA.out (by simp [Bm.l1])
       | succ k2 =>
        have H := HA.out
        clear HA
        simp only [Bm.l1] at H
        by_cases c7 : af < (((rd_T91 l0 ab).f2).length : Int)
        ·rw [if_pos c7] at H
         have dc : decide (af < (((rd_T91 l0 ab).f2).length : Int)) = true := decide_eq_true c7
         clear c7
         by_cases c8 : 0 ≤ af
         ·rw [if_pos c8] at H
          have eV : decide (0 ≤ af) = true := decide_eq_true c8
          clear c8
          by_cases c9 : af < (((rd_T91 l0 ab).f2).length : Int)
          ·rw [if_pos c9] at H
           have fB : decide (af < (((rd_T91 l0 ab).f2).length : Int)) = true := decide_eq_true c9
           clear c9
           obtain ⟨bI, bW⟩ : ∃ y_ : List Int, y_ = (([(rd_T93 ((rd_T91 l0 ab).f2) af).f0, (rd_T93 ((rd_T91 l0 ab).f2) af).f1, ((rd_T91 l0 ab).f0), ((rd_T91 l0 ab).f1)] : List Int)) := ⟨_, rfl⟩
           (try rw [Option.bind_some] at H); try rw [← bW] at H
           have bo := Aa.mk bW
           clear bW
           replace H := Option.bind_eq_some_iff.mp H
           obtain ⟨da, A100, H⟩ := H
           try dsimp only at H
           have A10 := Aa.mk A100
           clear A100
           by_cases c11 : da = true
           ·subst c11
            have H1 := H
            rw [if_pos rfl] at H1
            clear H
            have H := H1
            clear H1
            by_cases c12 : (a5.length : Int) = 4096
            ·rw [if_pos c12] at H
             have dk : ((a5.length : Int) == 4096) = true := beq_iff_eq.mpr c12
             have dl : ((a5.length : Int) != 4096) = false := bne_eq_false_iff_eq.mpr c12
             clear c12
             have H' := Aa.mk H
             clear H
             have bj : 0 ≤ (af : Int) := of_decide_eq_true (by with_reducible assumption)
             have bk : af < (((rd_T91 l0 ab).f2).length : Int) := of_decide_eq_true (by with_reducible assumption)
             obtain ⟨aA, e111, aC, aD⟩ := at_T93 bs.out af bj bk
             cases e111
             replace aC := (HB.out.cell (World.block_lt_of_cell? w _ aC)).trans aC
             replace aD := (HB.out.cell (World.block_lt_of_cell? w _ aD)).trans aD
             replace bj := eq_true bj
             replace bk := eq_true bk
             go_wp2_with (first | ((with_reducible refine Bo (N := 9) rfl ?_); refine B2 ?hg (N := 9) ?hd (cs := #[.int .i64 0, .int .i64 0]) (t := 93) ?hr ?_; (case hd => rfl); (case hg => rfl); (case hr => first | (go_simp; done) | (go_simp; rfl)); intro ao hg w13 hbox hb; have n0_ := Aa.mk (Kd.At (by exact rU <| av.out) hb); have n1_ := Aa.mk (B7 (g := ai) (o := .cells #[.int .i64 ((rd_T91 l0 ab).f0), .int .i64 ((rd_T91 l0 ab).f1), .slice (some aA) ((rd_T91 l0 ab).f2).length ar] 91 (0, 0)) (by exact bU <| ag.out) hb); have n2_ := Aa.mk (Ai (by repeat (first | (with_reducible first | exact HB.out | apply Ae | apply Ac | apply Ad | refine Ar ?_ au.out) | exact HB.out)) hb); have n3_ := Aa.mk (hbox); have n4_ := Aa.mk ((by rw [hg]; exact (Af (by repeat (first | (with_reducible first | exact HB.out | apply Ae | apply Ac | apply Ad | refine Ar ?_ au.out) | exact HB.out))) : w.heap.size ≤ ao)); have n5_ := Aa.mk ((by rw [hg]; exact (Af (by repeat (first | (with_reducible first | exact HB.out | apply Ae | apply Ac | apply Ad | refine Ar ?_ au.out) | exact HB.out))) : w.heap.size ≤ ao)); have n6_ := Aa.mk ((by rw [hg]; exact Nat.ne_of_lt (C1 (g := ai) (o := .cells #[.int .i64 ((rd_T91 l0 ab).f0), .int .i64 ((rd_T91 l0 ab).f1), .slice (some aA) ((rd_T91 l0 ab).f2).length ar] 91 (0, 0)) (by exact bU <| ag.out)) : ai ≠ ao)); have n7_ := Aa.mk ((by rw [hg]; exact Nat.ne_of_gt (C1 (g := ai) (o := .cells #[.int .i64 ((rd_T91 l0 ab).f0), .int .i64 ((rd_T91 l0 ab).f1), .slice (some aA) ((rd_T91 l0 ab).f2).length ar] 91 (0, 0)) (by exact bU <| ag.out)) : ao ≠ ai)); clear av; clear ag; clear HB; have av := n0_; have ag := n1_; have HB := n2_; have al := n3_; have cV := n4_; have aK := n5_; have aq := n6_; have aM := n7_; clear n0_ n1_ n2_ n3_ n4_ n5_ n6_ n7_; clear hb hbox hg; have fp := aM.out; have fq := aq.out; have cN : w13.cell? ⟨ao, 0, none⟩ = some (.int .i64 0) := (Ak al.out 0).trans rfl; have cO : w13.cell? ⟨ao, 1, none⟩ = some (.int .i64 0) := (Ak al.out 1).trans rfl; have cP := Ag al.out 0; have cQ := Ag al.out 1; have dN : w13.cell? ⟨ai, 0, none⟩ = some (.int .i64 ((rd_T91 l0 ab).f0)) := (Ak ag.out 0).trans rfl; have dO : w13.cell? ⟨ai, 1, none⟩ = some (.int .i64 ((rd_T91 l0 ab).f1)) := (Ak ag.out 1).trans rfl; have dP : w13.cell? ⟨ai, 2, none⟩ = some (.slice (some aA) ((rd_T91 l0 ab).f2).length ar) := (Ak ag.out 2).trans rfl; have dQ := Ag ag.out 0; have dR := Ag ag.out 1; have dS := Ag ag.out 2) | ((with_reducible refine Bo (N := 31) rfl ?_); refine Kd.C3 (Kd.int .i64) _ 3 ?hg (N := 31) ?hd (xs := ([(rd_T93 ((rd_T91 l0 ab).f2) af).f0, (rd_T93 ((rd_T91 l0 ab).f2) af).f1, ((rd_T91 l0 ab).f0), ((rd_T91 l0 ab).f1)] : List Int)) (inner := [.int .i64 ((rd_T93 ((rd_T91 l0 ab).f2) af).f0), .int .i64 ((rd_T93 ((rd_T91 l0 ab).f2) af).f1), .int .i64 ((rd_T91 l0 ab).f0), .int .i64 ((rd_T91 l0 ab).f1)]) (ok := fun _ => True) (okp := fun _ => True) ?hr ?hp (fun _ hk => hk) trivial (Below.refl _ _) (Nat.le_refl _) (by simp) ?_; (case hd => rfl); (case hg => rfl); (case hr => first | (go_simp; done) | (go_simp; rfl)); (case hp => exact (Reps.one (show Kd.M (Kd.int .i64) _ _ _ ((rd_T93 ((rd_T91 l0 ab).f2) af).f0) [.int .i64 ((rd_T93 ((rd_T91 l0 ab).f2) af).f0)] from rfl) (Reps.one (show Kd.M (Kd.int .i64) _ _ _ ((rd_T93 ((rd_T91 l0 ab).f2) af).f1) [.int .i64 ((rd_T93 ((rd_T91 l0 ab).f2) af).f1)] from rfl) (Reps.one (show Kd.M (Kd.int .i64) _ _ _ ((rd_T91 l0 ab).f0) [.int .i64 ((rd_T91 l0 ab).f0)] from rfl) (Reps.one (show Kd.M (Kd.int .i64) _ _ _ ((rd_T91 l0 ab).f1) [.int .i64 ((rd_T91 l0 ab).f1)] from rfl) (Reps.none _ _)))))); intro v114 w17 ho18 hb hg_ hnew_; clear hg_ hnew_; (first | rw [← bo.out] at ho18 | (simp only [Int.reduceToNat] at ho18; rw [← bo.out] at ho18)); have n0_ := Aa.mk (Kd.At (by exact rU <| (Kd.Bj (Kd.Cc (p := ⟨ao, 1, none⟩) (Kd.Cc (p := ⟨ao, 0, none⟩) (Kd.C2 av.out al.out (by decide)) (fun _ hk => hk.2) (.int .i64 ((rd_T93 ((rd_T91 l0 ab).f2) af).f0))) (fun _ hk => hk.2) (.int .i64 ((rd_T93 ((rd_T91 l0 ab).f2) af).f1))) (fun _ h_ => h_.1))) hb); have n1_ := Aa.mk (Kd.Bv ho18 (Af (by repeat (first | (with_reducible first | exact HB.out | apply Ae | apply Ac | apply Ad | refine Ar ?_ au.out | refine Ar ?_ aK.out) | exact HB.out)))); have n2_ := Aa.mk (B7 (g := ai) (o := .cells #[.int .i64 ((rd_T91 l0 ab).f0), .int .i64 ((rd_T91 l0 ab).f1), .slice (some aA) ((rd_T91 l0 ab).f2).length ar] 91 (0, 0)) (by (with_reducible repeat (first | refine Ay ?_ _ | refine Bc ?_ | refine Az ?_ _)); refine blk_far ?_ aq.out _; (with_reducible repeat (first | refine Ay ?_ _ | refine Bc ?_ | refine Az ?_ _)); refine blk_far ?_ aq.out _; exact bU <| ag.out) hb); have n3_ := Aa.mk (B7 (g := ao) (o := .cells #[.int .i64 ((rd_T93 ((rd_T91 l0 ab).f2) af).f0), .int .i64 ((rd_T93 ((rd_T91 l0 ab).f2) af).f1)] 93 (0, 0)) (by (with_reducible repeat (first | refine Ay ?_ _ | refine Bc ?_ | refine Az ?_ _)); refine Bk (cs := #[.int .i64 ((rd_T93 ((rd_T91 l0 ab).f2) af).f0), .int .i64 0]) ?_ 1 _ rfl; (with_reducible repeat (first | refine Ay ?_ _ | refine Bc ?_ | refine Az ?_ _)); refine Bk (cs := #[.int .i64 0, .int .i64 0]) ?_ 0 _ rfl; exact bU <| al.out) hb); have n4_ := Aa.mk (Ai (by repeat (first | (with_reducible first | exact HB.out | apply Ae | apply Ac | apply Ad | refine Ar ?_ au.out | refine Ar ?_ aK.out) | exact HB.out)) hb); clear av; clear ag; clear al; clear HB; have av := n0_; have aI := n1_; have ag := n2_; have al := n3_; have HB := n4_; clear n0_ n1_ n2_ n3_ n4_; clear hb ho18; obtain ⟨eW, eX, eY⟩ := Kd.Bi aI.out; subst eY) | ((with_reducible refine Ap (f := 70) rfl ?_); refine Br (some 32) rfl rfl Try.func70 (by kernel_rfl) rfl #[.slice eW bI.length eX] rfl (by (try simp only [List.map_toArray, List.map_cons, List.map_nil]); first | done | rfl | (simp only [List.length_drop, List.length_take]; rfl)) ?_; (with_reducible refine (Cg.calls _ _ bI true _ ?side1 ?side2 A10.out).mono ?_); (case side1 => repeat (first | exact (Kd.Aq aI.out).2.2 | (with_reducible refine Kd.Bh ?_ _) | (with_reducible refine Kd.Bg ?_ _) | (with_reducible refine Kd.Bp ?_))); (case side2 => exact (Kd.Aq aI.out).2.1); rintro e w' ⟨rfl, ⟨nd, rfl⟩⟩; refine ⟨_, rfl, ?_⟩; obtain ⟨fC, fD, eZ⟩ := Kd.Bi av.out; subst eZ))
             go_roundg k2
             case measure => have := HK1.out; have := HK2.out; omega
             case rel => exact ⟨(a5), (true), (wrap64 (af + 1)), (by first | rfl | (simp; done) | (simp [*]; done)), (by first | rfl | (simp; done) | (simp [*]; done)), H', ⟨by have := HK1.out; have := HK2.out; omega⟩, ⟨by exact rU <| av.out⟩, ⟨by exact bU <| ag.out⟩, ⟨by repeat (first | (with_reducible first | exact HB.out | apply Ae | apply Ac | apply Ad | refine Ar ?_ au.out | refine Ar ?_ aK.out) | exact HB.out)⟩⟩
            ·rw [if_neg c12] at H
             have dk : ((a5.length : Int) == 4096) = false := beq_eq_false_iff_ne.mpr c12
             have dl : ((a5.length : Int) != 4096) = true := bne_iff_ne.mpr c12
             by_cases c21 : a5.length < 4398046511104
             ·rw [if_pos c21] at H
              have LMc21 := Aa.mk c21
              clear c21
              obtain ⟨e4, bX⟩ : ∃ y_ : List (S58), y_ = (a5 ++ [(⟨(rd_T93 ((rd_T91 l0 ab).f2) af).f0, ((rd_T91 l0 ab).f0), (rd_T93 ((rd_T91 l0 ab).f2) af).f1, ((rd_T91 l0 ab).f1)⟩ : S58)]) := ⟨_, rfl⟩
              (try rw [Option.bind_some] at H); try rw [← bX] at H
              have dm := Aa.mk bX
              clear bX
              have H' := Aa.mk H
              clear H
              have bj : 0 ≤ (af : Int) := of_decide_eq_true (by with_reducible assumption)
              have bk : af < (((rd_T91 l0 ab).f2).length : Int) := of_decide_eq_true (by with_reducible assumption)
              obtain ⟨aA, e111, aC, aD⟩ := at_T93 bs.out af bj bk
              cases e111
              replace aC := (HB.out.cell (World.block_lt_of_cell? w _ aC)).trans aC
              replace aD := (HB.out.cell (World.block_lt_of_cell? w _ aD)).trans aD
              replace bj := eq_true bj
              replace bk := eq_true bk
              go_wp2_with (first | ((with_reducible refine Bo (N := 9) rfl ?_); refine B2 ?hg (N := 9) ?hd (cs := #[.int .i64 0, .int .i64 0]) (t := 93) ?hr ?_; (case hd => rfl); (case hg => rfl); (case hr => first | (go_simp; done) | (go_simp; rfl)); intro ao hg w22 hbox hb; have n0_ := Aa.mk (Kd.At (by exact rU <| av.out) hb); have n1_ := Aa.mk (B7 (g := ai) (o := .cells #[.int .i64 ((rd_T91 l0 ab).f0), .int .i64 ((rd_T91 l0 ab).f1), .slice (some aA) ((rd_T91 l0 ab).f2).length ar] 91 (0, 0)) (by exact bU <| ag.out) hb); have n2_ := Aa.mk (Ai (by repeat (first | (with_reducible first | exact HB.out | apply Ae | apply Ac | apply Ad | refine Ar ?_ au.out) | exact HB.out)) hb); have n3_ := Aa.mk (hbox); have n4_ := Aa.mk ((by rw [hg]; exact (Af (by repeat (first | (with_reducible first | exact HB.out | apply Ae | apply Ac | apply Ad | refine Ar ?_ au.out) | exact HB.out))) : w.heap.size ≤ ao)); have n5_ := Aa.mk ((by rw [hg]; exact (Af (by repeat (first | (with_reducible first | exact HB.out | apply Ae | apply Ac | apply Ad | refine Ar ?_ au.out) | exact HB.out))) : w.heap.size ≤ ao)); have n6_ := Aa.mk ((by rw [hg]; exact Nat.ne_of_lt (C1 (g := ai) (o := .cells #[.int .i64 ((rd_T91 l0 ab).f0), .int .i64 ((rd_T91 l0 ab).f1), .slice (some aA) ((rd_T91 l0 ab).f2).length ar] 91 (0, 0)) (by exact bU <| ag.out)) : ai ≠ ao)); have n7_ := Aa.mk ((by rw [hg]; exact Nat.ne_of_gt (C1 (g := ai) (o := .cells #[.int .i64 ((rd_T91 l0 ab).f0), .int .i64 ((rd_T91 l0 ab).f1), .slice (some aA) ((rd_T91 l0 ab).f2).length ar] 91 (0, 0)) (by exact bU <| ag.out)) : ao ≠ ai)); clear av; clear ag; clear HB; have av := n0_; have ag := n1_; have HB := n2_; have al := n3_; have cV := n4_; have aK := n5_; have aq := n6_; have aM := n7_; clear n0_ n1_ n2_ n3_ n4_ n5_ n6_ n7_; clear hb hbox hg; have ft := aM.out; have fu := aq.out; have dT : w22.cell? ⟨ao, 0, none⟩ = some (.int .i64 0) := (Ak al.out 0).trans rfl; have dU : w22.cell? ⟨ao, 1, none⟩ = some (.int .i64 0) := (Ak al.out 1).trans rfl; have dV := Ag al.out 0; have dW := Ag al.out 1; have cE : w22.cell? ⟨ai, 0, none⟩ = some (.int .i64 ((rd_T91 l0 ab).f0)) := (Ak ag.out 0).trans rfl; have cF : w22.cell? ⟨ai, 1, none⟩ = some (.int .i64 ((rd_T91 l0 ab).f1)) := (Ak ag.out 1).trans rfl; have cG : w22.cell? ⟨ai, 2, none⟩ = some (.slice (some aA) ((rd_T91 l0 ab).f2).length ar) := (Ak ag.out 2).trans rfl; have cH := Ag ag.out 0; have cI := Ag ag.out 1; have cJ := Ag ag.out 2) | ((with_reducible refine Bo (N := 31) rfl ?_); refine Kd.C3 (Kd.int .i64) _ 3 ?hg (N := 31) ?hd (xs := ([(rd_T93 ((rd_T91 l0 ab).f2) af).f0, (rd_T93 ((rd_T91 l0 ab).f2) af).f1, ((rd_T91 l0 ab).f0), ((rd_T91 l0 ab).f1)] : List Int)) (inner := [.int .i64 ((rd_T93 ((rd_T91 l0 ab).f2) af).f0), .int .i64 ((rd_T93 ((rd_T91 l0 ab).f2) af).f1), .int .i64 ((rd_T91 l0 ab).f0), .int .i64 ((rd_T91 l0 ab).f1)]) (ok := fun _ => True) (okp := fun _ => True) ?hr ?hp (fun _ hk => hk) trivial (Below.refl _ _) (Nat.le_refl _) (by simp) ?_; (case hd => rfl); (case hg => rfl); (case hr => first | (go_simp; done) | (go_simp; rfl)); (case hp => exact (Reps.one (show Kd.M (Kd.int .i64) _ _ _ ((rd_T93 ((rd_T91 l0 ab).f2) af).f0) [.int .i64 ((rd_T93 ((rd_T91 l0 ab).f2) af).f0)] from rfl) (Reps.one (show Kd.M (Kd.int .i64) _ _ _ ((rd_T93 ((rd_T91 l0 ab).f2) af).f1) [.int .i64 ((rd_T93 ((rd_T91 l0 ab).f2) af).f1)] from rfl) (Reps.one (show Kd.M (Kd.int .i64) _ _ _ ((rd_T91 l0 ab).f0) [.int .i64 ((rd_T91 l0 ab).f0)] from rfl) (Reps.one (show Kd.M (Kd.int .i64) _ _ _ ((rd_T91 l0 ab).f1) [.int .i64 ((rd_T91 l0 ab).f1)] from rfl) (Reps.none _ _)))))); intro v114 w26 ho27 hb hg_ hnew_; clear hg_ hnew_; (first | rw [← bo.out] at ho27 | (simp only [Int.reduceToNat] at ho27; rw [← bo.out] at ho27)); have n0_ := Aa.mk (Kd.At (by exact rU <| (Kd.Bj (Kd.Cc (p := ⟨ao, 1, none⟩) (Kd.Cc (p := ⟨ao, 0, none⟩) (Kd.C2 av.out al.out (by decide)) (fun _ hk => hk.2) (.int .i64 ((rd_T93 ((rd_T91 l0 ab).f2) af).f0))) (fun _ hk => hk.2) (.int .i64 ((rd_T93 ((rd_T91 l0 ab).f2) af).f1))) (fun _ h_ => h_.1))) hb); have n1_ := Aa.mk (Kd.Bv ho27 (Af (by repeat (first | (with_reducible first | exact HB.out | apply Ae | apply Ac | apply Ad | refine Ar ?_ au.out | refine Ar ?_ aK.out) | exact HB.out)))); have n2_ := Aa.mk (B7 (g := ai) (o := .cells #[.int .i64 ((rd_T91 l0 ab).f0), .int .i64 ((rd_T91 l0 ab).f1), .slice (some aA) ((rd_T91 l0 ab).f2).length ar] 91 (0, 0)) (by (with_reducible repeat (first | refine Ay ?_ _ | refine Bc ?_ | refine Az ?_ _)); refine blk_far ?_ aq.out _; (with_reducible repeat (first | refine Ay ?_ _ | refine Bc ?_ | refine Az ?_ _)); refine blk_far ?_ aq.out _; exact bU <| ag.out) hb); have n3_ := Aa.mk (B7 (g := ao) (o := .cells #[.int .i64 ((rd_T93 ((rd_T91 l0 ab).f2) af).f0), .int .i64 ((rd_T93 ((rd_T91 l0 ab).f2) af).f1)] 93 (0, 0)) (by (with_reducible repeat (first | refine Ay ?_ _ | refine Bc ?_ | refine Az ?_ _)); refine Bk (cs := #[.int .i64 ((rd_T93 ((rd_T91 l0 ab).f2) af).f0), .int .i64 0]) ?_ 1 _ rfl; (with_reducible repeat (first | refine Ay ?_ _ | refine Bc ?_ | refine Az ?_ _)); refine Bk (cs := #[.int .i64 0, .int .i64 0]) ?_ 0 _ rfl; exact bU <| al.out) hb); have n4_ := Aa.mk (Ai (by repeat (first | (with_reducible first | exact HB.out | apply Ae | apply Ac | apply Ad | refine Ar ?_ au.out | refine Ar ?_ aK.out) | exact HB.out)) hb); clear av; clear ag; clear al; clear HB; have av := n0_; have aI := n1_; have ag := n2_; have al := n3_; have HB := n4_; clear n0_ n1_ n2_ n3_ n4_; clear hb ho27; obtain ⟨e5, e6, e7⟩ := Kd.Bi aI.out; subst e7) | ((with_reducible refine Ap (f := 70) rfl ?_); refine Br (some 32) rfl rfl Try.func70 (by kernel_rfl) rfl #[.slice e5 bI.length e6] rfl (by (try simp only [List.map_toArray, List.map_cons, List.map_nil]); first | done | rfl | (simp only [List.length_drop, List.length_take]; rfl)) ?_; (with_reducible refine (Cg.calls _ _ bI true _ ?side1 ?side2 A10.out).mono ?_); (case side1 => repeat (first | exact (Kd.Aq aI.out).2.2 | (with_reducible refine Kd.Bh ?_ _) | (with_reducible refine Kd.Bg ?_ _) | (with_reducible refine Kd.Bp ?_))); (case side2 => exact (Kd.Aq aI.out).2.1); rintro e w' ⟨rfl, ⟨nd, rfl⟩⟩; refine ⟨_, rfl, ?_⟩; obtain ⟨e8, e9, fa⟩ := Kd.Bi av.out; subst fa; have dX : w26.cell? ⟨ao, 0, none⟩ = some (.int .i64 ((rd_T93 ((rd_T91 l0 ab).f2) af).f0)) := (Ak al.out 0).trans rfl; have dY : w26.cell? ⟨ao, 1, none⟩ = some (.int .i64 ((rd_T93 ((rd_T91 l0 ab).f2) af).f1)) := (Ak al.out 1).trans rfl; have dZ := Ag al.out 0; have d5 := Ag al.out 1; have d6 : w26.cell? ⟨ai, 0, none⟩ = some (.int .i64 ((rd_T91 l0 ab).f0)) := (Ak ag.out 0).trans rfl; have d7 : w26.cell? ⟨ai, 1, none⟩ = some (.int .i64 ((rd_T91 l0 ab).f1)) := (Ak ag.out 1).trans rfl; have d8 : w26.cell? ⟨ai, 2, none⟩ = some (.slice (some aA) ((rd_T91 l0 ab).f2).length ar) := (Ak ag.out 2).trans rfl; have d9 := Ag ag.out 0; have ea := Ag ag.out 1; have eb := Ag ag.out 2) | ((with_reducible refine Cs (b := .append) (xs := #[.tmp 37, .tmp 47]) rfl ?_); at_builtin; refine Kd.R_append k58 (w0 := w) w.heap.size rfl (.tmp 37) (.tmp 47) 22 58 (.agg #[(.int .i64 0), (.int .i64 0), (.int .i64 0), (.int .i64 0)]) 32 rfl Try.underlying22 info58 rfl (by decide) (by omega) (.slice e8 a5.length e9) a5 (⟨(rd_T93 ((rd_T91 l0 ab).f2) af).f0, ((rd_T91 l0 ab).f0), (rd_T93 ((rd_T91 l0 ab).f2) af).f1, ((rd_T91 l0 ab).f1)⟩ : S58) [.int .i64 ((rd_T93 ((rd_T91 l0 ab).f2) af).f0), .int .i64 ((rd_T91 l0 ab).f0), .int .i64 ((rd_T93 ((rd_T91 l0 ab).f2) af).f1), .int .i64 ((rd_T91 l0 ab).f1)] (fun _ => True) (fun _ => False) rfl rfl ?aP (fun _ hk => hk.elim) ?aF ?aO ?aB ?aS ?aL ?_; (case aP => exact k58_mkM _ _ _ (⟨(rd_T93 ((rd_T91 l0 ab).f2) af).f0, ((rd_T91 l0 ab).f0), (rd_T93 ((rd_T91 l0 ab).f2) af).f1, ((rd_T91 l0 ab).f1)⟩ : S58)); (case aB => exact (by repeat (first | (with_reducible first | exact HB.out | apply Ae | apply Ac | apply Ad | refine Ar ?_ au.out | refine Ar ?_ aK.out) | exact HB.out))); (case aF => exact (fun _ _ => trivial)); (case aO => exact (by exact rU <| av.out)); (case aS => exact (Af (by repeat (first | (with_reducible first | exact HB.out | apply Ae | apply Ac | apply Ad | refine Ar ?_ au.out | refine Ar ?_ aK.out) | exact HB.out)))); (case aL => have := LMc21.out; omega); intro v118 w32 ho hb hg hat; rw [← dm.out] at ho; have n0_ := Aa.mk (C4 (g := ai) (o := .cells #[.int .i64 ((rd_T91 l0 ab).f0), .int .i64 ((rd_T91 l0 ab).f1), .slice (some aA) ((rd_T91 l0 ab).f2).length ar] 91 (0, 0)) (by exact bU <| ag.out) hg (Kd.R_ne av.out ag.out (by decide))); have n1_ := Aa.mk (C4 (g := ao) (o := .cells #[.int .i64 ((rd_T93 ((rd_T91 l0 ab).f2) af).f0), .int .i64 ((rd_T93 ((rd_T91 l0 ab).f2) af).f1)] 93 (0, 0)) (by exact bU <| al.out) hg (Kd.R_ne av.out al.out (by decide))); have n2_ := Aa.mk (Kd.Cw (by exact rU <| aI.out) (Kd.Ck (by exact rU <| av.out)) (by decide) hg); have n3_ := Aa.mk (hb); have n4_ := Aa.mk (ho); clear ag; clear al; clear aI; clear HB; clear av; have ag := n0_; have al := n1_; have aI := n2_; have HB := n3_; have dn := n4_; clear n0_ n1_ n2_ n3_ n4_; clear ho hb hg hat))
              go_roundg k2
              case measure => have := HK1.out; have := HK2.out; omega
              case rel => exact ⟨(e4), (bV), (wrap64 (af + 1)), (by first | rfl | (simp; done) | (simp [*]; done)), (by first | rfl | (simp; done) | (simp [*]; done)), H', ⟨by have := HK1.out; have := HK2.out; omega⟩, ⟨by exact rU <| dn.out⟩, ⟨by exact bU <| ag.out⟩, ⟨by repeat (first | (with_reducible first | exact HB.out | apply Ae | apply Ac | apply Ad | refine Ar ?_ au.out | refine Ar ?_ aK.out) | exact HB.out)⟩⟩
             ·rw [if_neg c21] at H
              exact absurd H (by simp)
           ·replace c11 := Bool.eq_false_iff.mpr c11
            subst c11
            have H1 := H
            rw [if_neg (show ¬ (false = true) by decide)] at H1
            clear H
            have H := H1
            clear H1
            simp only [Option.some.injEq, Prod.mk.injEq] at H
            obtain ⟨rfl, rfl⟩ := H
            have bj : 0 ≤ (af : Int) := of_decide_eq_true (by with_reducible assumption)
            have bk : af < (((rd_T91 l0 ab).f2).length : Int) := of_decide_eq_true (by with_reducible assumption)
            obtain ⟨aA, e111, aC, aD⟩ := at_T93 bs.out af bj bk
            cases e111
            replace aC := (HB.out.cell (World.block_lt_of_cell? w _ aC)).trans aC
            replace aD := (HB.out.cell (World.block_lt_of_cell? w _ aD)).trans aD
            replace bj := eq_true bj
            replace bk := eq_true bk
            go_wp2_with (first | ((with_reducible refine Bo (N := 9) rfl ?_); refine B2 ?hg (N := 9) ?hd (cs := #[.int .i64 0, .int .i64 0]) (t := 93) ?hr ?_; (case hd => rfl); (case hg => rfl); (case hr => first | (go_simp; done) | (go_simp; rfl)); intro ao hg w33 hbox hb; have n0_ := Aa.mk (Kd.At (by exact rU <| av.out) hb); have n1_ := Aa.mk (B7 (g := ai) (o := .cells #[.int .i64 ((rd_T91 l0 ab).f0), .int .i64 ((rd_T91 l0 ab).f1), .slice (some aA) ((rd_T91 l0 ab).f2).length ar] 91 (0, 0)) (by exact bU <| ag.out) hb); have n2_ := Aa.mk (Ai (by repeat (first | (with_reducible first | exact HB.out | apply Ae | apply Ac | apply Ad | refine Ar ?_ au.out) | exact HB.out)) hb); have n3_ := Aa.mk (hbox); have n4_ := Aa.mk ((by rw [hg]; exact (Af (by repeat (first | (with_reducible first | exact HB.out | apply Ae | apply Ac | apply Ad | refine Ar ?_ au.out) | exact HB.out))) : w.heap.size ≤ ao)); have n5_ := Aa.mk ((by rw [hg]; exact (Af (by repeat (first | (with_reducible first | exact HB.out | apply Ae | apply Ac | apply Ad | refine Ar ?_ au.out) | exact HB.out))) : w.heap.size ≤ ao)); have n6_ := Aa.mk ((by rw [hg]; exact Nat.ne_of_lt (C1 (g := ai) (o := .cells #[.int .i64 ((rd_T91 l0 ab).f0), .int .i64 ((rd_T91 l0 ab).f1), .slice (some aA) ((rd_T91 l0 ab).f2).length ar] 91 (0, 0)) (by exact bU <| ag.out)) : ai ≠ ao)); have n7_ := Aa.mk ((by rw [hg]; exact Nat.ne_of_gt (C1 (g := ai) (o := .cells #[.int .i64 ((rd_T91 l0 ab).f0), .int .i64 ((rd_T91 l0 ab).f1), .slice (some aA) ((rd_T91 l0 ab).f2).length ar] 91 (0, 0)) (by exact bU <| ag.out)) : ao ≠ ai)); clear av; clear ag; clear HB; have av := n0_; have ag := n1_; have HB := n2_; have al := n3_; have cV := n4_; have aK := n5_; have aq := n6_; have aM := n7_; clear n0_ n1_ n2_ n3_ n4_ n5_ n6_ n7_; clear hb hbox hg; have fw := aM.out; have fx := aq.out; have ec : w33.cell? ⟨ao, 0, none⟩ = some (.int .i64 0) := (Ak al.out 0).trans rfl; have ed : w33.cell? ⟨ao, 1, none⟩ = some (.int .i64 0) := (Ak al.out 1).trans rfl; have ef := Ag al.out 0; have eh := Ag al.out 1; have ei : w33.cell? ⟨ai, 0, none⟩ = some (.int .i64 ((rd_T91 l0 ab).f0)) := (Ak ag.out 0).trans rfl; have ej : w33.cell? ⟨ai, 1, none⟩ = some (.int .i64 ((rd_T91 l0 ab).f1)) := (Ak ag.out 1).trans rfl; have ek : w33.cell? ⟨ai, 2, none⟩ = some (.slice (some aA) ((rd_T91 l0 ab).f2).length ar) := (Ak ag.out 2).trans rfl; have el := Ag ag.out 0; have em := Ag ag.out 1; have en := Ag ag.out 2) | ((with_reducible refine Bo (N := 31) rfl ?_); refine Kd.C3 (Kd.int .i64) _ 3 ?hg (N := 31) ?hd (xs := ([(rd_T93 ((rd_T91 l0 ab).f2) af).f0, (rd_T93 ((rd_T91 l0 ab).f2) af).f1, ((rd_T91 l0 ab).f0), ((rd_T91 l0 ab).f1)] : List Int)) (inner := [.int .i64 ((rd_T93 ((rd_T91 l0 ab).f2) af).f0), .int .i64 ((rd_T93 ((rd_T91 l0 ab).f2) af).f1), .int .i64 ((rd_T91 l0 ab).f0), .int .i64 ((rd_T91 l0 ab).f1)]) (ok := fun _ => True) (okp := fun _ => True) ?hr ?hp (fun _ hk => hk) trivial (Below.refl _ _) (Nat.le_refl _) (by simp) ?_; (case hd => rfl); (case hg => rfl); (case hr => first | (go_simp; done) | (go_simp; rfl)); (case hp => exact (Reps.one (show Kd.M (Kd.int .i64) _ _ _ ((rd_T93 ((rd_T91 l0 ab).f2) af).f0) [.int .i64 ((rd_T93 ((rd_T91 l0 ab).f2) af).f0)] from rfl) (Reps.one (show Kd.M (Kd.int .i64) _ _ _ ((rd_T93 ((rd_T91 l0 ab).f2) af).f1) [.int .i64 ((rd_T93 ((rd_T91 l0 ab).f2) af).f1)] from rfl) (Reps.one (show Kd.M (Kd.int .i64) _ _ _ ((rd_T91 l0 ab).f0) [.int .i64 ((rd_T91 l0 ab).f0)] from rfl) (Reps.one (show Kd.M (Kd.int .i64) _ _ _ ((rd_T91 l0 ab).f1) [.int .i64 ((rd_T91 l0 ab).f1)] from rfl) (Reps.none _ _)))))); intro v114 w37 ho38 hb hg_ hnew_; clear hg_ hnew_; (first | rw [← bo.out] at ho38 | (simp only [Int.reduceToNat] at ho38; rw [← bo.out] at ho38)); have n0_ := Aa.mk (Kd.At (by exact rU <| (Kd.Bj (Kd.Cc (p := ⟨ao, 1, none⟩) (Kd.Cc (p := ⟨ao, 0, none⟩) (Kd.C2 av.out al.out (by decide)) (fun _ hk => hk.2) (.int .i64 ((rd_T93 ((rd_T91 l0 ab).f2) af).f0))) (fun _ hk => hk.2) (.int .i64 ((rd_T93 ((rd_T91 l0 ab).f2) af).f1))) (fun _ h_ => h_.1))) hb); have n1_ := Aa.mk (Kd.Bv ho38 (Af (by repeat (first | (with_reducible first | exact HB.out | apply Ae | apply Ac | apply Ad | refine Ar ?_ au.out | refine Ar ?_ aK.out) | exact HB.out)))); have n2_ := Aa.mk (B7 (g := ai) (o := .cells #[.int .i64 ((rd_T91 l0 ab).f0), .int .i64 ((rd_T91 l0 ab).f1), .slice (some aA) ((rd_T91 l0 ab).f2).length ar] 91 (0, 0)) (by (with_reducible repeat (first | refine Ay ?_ _ | refine Bc ?_ | refine Az ?_ _)); refine blk_far ?_ aq.out _; (with_reducible repeat (first | refine Ay ?_ _ | refine Bc ?_ | refine Az ?_ _)); refine blk_far ?_ aq.out _; exact bU <| ag.out) hb); have n3_ := Aa.mk (B7 (g := ao) (o := .cells #[.int .i64 ((rd_T93 ((rd_T91 l0 ab).f2) af).f0), .int .i64 ((rd_T93 ((rd_T91 l0 ab).f2) af).f1)] 93 (0, 0)) (by (with_reducible repeat (first | refine Ay ?_ _ | refine Bc ?_ | refine Az ?_ _)); refine Bk (cs := #[.int .i64 ((rd_T93 ((rd_T91 l0 ab).f2) af).f0), .int .i64 0]) ?_ 1 _ rfl; (with_reducible repeat (first | refine Ay ?_ _ | refine Bc ?_ | refine Az ?_ _)); refine Bk (cs := #[.int .i64 0, .int .i64 0]) ?_ 0 _ rfl; exact bU <| al.out) hb); have n4_ := Aa.mk (Ai (by repeat (first | (with_reducible first | exact HB.out | apply Ae | apply Ac | apply Ad | refine Ar ?_ au.out | refine Ar ?_ aK.out) | exact HB.out)) hb); clear av; clear ag; clear al; clear HB; have av := n0_; have aI := n1_; have ag := n2_; have al := n3_; have HB := n4_; clear n0_ n1_ n2_ n3_ n4_; clear hb ho38; obtain ⟨fb, fc, fd⟩ := Kd.Bi aI.out; subst fd) | ((with_reducible refine Ap (f := 70) rfl ?_); refine Br (some 32) rfl rfl Try.func70 (by kernel_rfl) rfl #[.slice fb bI.length fc] rfl (by (try simp only [List.map_toArray, List.map_cons, List.map_nil]); first | done | rfl | (simp only [List.length_drop, List.length_take]; rfl)) ?_; (with_reducible refine (Cg.calls _ _ bI false _ ?side1 ?side2 A10.out).mono ?_); (case side1 => repeat (first | exact (Kd.Aq aI.out).2.2 | (with_reducible refine Kd.Bh ?_ _) | (with_reducible refine Kd.Bg ?_ _) | (with_reducible refine Kd.Bp ?_))); (case side2 => exact (Kd.Aq aI.out).2.1); rintro e w' ⟨rfl, ⟨nd, rfl⟩⟩; refine ⟨_, rfl, ?_⟩))
            go_ret2
            exact ⟨_, by first | rfl | (simp [Av, Au] <;> rfl) | (simp [*, Av, Au] <;> rfl), by first | exact Kd.C0 _ _ _ _ _ | exact Kd.N_nil _ _ _ _ _ | exact Kd.V_nil _ _ _ _ _ | exact Kd.Q_nil _ _ _ _ _ | exact Kd.S_nil _ _ _ _ _, by repeat (first | (with_reducible first | exact HB.out | apply Ae | apply Ac | apply Ad | refine Ar ?_ au.out | refine Ar ?_ aK.out) | exact HB.out)⟩
          ·rw [if_neg c9] at H
           exact absurd H (by simp)
         ·rw [if_neg c8] at H
          exact absurd H (by simp)
        ·rw [if_neg c7] at H
         have dc : decide (af < (((rd_T91 l0 ab).f2).length : Int)) = false := decide_eq_false c7
         clear c7
         have H' := Aa.mk H
         clear H
         go_wp2
         go_roundg k2
         case measure => have := HK1.out; have := HK2.out; omega
         case rel => exact ⟨(a5), (bV), (wrap64 (ab + 1)), (by first | rfl | (simp; done) | (simp [*]; done)), (by first | rfl | (simp; done) | (simp [*]; done)), H', ⟨by have := HK1.out; have := HK2.out; omega⟩, ⟨by exact rU <| av.out⟩, ⟨by repeat (first | (with_reducible first | exact HB.out | apply Ae | apply Ac | apply Ad | refine Ar ?_ au.out) | exact HB.out)⟩⟩
     ·rw [if_neg c4] at H
      exact absurd H (by simp)
    ·rw [if_neg c3] at H
     exact absurd H (by simp)
   ·rw [if_neg c2] at H
    have bn : decide (ab < (l0.length : Int)) = false := decide_eq_false c2
    clear c2
    by_cases c40 : bS = true
    ·subst c40
     have H1 := H
     rw [if_pos rfl] at H1
     clear H
     have H := H1
     clear H1
     simp only [Option.some.injEq, Prod.mk.injEq] at H
     obtain ⟨rfl, rfl⟩ := H
     go_wp2
     go_ret2
     exact ⟨_, by first | rfl | (simp [Av, Au] <;> rfl) | (simp [*, Av, Au] <;> rfl), by first | exact Kd.C0 _ _ _ _ _ | exact Kd.N_nil _ _ _ _ _ | exact Kd.V_nil _ _ _ _ _ | exact Kd.Q_nil _ _ _ _ _ | exact Kd.S_nil _ _ _ _ _, by repeat (first | (with_reducible first | exact HB.out | apply Ae | apply Ac | apply Ad) | exact HB.out)⟩
    ·replace c40 := Bool.eq_false_iff.mpr c40
     subst c40
     have H1 := H
     rw [if_neg (show ¬ (false = true) by decide)] at H1
     clear H
     have H := H1
     clear H1
     simp only [Option.some.injEq, Prod.mk.injEq] at H
     obtain ⟨rfl, rfl⟩ := H
     go_wp2
     go_ret2
     exact ⟨_, by first | rfl | (simp [Av, Au] <;> rfl) | (simp [*, Av, Au] <;> rfl), by exact rU <| av.out, by repeat (first | (with_reducible first | exact HB.out | apply Ae | apply Ac | apply Ad) | exact HB.out)⟩

def B4.l0 : Nat → Int → Int → Int → Int → List (S58) → List (S58) → Int → Int → Option ((List (S58)))
 | 0, _, _, _, _, _, _, _, _ => none
 | k + 1, x1, x2, x3, x4, x11, x14, x15, x16 => if x16 < x15 then (if 0 ≤ x16 then (if x16 < (x14.length : Int) then ((Cd.f ((rd_T58 x14 x16).f0) ((rd_T58 x14 x16).f1) ((rd_T58 x14 x16).f2) ((rd_T58 x14 x16).f3)).bind fun dd => (if dd = true then (if x11.length < 4398046511104 then (B4.l0 k x1 x2 x3 x4 (x11 ++ [(⟨wrap64 (((rd_T58 x14 x16).f0) - x1), wrap64 (((rd_T58 x14 x16).f1) - x2), wrap64 (((rd_T58 x14 x16).f2) + x3), wrap64 (((rd_T58 x14 x16).f3) + x4)⟩ : S58)]) x14 x15 (wrap64 (x16 + 1))) else (none)) else (B4.l0 k x1 x2 x3 x4 x11 x14 x15 (wrap64 (x16 + 1))))) else (none)) else (none)) else (some x11)
def B4.f (k : Nat) (l0 : List (S58)) (a1 : Int) (a2 : Int) (a3 : Int) (a4 : Int) : Option ((List (S58))) := B4.l0 k a1 a2 a3 a4 ([] : List (S58)) l0 (l0.length : Int) 0
set_option maxHeartbeats 8000000 in
set_option maxRecDepth 100000 in
theorem B4.calls (k : Nat) (A0 : Option Addr) (c0 : Nat) (l0 : List (S58)) (a1 : Int) (a2 : Int) (a3 : Int) (a4 : Int) (r : List (S58)) (w : World) (hr0 : Kd.C k58 w A0 l0.length l0) (hc0 : l0.length ≤ c0) (h : B4.f k l0 a1 a2 a3 a4 = some r) :
  Calls Try.prog 48 #[.slice A0 l0.length c0, .int .i64 a1, .int .i64 a2, .int .i64 a3, .int .i64 a4] w fun e w' => ∃ v0_ : Value, e = .returned (v0_) ∧ Kd.R k58 58 w' w.heap.size (fun _ => True) v0_ r ∧ Below w.heap.size w w' := by
 have hu58 := Try.underlying58
 have HR0 := Aa.mk hr0
 have HC0 := Aa.mk hc0
 clear hr0 hc0
 have HB := Aa.mk (Below.refl w.heap.size w)
 have H : (B4.l0 k a1 a2 a3 a4 ([] : List (S58)) l0 (l0.length : Int) 0) = some r := h
 clear h
 have H' := Aa.mk H
 clear H
 go_enter Try.func48, Try.ntmps48
 go_wp2
 go_loopg [11, 16] k (fun kq v11 v16 w' => ∃ (bl : List (S58)) (ac : Int), v16 = .int .i64 ac ∧ Aa (B4.l0 kq a1 a2 a3 a4 bl l0 (l0.length : Int) ac = some r) ∧ Aa (kq ≤ k) ∧ Aa (Kd.R k58 58 w' w.heap.size (fun _ => True) v11 bl) ∧ Aa (Below w.heap.size w w'))
 case atStart => exact ⟨(([] : List (S58))), (0), (by first | rfl | (simp; done) | (simp [*]; done)), H', ⟨Nat.le_refl _⟩, ⟨by first | exact Kd.C0 _ _ _ _ _ | exact Kd.N_nil _ _ _ _ _ | exact Kd.V_nil _ _ _ _ _ | exact Kd.Q_nil _ _ _ _ _ | exact Kd.S_nil _ _ _ _ _⟩, ⟨by repeat (first | (with_reducible first | exact HB.out | apply Ae | apply Ac | apply Ad) | exact HB.out)⟩⟩
 case round =>
  clear H'
  try clear p2
  try clear c4
  obtain ⟨bl, ac, rfl, HA, HK1, aG, HB⟩ := hrel
  cases gk with
  | zero => exact absurd HA.out (by simp [B4.l0])
  | succ k1 =>
   have H := HA.out
   clear HA
   simp only [B4.l0] at H
   by_cases c6 : ac < (l0.length : Int)
   ·rw [if_pos c6] at H
    have dp : decide (ac < (l0.length : Int)) = true := decide_eq_true c6
    clear c6
    by_cases c7 : 0 ≤ ac
    ·rw [if_pos c7] at H
     have dc : decide (0 ≤ ac) = true := decide_eq_true c7
     clear c7
     by_cases c8 : ac < (l0.length : Int)
     ·rw [if_pos c8] at H
      have eV : decide (ac < (l0.length : Int)) = true := decide_eq_true c8
      clear c8
      replace H := Option.bind_eq_some_iff.mp H
      obtain ⟨dd, A90, H⟩ := H
      try dsimp only at H
      have A9 := Aa.mk A90
      clear A90
      by_cases c10 : dd = true
      ·subst c10
       have H1 := H
       rw [if_pos rfl] at H1
       clear H
       have H := H1
       clear H1
       by_cases c11 : bl.length < 4398046511104
       ·rw [if_pos c11] at H
        have LMc11 := Aa.mk c11
        clear c11
        obtain ⟨fe, bY⟩ : ∃ y_ : List (S58), y_ = (bl ++ [(⟨wrap64 (((rd_T58 l0 ac).f0) - a1), wrap64 (((rd_T58 l0 ac).f1) - a2), wrap64 (((rd_T58 l0 ac).f2) + a3), wrap64 (((rd_T58 l0 ac).f3) + a4)⟩ : S58)]) := ⟨_, rfl⟩
        (try rw [Option.bind_some] at H); try rw [← bY] at H
        have dq := Aa.mk bY
        clear bY
        have H' := Aa.mk H
        clear H
        have bw : 0 ≤ (ac : Int) := of_decide_eq_true (by with_reducible assumption)
        have bx : ac < (l0.length : Int) := of_decide_eq_true (by with_reducible assumption)
        obtain ⟨dr, e120, aN, aQ, aT, aU⟩ := at_T58 HR0.out ac bw bx
        cases e120
        replace aN := (HB.out.cell (World.block_lt_of_cell? w _ aN)).trans aN
        replace aQ := (HB.out.cell (World.block_lt_of_cell? w _ aQ)).trans aQ
        replace aT := (HB.out.cell (World.block_lt_of_cell? w _ aT)).trans aT
        replace aU := (HB.out.cell (World.block_lt_of_cell? w _ aU)).trans aU
        replace bw := eq_true bw
        replace bx := eq_true bx
        go_wp2_with (first | ((with_reducible refine Bo (N := 13) rfl ?_); refine B2 ?hg (N := 13) ?hd (cs := #[.int .i64 0, .int .i64 0, .int .i64 0, .int .i64 0]) (t := 58) ?hr ?_; (case hd => rfl); (case hg => rfl); (case hr => first | (go_simp; done) | (go_simp; rfl)); intro am hg w12 hbox hb; have n0_ := Aa.mk (Kd.At (Kd.C6 (by exact rU <| aG.out) am (Nat.le_of_eq hg.symm)) hb); have n1_ := Aa.mk (Ai (lU HB.out) hb); have n2_ := Aa.mk (hbox); have n3_ := Aa.mk ((by rw [hg]; exact (Af (lU HB.out)) : w.heap.size ≤ am)); have n4_ := Aa.mk ((by rw [hg]; exact (Af (lU HB.out)) : w.heap.size ≤ am)); clear aG; clear HB; have aG := n0_; have HB := n1_; have ak := n2_; have dt := n3_; have bm := n4_; clear n0_ n1_ n2_ n3_ n4_; clear hb hbox hg; have b5 : w12.cell? ⟨am, 0, none⟩ = some (.int .i64 0) := (Ak ak.out 0).trans rfl; have b6 : w12.cell? ⟨am, 1, none⟩ = some (.int .i64 0) := (Ak ak.out 1).trans rfl; have b7 : w12.cell? ⟨am, 2, none⟩ = some (.int .i64 0) := (Ak ak.out 2).trans rfl; have b8 : w12.cell? ⟨am, 3, none⟩ = some (.int .i64 0) := (Ak ak.out 3).trans rfl; have b9 := Ag ak.out 0; have cd := Ag ak.out 1; have cg := Ag ak.out 2; have ch := Ag ak.out 3) | ((with_reducible refine Ap (f := 62) rfl ?_); refine Br (some 21) rfl rfl Try.func62 (by kernel_rfl) rfl #[.agg #[.int .i64 ((rd_T58 l0 ac).f0), .int .i64 ((rd_T58 l0 ac).f1), .int .i64 ((rd_T58 l0 ac).f2), .int .i64 ((rd_T58 l0 ac).f3)]] rfl (by (try simp only [List.map_toArray, List.map_cons, List.map_nil]); first | done | rfl | (simp only [List.length_drop, List.length_take]; rfl)) ?_; (with_reducible refine (Cd.calls ((rd_T58 l0 ac).f0) ((rd_T58 l0 ac).f1) ((rd_T58 l0 ac).f2) ((rd_T58 l0 ac).f3) true _ A9.out).mono ?_); rintro e w14 ⟨rfl, hb⟩; refine ⟨_, rfl, ?_⟩; have n0_ := Aa.mk (Kd.At (by exact rU <| (Kd.Bj (Kd.Cc (p := ⟨am, 3, none⟩) (Kd.Cc (p := ⟨am, 2, none⟩) (Kd.Cc (p := ⟨am, 1, none⟩) (Kd.Cc (p := ⟨am, 0, none⟩) (Kd.Bj aG.out (fun k_ hk => (⟨hk, hk.2⟩ : _ ∧ k_ ≠ am))) (fun _ hk => hk.2) (.int .i64 ((rd_T58 l0 ac).f0))) (fun _ hk => hk.2) (.int .i64 ((rd_T58 l0 ac).f1))) (fun _ hk => hk.2) (.int .i64 ((rd_T58 l0 ac).f2))) (fun _ hk => hk.2) (.int .i64 ((rd_T58 l0 ac).f3))) (fun _ h_ => h_.1))) hb); have n1_ := Aa.mk (B7 (g := am) (o := .cells #[.int .i64 ((rd_T58 l0 ac).f0), .int .i64 ((rd_T58 l0 ac).f1), .int .i64 ((rd_T58 l0 ac).f2), .int .i64 ((rd_T58 l0 ac).f3)] 58 (0, 0)) (by (with_reducible repeat (first | refine Ay ?_ _ | refine Bc ?_ | refine Az ?_ _)); refine Bk (cs := #[.int .i64 ((rd_T58 l0 ac).f0), .int .i64 ((rd_T58 l0 ac).f1), .int .i64 ((rd_T58 l0 ac).f2), .int .i64 0]) ?_ 3 _ rfl; (with_reducible repeat (first | refine Ay ?_ _ | refine Bc ?_ | refine Az ?_ _)); refine Bk (cs := #[.int .i64 ((rd_T58 l0 ac).f0), .int .i64 ((rd_T58 l0 ac).f1), .int .i64 0, .int .i64 0]) ?_ 2 _ rfl; (with_reducible repeat (first | refine Ay ?_ _ | refine Bc ?_ | refine Az ?_ _)); refine Bk (cs := #[.int .i64 ((rd_T58 l0 ac).f0), .int .i64 0, .int .i64 0, .int .i64 0]) ?_ 1 _ rfl; (with_reducible repeat (first | refine Ay ?_ _ | refine Bc ?_ | refine Az ?_ _)); refine Bk (cs := #[.int .i64 0, .int .i64 0, .int .i64 0, .int .i64 0]) ?_ 0 _ rfl; exact bU <| ak.out) hb); have n2_ := Aa.mk (Ai (by repeat (first | (with_reducible first | exact HB.out | apply Ae | apply Ac | apply Ad | refine Ar ?_ bm.out) | exact HB.out)) hb); clear aG; clear ak; clear HB; have aG := n0_; have ak := n1_; have HB := n2_; clear n0_ n1_ n2_; (try clear hb); (try clear hb2); (try clear hk); (try clear hi); have cN : w14.cell? ⟨am, 0, none⟩ = some (.int .i64 ((rd_T58 l0 ac).f0)) := (Ak ak.out 0).trans rfl; have cO : w14.cell? ⟨am, 1, none⟩ = some (.int .i64 ((rd_T58 l0 ac).f1)) := (Ak ak.out 1).trans rfl; have eo : w14.cell? ⟨am, 2, none⟩ = some (.int .i64 ((rd_T58 l0 ac).f2)) := (Ak ak.out 2).trans rfl; have ep : w14.cell? ⟨am, 3, none⟩ = some (.int .i64 ((rd_T58 l0 ac).f3)) := (Ak ak.out 3).trans rfl; have cP := Ag ak.out 0; have cQ := Ag ak.out 1; have eq := Ag ak.out 2; have er := Ag ak.out 3) | ((with_reducible refine Cs (b := .append) (xs := #[.tmp 22, .tmp 40]) rfl ?_); at_builtin; refine Kd.R_append k58 (w0 := w) w.heap.size rfl (.tmp 22) (.tmp 40) 22 58 (.agg #[(.int .i64 0), (.int .i64 0), (.int .i64 0), (.int .i64 0)]) 32 rfl Try.underlying22 info58 rfl (by decide) (by omega) u11 bl (⟨wrap64 (((rd_T58 l0 ac).f0) - a1), wrap64 (((rd_T58 l0 ac).f1) - a2), wrap64 (((rd_T58 l0 ac).f2) + a3), wrap64 (((rd_T58 l0 ac).f3) + a4)⟩ : S58) [.int .i64 (wrap64 (((rd_T58 l0 ac).f0) - a1)), .int .i64 (wrap64 (((rd_T58 l0 ac).f1) - a2)), .int .i64 (wrap64 (((rd_T58 l0 ac).f2) + a3)), .int .i64 (wrap64 (((rd_T58 l0 ac).f3) + a4))] (fun k_ => k_ ≠ am) (fun _ => False) rfl rfl ?aP (fun _ hk => hk.elim) ?aF ?aO ?aB ?aS ?aL ?_; (case aP => exact k58_mkM _ _ _ (⟨wrap64 (((rd_T58 l0 ac).f0) - a1), wrap64 (((rd_T58 l0 ac).f1) - a2), wrap64 (((rd_T58 l0 ac).f2) + a3), wrap64 (((rd_T58 l0 ac).f3) + a4)⟩ : S58)); (case aB => exact (by repeat (first | (with_reducible first | exact HB.out | apply Ae | apply Ac | apply Ad | refine Ar ?_ bm.out) | exact HB.out))); (case aF => exact (fun k_ hk => Kd.freshB (g := am) (o := .cells #[.int .i64 ((rd_T58 l0 ac).f0), .int .i64 ((rd_T58 l0 ac).f1), .int .i64 ((rd_T58 l0 ac).f2), .int .i64 ((rd_T58 l0 ac).f3)] 58 (0, 0)) (by exact bU <| ak.out) k_ hk)); (case aO => exact (by exact rU <| Kd.Bj aG.out (fun _ hk => hk.2))); (case aS => exact (Af (by repeat (first | (with_reducible first | exact HB.out | apply Ae | apply Ac | apply Ad | refine Ar ?_ bm.out) | exact HB.out)))); (case aL => have := LMc11.out; omega); intro v124 w16 ho hb hg hat; rw [← dq.out] at ho; have n0_ := Aa.mk (C4 (g := am) (o := .cells #[.int .i64 ((rd_T58 l0 ac).f0), .int .i64 ((rd_T58 l0 ac).f1), .int .i64 ((rd_T58 l0 ac).f2), .int .i64 ((rd_T58 l0 ac).f3)] 58 (0, 0)) (by exact bU <| ak.out) hg (Kd.R_away aG.out (fun _ hk => hk.2))); have n1_ := Aa.mk (hb); have n2_ := Aa.mk (ho); clear ak; clear HB; clear aG; have ak := n0_; have HB := n1_; have du := n2_; clear n0_ n1_ n2_; clear ho hb hg hat))
        go_roundg k1
        case measure => have := HK1.out; omega
        case rel => exact ⟨(fe), (wrap64 (ac + 1)), (by first | rfl | (simp; done) | (simp [*]; done)), H', ⟨by have := HK1.out; omega⟩, ⟨by exact rU <| Kd.Bj du.out (fun _ hk => trivial)⟩, ⟨by repeat (first | (with_reducible first | exact HB.out | apply Ae | apply Ac | apply Ad | refine Ar ?_ bm.out) | exact HB.out)⟩⟩
       ·rw [if_neg c11] at H
        exact absurd H (by simp)
      ·replace c10 := Bool.eq_false_iff.mpr c10
       subst c10
       have H1 := H
       rw [if_neg (show ¬ (false = true) by decide)] at H1
       clear H
       have H := H1
       clear H1
       have H' := Aa.mk H
       clear H
       have bw : 0 ≤ (ac : Int) := of_decide_eq_true (by with_reducible assumption)
       have bx : ac < (l0.length : Int) := of_decide_eq_true (by with_reducible assumption)
       obtain ⟨dr, e120, aN, aQ, aT, aU⟩ := at_T58 HR0.out ac bw bx
       cases e120
       replace aN := (HB.out.cell (World.block_lt_of_cell? w _ aN)).trans aN
       replace aQ := (HB.out.cell (World.block_lt_of_cell? w _ aQ)).trans aQ
       replace aT := (HB.out.cell (World.block_lt_of_cell? w _ aT)).trans aT
       replace aU := (HB.out.cell (World.block_lt_of_cell? w _ aU)).trans aU
       replace bw := eq_true bw
       replace bx := eq_true bx
       go_wp2_with (first | ((with_reducible refine Bo (N := 13) rfl ?_); refine B2 ?hg (N := 13) ?hd (cs := #[.int .i64 0, .int .i64 0, .int .i64 0, .int .i64 0]) (t := 58) ?hr ?_; (case hd => rfl); (case hg => rfl); (case hr => first | (go_simp; done) | (go_simp; rfl)); intro am hg w17 hbox hb; have n0_ := Aa.mk (Kd.At (Kd.C6 (by exact rU <| aG.out) am (Nat.le_of_eq hg.symm)) hb); have n1_ := Aa.mk (Ai (lU HB.out) hb); have n2_ := Aa.mk (hbox); have n3_ := Aa.mk ((by rw [hg]; exact (Af (lU HB.out)) : w.heap.size ≤ am)); have n4_ := Aa.mk ((by rw [hg]; exact (Af (lU HB.out)) : w.heap.size ≤ am)); clear aG; clear HB; have aG := n0_; have HB := n1_; have ak := n2_; have dt := n3_; have bm := n4_; clear n0_ n1_ n2_ n3_ n4_; clear hb hbox hg; have ci : w17.cell? ⟨am, 0, none⟩ = some (.int .i64 0) := (Ak ak.out 0).trans rfl; have cj : w17.cell? ⟨am, 1, none⟩ = some (.int .i64 0) := (Ak ak.out 1).trans rfl; have cl : w17.cell? ⟨am, 2, none⟩ = some (.int .i64 0) := (Ak ak.out 2).trans rfl; have cn : w17.cell? ⟨am, 3, none⟩ = some (.int .i64 0) := (Ak ak.out 3).trans rfl; have co := Ag ak.out 0; have cp := Ag ak.out 1; have cq := Ag ak.out 2; have ct := Ag ak.out 3) | ((with_reducible refine Ap (f := 62) rfl ?_); refine Br (some 21) rfl rfl Try.func62 (by kernel_rfl) rfl #[.agg #[.int .i64 ((rd_T58 l0 ac).f0), .int .i64 ((rd_T58 l0 ac).f1), .int .i64 ((rd_T58 l0 ac).f2), .int .i64 ((rd_T58 l0 ac).f3)]] rfl (by (try simp only [List.map_toArray, List.map_cons, List.map_nil]); first | done | rfl | (simp only [List.length_drop, List.length_take]; rfl)) ?_; (with_reducible refine (Cd.calls ((rd_T58 l0 ac).f0) ((rd_T58 l0 ac).f1) ((rd_T58 l0 ac).f2) ((rd_T58 l0 ac).f3) false _ A9.out).mono ?_); rintro e w19 ⟨rfl, hb⟩; refine ⟨_, rfl, ?_⟩; have n0_ := Aa.mk (Kd.At (by exact rU <| (Kd.Bj (Kd.Cc (p := ⟨am, 3, none⟩) (Kd.Cc (p := ⟨am, 2, none⟩) (Kd.Cc (p := ⟨am, 1, none⟩) (Kd.Cc (p := ⟨am, 0, none⟩) (Kd.Bj aG.out (fun k_ hk => (⟨hk, hk.2⟩ : _ ∧ k_ ≠ am))) (fun _ hk => hk.2) (.int .i64 ((rd_T58 l0 ac).f0))) (fun _ hk => hk.2) (.int .i64 ((rd_T58 l0 ac).f1))) (fun _ hk => hk.2) (.int .i64 ((rd_T58 l0 ac).f2))) (fun _ hk => hk.2) (.int .i64 ((rd_T58 l0 ac).f3))) (fun _ h_ => h_.1))) hb); have n1_ := Aa.mk (B7 (g := am) (o := .cells #[.int .i64 ((rd_T58 l0 ac).f0), .int .i64 ((rd_T58 l0 ac).f1), .int .i64 ((rd_T58 l0 ac).f2), .int .i64 ((rd_T58 l0 ac).f3)] 58 (0, 0)) (by (with_reducible repeat (first | refine Ay ?_ _ | refine Bc ?_ | refine Az ?_ _)); refine Bk (cs := #[.int .i64 ((rd_T58 l0 ac).f0), .int .i64 ((rd_T58 l0 ac).f1), .int .i64 ((rd_T58 l0 ac).f2), .int .i64 0]) ?_ 3 _ rfl; (with_reducible repeat (first | refine Ay ?_ _ | refine Bc ?_ | refine Az ?_ _)); refine Bk (cs := #[.int .i64 ((rd_T58 l0 ac).f0), .int .i64 ((rd_T58 l0 ac).f1), .int .i64 0, .int .i64 0]) ?_ 2 _ rfl; (with_reducible repeat (first | refine Ay ?_ _ | refine Bc ?_ | refine Az ?_ _)); refine Bk (cs := #[.int .i64 ((rd_T58 l0 ac).f0), .int .i64 0, .int .i64 0, .int .i64 0]) ?_ 1 _ rfl; (with_reducible repeat (first | refine Ay ?_ _ | refine Bc ?_ | refine Az ?_ _)); refine Bk (cs := #[.int .i64 0, .int .i64 0, .int .i64 0, .int .i64 0]) ?_ 0 _ rfl; exact bU <| ak.out) hb); have n2_ := Aa.mk (Ai (by repeat (first | (with_reducible first | exact HB.out | apply Ae | apply Ac | apply Ad | refine Ar ?_ bm.out) | exact HB.out)) hb); clear aG; clear ak; clear HB; have aG := n0_; have ak := n1_; have HB := n2_; clear n0_ n1_ n2_; (try clear hb); (try clear hb2); (try clear hk); (try clear hi)))
       go_roundg k1
       case measure => have := HK1.out; omega
       case rel => exact ⟨(bl), (wrap64 (ac + 1)), (by first | rfl | (simp; done) | (simp [*]; done)), H', ⟨by have := HK1.out; omega⟩, ⟨by exact rU <| Kd.Bj aG.out (fun _ hk => trivial)⟩, ⟨by repeat (first | (with_reducible first | exact HB.out | apply Ae | apply Ac | apply Ad | refine Ar ?_ bm.out) | exact HB.out)⟩⟩
     ·rw [if_neg c8] at H
      exact absurd H (by simp)
    ·rw [if_neg c7] at H
     exact absurd H (by simp)
   ·rw [if_neg c6] at H
    have dp : decide (ac < (l0.length : Int)) = false := decide_eq_false c6
    clear c6
    obtain rfl := Option.some.inj H
    go_wp2
    go_ret
    exact ⟨_, by first | rfl | (simp [Av, Au] <;> rfl) | (simp [*, Av, Au] <;> rfl), by exact rU <| aG.out, by repeat (first | (with_reducible first | exact HB.out | apply Ae | apply Ac | apply Ad) | exact HB.out)⟩

mutual
def Bn.l0 : Nat → List Int → List (List (S58)) → Int → Int → Option (List Int)
 | 0, _, _, _, _ => none
 | k + 1, x3, x8, x9, x10 => if x10 < x9 then (if 0 ≤ x10 then (if x10 < (x8.length : Int) then (Bn.l1 k x3 x8 x9 x10 (rd_L5 x8 x10) ((rd_L5 x8 x10).length : Int) 0) else (none)) else (none)) else ((Ce.f x3).bind fun de => (some de))
def Bn.l1 : Nat → List Int → List (List (S58)) → Int → Int → List (S58) → Int → Int → Option (List Int)
 | 0, _, _, _, _, _, _, _ => none
 | k + 1, x3, x8, x9, x10, x14, x15, x16 => if x16 < x15 then (if 0 ≤ x16 then (if x16 < (x14.length : Int) then ((Cd.f ((rd_T58 x14 x16).f0) ((rd_T58 x14 x16).f1) ((rd_T58 x14 x16).f2) ((rd_T58 x14 x16).f3)).bind fun df => (if df = true then ((some (([(rd_T58 x14 x16).f1, (rd_T58 x14 x16).f3] : List Int) : List Int)).bind fun bz => (if x3.length + bz.length < 17592186044416 then (Bn.l1 k (x3 ++ bz) x8 x9 x10 x14 x15 (wrap64 (x16 + 1))) else (none))) else (Bn.l1 k x3 x8 x9 x10 x14 x15 (wrap64 (x16 + 1))))) else (none)) else (none)) else (Bn.l0 k x3 x8 x9 (wrap64 (x10 + 1)))
end
def Bn.f (k : Nat) (l0 : List (List (S58))) : Option (List Int) := Bn.l0 k ([] : List Int) l0 (l0.length : Int) 0
set_option maxHeartbeats 8000000 in
set_option maxRecDepth 100000 in
theorem Bn.calls (k : Nat) (A0 : Option Addr) (c0 : Nat) (l0 : List (List (S58))) (r : List Int) (w : World) (hr0 : Kd.C (Kd.slice 58 k58) w A0 l0.length l0) (hc0 : l0.length ≤ c0) (h : Bn.f k l0 = some r) :
  Calls Try.prog 43 #[.slice A0 l0.length c0] w fun e w' => ∃ v0_ : Value, e = .returned (v0_) ∧ Kd.R (Kd.int .i64) 3 w' w.heap.size (fun _ => True) v0_ r ∧ Below w.heap.size w w' := by
 have hu58 := Try.underlying58
 have HR0 := Aa.mk hr0
 have HC0 := Aa.mk hc0
 clear hr0 hc0
 have HB := Aa.mk (Below.refl w.heap.size w)
 have H : (Bn.l0 k ([] : List Int) l0 (l0.length : Int) 0) = some r := h
 clear h
 have H' := Aa.mk H
 clear H
 go_enter Try.func43, Try.ntmps43
 go_wp2
 go_loopg [3, 10] k (fun kq v3 v10 w' => ∃ (bu : List Int) (aa : Int), v10 = .int .i64 aa ∧ Aa (Bn.l0 kq bu l0 (l0.length : Int) aa = some r) ∧ Aa (kq ≤ k) ∧ Aa (Kd.R (Kd.int .i64) 3 w' w.heap.size (fun _ => True) v3 bu) ∧ Aa (Below w.heap.size w w'))
 case atStart => exact ⟨(([] : List Int)), (0), (by first | rfl | (simp; done) | (simp [*]; done)), H', ⟨Nat.le_refl _⟩, ⟨by first | exact Kd.C0 _ _ _ _ _ | exact Kd.N_nil _ _ _ _ _ | exact Kd.V_nil _ _ _ _ _ | exact Kd.Q_nil _ _ _ _ _ | exact Kd.S_nil _ _ _ _ _⟩, ⟨by repeat (first | (with_reducible first | exact HB.out | apply Ae | apply Ac | apply Ad) | exact HB.out)⟩⟩
 case round =>
  clear H'
  obtain ⟨bu, aa, rfl, HA, HK1, aH, HB⟩ := hrel
  cases gk with
  | zero => exact absurd HA.out (by simp [Bn.l0])
  | succ k1 =>
   have H := HA.out
   clear HA
   simp only [Bn.l0] at H
   by_cases c2 : aa < (l0.length : Int)
   ·rw [if_pos c2] at H
    have bn : decide (aa < (l0.length : Int)) = true := decide_eq_true c2
    clear c2
    by_cases c3 : 0 ≤ aa
    ·rw [if_pos c3] at H
     have bQ : decide (0 ≤ aa) = true := decide_eq_true c3
     clear c3
     by_cases c4 : aa < (l0.length : Int)
     ·rw [if_pos c4] at H
      have b4 : decide (aa < (l0.length : Int)) = true := decide_eq_true c4
      clear c4
      have H' := Aa.mk H
      clear H
      have cR : 0 ≤ (aa : Int) := of_decide_eq_true (by with_reducible assumption)
      have cS : aa < (l0.length : Int) := of_decide_eq_true (by with_reducible assumption)
      obtain ⟨fy, ff, fg, e129, bf, bG, hi129_0⟩ := at_L5 HR0.out aa cR cS
      cases e129
      replace bf := (HB.out.cell (World.block_lt_of_cell? w _ bf)).trans bf
      have bH := Aa.mk hi129_0
      have es := Aa.mk bG
      clear hi129_0 bG
      replace cR := eq_true cR
      replace cS := eq_true cS
      go_wp2
      go_loopg [3, 16] k1 (fun kq v3 v16 w' => ∃ (bv : List Int) (ae : Int), v16 = .int .i64 ae ∧ Aa (Bn.l1 kq bv l0 (l0.length : Int) aa (rd_L5 l0 aa) ((rd_L5 l0 aa).length : Int) ae = some r) ∧ Aa (kq ≤ k1) ∧ Aa (Kd.R (Kd.int .i64) 3 w' w.heap.size (fun _ => True) v3 bv) ∧ Aa (Below w.heap.size w w'))
      case atStart => exact ⟨(bu), (0), (by first | rfl | (simp; done) | (simp [*]; done)), H', ⟨Nat.le_refl _⟩, ⟨by exact rU <| aH.out⟩, ⟨by repeat (first | (with_reducible first | exact HB.out | apply Ae | apply Ac | apply Ad) | exact HB.out)⟩⟩
      case round =>
       clear H'
       try clear c1
       try clear p1
       try clear q1
       try clear hx1
       try clear c2
       try clear bn
       try clear p2
       try clear c3
       try clear bQ
       try clear c4
       try clear b4
       try clear bf
       try clear cR
       try clear cS
       obtain ⟨bv, ae, rfl, HA, HK2, aH, HB⟩ := hrel
       cases gk with
       | zero => exact absurd HA.out (by simp [Bn.l1])
       | succ k2 =>
        have H := HA.out
        clear HA
        simp only [Bn.l1] at H
        by_cases c5 : ae < ((rd_L5 l0 aa).length : Int)
        ·rw [if_pos c5] at H
         have di : decide (ae < ((rd_L5 l0 aa).length : Int)) = true := decide_eq_true c5
         clear c5
         by_cases c6 : 0 ≤ ae
         ·rw [if_pos c6] at H
          have dp : decide (0 ≤ ae) = true := decide_eq_true c6
          clear c6
          by_cases c7 : ae < ((rd_L5 l0 aa).length : Int)
          ·rw [if_pos c7] at H
           have dc : decide (ae < ((rd_L5 l0 aa).length : Int)) = true := decide_eq_true c7
           clear c7
           replace H := Option.bind_eq_some_iff.mp H
           obtain ⟨df, A80, H⟩ := H
           try dsimp only at H
           have A8 := Aa.mk A80
           clear A80
           by_cases c9 : df = true
           ·subst c9
            have H1 := H
            rw [if_pos rfl] at H1
            clear H
            have H := H1
            clear H1
            obtain ⟨bz, bZ⟩ : ∃ y_ : List Int, y_ = (([(rd_T58 (rd_L5 l0 aa) ae).f1, (rd_T58 (rd_L5 l0 aa) ae).f3] : List Int)) := ⟨_, rfl⟩
            (try rw [Option.bind_some] at H); try rw [← bZ] at H
            have cW := Aa.mk bZ
            clear bZ
            by_cases c10 : bv.length + bz.length < 17592186044416
            ·rw [if_pos c10] at H
             have LMc10 := Aa.mk c10
             clear c10
             obtain ⟨fh, b3⟩ : ∃ y_ : List Int, y_ = (bv ++ bz) := ⟨_, rfl⟩
             (try rw [Option.bind_some] at H); try rw [← b3] at H
             have dv := Aa.mk b3
             clear b3
             have H' := Aa.mk H
             clear H
             have bB : 0 ≤ (ae : Int) := of_decide_eq_true (by with_reducible assumption)
             have bC : ae < ((rd_L5 l0 aa).length : Int) := of_decide_eq_true (by with_reducible assumption)
             obtain ⟨dw, e130, aV, aW, aX, aY⟩ := at_T58 bH.out ae bB bC
             cases e130
             replace aV := (HB.out.cell (World.block_lt_of_cell? w _ aV)).trans aV
             replace aW := (HB.out.cell (World.block_lt_of_cell? w _ aW)).trans aW
             replace aX := (HB.out.cell (World.block_lt_of_cell? w _ aX)).trans aX
             replace aY := (HB.out.cell (World.block_lt_of_cell? w _ aY)).trans aY
             replace bB := eq_true bB
             replace bC := eq_true bC
             go_wp2_with (first | ((with_reducible refine Bo (N := 7) rfl ?_); refine B2 ?hg (N := 7) ?hd (cs := #[.int .i64 0, .int .i64 0, .int .i64 0, .int .i64 0]) (t := 58) ?hr ?_; (case hd => rfl); (case hg => rfl); (case hr => first | (go_simp; done) | (go_simp; rfl)); intro ap hg w11 hbox hb; have n0_ := Aa.mk (Kd.At (by exact rU <| aH.out) hb); have n1_ := Aa.mk (Ai (lU HB.out) hb); have n2_ := Aa.mk (hbox); have n3_ := Aa.mk ((by rw [hg]; exact (Af (lU HB.out)) : w.heap.size ≤ ap)); have n4_ := Aa.mk ((by rw [hg]; exact (Af (lU HB.out)) : w.heap.size ≤ ap)); clear aH; clear HB; have aH := n0_; have HB := n1_; have aj := n2_; have dz := n3_; have a6 := n4_; clear n0_ n1_ n2_ n3_ n4_; clear hb hbox hg; have et : w11.cell? ⟨ap, 0, none⟩ = some (.int .i64 0) := (Ak aj.out 0).trans rfl; have eu : w11.cell? ⟨ap, 1, none⟩ = some (.int .i64 0) := (Ak aj.out 1).trans rfl; have ew : w11.cell? ⟨ap, 2, none⟩ = some (.int .i64 0) := (Ak aj.out 2).trans rfl; have ex : w11.cell? ⟨ap, 3, none⟩ = some (.int .i64 0) := (Ak aj.out 3).trans rfl; have ey := Ag aj.out 0; have ez := Ag aj.out 1; have eA := Ag aj.out 2; have eB := Ag aj.out 3) | ((with_reducible refine Ap (f := 62) rfl ?_); refine Br (some 21) rfl rfl Try.func62 (by kernel_rfl) rfl #[.agg #[.int .i64 ((rd_T58 (rd_L5 l0 aa) ae).f0), .int .i64 ((rd_T58 (rd_L5 l0 aa) ae).f1), .int .i64 ((rd_T58 (rd_L5 l0 aa) ae).f2), .int .i64 ((rd_T58 (rd_L5 l0 aa) ae).f3)]] rfl (by (try simp only [List.map_toArray, List.map_cons, List.map_nil]); first | done | rfl | (simp only [List.length_drop, List.length_take]; rfl)) ?_; (with_reducible refine (Cd.calls ((rd_T58 (rd_L5 l0 aa) ae).f0) ((rd_T58 (rd_L5 l0 aa) ae).f1) ((rd_T58 (rd_L5 l0 aa) ae).f2) ((rd_T58 (rd_L5 l0 aa) ae).f3) true _ A8.out).mono ?_); rintro e w13 ⟨rfl, hb⟩; refine ⟨_, rfl, ?_⟩; have n0_ := Aa.mk (Kd.At (by exact rU <| (Kd.Bj (Kd.Cc (p := ⟨ap, 3, none⟩) (Kd.Cc (p := ⟨ap, 2, none⟩) (Kd.Cc (p := ⟨ap, 1, none⟩) (Kd.Cc (p := ⟨ap, 0, none⟩) (Kd.C2 aH.out aj.out (by decide)) (fun _ hk => hk.2) (.int .i64 ((rd_T58 (rd_L5 l0 aa) ae).f0))) (fun _ hk => hk.2) (.int .i64 ((rd_T58 (rd_L5 l0 aa) ae).f1))) (fun _ hk => hk.2) (.int .i64 ((rd_T58 (rd_L5 l0 aa) ae).f2))) (fun _ hk => hk.2) (.int .i64 ((rd_T58 (rd_L5 l0 aa) ae).f3))) (fun _ h_ => h_.1))) hb); have n1_ := Aa.mk (B7 (g := ap) (o := .cells #[.int .i64 ((rd_T58 (rd_L5 l0 aa) ae).f0), .int .i64 ((rd_T58 (rd_L5 l0 aa) ae).f1), .int .i64 ((rd_T58 (rd_L5 l0 aa) ae).f2), .int .i64 ((rd_T58 (rd_L5 l0 aa) ae).f3)] 58 (0, 0)) (by (with_reducible repeat (first | refine Ay ?_ _ | refine Bc ?_ | refine Az ?_ _)); refine Bk (cs := #[.int .i64 ((rd_T58 (rd_L5 l0 aa) ae).f0), .int .i64 ((rd_T58 (rd_L5 l0 aa) ae).f1), .int .i64 ((rd_T58 (rd_L5 l0 aa) ae).f2), .int .i64 0]) ?_ 3 _ rfl; (with_reducible repeat (first | refine Ay ?_ _ | refine Bc ?_ | refine Az ?_ _)); refine Bk (cs := #[.int .i64 ((rd_T58 (rd_L5 l0 aa) ae).f0), .int .i64 ((rd_T58 (rd_L5 l0 aa) ae).f1), .int .i64 0, .int .i64 0]) ?_ 2 _ rfl; (with_reducible repeat (first | refine Ay ?_ _ | refine Bc ?_ | refine Az ?_ _)); refine Bk (cs := #[.int .i64 ((rd_T58 (rd_L5 l0 aa) ae).f0), .int .i64 0, .int .i64 0, .int .i64 0]) ?_ 1 _ rfl; (with_reducible repeat (first | refine Ay ?_ _ | refine Bc ?_ | refine Az ?_ _)); refine Bk (cs := #[.int .i64 0, .int .i64 0, .int .i64 0, .int .i64 0]) ?_ 0 _ rfl; exact bU <| aj.out) hb); have n2_ := Aa.mk (Ai (by repeat (first | (with_reducible first | exact HB.out | apply Ae | apply Ac | apply Ad | refine Ar ?_ a6.out) | exact HB.out)) hb); clear aH; clear aj; clear HB; have aH := n0_; have aj := n1_; have HB := n2_; clear n0_ n1_ n2_; (try clear hb); (try clear hb2); (try clear hk); (try clear hi); have eC : w13.cell? ⟨ap, 0, none⟩ = some (.int .i64 ((rd_T58 (rd_L5 l0 aa) ae).f0)) := (Ak aj.out 0).trans rfl; have eD : w13.cell? ⟨ap, 1, none⟩ = some (.int .i64 ((rd_T58 (rd_L5 l0 aa) ae).f1)) := (Ak aj.out 1).trans rfl; have eE : w13.cell? ⟨ap, 2, none⟩ = some (.int .i64 ((rd_T58 (rd_L5 l0 aa) ae).f2)) := (Ak aj.out 2).trans rfl; have eF : w13.cell? ⟨ap, 3, none⟩ = some (.int .i64 ((rd_T58 (rd_L5 l0 aa) ae).f3)) := (Ak aj.out 3).trans rfl; have eG := Ag aj.out 0; have eH := Ag aj.out 1; have eI := Ag aj.out 2; have eJ := Ag aj.out 3) | ((with_reducible refine Bo (N := 27) rfl ?_); refine Kd.C3 (Kd.int .i64) _ 3 ?hg (N := 27) ?hd (xs := ([(rd_T58 (rd_L5 l0 aa) ae).f1, (rd_T58 (rd_L5 l0 aa) ae).f3] : List Int)) (inner := [.int .i64 ((rd_T58 (rd_L5 l0 aa) ae).f1), .int .i64 ((rd_T58 (rd_L5 l0 aa) ae).f3)]) (ok := fun _ => True) (okp := fun _ => True) ?hr ?hp (fun _ hk => hk) trivial (Below.refl _ _) (Nat.le_refl _) (by simp) ?_; (case hd => rfl); (case hg => rfl); (case hr => first | (go_simp; done) | (go_simp; rfl)); (case hp => exact (Reps.one (show Kd.M (Kd.int .i64) _ _ _ ((rd_T58 (rd_L5 l0 aa) ae).f1) [.int .i64 ((rd_T58 (rd_L5 l0 aa) ae).f1)] from rfl) (Reps.one (show Kd.M (Kd.int .i64) _ _ _ ((rd_T58 (rd_L5 l0 aa) ae).f3) [.int .i64 ((rd_T58 (rd_L5 l0 aa) ae).f3)] from rfl) (Reps.none _ _)))); intro v134 w15 ho16 hb hg_ hnew_; clear hg_ hnew_; (first | rw [← cW.out] at ho16 | (simp only [Int.reduceToNat] at ho16; rw [← cW.out] at ho16)); have n0_ := Aa.mk (Kd.As (by exact rU <| aH.out) (Kd.Ao ho16) hb); have n1_ := Aa.mk (Kd.Bv (Kd.Bf ho16 (Kd.Bw (by exact rU <| aH.out))) (Af (by repeat (first | (with_reducible first | exact HB.out | apply Ae | apply Ac | apply Ad | refine Ar ?_ a6.out) | exact HB.out)))); have n2_ := Aa.mk (B7 (g := ap) (o := .cells #[.int .i64 ((rd_T58 (rd_L5 l0 aa) ae).f0), .int .i64 ((rd_T58 (rd_L5 l0 aa) ae).f1), .int .i64 ((rd_T58 (rd_L5 l0 aa) ae).f2), .int .i64 ((rd_T58 (rd_L5 l0 aa) ae).f3)] 58 (0, 0)) (by exact bU <| aj.out) hb); have n3_ := Aa.mk (Ai (by repeat (first | (with_reducible first | exact HB.out | apply Ae | apply Ac | apply Ad | refine Ar ?_ a6.out) | exact HB.out)) hb); clear aH; clear aj; clear HB; have aH := n0_; have bp := n1_; have aj := n2_; have HB := n3_; clear n0_ n1_ n2_ n3_; clear hb ho16; obtain ⟨fi, fj, fk⟩ := Kd.Bi bp.out; subst fk) | ((with_reducible refine Cs (b := .append) (xs := #[.tmp 22, .tmp 27]) rfl ?_); at_builtin; refine Kd.R_append_rows (Kd.int .i64) (w0 := w) w.heap.size rfl (.tmp 22) (.tmp 27) 29 3 (.int .i64 0) 8 rfl Try.underlying29 info3 rfl (by decide) (by omega) u3 bv bz _ _ _ (fun k_ => some k_ ≠ (.slice fi bz.length fj : Value).ownBlock) (fun _ => False) rfl rfl ?aO ?aR (fun _ _ h => h) (fun _ h => h.elim) ?aF ?aB ?aS ?aL ?_; (case aR => repeat (first | exact (Kd.Aq bp.out).2.2 | (with_reducible refine Kd.Bh ?_ _) | (with_reducible refine Kd.Bg ?_ _) | (with_reducible refine Kd.Bp ?_))); (case aB => exact (by repeat (first | (with_reducible first | exact HB.out | apply Ae | apply Ac | apply Ad | refine Ar ?_ a6.out) | exact HB.out))); (case aF => exact (fun k_ hk => Kd.fresh' (Kd.Bw (by exact rU <| bp.out)) k_ hk)); (case aO => exact (by exact rU <| Kd.Bj aH.out (fun _ hk => hk.2))); (case aS => exact (Af (by repeat (first | (with_reducible first | exact HB.out | apply Ae | apply Ac | apply Ad | refine Ar ?_ a6.out) | exact HB.out)))); (case aL => have := LMc10.out; omega); intro v137 w17 ho hb hg hat; rw [← dv.out] at ho; have n0_ := Aa.mk (C4 (g := ap) (o := .cells #[.int .i64 ((rd_T58 (rd_L5 l0 aa) ae).f0), .int .i64 ((rd_T58 (rd_L5 l0 aa) ae).f1), .int .i64 ((rd_T58 (rd_L5 l0 aa) ae).f2), .int .i64 ((rd_T58 (rd_L5 l0 aa) ae).f3)] 58 (0, 0)) (by exact bU <| aj.out) hg (Kd.R_ne aH.out aj.out (by decide))); have n1_ := Aa.mk (Kd.R_after (ok := (fun _ => True)) (by exact rU <| bp.out) hg hat); have n2_ := Aa.mk (hb); have n3_ := Aa.mk (ho); clear aj; clear bp; clear HB; clear aH; have aj := n0_; have bp := n1_; have HB := n2_; have dA := n3_; clear n0_ n1_ n2_ n3_; clear ho hb hg hat))
             go_roundg k2
             case measure => have := HK1.out; have := HK2.out; omega
             case rel => exact ⟨(fh), (wrap64 (ae + 1)), (by first | rfl | (simp; done) | (simp [*]; done)), H', ⟨by have := HK1.out; have := HK2.out; omega⟩, ⟨by exact rU <| Kd.Bj dA.out (fun _ hk => trivial)⟩, ⟨by repeat (first | (with_reducible first | exact HB.out | apply Ae | apply Ac | apply Ad | refine Ar ?_ a6.out) | exact HB.out)⟩⟩
            ·rw [if_neg c10] at H
             exact absurd H (by simp)
           ·replace c9 := Bool.eq_false_iff.mpr c9
            subst c9
            have H1 := H
            rw [if_neg (show ¬ (false = true) by decide)] at H1
            clear H
            have H := H1
            clear H1
            have H' := Aa.mk H
            clear H
            have bB : 0 ≤ (ae : Int) := of_decide_eq_true (by with_reducible assumption)
            have bC : ae < ((rd_L5 l0 aa).length : Int) := of_decide_eq_true (by with_reducible assumption)
            obtain ⟨dw, e130, aV, aW, aX, aY⟩ := at_T58 bH.out ae bB bC
            cases e130
            replace aV := (HB.out.cell (World.block_lt_of_cell? w _ aV)).trans aV
            replace aW := (HB.out.cell (World.block_lt_of_cell? w _ aW)).trans aW
            replace aX := (HB.out.cell (World.block_lt_of_cell? w _ aX)).trans aX
            replace aY := (HB.out.cell (World.block_lt_of_cell? w _ aY)).trans aY
            replace bB := eq_true bB
            replace bC := eq_true bC
            go_wp2_with (first | ((with_reducible refine Bo (N := 7) rfl ?_); refine B2 ?hg (N := 7) ?hd (cs := #[.int .i64 0, .int .i64 0, .int .i64 0, .int .i64 0]) (t := 58) ?hr ?_; (case hd => rfl); (case hg => rfl); (case hr => first | (go_simp; done) | (go_simp; rfl)); intro ap hg w19 hbox hb; have n0_ := Aa.mk (Kd.At (by exact rU <| aH.out) hb); have n1_ := Aa.mk (Ai (lU HB.out) hb); have n2_ := Aa.mk (hbox); have n3_ := Aa.mk ((by rw [hg]; exact (Af (lU HB.out)) : w.heap.size ≤ ap)); have n4_ := Aa.mk ((by rw [hg]; exact (Af (lU HB.out)) : w.heap.size ≤ ap)); clear aH; clear HB; have aH := n0_; have HB := n1_; have aj := n2_; have dz := n3_; have a6 := n4_; clear n0_ n1_ n2_ n3_ n4_; clear hb hbox hg; have cu : w19.cell? ⟨ap, 0, none⟩ = some (.int .i64 0) := (Ak aj.out 0).trans rfl; have cv : w19.cell? ⟨ap, 1, none⟩ = some (.int .i64 0) := (Ak aj.out 1).trans rfl; have cw : w19.cell? ⟨ap, 2, none⟩ = some (.int .i64 0) := (Ak aj.out 2).trans rfl; have cx : w19.cell? ⟨ap, 3, none⟩ = some (.int .i64 0) := (Ak aj.out 3).trans rfl; have cy := Ag aj.out 0; have cz := Ag aj.out 1; have cA := Ag aj.out 2; have cB := Ag aj.out 3) | ((with_reducible refine Ap (f := 62) rfl ?_); refine Br (some 21) rfl rfl Try.func62 (by kernel_rfl) rfl #[.agg #[.int .i64 ((rd_T58 (rd_L5 l0 aa) ae).f0), .int .i64 ((rd_T58 (rd_L5 l0 aa) ae).f1), .int .i64 ((rd_T58 (rd_L5 l0 aa) ae).f2), .int .i64 ((rd_T58 (rd_L5 l0 aa) ae).f3)]] rfl (by (try simp only [List.map_toArray, List.map_cons, List.map_nil]); first | done | rfl | (simp only [List.length_drop, List.length_take]; rfl)) ?_; (with_reducible refine (Cd.calls ((rd_T58 (rd_L5 l0 aa) ae).f0) ((rd_T58 (rd_L5 l0 aa) ae).f1) ((rd_T58 (rd_L5 l0 aa) ae).f2) ((rd_T58 (rd_L5 l0 aa) ae).f3) false _ A8.out).mono ?_); rintro e w21 ⟨rfl, hb⟩; refine ⟨_, rfl, ?_⟩; have n0_ := Aa.mk (Kd.At (by exact rU <| (Kd.Bj (Kd.Cc (p := ⟨ap, 3, none⟩) (Kd.Cc (p := ⟨ap, 2, none⟩) (Kd.Cc (p := ⟨ap, 1, none⟩) (Kd.Cc (p := ⟨ap, 0, none⟩) (Kd.C2 aH.out aj.out (by decide)) (fun _ hk => hk.2) (.int .i64 ((rd_T58 (rd_L5 l0 aa) ae).f0))) (fun _ hk => hk.2) (.int .i64 ((rd_T58 (rd_L5 l0 aa) ae).f1))) (fun _ hk => hk.2) (.int .i64 ((rd_T58 (rd_L5 l0 aa) ae).f2))) (fun _ hk => hk.2) (.int .i64 ((rd_T58 (rd_L5 l0 aa) ae).f3))) (fun _ h_ => h_.1))) hb); have n1_ := Aa.mk (B7 (g := ap) (o := .cells #[.int .i64 ((rd_T58 (rd_L5 l0 aa) ae).f0), .int .i64 ((rd_T58 (rd_L5 l0 aa) ae).f1), .int .i64 ((rd_T58 (rd_L5 l0 aa) ae).f2), .int .i64 ((rd_T58 (rd_L5 l0 aa) ae).f3)] 58 (0, 0)) (by (with_reducible repeat (first | refine Ay ?_ _ | refine Bc ?_ | refine Az ?_ _)); refine Bk (cs := #[.int .i64 ((rd_T58 (rd_L5 l0 aa) ae).f0), .int .i64 ((rd_T58 (rd_L5 l0 aa) ae).f1), .int .i64 ((rd_T58 (rd_L5 l0 aa) ae).f2), .int .i64 0]) ?_ 3 _ rfl; (with_reducible repeat (first | refine Ay ?_ _ | refine Bc ?_ | refine Az ?_ _)); refine Bk (cs := #[.int .i64 ((rd_T58 (rd_L5 l0 aa) ae).f0), .int .i64 ((rd_T58 (rd_L5 l0 aa) ae).f1), .int .i64 0, .int .i64 0]) ?_ 2 _ rfl; (with_reducible repeat (first | refine Ay ?_ _ | refine Bc ?_ | refine Az ?_ _)); refine Bk (cs := #[.int .i64 ((rd_T58 (rd_L5 l0 aa) ae).f0), .int .i64 0, .int .i64 0, .int .i64 0]) ?_ 1 _ rfl; (with_reducible repeat (first | refine Ay ?_ _ | refine Bc ?_ | refine Az ?_ _)); refine Bk (cs := #[.int .i64 0, .int .i64 0, .int .i64 0, .int .i64 0]) ?_ 0 _ rfl; exact bU <| aj.out) hb); have n2_ := Aa.mk (Ai (by repeat (first | (with_reducible first | exact HB.out | apply Ae | apply Ac | apply Ad | refine Ar ?_ a6.out) | exact HB.out)) hb); clear aH; clear aj; clear HB; have aH := n0_; have aj := n1_; have HB := n2_; clear n0_ n1_ n2_; (try clear hb); (try clear hb2); (try clear hk); (try clear hi)))
            go_roundg k2
            case measure => have := HK1.out; have := HK2.out; omega
            case rel => exact ⟨(bv), (wrap64 (ae + 1)), (by first | rfl | (simp; done) | (simp [*]; done)), H', ⟨by have := HK1.out; have := HK2.out; omega⟩, ⟨by exact rU <| aH.out⟩, ⟨by repeat (first | (with_reducible first | exact HB.out | apply Ae | apply Ac | apply Ad | refine Ar ?_ a6.out) | exact HB.out)⟩⟩
          ·rw [if_neg c7] at H
           exact absurd H (by simp)
         ·rw [if_neg c6] at H
          exact absurd H (by simp)
        ·rw [if_neg c5] at H
         have di : decide (ae < ((rd_L5 l0 aa).length : Int)) = false := decide_eq_false c5
         clear c5
         have H' := Aa.mk H
         clear H
         go_wp2
         go_roundg k2
         case measure => have := HK1.out; have := HK2.out; omega
         case rel => exact ⟨(bv), (wrap64 (aa + 1)), (by first | rfl | (simp; done) | (simp [*]; done)), H', ⟨by have := HK1.out; have := HK2.out; omega⟩, ⟨by exact rU <| aH.out⟩, ⟨by repeat (first | (with_reducible first | exact HB.out | apply Ae | apply Ac | apply Ad) | exact HB.out)⟩⟩
     ·rw [if_neg c4] at H
      exact absurd H (by simp)
    ·rw [if_neg c3] at H
     exact absurd H (by simp)
   ·rw [if_neg c2] at H
    have bn : decide (aa < (l0.length : Int)) = false := decide_eq_false c2
    clear c2
    replace H := Option.bind_eq_some_iff.mp H
    obtain ⟨de, A220, H⟩ := H
    try dsimp only at H
    have A22 := Aa.mk A220
    clear A220
    obtain rfl := Option.some.inj H
    obtain ⟨cC, cD, cZ⟩ := Kd.Bi aH.out
    subst cZ
    go_wp2_with (first | ((with_reducible refine Ap (f := 71) rfl ?_); refine Br (some 32) rfl rfl Try.func71 (by kernel_rfl) rfl #[.slice cC bu.length cD] rfl (by (try simp only [List.map_toArray, List.map_cons, List.map_nil]); first | done | rfl | (simp only [List.length_drop, List.length_take]; rfl)) ?_; (with_reducible refine (Ce.calls (fun k_ => some k_ = (.slice cC bu.length cD : Value).ownBlock) (.slice cC bu.length cD) bu de w _ ?side1 ?side2 A22.out).mono ?_); (case side1 => repeat (first | (with_reducible first | exact HB.out | apply Ae | apply Ac | apply Ad) | exact HB.out)); (case side2 => exact Kd.Cv rfl aH.out); rintro e w24 ⟨v127, rfl, ho0, hb, hkp⟩; refine ⟨_, rfl, ?_⟩; have n0_ := Aa.mk (Kd.Bj (ok' := fun k_ => True) ho0 (fun k_ hk_ => trivial)); have n1_ := Aa.mk (hb); clear HB; clear aH; have dB := n0_; have HB := n1_; clear n0_ n1_; (try clear hb); (try clear hkp); (try clear ho0)))
    go_ret
    exact ⟨_, by first | rfl | (simp [Av, Au] <;> rfl) | (simp [*, Av, Au] <;> rfl), by exact rU <| dB.out, by repeat (first | (with_reducible first | exact HB.out | apply Ae | apply Ac | apply Ad) | exact HB.out)⟩

end Go.Proofs.Ytobdfiglgdbecaa.PGA

