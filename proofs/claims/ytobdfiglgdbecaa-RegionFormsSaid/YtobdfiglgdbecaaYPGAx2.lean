import Derived.Test.YtobdfiglgdbecaaYPGAx0
import Derived.Test.YtobdfiglgdbecaaYDI
import Derived.Test.YtobdfiglgdbecaaYNR
namespace Go.Proofs.Ytobdfiglgdbecaa.PGA
open Go.Proofs.Ytobdfiglgdbecaa.PGB
open Go.RowKit Go.Proofs.YtobdfiglgdbecaaW.PrintWords Go.Proofs.YtobdfiglgdbecaaW.PrintLast Go.Proofs.YtobdfiglgdbecaaW.PrintMore
attribute [local go_sem] max2_int min2_int max_two min_two max_three min_three max_four min_four
set_option linter.unusedVariables false
set_option linter.unusedSimpArgs false

def Cb.f (a7 : Int) (bq : Int) (a8 : Int) (br : Int) : Option (Bool) := if a7 < a8 then (some (decide (bq < br))) else (some false)
set_option maxHeartbeats 8000000 in
set_option maxRecDepth 100000 in
theorem Cb.calls (a7 : Int) (bq : Int) (a8 : Int) (br : Int) (r : Bool) (w : World) (h : Cb.f a7 bq a8 br = some r) :
  Calls Try.prog 62 #[.agg #[.int .i64 a7, .int .i64 bq, .int .i64 a8, .int .i64 br]] w fun e w' => e = .returned (.bool r) ∧ Below w.heap.size w w' := by
 have hu58 := Try.underlying58
 have HB := Aa.mk (Below.refl w.heap.size w)
 have H : (if a7 < a8 then (some (decide (bq < br))) else (some false)) = some r := h
 clear h
 by_cases c2 : a7 < a8
 ·rw [if_pos c2] at H
  have bn : decide (a7 < a8) = true := decide_eq_true c2
  clear c2
  obtain rfl := Option.some.inj H
  go_enter Try.func62, Try.ntmps62
  go_wp2_with (first | ((with_reducible refine Bj (N := 1) rfl ?_); refine B2 ?hg (N := 1) ?hd (cs := #[.int .i64 a7, .int .i64 bq, .int .i64 a8, .int .i64 br]) (t := 58) ?hr ?_; (case hd => rfl); (case hg => rfl); (case hr => first | (go_simp; done) | (go_simp; rfl)); intro aJ hg w3 hbox hb; have n0_ := Aa.mk (Aj (lU HB.out) hb); have n1_ := Aa.mk (hbox); have n2_ := Aa.mk ((by rw [hg]; exact (Ae (lU HB.out)) : w.heap.size ≤ aJ)); have n3_ := Aa.mk ((by rw [hg]; exact (Ae (lU HB.out)) : w.heap.size ≤ aJ)); clear HB; have HB := n0_; have aE := n1_; have dg := n2_; have bJ := n3_; clear n0_ n1_ n2_ n3_; clear hb hbox hg; have eM : w3.cell? ⟨aJ, 0, none⟩ = some (.int .i64 a7) := (Ai aE.out 0).trans rfl; have eN : w3.cell? ⟨aJ, 1, none⟩ = some (.int .i64 bq) := (Ai aE.out 1).trans rfl; have eO : w3.cell? ⟨aJ, 2, none⟩ = some (.int .i64 a8) := (Ai aE.out 2).trans rfl; have eP : w3.cell? ⟨aJ, 3, none⟩ = some (.int .i64 br) := (Ai aE.out 3).trans rfl; have eQ := Af aE.out 0; have eR := Af aE.out 1; have eS := Af aE.out 2; have eT := Af aE.out 3))
  go_ret
  exact ⟨by first | rfl | (simp [Aw, Av] <;> rfl) | (simp [*, Aw, Av] <;> rfl), by repeat (first | (with_reducible first | exact HB.out | apply Ad | apply Ab | apply Ac | refine Ak ?_ bJ.out) | exact HB.out)⟩
 ·rw [if_neg c2] at H
  have bn : decide (a7 < a8) = false := decide_eq_false c2
  clear c2
  obtain rfl := Option.some.inj H
  go_enter Try.func62, Try.ntmps62
  go_wp2_with (first | ((with_reducible refine Bj (N := 1) rfl ?_); refine B2 ?hg (N := 1) ?hd (cs := #[.int .i64 a7, .int .i64 bq, .int .i64 a8, .int .i64 br]) (t := 58) ?hr ?_; (case hd => rfl); (case hg => rfl); (case hr => first | (go_simp; done) | (go_simp; rfl)); intro aJ hg w5 hbox hb; have n0_ := Aa.mk (Aj (lU HB.out) hb); have n1_ := Aa.mk (hbox); have n2_ := Aa.mk ((by rw [hg]; exact (Ae (lU HB.out)) : w.heap.size ≤ aJ)); have n3_ := Aa.mk ((by rw [hg]; exact (Ae (lU HB.out)) : w.heap.size ≤ aJ)); clear HB; have HB := n0_; have aE := n1_; have dg := n2_; have bJ := n3_; clear n0_ n1_ n2_ n3_; clear hb hbox hg; have bK : w5.cell? ⟨aJ, 0, none⟩ = some (.int .i64 a7) := (Ai aE.out 0).trans rfl; have bL : w5.cell? ⟨aJ, 1, none⟩ = some (.int .i64 bq) := (Ai aE.out 1).trans rfl; have bM : w5.cell? ⟨aJ, 2, none⟩ = some (.int .i64 a8) := (Ai aE.out 2).trans rfl; have eU : w5.cell? ⟨aJ, 3, none⟩ = some (.int .i64 br) := (Ai aE.out 3).trans rfl; have bN := Af aE.out 0; have bO := Af aE.out 1; have bP := Af aE.out 2; have eV := Af aE.out 3))
  go_ret
  exact ⟨by first | rfl | (simp [Aw, Av] <;> rfl) | (simp [*, Aw, Av] <;> rfl), by repeat (first | (with_reducible first | exact HB.out | apply Ad | apply Ab | apply Ac | refine Ak ?_ bJ.out) | exact HB.out)⟩

def Bg.l0 : Nat → List (S58) → Int → Int → Option (Int)
 | 0, _, _, _ => none
 | k + 1, x8, x9, x10 => if x10 < x9 then (if 0 ≤ x10 then (if x10 < (x8.length : Int) then ((Cb.f ((rd_T58 x8 x10).f0) ((rd_T58 x8 x10).f1) ((rd_T58 x8 x10).f2) ((rd_T58 x8 x10).f3)).bind fun cX => (if cX = true then ((Ce.f (([(rd_T58 x8 x10).f0, (rd_T58 x8 x10).f1, (rd_T58 x8 x10).f2, (rd_T58 x8 x10).f3] : List Int))).bind fun cY => (if cY = true then (Bg.l0 k x8 x9 (wrap64 (x10 + 1))) else (some 61))) else (Bg.l0 k x8 x9 (wrap64 (x10 + 1))))) else (none)) else (none)) else (some 0)
def Bg.f (k : Nat) (l0 : List (S58)) : Option (Int) := if (l0.length : Int) > 4096 then (some 60) else (Bg.l0 k l0 (l0.length : Int) 0)
set_option maxHeartbeats 8000000 in
set_option maxRecDepth 100000 in
theorem Bg.calls (k : Nat) (A0 : Option Addr) (c0 : Nat) (l0 : List (S58)) (r : Int) (w : World) (hr0 : Kd.C k58 w A0 l0.length l0) (hc0 : l0.length ≤ c0) (h : Bg.f k l0 = some r) :
  Calls Try.prog 42 #[.slice A0 l0.length c0] w fun e w' => e = .returned (.int .i64 r) ∧ Below w.heap.size w w' := by
 have hu58 := Try.underlying58
 have HR0 := Aa.mk hr0
 have HC0 := Aa.mk hc0
 clear hr0 hc0
 have HB := Aa.mk (Below.refl w.heap.size w)
 have H : (if (l0.length : Int) > 4096 then (some 60) else (Bg.l0 k l0 (l0.length : Int) 0)) = some r := h
 clear h
 by_cases c2 : (l0.length : Int) > 4096
 ·rw [if_pos c2] at H
  have bn : decide (4096 < (l0.length : Int)) = true := decide_eq_true c2
  have dh : decide (4096 < l0.length) = true := decide_eq_true (by omega)
  clear c2
  obtain rfl := Option.some.inj H
  go_enter Try.func42, Try.ntmps42
  go_wp2
  go_ret
  exact ⟨by first | rfl | (simp [Aw, Av] <;> rfl) | (simp [*, Aw, Av] <;> rfl), by repeat (first | (with_reducible first | exact HB.out | apply Ad | apply Ab | apply Ac) | exact HB.out)⟩
 ·rw [if_neg c2] at H
  have bn : decide (4096 < (l0.length : Int)) = false := decide_eq_false c2
  have dh : decide (4096 < l0.length) = false := decide_eq_false (by omega)
  clear c2
  have H' := Aa.mk H
  clear H
  go_enter Try.func42, Try.ntmps42
  go_wp2
  go_loopg [10] k (fun kq v10 w' => ∃ (aa : Int), v10 = .int .i64 aa ∧ Aa (Bg.l0 kq l0 (l0.length : Int) aa = some r) ∧ Aa (kq ≤ k) ∧ Aa (Below w.heap.size w w'))
  case atStart => exact ⟨(0), (by first | rfl | (simp; done) | (simp [*]; done)), H', ⟨Nat.le_refl _⟩, ⟨by repeat (first | (with_reducible first | exact HB.out | apply Ad | apply Ab | apply Ac) | exact HB.out)⟩⟩
  case round =>
   clear H'
   try clear c2
   try clear bn
   try clear dh
   try clear p2
   obtain ⟨aa, rfl, HA, HK1, HB⟩ := hrel
   cases gk with
   | zero => exact absurd HA.out (by simp [Bg.l0])
   | succ k1 =>
    have H := HA.out
    clear HA
    simp only [Bg.l0] at H
    by_cases c3 : aa < (l0.length : Int)
    ·rw [if_pos c3] at H
     have bQ : decide (aa < (l0.length : Int)) = true := decide_eq_true c3
     clear c3
     by_cases c4 : 0 ≤ aa
     ·rw [if_pos c4] at H
      have b4 : decide (0 ≤ aa) = true := decide_eq_true c4
      clear c4
      by_cases c5 : aa < (l0.length : Int)
      ·rw [if_pos c5] at H
       have di : decide (aa < (l0.length : Int)) = true := decide_eq_true c5
       clear c5
       replace H := Option.bind_eq_some_iff.mp H
       obtain ⟨cX, A60, H⟩ := H
       try dsimp only at H
       have A6 := Aa.mk A60
       clear A60
       by_cases c7 : cX = true
       ·subst c7
        have H1 := H
        rw [if_pos rfl] at H1
        clear H
        have H := H1
        clear H1
        obtain ⟨dj, bR⟩ : ∃ y_ : List Int, y_ = (([(rd_T58 l0 aa).f0, (rd_T58 l0 aa).f1, (rd_T58 l0 aa).f2, (rd_T58 l0 aa).f3] : List Int)) := ⟨_, rfl⟩
        (try rw [Option.bind_some] at H); try rw [← bR] at H
        have bD := Aa.mk bR
        clear bR
        replace H := Option.bind_eq_some_iff.mp H
        obtain ⟨cY, A80, H⟩ := H
        try dsimp only at H
        have A8 := Aa.mk A80
        clear A80
        by_cases c9 : cY = true
        ·subst c9
         have H1 := H
         rw [if_pos rfl] at H1
         clear H
         have H := H1
         clear H1
         have H' := Aa.mk H
         clear H
         have bg : 0 ≤ (aa : Int) := of_decide_eq_true (by with_reducible assumption)
         have bh : aa < (l0.length : Int) := of_decide_eq_true (by with_reducible assumption)
         obtain ⟨cT, e102, aw, ax, ay, az⟩ := at_T58 HR0.out aa bg bh
         cases e102
         replace aw := (HB.out.cell (World.block_lt_of_cell? w _ aw)).trans aw
         replace ax := (HB.out.cell (World.block_lt_of_cell? w _ ax)).trans ax
         replace ay := (HB.out.cell (World.block_lt_of_cell? w _ ay)).trans ay
         replace az := (HB.out.cell (World.block_lt_of_cell? w _ az)).trans az
         replace bg := eq_true bg
         replace bh := eq_true bh
         go_wp2_with (first | ((with_reducible refine Bj (N := 4) rfl ?_); (try (refine Bu (by rfl) ?_; dsimp only)); refine B2 ?hg (N := 4) ?hd (cs := #[.int .i64 0, .int .i64 0, .int .i64 0, .int .i64 0]) (t := 58) ?hr ?_; (case hd => rfl); (case hg => rfl); (case hr => first | (go_simp; done) | (go_simp; rfl)); intro an hg w10 hbox hb; have n0_ := Aa.mk (Aj (lU HB.out) hb); have n1_ := Aa.mk (hbox); have n2_ := Aa.mk ((by rw [hg]; exact (Ae (lU HB.out)) : w.heap.size ≤ an)); have n3_ := Aa.mk ((by rw [hg]; exact (Ae (lU HB.out)) : w.heap.size ≤ an)); clear HB; have HB := n0_; have ah := n1_; have cU := n2_; have aZ := n3_; clear n0_ n1_ n2_ n3_; clear hb hbox hg; have dC : w10.cell? ⟨an, 0, none⟩ = some (.int .i64 0) := (Ai ah.out 0).trans rfl; have dD : w10.cell? ⟨an, 1, none⟩ = some (.int .i64 0) := (Ai ah.out 1).trans rfl; have dE : w10.cell? ⟨an, 2, none⟩ = some (.int .i64 0) := (Ai ah.out 2).trans rfl; have dF : w10.cell? ⟨an, 3, none⟩ = some (.int .i64 0) := (Ai ah.out 3).trans rfl; have dG := Af ah.out 0; have dH := Af ah.out 1; have dI := Af ah.out 2; have dJ := Af ah.out 3) | ((with_reducible refine Ap (f := 62) rfl ?_); refine Br (some 15) rfl rfl Try.func62 (by kernel_rfl) rfl #[.agg #[.int .i64 ((rd_T58 l0 aa).f0), .int .i64 ((rd_T58 l0 aa).f1), .int .i64 ((rd_T58 l0 aa).f2), .int .i64 ((rd_T58 l0 aa).f3)]] rfl (by (try simp only [List.map_toArray, List.map_cons, List.map_nil]); first | done | rfl | (simp only [List.length_drop, List.length_take]; rfl)) ?_; (with_reducible refine (Cb.calls ((rd_T58 l0 aa).f0) ((rd_T58 l0 aa).f1) ((rd_T58 l0 aa).f2) ((rd_T58 l0 aa).f3) true _ A6.out).mono ?_); rintro e w12 ⟨rfl, hb⟩; refine ⟨_, rfl, ?_⟩; have n0_ := Aa.mk (Bz (g := an) (o := .cells #[.int .i64 ((rd_T58 l0 aa).f0), .int .i64 ((rd_T58 l0 aa).f1), .int .i64 ((rd_T58 l0 aa).f2), .int .i64 ((rd_T58 l0 aa).f3)] 58 (0, 0)) (by (with_reducible repeat (first | refine Aq ?_ _ | refine Au ?_ | refine Ar ?_ _)); refine Bc (cs := #[.int .i64 ((rd_T58 l0 aa).f0), .int .i64 ((rd_T58 l0 aa).f1), .int .i64 ((rd_T58 l0 aa).f2), .int .i64 0]) ?_ 3 _ rfl; (with_reducible repeat (first | refine Aq ?_ _ | refine Au ?_ | refine Ar ?_ _)); refine Bc (cs := #[.int .i64 ((rd_T58 l0 aa).f0), .int .i64 ((rd_T58 l0 aa).f1), .int .i64 0, .int .i64 0]) ?_ 2 _ rfl; (with_reducible repeat (first | refine Aq ?_ _ | refine Au ?_ | refine Ar ?_ _)); refine Bc (cs := #[.int .i64 ((rd_T58 l0 aa).f0), .int .i64 0, .int .i64 0, .int .i64 0]) ?_ 1 _ rfl; (with_reducible repeat (first | refine Aq ?_ _ | refine Au ?_ | refine Ar ?_ _)); refine Bc (cs := #[.int .i64 0, .int .i64 0, .int .i64 0, .int .i64 0]) ?_ 0 _ rfl; exact bU <| ah.out) hb); have n1_ := Aa.mk (Aj (by repeat (first | (with_reducible first | exact HB.out | apply Ad | apply Ab | apply Ac | refine Ak ?_ aZ.out) | exact HB.out)) hb); clear ah; clear HB; have ah := n0_; have HB := n1_; clear n0_ n1_; (try clear hb); (try clear hb2); (try clear hk); (try clear hi); have b5 : w12.cell? ⟨an, 0, none⟩ = some (.int .i64 ((rd_T58 l0 aa).f0)) := (Ai ah.out 0).trans rfl; have b6 : w12.cell? ⟨an, 1, none⟩ = some (.int .i64 ((rd_T58 l0 aa).f1)) := (Ai ah.out 1).trans rfl; have b7 : w12.cell? ⟨an, 2, none⟩ = some (.int .i64 ((rd_T58 l0 aa).f2)) := (Ai ah.out 2).trans rfl; have b8 : w12.cell? ⟨an, 3, none⟩ = some (.int .i64 ((rd_T58 l0 aa).f3)) := (Ai ah.out 3).trans rfl; have b9 := Af ah.out 0; have cd := Af ah.out 1; have cg := Af ah.out 2; have ch := Af ah.out 3) | ((with_reducible refine Bj (N := 25) rfl ?_); (try (refine Bu (by rfl) ?_; dsimp only)); refine Kd.Cx (Kd.int .i64) _ 3 ?hg (N := 25) ?hd (xs := ([(rd_T58 l0 aa).f0, (rd_T58 l0 aa).f1, (rd_T58 l0 aa).f2, (rd_T58 l0 aa).f3] : List Int)) (inner := [.int .i64 ((rd_T58 l0 aa).f0), .int .i64 ((rd_T58 l0 aa).f1), .int .i64 ((rd_T58 l0 aa).f2), .int .i64 ((rd_T58 l0 aa).f3)]) (ok := fun _ => True) (okp := fun _ => True) ?hr ?hp (fun _ hk => hk) trivial (Below.refl _ _) (Nat.le_refl _) (by simp) ?_; (case hd => rfl); (case hg => rfl); (case hr => first | (go_simp; done) | (go_simp; rfl)); (case hp => exact (Reps.one (show Kd.M (Kd.int .i64) _ _ _ ((rd_T58 l0 aa).f0) [.int .i64 ((rd_T58 l0 aa).f0)] from rfl) (Reps.one (show Kd.M (Kd.int .i64) _ _ _ ((rd_T58 l0 aa).f1) [.int .i64 ((rd_T58 l0 aa).f1)] from rfl) (Reps.one (show Kd.M (Kd.int .i64) _ _ _ ((rd_T58 l0 aa).f2) [.int .i64 ((rd_T58 l0 aa).f2)] from rfl) (Reps.one (show Kd.M (Kd.int .i64) _ _ _ ((rd_T58 l0 aa).f3) [.int .i64 ((rd_T58 l0 aa).f3)] from rfl) (Reps.none _ _)))))); intro v106 w14 ho15 hb hg_ hnew_; clear hg_ hnew_; (first | rw [← bD.out] at ho15 | (simp only [Int.reduceToNat] at ho15; rw [← bD.out] at ho15)); have n0_ := Aa.mk (Kd.Bt ho15 (Ae (by repeat (first | (with_reducible first | exact HB.out | apply Ad | apply Ab | apply Ac | refine Ak ?_ aZ.out) | exact HB.out)))); have n1_ := Aa.mk (Bz (g := an) (o := .cells #[.int .i64 ((rd_T58 l0 aa).f0), .int .i64 ((rd_T58 l0 aa).f1), .int .i64 ((rd_T58 l0 aa).f2), .int .i64 ((rd_T58 l0 aa).f3)] 58 (0, 0)) (by exact bU <| ah.out) hb); have n2_ := Aa.mk (Aj (by repeat (first | (with_reducible first | exact HB.out | apply Ad | apply Ab | apply Ac | refine Ak ?_ aZ.out) | exact HB.out)) hb); clear ah; clear HB; have bi := n0_; have ah := n1_; have HB := n2_; clear n0_ n1_ n2_; clear hb ho15; obtain ⟨fB, fC, eW⟩ := Kd.Bk bi.out; subst eW) | (go_at_call 70; (with_reducible refine (Ce.calls _ _ dj true _ ?side1 ?side2 A8.out).mono ?_); (case side1 => repeat (first | exact (Kd.As bi.out).2.2 | (with_reducible refine Kd.Bf ?_ _) | (with_reducible refine Kd.Be ?_ _) | (with_reducible refine Kd.Bn ?_))); (case side2 => exact (Kd.As bi.out).2.1); rintro e w' ⟨rfl, ⟨nd, rfl⟩⟩))
         go_roundg k1
         case measure => have := HK1.out; omega
         case rel => exact ⟨(wrap64 (aa + 1)), (by first | rfl | (simp; done) | (simp [*]; done)), H', ⟨by have := HK1.out; omega⟩, ⟨by repeat (first | (with_reducible first | exact HB.out | apply Ad | apply Ab | apply Ac | refine Ak ?_ aZ.out) | exact HB.out)⟩⟩
        ·replace c9 := Bool.eq_false_iff.mpr c9
         subst c9
         have H1 := H
         rw [if_neg (show ¬ (false = true) by decide)] at H1
         clear H
         have H := H1
         clear H1
         obtain rfl := Option.some.inj H
         have bg : 0 ≤ (aa : Int) := of_decide_eq_true (by with_reducible assumption)
         have bh : aa < (l0.length : Int) := of_decide_eq_true (by with_reducible assumption)
         obtain ⟨cT, e102, aw, ax, ay, az⟩ := at_T58 HR0.out aa bg bh
         cases e102
         replace aw := (HB.out.cell (World.block_lt_of_cell? w _ aw)).trans aw
         replace ax := (HB.out.cell (World.block_lt_of_cell? w _ ax)).trans ax
         replace ay := (HB.out.cell (World.block_lt_of_cell? w _ ay)).trans ay
         replace az := (HB.out.cell (World.block_lt_of_cell? w _ az)).trans az
         replace bg := eq_true bg
         replace bh := eq_true bh
         go_wp2_with (first | ((with_reducible refine Bj (N := 4) rfl ?_); (try (refine Bu (by rfl) ?_; dsimp only)); refine B2 ?hg (N := 4) ?hd (cs := #[.int .i64 0, .int .i64 0, .int .i64 0, .int .i64 0]) (t := 58) ?hr ?_; (case hd => rfl); (case hg => rfl); (case hr => first | (go_simp; done) | (go_simp; rfl)); intro an hg w17 hbox hb; have n0_ := Aa.mk (Aj (lU HB.out) hb); have n1_ := Aa.mk (hbox); have n2_ := Aa.mk ((by rw [hg]; exact (Ae (lU HB.out)) : w.heap.size ≤ an)); have n3_ := Aa.mk ((by rw [hg]; exact (Ae (lU HB.out)) : w.heap.size ≤ an)); clear HB; have HB := n0_; have ah := n1_; have cU := n2_; have aZ := n3_; clear n0_ n1_ n2_ n3_; clear hb hbox hg; have ci : w17.cell? ⟨an, 0, none⟩ = some (.int .i64 0) := (Ai ah.out 0).trans rfl; have cj : w17.cell? ⟨an, 1, none⟩ = some (.int .i64 0) := (Ai ah.out 1).trans rfl; have cl : w17.cell? ⟨an, 2, none⟩ = some (.int .i64 0) := (Ai ah.out 2).trans rfl; have cn : w17.cell? ⟨an, 3, none⟩ = some (.int .i64 0) := (Ai ah.out 3).trans rfl; have co := Af ah.out 0; have cp := Af ah.out 1; have cq := Af ah.out 2; have ct := Af ah.out 3) | ((with_reducible refine Ap (f := 62) rfl ?_); refine Br (some 15) rfl rfl Try.func62 (by kernel_rfl) rfl #[.agg #[.int .i64 ((rd_T58 l0 aa).f0), .int .i64 ((rd_T58 l0 aa).f1), .int .i64 ((rd_T58 l0 aa).f2), .int .i64 ((rd_T58 l0 aa).f3)]] rfl (by (try simp only [List.map_toArray, List.map_cons, List.map_nil]); first | done | rfl | (simp only [List.length_drop, List.length_take]; rfl)) ?_; (with_reducible refine (Cb.calls ((rd_T58 l0 aa).f0) ((rd_T58 l0 aa).f1) ((rd_T58 l0 aa).f2) ((rd_T58 l0 aa).f3) true _ A6.out).mono ?_); rintro e w19 ⟨rfl, hb⟩; refine ⟨_, rfl, ?_⟩; have n0_ := Aa.mk (Bz (g := an) (o := .cells #[.int .i64 ((rd_T58 l0 aa).f0), .int .i64 ((rd_T58 l0 aa).f1), .int .i64 ((rd_T58 l0 aa).f2), .int .i64 ((rd_T58 l0 aa).f3)] 58 (0, 0)) (by (with_reducible repeat (first | refine Aq ?_ _ | refine Au ?_ | refine Ar ?_ _)); refine Bc (cs := #[.int .i64 ((rd_T58 l0 aa).f0), .int .i64 ((rd_T58 l0 aa).f1), .int .i64 ((rd_T58 l0 aa).f2), .int .i64 0]) ?_ 3 _ rfl; (with_reducible repeat (first | refine Aq ?_ _ | refine Au ?_ | refine Ar ?_ _)); refine Bc (cs := #[.int .i64 ((rd_T58 l0 aa).f0), .int .i64 ((rd_T58 l0 aa).f1), .int .i64 0, .int .i64 0]) ?_ 2 _ rfl; (with_reducible repeat (first | refine Aq ?_ _ | refine Au ?_ | refine Ar ?_ _)); refine Bc (cs := #[.int .i64 ((rd_T58 l0 aa).f0), .int .i64 0, .int .i64 0, .int .i64 0]) ?_ 1 _ rfl; (with_reducible repeat (first | refine Aq ?_ _ | refine Au ?_ | refine Ar ?_ _)); refine Bc (cs := #[.int .i64 0, .int .i64 0, .int .i64 0, .int .i64 0]) ?_ 0 _ rfl; exact bU <| ah.out) hb); have n1_ := Aa.mk (Aj (by repeat (first | (with_reducible first | exact HB.out | apply Ad | apply Ab | apply Ac | refine Ak ?_ aZ.out) | exact HB.out)) hb); clear ah; clear HB; have ah := n0_; have HB := n1_; clear n0_ n1_; (try clear hb); (try clear hb2); (try clear hk); (try clear hi); have cu : w19.cell? ⟨an, 0, none⟩ = some (.int .i64 ((rd_T58 l0 aa).f0)) := (Ai ah.out 0).trans rfl; have cv : w19.cell? ⟨an, 1, none⟩ = some (.int .i64 ((rd_T58 l0 aa).f1)) := (Ai ah.out 1).trans rfl; have cw : w19.cell? ⟨an, 2, none⟩ = some (.int .i64 ((rd_T58 l0 aa).f2)) := (Ai ah.out 2).trans rfl; have cx : w19.cell? ⟨an, 3, none⟩ = some (.int .i64 ((rd_T58 l0 aa).f3)) := (Ai ah.out 3).trans rfl; have cy := Af ah.out 0; have cz := Af ah.out 1; have cA := Af ah.out 2; have cB := Af ah.out 3) | ((with_reducible refine Bj (N := 25) rfl ?_); (try (refine Bu (by rfl) ?_; dsimp only)); refine Kd.Cx (Kd.int .i64) _ 3 ?hg (N := 25) ?hd (xs := ([(rd_T58 l0 aa).f0, (rd_T58 l0 aa).f1, (rd_T58 l0 aa).f2, (rd_T58 l0 aa).f3] : List Int)) (inner := [.int .i64 ((rd_T58 l0 aa).f0), .int .i64 ((rd_T58 l0 aa).f1), .int .i64 ((rd_T58 l0 aa).f2), .int .i64 ((rd_T58 l0 aa).f3)]) (ok := fun _ => True) (okp := fun _ => True) ?hr ?hp (fun _ hk => hk) trivial (Below.refl _ _) (Nat.le_refl _) (by simp) ?_; (case hd => rfl); (case hg => rfl); (case hr => first | (go_simp; done) | (go_simp; rfl)); (case hp => exact (Reps.one (show Kd.M (Kd.int .i64) _ _ _ ((rd_T58 l0 aa).f0) [.int .i64 ((rd_T58 l0 aa).f0)] from rfl) (Reps.one (show Kd.M (Kd.int .i64) _ _ _ ((rd_T58 l0 aa).f1) [.int .i64 ((rd_T58 l0 aa).f1)] from rfl) (Reps.one (show Kd.M (Kd.int .i64) _ _ _ ((rd_T58 l0 aa).f2) [.int .i64 ((rd_T58 l0 aa).f2)] from rfl) (Reps.one (show Kd.M (Kd.int .i64) _ _ _ ((rd_T58 l0 aa).f3) [.int .i64 ((rd_T58 l0 aa).f3)] from rfl) (Reps.none _ _)))))); intro v106 w21 ho22 hb hg_ hnew_; clear hg_ hnew_; (first | rw [← bD.out] at ho22 | (simp only [Int.reduceToNat] at ho22; rw [← bD.out] at ho22)); have n0_ := Aa.mk (Kd.Bt ho22 (Ae (by repeat (first | (with_reducible first | exact HB.out | apply Ad | apply Ab | apply Ac | refine Ak ?_ aZ.out) | exact HB.out)))); have n1_ := Aa.mk (Bz (g := an) (o := .cells #[.int .i64 ((rd_T58 l0 aa).f0), .int .i64 ((rd_T58 l0 aa).f1), .int .i64 ((rd_T58 l0 aa).f2), .int .i64 ((rd_T58 l0 aa).f3)] 58 (0, 0)) (by exact bU <| ah.out) hb); have n2_ := Aa.mk (Aj (by repeat (first | (with_reducible first | exact HB.out | apply Ad | apply Ab | apply Ac | refine Ak ?_ aZ.out) | exact HB.out)) hb); clear ah; clear HB; have bi := n0_; have ah := n1_; have HB := n2_; clear n0_ n1_ n2_; clear hb ho22; obtain ⟨cC, cD, cZ⟩ := Kd.Bk bi.out; subst cZ) | (go_at_call 70; (with_reducible refine (Ce.calls _ _ dj false _ ?side1 ?side2 A8.out).mono ?_); (case side1 => repeat (first | exact (Kd.As bi.out).2.2 | (with_reducible refine Kd.Bf ?_ _) | (with_reducible refine Kd.Be ?_ _) | (with_reducible refine Kd.Bn ?_))); (case side2 => exact (Kd.As bi.out).2.1); rintro e w' ⟨rfl, ⟨nd, rfl⟩⟩))
         go_ret
         exact ⟨by first | rfl | (simp [Aw, Av] <;> rfl) | (simp [*, Aw, Av] <;> rfl), by repeat (first | (with_reducible first | exact HB.out | apply Ad | apply Ab | apply Ac | refine Ak ?_ aZ.out) | exact HB.out)⟩
       ·replace c7 := Bool.eq_false_iff.mpr c7
        subst c7
        have H1 := H
        rw [if_neg (show ¬ (false = true) by decide)] at H1
        clear H
        have H := H1
        clear H1
        have H' := Aa.mk H
        clear H
        have bg : 0 ≤ (aa : Int) := of_decide_eq_true (by with_reducible assumption)
        have bh : aa < (l0.length : Int) := of_decide_eq_true (by with_reducible assumption)
        obtain ⟨cT, e102, aw, ax, ay, az⟩ := at_T58 HR0.out aa bg bh
        cases e102
        replace aw := (HB.out.cell (World.block_lt_of_cell? w _ aw)).trans aw
        replace ax := (HB.out.cell (World.block_lt_of_cell? w _ ax)).trans ax
        replace ay := (HB.out.cell (World.block_lt_of_cell? w _ ay)).trans ay
        replace az := (HB.out.cell (World.block_lt_of_cell? w _ az)).trans az
        replace bg := eq_true bg
        replace bh := eq_true bh
        go_wp2_with (first | ((with_reducible refine Bj (N := 4) rfl ?_); (try (refine Bu (by rfl) ?_; dsimp only)); refine B2 ?hg (N := 4) ?hd (cs := #[.int .i64 0, .int .i64 0, .int .i64 0, .int .i64 0]) (t := 58) ?hr ?_; (case hd => rfl); (case hg => rfl); (case hr => first | (go_simp; done) | (go_simp; rfl)); intro an hg w24 hbox hb; have n0_ := Aa.mk (Aj (lU HB.out) hb); have n1_ := Aa.mk (hbox); have n2_ := Aa.mk ((by rw [hg]; exact (Ae (lU HB.out)) : w.heap.size ≤ an)); have n3_ := Aa.mk ((by rw [hg]; exact (Ae (lU HB.out)) : w.heap.size ≤ an)); clear HB; have HB := n0_; have ah := n1_; have cU := n2_; have aZ := n3_; clear n0_ n1_ n2_ n3_; clear hb hbox hg; have cE : w24.cell? ⟨an, 0, none⟩ = some (.int .i64 0) := (Ai ah.out 0).trans rfl; have cF : w24.cell? ⟨an, 1, none⟩ = some (.int .i64 0) := (Ai ah.out 1).trans rfl; have cG : w24.cell? ⟨an, 2, none⟩ = some (.int .i64 0) := (Ai ah.out 2).trans rfl; have dK : w24.cell? ⟨an, 3, none⟩ = some (.int .i64 0) := (Ai ah.out 3).trans rfl; have cH := Af ah.out 0; have cI := Af ah.out 1; have cJ := Af ah.out 2; have dL := Af ah.out 3) | ((with_reducible refine Ap (f := 62) rfl ?_); refine Br (some 15) rfl rfl Try.func62 (by kernel_rfl) rfl #[.agg #[.int .i64 ((rd_T58 l0 aa).f0), .int .i64 ((rd_T58 l0 aa).f1), .int .i64 ((rd_T58 l0 aa).f2), .int .i64 ((rd_T58 l0 aa).f3)]] rfl (by (try simp only [List.map_toArray, List.map_cons, List.map_nil]); first | done | rfl | (simp only [List.length_drop, List.length_take]; rfl)) ?_; (with_reducible refine (Cb.calls ((rd_T58 l0 aa).f0) ((rd_T58 l0 aa).f1) ((rd_T58 l0 aa).f2) ((rd_T58 l0 aa).f3) false _ A6.out).mono ?_); rintro e w26 ⟨rfl, hb⟩; refine ⟨_, rfl, ?_⟩; have n0_ := Aa.mk (Bz (g := an) (o := .cells #[.int .i64 ((rd_T58 l0 aa).f0), .int .i64 ((rd_T58 l0 aa).f1), .int .i64 ((rd_T58 l0 aa).f2), .int .i64 ((rd_T58 l0 aa).f3)] 58 (0, 0)) (by (with_reducible repeat (first | refine Aq ?_ _ | refine Au ?_ | refine Ar ?_ _)); refine Bc (cs := #[.int .i64 ((rd_T58 l0 aa).f0), .int .i64 ((rd_T58 l0 aa).f1), .int .i64 ((rd_T58 l0 aa).f2), .int .i64 0]) ?_ 3 _ rfl; (with_reducible repeat (first | refine Aq ?_ _ | refine Au ?_ | refine Ar ?_ _)); refine Bc (cs := #[.int .i64 ((rd_T58 l0 aa).f0), .int .i64 ((rd_T58 l0 aa).f1), .int .i64 0, .int .i64 0]) ?_ 2 _ rfl; (with_reducible repeat (first | refine Aq ?_ _ | refine Au ?_ | refine Ar ?_ _)); refine Bc (cs := #[.int .i64 ((rd_T58 l0 aa).f0), .int .i64 0, .int .i64 0, .int .i64 0]) ?_ 1 _ rfl; (with_reducible repeat (first | refine Aq ?_ _ | refine Au ?_ | refine Ar ?_ _)); refine Bc (cs := #[.int .i64 0, .int .i64 0, .int .i64 0, .int .i64 0]) ?_ 0 _ rfl; exact bU <| ah.out) hb); have n1_ := Aa.mk (Aj (by repeat (first | (with_reducible first | exact HB.out | apply Ad | apply Ab | apply Ac | refine Ak ?_ aZ.out) | exact HB.out)) hb); clear ah; clear HB; have ah := n0_; have HB := n1_; clear n0_ n1_; (try clear hb); (try clear hb2); (try clear hk); (try clear hi)))
        go_roundg k1
        case measure => have := HK1.out; omega
        case rel => exact ⟨(wrap64 (aa + 1)), (by first | rfl | (simp; done) | (simp [*]; done)), H', ⟨by have := HK1.out; omega⟩, ⟨by repeat (first | (with_reducible first | exact HB.out | apply Ad | apply Ab | apply Ac | refine Ak ?_ aZ.out) | exact HB.out)⟩⟩
      ·rw [if_neg c5] at H
       exact absurd H (by simp)
     ·rw [if_neg c4] at H
      exact absurd H (by simp)
    ·rw [if_neg c3] at H
     have bQ : decide (aa < (l0.length : Int)) = false := decide_eq_false c3
     clear c3
     obtain rfl := Option.some.inj H
     go_wp2
     go_ret
     exact ⟨by first | rfl | (simp [Aw, Av] <;> rfl) | (simp [*, Aw, Av] <;> rfl), by repeat (first | (with_reducible first | exact HB.out | apply Ad | apply Ab | apply Ac) | exact HB.out)⟩

mutual
def Bh.l0 : Nat → List (S58) → Bool → List (S91) → Int → Int → Option ((List (S58)) × Int)
 | 0, _, _, _, _, _ => none
 | k + 1, x4, x5, x10, x11, x12 => if x12 < x11 then (if 0 ≤ x12 then (if x12 < (x10.length : Int) then (Bh.l1 k x4 x5 x10 x11 x12 ((rd_T91 x10 x12).f2) (((rd_T91 x10 x12).f2).length : Int) 0 ((rd_T91 x10 x12).f0) ((rd_T91 x10 x12).f1) ((rd_T91 x10 x12).f2)) else (none)) else (none)) else (if x5 = true then (some (([] : List (S58)), 60)) else (some (x4, 0)))
def Bh.l1 : Nat → List (S58) → Bool → List (S91) → Int → Int → List (S93) → Int → Int → Int → Int → List (S93) → Option ((List (S58)) × Int)
 | 0, _, _, _, _, _, _, _, _, _, _, _ => none
 | k + 1, x4, x5, x10, x11, x12, x17, x18, x19, a9, ba, bE => if x19 < x18 then (if 0 ≤ x19 then (if x19 < (x17.length : Int) then ((Ce.f (([(rd_T93 x17 x19).f0, (rd_T93 x17 x19).f1, a9, ba] : List Int))).bind fun da => (if da = true then (if (x4.length : Int) = 4096 then (Bh.l1 k x4 true x10 x11 x12 x17 x18 (wrap64 (x19 + 1)) a9 ba bE) else (if x4.length < 4398046511104 then (Bh.l1 k (x4 ++ [(⟨(rd_T93 x17 x19).f0, a9, (rd_T93 x17 x19).f1, ba⟩ : S58)]) x5 x10 x11 x12 x17 x18 (wrap64 (x19 + 1)) a9 ba bE) else (none))) else (some (([] : List (S58)), 61)))) else (none)) else (none)) else (Bh.l0 k x4 x5 x10 x11 (wrap64 (x12 + 1)))
end
def Bh.f (k : Nat) (l0 : List (S91)) : Option ((List (S58)) × Int) := Bh.l0 k ([] : List (S58)) false l0 (l0.length : Int) 0
set_option maxHeartbeats 8000000 in
set_option maxRecDepth 100000 in
theorem Bh.calls (k : Nat) (A0 : Option Addr) (c0 : Nat) (l0 : List (S91)) (r1 : List (S58)) (r2 : Int) (w : World) (hr0 : Kd.C k91 w A0 l0.length l0) (hc0 : l0.length ≤ c0) (h : Bh.f k l0 = some (r1, r2)) :
  Calls Try.prog 46 #[.slice A0 l0.length c0] w fun e w' => ∃ v0_ : Value, e = .returned (.tuple #[v0_, .int .i64 r2]) ∧ Kd.R k58 58 w' w.heap.size (fun _ => True) v0_ r1 ∧ Below w.heap.size w w' := by
 have hu91 := Try.underlying91
 have hu93 := Try.underlying93
 have hu58 := Try.underlying58
 have HR0 := Aa.mk hr0
 have HC0 := Aa.mk hc0
 clear hr0 hc0
 have HB := Aa.mk (Below.refl w.heap.size w)
 have H : (Bh.l0 k ([] : List (S58)) false l0 (l0.length : Int) 0) = some (r1, r2) := h
 clear h
 have H' := Aa.mk H
 clear H
 go_enter Try.func46, Try.ntmps46
 go_wp2
 go_loopg [4, 5, 12] k (fun kq v4 v5 v12 w' => ∃ (cK : List (S58)) (bS : Bool) (ab : Int), v5 = .bool bS ∧ v12 = .int .i64 ab ∧ Aa (Bh.l0 kq cK bS l0 (l0.length : Int) ab = some (r1, r2)) ∧ Aa (kq ≤ k) ∧ Aa (Kd.R k58 58 w' w.heap.size (fun _ => True) v4 cK) ∧ Aa (Below w.heap.size w w'))
 case atStart => exact ⟨(([] : List (S58))), (false), (0), (by first | rfl | (simp; done) | (simp [*]; done)), (by first | rfl | (simp; done) | (simp [*]; done)), H', ⟨Nat.le_refl _⟩, ⟨by first | exact Kd.C2 _ _ _ _ _ | exact Kd.N_nil _ _ _ _ _ | exact Kd.V_nil _ _ _ _ _ | exact Kd.Q_nil _ _ _ _ _ | exact Kd.S_nil _ _ _ _ _⟩, ⟨by repeat (first | (with_reducible first | exact HB.out | apply Ad | apply Ab | apply Ac) | exact HB.out)⟩⟩
 case round =>
  clear H'
  obtain ⟨cK, bS, ab, rfl, rfl, HA, HK1, av, HB⟩ := hrel
  cases gk with
  | zero => exact absurd HA.out (by simp [Bh.l0])
  | succ k1 =>
   have H := HA.out
   clear HA
   simp only [Bh.l0] at H
   by_cases c2 : ab < (l0.length : Int)
   ·rw [if_pos c2] at H
    have bn : decide (ab < (l0.length : Int)) = true := decide_eq_true c2
    clear c2
    by_cases c3 : 0 ≤ ab
    ·rw [if_pos c3] at H
     have bQ : decide (0 ≤ ab) = true := decide_eq_true c3
     clear c3
     by_cases c4 : ab < (l0.length : Int)
     ·rw [if_pos c4] at H
      have b4 : decide (ab < (l0.length : Int)) = true := decide_eq_true c4
      clear c4
      have H' := Aa.mk H
      clear H
      have cL : 0 ≤ (ab : Int) := of_decide_eq_true (by with_reducible assumption)
      have cM : ab < (l0.length : Int) := of_decide_eq_true (by with_reducible assumption)
      obtain ⟨fp, bT, ar, e109, bb, bc, be, bF, hi109_2⟩ := at_T91 HR0.out ab cL cM
      cases e109
      replace bb := (HB.out.cell (World.block_lt_of_cell? w _ bb)).trans bb
      replace bc := (HB.out.cell (World.block_lt_of_cell? w _ bc)).trans bc
      replace be := (HB.out.cell (World.block_lt_of_cell? w _ be)).trans be
      have bs := Aa.mk hi109_2
      have dM := Aa.mk bF
      clear hi109_2 bF
      replace cL := eq_true cL
      replace cM := eq_true cM
      go_wp2_with (first | ((with_reducible refine Bj (N := 7) rfl ?_); refine B2 ?hg (N := 7) ?hd (cs := #[.int .i64 0, .int .i64 0, .slice none 0 0]) (t := 91) ?hr ?_; (case hd => rfl); (case hg => rfl); (case hr => first | (go_simp; done) | (go_simp; rfl)); intro ai hg w5 hbox hb; have n0_ := Aa.mk (Kd.Bm (by exact rU <| av.out) hb); have n1_ := Aa.mk (Aj (lU HB.out) hb); have n2_ := Aa.mk (hbox); have n3_ := Aa.mk ((by rw [hg]; exact (Ae (lU HB.out)) : w.heap.size ≤ ai)); have n4_ := Aa.mk ((by rw [hg]; exact (Ae (lU HB.out)) : w.heap.size ≤ ai)); clear av; clear HB; have av := n0_; have HB := n1_; have ag := n2_; have fq := n3_; have au := n4_; clear n0_ n1_ n2_ n3_ n4_; clear hb hbox hg; have bK : w5.cell? ⟨ai, 0, none⟩ = some (.int .i64 0) := (Ai ag.out 0).trans rfl; have bL : w5.cell? ⟨ai, 1, none⟩ = some (.int .i64 0) := (Ai ag.out 1).trans rfl; have bM : w5.cell? ⟨ai, 2, none⟩ = some (.slice none 0 0) := (Ai ag.out 2).trans rfl; have bN := Af ag.out 0; have bO := Af ag.out 1; have bP := Af ag.out 2))
      go_loopg [4, 5, 19] k1 (fun kq v4 v5 v19 w' => ∃ (a5 : List (S58)) (bV : Bool) (af : Int), v5 = .bool bV ∧ v19 = .int .i64 af ∧ Aa (Bh.l1 kq a5 bV l0 (l0.length : Int) ab ((rd_T91 l0 ab).f2) (((rd_T91 l0 ab).f2).length : Int) af ((rd_T91 l0 ab).f0) ((rd_T91 l0 ab).f1) ((rd_T91 l0 ab).f2) = some (r1, r2)) ∧ Aa (kq ≤ k1) ∧ Aa (Kd.R k58 58 w' w.heap.size (fun _ => True) v4 a5) ∧ Aa (w'.heap[ai]? = some (.cells #[.int .i64 ((rd_T91 l0 ab).f0), .int .i64 ((rd_T91 l0 ab).f1), (.slice bT ((rd_T91 l0 ab).f2).length ar)] 91 (0, 0))) ∧ Aa (Below w.heap.size w w'))
      case atStart => exact ⟨(cK), (bS), (0), (by first | rfl | (simp; done) | (simp [*]; done)), (by first | rfl | (simp; done) | (simp [*]; done)), H', ⟨Nat.le_refl _⟩, ⟨by exact rU <| Kd.Bb (Kd.B3 (p := ⟨ai, 2, none⟩) (Kd.B3 (p := ⟨ai, 1, none⟩) (Kd.B3 (p := ⟨ai, 0, none⟩) (Kd.C3 av.out ag.out (by decide)) (fun _ hk => hk.2) (.int .i64 ((rd_T91 l0 ab).f0))) (fun _ hk => hk.2) (.int .i64 ((rd_T91 l0 ab).f1))) (fun _ hk => hk.2) (.slice bT ((rd_T91 l0 ab).f2).length ar)) (fun _ hk => trivial)⟩, ⟨by (with_reducible repeat (first | refine Aq ?_ _ | refine Au ?_ | refine Ar ?_ _)); refine Bc (cs := #[.int .i64 ((rd_T91 l0 ab).f0), .int .i64 ((rd_T91 l0 ab).f1), .slice none 0 0]) ?_ 2 _ rfl; (with_reducible repeat (first | refine Aq ?_ _ | refine Au ?_ | refine Ar ?_ _)); refine Bc (cs := #[.int .i64 ((rd_T91 l0 ab).f0), .int .i64 0, .slice none 0 0]) ?_ 1 _ rfl; (with_reducible repeat (first | refine Aq ?_ _ | refine Au ?_ | refine Ar ?_ _)); refine Bc (cs := #[.int .i64 0, .int .i64 0, .slice none 0 0]) ?_ 0 _ rfl; exact bU <| ag.out⟩, ⟨by repeat (first | (with_reducible first | exact HB.out | apply Ad | apply Ab | apply Ac | refine Ak ?_ au.out) | exact HB.out)⟩⟩
      case round =>
       clear H'
       try clear c1
       try clear p1
       try clear q1
       try clear hx1
       try clear c2
       try clear bn
       try clear p2
       try clear c3
       try clear bQ
       try clear c4
       try clear b4
       try clear bK
       try clear bL
       try clear bM
       try clear bN
       try clear bO
       try clear bP
       try clear bb
       try clear bc
       try clear be
       try clear cL
       try clear cM
       obtain ⟨a5, bV, af, rfl, rfl, HA, HK2, av, ag, HB⟩ := hrel
       cases gk with
       | zero => exact absurd HA.out (by simp [Bh.l1])
       | succ k2 =>
        have H := HA.out
        clear HA
        simp only [Bh.l1] at H
        by_cases c7 : af < (((rd_T91 l0 ab).f2).length : Int)
        ·rw [if_pos c7] at H
         have dc : decide (af < (((rd_T91 l0 ab).f2).length : Int)) = true := decide_eq_true c7
         clear c7
         by_cases c8 : 0 ≤ af
         ·rw [if_pos c8] at H
          have eX : decide (0 ≤ af) = true := decide_eq_true c8
          clear c8
          by_cases c9 : af < (((rd_T91 l0 ab).f2).length : Int)
          ·rw [if_pos c9] at H
           have fD : decide (af < (((rd_T91 l0 ab).f2).length : Int)) = true := decide_eq_true c9
           clear c9
           obtain ⟨bI, bW⟩ : ∃ y_ : List Int, y_ = (([(rd_T93 ((rd_T91 l0 ab).f2) af).f0, (rd_T93 ((rd_T91 l0 ab).f2) af).f1, ((rd_T91 l0 ab).f0), ((rd_T91 l0 ab).f1)] : List Int)) := ⟨_, rfl⟩
           (try rw [Option.bind_some] at H); try rw [← bW] at H
           have bo := Aa.mk bW
           clear bW
           replace H := Option.bind_eq_some_iff.mp H
           obtain ⟨da, A100, H⟩ := H
           try dsimp only at H
           have A10 := Aa.mk A100
           clear A100
           by_cases c11 : da = true
           ·subst c11
            have H1 := H
            rw [if_pos rfl] at H1
            clear H
            have H := H1
            clear H1
            by_cases c12 : (a5.length : Int) = 4096
            ·rw [if_pos c12] at H
             have dk : ((a5.length : Int) == 4096) = true := beq_iff_eq.mpr c12
             have dl : ((a5.length : Int) != 4096) = false := bne_eq_false_iff_eq.mpr c12
             clear c12
             have H' := Aa.mk H
             clear H
             have bj : 0 ≤ (af : Int) := of_decide_eq_true (by with_reducible assumption)
             have bk : af < (((rd_T91 l0 ab).f2).length : Int) := of_decide_eq_true (by with_reducible assumption)
             obtain ⟨aA, e111, aC, aD⟩ := at_T93 bs.out af bj bk
             cases e111
             replace aC := (HB.out.cell (World.block_lt_of_cell? w _ aC)).trans aC
             replace aD := (HB.out.cell (World.block_lt_of_cell? w _ aD)).trans aD
             replace bj := eq_true bj
             replace bk := eq_true bk
             go_wp2_with (first | ((with_reducible refine Bj (N := 9) rfl ?_); refine B2 ?hg (N := 9) ?hd (cs := #[.int .i64 0, .int .i64 0]) (t := 93) ?hr ?_; (case hd => rfl); (case hg => rfl); (case hr => first | (go_simp; done) | (go_simp; rfl)); intro ao hg w13 hbox hb; have n0_ := Aa.mk (Kd.Bm (by exact rU <| av.out) hb); have n1_ := Aa.mk (Bz (g := ai) (o := .cells #[.int .i64 ((rd_T91 l0 ab).f0), .int .i64 ((rd_T91 l0 ab).f1), .slice (some aA) ((rd_T91 l0 ab).f2).length ar] 91 (0, 0)) (by exact bU <| ag.out) hb); have n2_ := Aa.mk (Aj (by repeat (first | (with_reducible first | exact HB.out | apply Ad | apply Ab | apply Ac | refine Ak ?_ au.out) | exact HB.out)) hb); have n3_ := Aa.mk (hbox); have n4_ := Aa.mk ((by rw [hg]; exact (Ae (by repeat (first | (with_reducible first | exact HB.out | apply Ad | apply Ab | apply Ac | refine Ak ?_ au.out) | exact HB.out))) : w.heap.size ≤ ao)); have n5_ := Aa.mk ((by rw [hg]; exact (Ae (by repeat (first | (with_reducible first | exact HB.out | apply Ad | apply Ab | apply Ac | refine Ak ?_ au.out) | exact HB.out))) : w.heap.size ≤ ao)); have n6_ := Aa.mk ((by rw [hg]; exact Nat.ne_of_lt (Cz (g := ai) (o := .cells #[.int .i64 ((rd_T91 l0 ab).f0), .int .i64 ((rd_T91 l0 ab).f1), .slice (some aA) ((rd_T91 l0 ab).f2).length ar] 91 (0, 0)) (by exact bU <| ag.out)) : ai ≠ ao)); have n7_ := Aa.mk ((by rw [hg]; exact Nat.ne_of_gt (Cz (g := ai) (o := .cells #[.int .i64 ((rd_T91 l0 ab).f0), .int .i64 ((rd_T91 l0 ab).f1), .slice (some aA) ((rd_T91 l0 ab).f2).length ar] 91 (0, 0)) (by exact bU <| ag.out)) : ao ≠ ai)); clear av; clear ag; clear HB; have av := n0_; have ag := n1_; have HB := n2_; have al := n3_; have cV := n4_; have aK := n5_; have aq := n6_; have aM := n7_; clear n0_ n1_ n2_ n3_ n4_ n5_ n6_ n7_; clear hb hbox hg; have ft := aM.out; have fu := aq.out; have cN : w13.cell? ⟨ao, 0, none⟩ = some (.int .i64 0) := (Ai al.out 0).trans rfl; have cO : w13.cell? ⟨ao, 1, none⟩ = some (.int .i64 0) := (Ai al.out 1).trans rfl; have cP := Af al.out 0; have cQ := Af al.out 1; have dN : w13.cell? ⟨ai, 0, none⟩ = some (.int .i64 ((rd_T91 l0 ab).f0)) := (Ai ag.out 0).trans rfl; have dO : w13.cell? ⟨ai, 1, none⟩ = some (.int .i64 ((rd_T91 l0 ab).f1)) := (Ai ag.out 1).trans rfl; have dP : w13.cell? ⟨ai, 2, none⟩ = some (.slice (some aA) ((rd_T91 l0 ab).f2).length ar) := (Ai ag.out 2).trans rfl; have dQ := Af ag.out 0; have dR := Af ag.out 1; have dS := Af ag.out 2) | ((with_reducible refine Bj (N := 31) rfl ?_); refine Kd.Cx (Kd.int .i64) _ 3 ?hg (N := 31) ?hd (xs := ([(rd_T93 ((rd_T91 l0 ab).f2) af).f0, (rd_T93 ((rd_T91 l0 ab).f2) af).f1, ((rd_T91 l0 ab).f0), ((rd_T91 l0 ab).f1)] : List Int)) (inner := [.int .i64 ((rd_T93 ((rd_T91 l0 ab).f2) af).f0), .int .i64 ((rd_T93 ((rd_T91 l0 ab).f2) af).f1), .int .i64 ((rd_T91 l0 ab).f0), .int .i64 ((rd_T91 l0 ab).f1)]) (ok := fun _ => True) (okp := fun _ => True) ?hr ?hp (fun _ hk => hk) trivial (Below.refl _ _) (Nat.le_refl _) (by simp) ?_; (case hd => rfl); (case hg => rfl); (case hr => first | (go_simp; done) | (go_simp; rfl)); (case hp => exact (Reps.one (show Kd.M (Kd.int .i64) _ _ _ ((rd_T93 ((rd_T91 l0 ab).f2) af).f0) [.int .i64 ((rd_T93 ((rd_T91 l0 ab).f2) af).f0)] from rfl) (Reps.one (show Kd.M (Kd.int .i64) _ _ _ ((rd_T93 ((rd_T91 l0 ab).f2) af).f1) [.int .i64 ((rd_T93 ((rd_T91 l0 ab).f2) af).f1)] from rfl) (Reps.one (show Kd.M (Kd.int .i64) _ _ _ ((rd_T91 l0 ab).f0) [.int .i64 ((rd_T91 l0 ab).f0)] from rfl) (Reps.one (show Kd.M (Kd.int .i64) _ _ _ ((rd_T91 l0 ab).f1) [.int .i64 ((rd_T91 l0 ab).f1)] from rfl) (Reps.none _ _)))))); intro v114 w17 ho18 hb hg_ hnew_; clear hg_ hnew_; (first | rw [← bo.out] at ho18 | (simp only [Int.reduceToNat] at ho18; rw [← bo.out] at ho18)); have n0_ := Aa.mk (Kd.Bm (by exact rU <| (Kd.Bb (Kd.B3 (p := ⟨ao, 1, none⟩) (Kd.B3 (p := ⟨ao, 0, none⟩) (Kd.C3 av.out al.out (by decide)) (fun _ hk => hk.2) (.int .i64 ((rd_T93 ((rd_T91 l0 ab).f2) af).f0))) (fun _ hk => hk.2) (.int .i64 ((rd_T93 ((rd_T91 l0 ab).f2) af).f1))) (fun _ h_ => h_.1))) hb); have n1_ := Aa.mk (Kd.Bt ho18 (Ae (by repeat (first | (with_reducible first | exact HB.out | apply Ad | apply Ab | apply Ac | refine Ak ?_ au.out | refine Ak ?_ aK.out) | exact HB.out)))); have n2_ := Aa.mk (Bz (g := ai) (o := .cells #[.int .i64 ((rd_T91 l0 ab).f0), .int .i64 ((rd_T91 l0 ab).f1), .slice (some aA) ((rd_T91 l0 ab).f2).length ar] 91 (0, 0)) (by (with_reducible repeat (first | refine Aq ?_ _ | refine Au ?_ | refine Ar ?_ _)); refine blk_far ?_ aq.out _; (with_reducible repeat (first | refine Aq ?_ _ | refine Au ?_ | refine Ar ?_ _)); refine blk_far ?_ aq.out _; exact bU <| ag.out) hb); have n3_ := Aa.mk (Bz (g := ao) (o := .cells #[.int .i64 ((rd_T93 ((rd_T91 l0 ab).f2) af).f0), .int .i64 ((rd_T93 ((rd_T91 l0 ab).f2) af).f1)] 93 (0, 0)) (by (with_reducible repeat (first | refine Aq ?_ _ | refine Au ?_ | refine Ar ?_ _)); refine Bc (cs := #[.int .i64 ((rd_T93 ((rd_T91 l0 ab).f2) af).f0), .int .i64 0]) ?_ 1 _ rfl; (with_reducible repeat (first | refine Aq ?_ _ | refine Au ?_ | refine Ar ?_ _)); refine Bc (cs := #[.int .i64 0, .int .i64 0]) ?_ 0 _ rfl; exact bU <| al.out) hb); have n4_ := Aa.mk (Aj (by repeat (first | (with_reducible first | exact HB.out | apply Ad | apply Ab | apply Ac | refine Ak ?_ au.out | refine Ak ?_ aK.out) | exact HB.out)) hb); clear av; clear ag; clear al; clear HB; have av := n0_; have aI := n1_; have ag := n2_; have al := n3_; have HB := n4_; clear n0_ n1_ n2_ n3_ n4_; clear hb ho18; obtain ⟨eY, eZ, e4⟩ := Kd.Bk aI.out; subst e4) | ((with_reducible refine Ap (f := 70) rfl ?_); refine Br (some 32) rfl rfl Try.func70 (by kernel_rfl) rfl #[.slice eY bI.length eZ] rfl (by (try simp only [List.map_toArray, List.map_cons, List.map_nil]); first | done | rfl | (simp only [List.length_drop, List.length_take]; rfl)) ?_; (with_reducible refine (Ce.calls _ _ bI true _ ?side1 ?side2 A10.out).mono ?_); (case side1 => repeat (first | exact (Kd.As aI.out).2.2 | (with_reducible refine Kd.Bf ?_ _) | (with_reducible refine Kd.Be ?_ _) | (with_reducible refine Kd.Bn ?_))); (case side2 => exact (Kd.As aI.out).2.1); rintro e w' ⟨rfl, ⟨nd, rfl⟩⟩; refine ⟨_, rfl, ?_⟩; obtain ⟨fE, fF, e5⟩ := Kd.Bk av.out; subst e5))
             go_roundg k2
             case measure => have := HK1.out; have := HK2.out; omega
             case rel => exact ⟨(a5), (true), (wrap64 (af + 1)), (by first | rfl | (simp; done) | (simp [*]; done)), (by first | rfl | (simp; done) | (simp [*]; done)), H', ⟨by have := HK1.out; have := HK2.out; omega⟩, ⟨by exact rU <| av.out⟩, ⟨by exact bU <| ag.out⟩, ⟨by repeat (first | (with_reducible first | exact HB.out | apply Ad | apply Ab | apply Ac | refine Ak ?_ au.out | refine Ak ?_ aK.out) | exact HB.out)⟩⟩
            ·rw [if_neg c12] at H
             have dk : ((a5.length : Int) == 4096) = false := beq_eq_false_iff_ne.mpr c12
             have dl : ((a5.length : Int) != 4096) = true := bne_iff_ne.mpr c12
             by_cases c21 : a5.length < 4398046511104
             ·rw [if_pos c21] at H
              have LMc21 := Aa.mk c21
              clear c21
              obtain ⟨e6, bX⟩ : ∃ y_ : List (S58), y_ = (a5 ++ [(⟨(rd_T93 ((rd_T91 l0 ab).f2) af).f0, ((rd_T91 l0 ab).f0), (rd_T93 ((rd_T91 l0 ab).f2) af).f1, ((rd_T91 l0 ab).f1)⟩ : S58)]) := ⟨_, rfl⟩
              (try rw [Option.bind_some] at H); try rw [← bX] at H
              have dm := Aa.mk bX
              clear bX
              have H' := Aa.mk H
              clear H
              have bj : 0 ≤ (af : Int) := of_decide_eq_true (by with_reducible assumption)
              have bk : af < (((rd_T91 l0 ab).f2).length : Int) := of_decide_eq_true (by with_reducible assumption)
              obtain ⟨aA, e111, aC, aD⟩ := at_T93 bs.out af bj bk
              cases e111
              replace aC := (HB.out.cell (World.block_lt_of_cell? w _ aC)).trans aC
              replace aD := (HB.out.cell (World.block_lt_of_cell? w _ aD)).trans aD
              replace bj := eq_true bj
              replace bk := eq_true bk
              go_wp2_with (first | ((with_reducible refine Bj (N := 9) rfl ?_); refine B2 ?hg (N := 9) ?hd (cs := #[.int .i64 0, .int .i64 0]) (t := 93) ?hr ?_; (case hd => rfl); (case hg => rfl); (case hr => first | (go_simp; done) | (go_simp; rfl)); intro ao hg w22 hbox hb; have n0_ := Aa.mk (Kd.Bm (by exact rU <| av.out) hb); have n1_ := Aa.mk (Bz (g := ai) (o := .cells #[.int .i64 ((rd_T91 l0 ab).f0), .int .i64 ((rd_T91 l0 ab).f1), .slice (some aA) ((rd_T91 l0 ab).f2).length ar] 91 (0, 0)) (by exact bU <| ag.out) hb); have n2_ := Aa.mk (Aj (by repeat (first | (with_reducible first | exact HB.out | apply Ad | apply Ab | apply Ac | refine Ak ?_ au.out) | exact HB.out)) hb); have n3_ := Aa.mk (hbox); have n4_ := Aa.mk ((by rw [hg]; exact (Ae (by repeat (first | (with_reducible first | exact HB.out | apply Ad | apply Ab | apply Ac | refine Ak ?_ au.out) | exact HB.out))) : w.heap.size ≤ ao)); have n5_ := Aa.mk ((by rw [hg]; exact (Ae (by repeat (first | (with_reducible first | exact HB.out | apply Ad | apply Ab | apply Ac | refine Ak ?_ au.out) | exact HB.out))) : w.heap.size ≤ ao)); have n6_ := Aa.mk ((by rw [hg]; exact Nat.ne_of_lt (Cz (g := ai) (o := .cells #[.int .i64 ((rd_T91 l0 ab).f0), .int .i64 ((rd_T91 l0 ab).f1), .slice (some aA) ((rd_T91 l0 ab).f2).length ar] 91 (0, 0)) (by exact bU <| ag.out)) : ai ≠ ao)); have n7_ := Aa.mk ((by rw [hg]; exact Nat.ne_of_gt (Cz (g := ai) (o := .cells #[.int .i64 ((rd_T91 l0 ab).f0), .int .i64 ((rd_T91 l0 ab).f1), .slice (some aA) ((rd_T91 l0 ab).f2).length ar] 91 (0, 0)) (by exact bU <| ag.out)) : ao ≠ ai)); clear av; clear ag; clear HB; have av := n0_; have ag := n1_; have HB := n2_; have al := n3_; have cV := n4_; have aK := n5_; have aq := n6_; have aM := n7_; clear n0_ n1_ n2_ n3_ n4_ n5_ n6_ n7_; clear hb hbox hg; have fw := aM.out; have fx := aq.out; have dT : w22.cell? ⟨ao, 0, none⟩ = some (.int .i64 0) := (Ai al.out 0).trans rfl; have dU : w22.cell? ⟨ao, 1, none⟩ = some (.int .i64 0) := (Ai al.out 1).trans rfl; have dV := Af al.out 0; have dW := Af al.out 1; have cE : w22.cell? ⟨ai, 0, none⟩ = some (.int .i64 ((rd_T91 l0 ab).f0)) := (Ai ag.out 0).trans rfl; have cF : w22.cell? ⟨ai, 1, none⟩ = some (.int .i64 ((rd_T91 l0 ab).f1)) := (Ai ag.out 1).trans rfl; have cG : w22.cell? ⟨ai, 2, none⟩ = some (.slice (some aA) ((rd_T91 l0 ab).f2).length ar) := (Ai ag.out 2).trans rfl; have cH := Af ag.out 0; have cI := Af ag.out 1; have cJ := Af ag.out 2) | ((with_reducible refine Bj (N := 31) rfl ?_); refine Kd.Cx (Kd.int .i64) _ 3 ?hg (N := 31) ?hd (xs := ([(rd_T93 ((rd_T91 l0 ab).f2) af).f0, (rd_T93 ((rd_T91 l0 ab).f2) af).f1, ((rd_T91 l0 ab).f0), ((rd_T91 l0 ab).f1)] : List Int)) (inner := [.int .i64 ((rd_T93 ((rd_T91 l0 ab).f2) af).f0), .int .i64 ((rd_T93 ((rd_T91 l0 ab).f2) af).f1), .int .i64 ((rd_T91 l0 ab).f0), .int .i64 ((rd_T91 l0 ab).f1)]) (ok := fun _ => True) (okp := fun _ => True) ?hr ?hp (fun _ hk => hk) trivial (Below.refl _ _) (Nat.le_refl _) (by simp) ?_; (case hd => rfl); (case hg => rfl); (case hr => first | (go_simp; done) | (go_simp; rfl)); (case hp => exact (Reps.one (show Kd.M (Kd.int .i64) _ _ _ ((rd_T93 ((rd_T91 l0 ab).f2) af).f0) [.int .i64 ((rd_T93 ((rd_T91 l0 ab).f2) af).f0)] from rfl) (Reps.one (show Kd.M (Kd.int .i64) _ _ _ ((rd_T93 ((rd_T91 l0 ab).f2) af).f1) [.int .i64 ((rd_T93 ((rd_T91 l0 ab).f2) af).f1)] from rfl) (Reps.one (show Kd.M (Kd.int .i64) _ _ _ ((rd_T91 l0 ab).f0) [.int .i64 ((rd_T91 l0 ab).f0)] from rfl) (Reps.one (show Kd.M (Kd.int .i64) _ _ _ ((rd_T91 l0 ab).f1) [.int .i64 ((rd_T91 l0 ab).f1)] from rfl) (Reps.none _ _)))))); intro v114 w26 ho27 hb hg_ hnew_; clear hg_ hnew_; (first | rw [← bo.out] at ho27 | (simp only [Int.reduceToNat] at ho27; rw [← bo.out] at ho27)); have n0_ := Aa.mk (Kd.Bm (by exact rU <| (Kd.Bb (Kd.B3 (p := ⟨ao, 1, none⟩) (Kd.B3 (p := ⟨ao, 0, none⟩) (Kd.C3 av.out al.out (by decide)) (fun _ hk => hk.2) (.int .i64 ((rd_T93 ((rd_T91 l0 ab).f2) af).f0))) (fun _ hk => hk.2) (.int .i64 ((rd_T93 ((rd_T91 l0 ab).f2) af).f1))) (fun _ h_ => h_.1))) hb); have n1_ := Aa.mk (Kd.Bt ho27 (Ae (by repeat (first | (with_reducible first | exact HB.out | apply Ad | apply Ab | apply Ac | refine Ak ?_ au.out | refine Ak ?_ aK.out) | exact HB.out)))); have n2_ := Aa.mk (Bz (g := ai) (o := .cells #[.int .i64 ((rd_T91 l0 ab).f0), .int .i64 ((rd_T91 l0 ab).f1), .slice (some aA) ((rd_T91 l0 ab).f2).length ar] 91 (0, 0)) (by (with_reducible repeat (first | refine Aq ?_ _ | refine Au ?_ | refine Ar ?_ _)); refine blk_far ?_ aq.out _; (with_reducible repeat (first | refine Aq ?_ _ | refine Au ?_ | refine Ar ?_ _)); refine blk_far ?_ aq.out _; exact bU <| ag.out) hb); have n3_ := Aa.mk (Bz (g := ao) (o := .cells #[.int .i64 ((rd_T93 ((rd_T91 l0 ab).f2) af).f0), .int .i64 ((rd_T93 ((rd_T91 l0 ab).f2) af).f1)] 93 (0, 0)) (by (with_reducible repeat (first | refine Aq ?_ _ | refine Au ?_ | refine Ar ?_ _)); refine Bc (cs := #[.int .i64 ((rd_T93 ((rd_T91 l0 ab).f2) af).f0), .int .i64 0]) ?_ 1 _ rfl; (with_reducible repeat (first | refine Aq ?_ _ | refine Au ?_ | refine Ar ?_ _)); refine Bc (cs := #[.int .i64 0, .int .i64 0]) ?_ 0 _ rfl; exact bU <| al.out) hb); have n4_ := Aa.mk (Aj (by repeat (first | (with_reducible first | exact HB.out | apply Ad | apply Ab | apply Ac | refine Ak ?_ au.out | refine Ak ?_ aK.out) | exact HB.out)) hb); clear av; clear ag; clear al; clear HB; have av := n0_; have aI := n1_; have ag := n2_; have al := n3_; have HB := n4_; clear n0_ n1_ n2_ n3_ n4_; clear hb ho27; obtain ⟨e7, e8, e9⟩ := Kd.Bk aI.out; subst e9) | ((with_reducible refine Ap (f := 70) rfl ?_); refine Br (some 32) rfl rfl Try.func70 (by kernel_rfl) rfl #[.slice e7 bI.length e8] rfl (by (try simp only [List.map_toArray, List.map_cons, List.map_nil]); first | done | rfl | (simp only [List.length_drop, List.length_take]; rfl)) ?_; (with_reducible refine (Ce.calls _ _ bI true _ ?side1 ?side2 A10.out).mono ?_); (case side1 => repeat (first | exact (Kd.As aI.out).2.2 | (with_reducible refine Kd.Bf ?_ _) | (with_reducible refine Kd.Be ?_ _) | (with_reducible refine Kd.Bn ?_))); (case side2 => exact (Kd.As aI.out).2.1); rintro e w' ⟨rfl, ⟨nd, rfl⟩⟩; refine ⟨_, rfl, ?_⟩; obtain ⟨fa, fb, fc⟩ := Kd.Bk av.out; subst fc; have dX : w26.cell? ⟨ao, 0, none⟩ = some (.int .i64 ((rd_T93 ((rd_T91 l0 ab).f2) af).f0)) := (Ai al.out 0).trans rfl; have dY : w26.cell? ⟨ao, 1, none⟩ = some (.int .i64 ((rd_T93 ((rd_T91 l0 ab).f2) af).f1)) := (Ai al.out 1).trans rfl; have dZ := Af al.out 0; have d5 := Af al.out 1; have d6 : w26.cell? ⟨ai, 0, none⟩ = some (.int .i64 ((rd_T91 l0 ab).f0)) := (Ai ag.out 0).trans rfl; have d7 : w26.cell? ⟨ai, 1, none⟩ = some (.int .i64 ((rd_T91 l0 ab).f1)) := (Ai ag.out 1).trans rfl; have d8 : w26.cell? ⟨ai, 2, none⟩ = some (.slice (some aA) ((rd_T91 l0 ab).f2).length ar) := (Ai ag.out 2).trans rfl; have d9 := Af ag.out 0; have ec := Af ag.out 1; have ed := Af ag.out 2) | ((with_reducible refine B5 (b := .append) (xs := #[.tmp 37, .tmp 47]) rfl ?_); at_builtin; refine Kd.Cy k58 (w0 := w) w.heap.size rfl (.tmp 37) (.tmp 47) 22 58 (.agg #[(.int .i64 0), (.int .i64 0), (.int .i64 0), (.int .i64 0)]) 32 rfl Try.underlying22 info58 rfl (by decide) (by omega) (.slice fa a5.length fb) a5 (⟨(rd_T93 ((rd_T91 l0 ab).f2) af).f0, ((rd_T91 l0 ab).f0), (rd_T93 ((rd_T91 l0 ab).f2) af).f1, ((rd_T91 l0 ab).f1)⟩ : S58) [.int .i64 ((rd_T93 ((rd_T91 l0 ab).f2) af).f0), .int .i64 ((rd_T91 l0 ab).f0), .int .i64 ((rd_T93 ((rd_T91 l0 ab).f2) af).f1), .int .i64 ((rd_T91 l0 ab).f1)] (fun _ => True) (fun _ => False) rfl rfl ?aP (fun _ hk => hk.elim) ?aF ?aO ?aB ?aS ?aL ?_; (case aP => exact k58_mkM _ _ _ (⟨(rd_T93 ((rd_T91 l0 ab).f2) af).f0, ((rd_T91 l0 ab).f0), (rd_T93 ((rd_T91 l0 ab).f2) af).f1, ((rd_T91 l0 ab).f1)⟩ : S58)); (case aB => exact (by repeat (first | (with_reducible first | exact HB.out | apply Ad | apply Ab | apply Ac | refine Ak ?_ au.out | refine Ak ?_ aK.out) | exact HB.out))); (case aF => exact (fun _ _ => trivial)); (case aO => exact (by exact rU <| av.out)); (case aS => exact (Ae (by repeat (first | (with_reducible first | exact HB.out | apply Ad | apply Ab | apply Ac | refine Ak ?_ au.out | refine Ak ?_ aK.out) | exact HB.out)))); (case aL => have := LMc21.out; omega); intro v118 w32 ho hb hg hat; rw [← dm.out] at ho; have n0_ := Aa.mk (Ck (g := ai) (o := .cells #[.int .i64 ((rd_T91 l0 ab).f0), .int .i64 ((rd_T91 l0 ab).f1), .slice (some aA) ((rd_T91 l0 ab).f2).length ar] 91 (0, 0)) (by exact bU <| ag.out) hg (Kd.R_ne av.out ag.out (by decide))); have n1_ := Aa.mk (Ck (g := ao) (o := .cells #[.int .i64 ((rd_T93 ((rd_T91 l0 ab).f2) af).f0), .int .i64 ((rd_T93 ((rd_T91 l0 ab).f2) af).f1)] 93 (0, 0)) (by exact bU <| al.out) hg (Kd.R_ne av.out al.out (by decide))); have n2_ := Aa.mk (Kd.Cu (by exact rU <| aI.out) (Kd.Cj (by exact rU <| av.out)) (by decide) hg); have n3_ := Aa.mk (hb); have n4_ := Aa.mk (ho); clear ag; clear al; clear aI; clear HB; clear av; have ag := n0_; have al := n1_; have aI := n2_; have HB := n3_; have dn := n4_; clear n0_ n1_ n2_ n3_ n4_; clear ho hb hg hat))
              go_roundg k2
              case measure => have := HK1.out; have := HK2.out; omega
              case rel => exact ⟨(e6), (bV), (wrap64 (af + 1)), (by first | rfl | (simp; done) | (simp [*]; done)), (by first | rfl | (simp; done) | (simp [*]; done)), H', ⟨by have := HK1.out; have := HK2.out; omega⟩, ⟨by exact rU <| dn.out⟩, ⟨by exact bU <| ag.out⟩, ⟨by repeat (first | (with_reducible first | exact HB.out | apply Ad | apply Ab | apply Ac | refine Ak ?_ au.out | refine Ak ?_ aK.out) | exact HB.out)⟩⟩
             ·rw [if_neg c21] at H
              exact absurd H (by simp)
           ·replace c11 := Bool.eq_false_iff.mpr c11
            subst c11
            have H1 := H
            rw [if_neg (show ¬ (false = true) by decide)] at H1
            clear H
            have H := H1
            clear H1
            simp only [Option.some.injEq, Prod.mk.injEq] at H
            obtain ⟨rfl, rfl⟩ := H
            have bj : 0 ≤ (af : Int) := of_decide_eq_true (by with_reducible assumption)
            have bk : af < (((rd_T91 l0 ab).f2).length : Int) := of_decide_eq_true (by with_reducible assumption)
            obtain ⟨aA, e111, aC, aD⟩ := at_T93 bs.out af bj bk
            cases e111
            replace aC := (HB.out.cell (World.block_lt_of_cell? w _ aC)).trans aC
            replace aD := (HB.out.cell (World.block_lt_of_cell? w _ aD)).trans aD
            replace bj := eq_true bj
            replace bk := eq_true bk
            go_wp2_with (first | ((with_reducible refine Bj (N := 9) rfl ?_); refine B2 ?hg (N := 9) ?hd (cs := #[.int .i64 0, .int .i64 0]) (t := 93) ?hr ?_; (case hd => rfl); (case hg => rfl); (case hr => first | (go_simp; done) | (go_simp; rfl)); intro ao hg w33 hbox hb; have n0_ := Aa.mk (Kd.Bm (by exact rU <| av.out) hb); have n1_ := Aa.mk (Bz (g := ai) (o := .cells #[.int .i64 ((rd_T91 l0 ab).f0), .int .i64 ((rd_T91 l0 ab).f1), .slice (some aA) ((rd_T91 l0 ab).f2).length ar] 91 (0, 0)) (by exact bU <| ag.out) hb); have n2_ := Aa.mk (Aj (by repeat (first | (with_reducible first | exact HB.out | apply Ad | apply Ab | apply Ac | refine Ak ?_ au.out) | exact HB.out)) hb); have n3_ := Aa.mk (hbox); have n4_ := Aa.mk ((by rw [hg]; exact (Ae (by repeat (first | (with_reducible first | exact HB.out | apply Ad | apply Ab | apply Ac | refine Ak ?_ au.out) | exact HB.out))) : w.heap.size ≤ ao)); have n5_ := Aa.mk ((by rw [hg]; exact (Ae (by repeat (first | (with_reducible first | exact HB.out | apply Ad | apply Ab | apply Ac | refine Ak ?_ au.out) | exact HB.out))) : w.heap.size ≤ ao)); have n6_ := Aa.mk ((by rw [hg]; exact Nat.ne_of_lt (Cz (g := ai) (o := .cells #[.int .i64 ((rd_T91 l0 ab).f0), .int .i64 ((rd_T91 l0 ab).f1), .slice (some aA) ((rd_T91 l0 ab).f2).length ar] 91 (0, 0)) (by exact bU <| ag.out)) : ai ≠ ao)); have n7_ := Aa.mk ((by rw [hg]; exact Nat.ne_of_gt (Cz (g := ai) (o := .cells #[.int .i64 ((rd_T91 l0 ab).f0), .int .i64 ((rd_T91 l0 ab).f1), .slice (some aA) ((rd_T91 l0 ab).f2).length ar] 91 (0, 0)) (by exact bU <| ag.out)) : ao ≠ ai)); clear av; clear ag; clear HB; have av := n0_; have ag := n1_; have HB := n2_; have al := n3_; have cV := n4_; have aK := n5_; have aq := n6_; have aM := n7_; clear n0_ n1_ n2_ n3_ n4_ n5_ n6_ n7_; clear hb hbox hg; have fy := aM.out; have fz := aq.out; have ef : w33.cell? ⟨ao, 0, none⟩ = some (.int .i64 0) := (Ai al.out 0).trans rfl; have eh : w33.cell? ⟨ao, 1, none⟩ = some (.int .i64 0) := (Ai al.out 1).trans rfl; have ei := Af al.out 0; have ej := Af al.out 1; have ek : w33.cell? ⟨ai, 0, none⟩ = some (.int .i64 ((rd_T91 l0 ab).f0)) := (Ai ag.out 0).trans rfl; have el : w33.cell? ⟨ai, 1, none⟩ = some (.int .i64 ((rd_T91 l0 ab).f1)) := (Ai ag.out 1).trans rfl; have em : w33.cell? ⟨ai, 2, none⟩ = some (.slice (some aA) ((rd_T91 l0 ab).f2).length ar) := (Ai ag.out 2).trans rfl; have en := Af ag.out 0; have eo := Af ag.out 1; have ep := Af ag.out 2) | ((with_reducible refine Bj (N := 31) rfl ?_); refine Kd.Cx (Kd.int .i64) _ 3 ?hg (N := 31) ?hd (xs := ([(rd_T93 ((rd_T91 l0 ab).f2) af).f0, (rd_T93 ((rd_T91 l0 ab).f2) af).f1, ((rd_T91 l0 ab).f0), ((rd_T91 l0 ab).f1)] : List Int)) (inner := [.int .i64 ((rd_T93 ((rd_T91 l0 ab).f2) af).f0), .int .i64 ((rd_T93 ((rd_T91 l0 ab).f2) af).f1), .int .i64 ((rd_T91 l0 ab).f0), .int .i64 ((rd_T91 l0 ab).f1)]) (ok := fun _ => True) (okp := fun _ => True) ?hr ?hp (fun _ hk => hk) trivial (Below.refl _ _) (Nat.le_refl _) (by simp) ?_; (case hd => rfl); (case hg => rfl); (case hr => first | (go_simp; done) | (go_simp; rfl)); (case hp => exact (Reps.one (show Kd.M (Kd.int .i64) _ _ _ ((rd_T93 ((rd_T91 l0 ab).f2) af).f0) [.int .i64 ((rd_T93 ((rd_T91 l0 ab).f2) af).f0)] from rfl) (Reps.one (show Kd.M (Kd.int .i64) _ _ _ ((rd_T93 ((rd_T91 l0 ab).f2) af).f1) [.int .i64 ((rd_T93 ((rd_T91 l0 ab).f2) af).f1)] from rfl) (Reps.one (show Kd.M (Kd.int .i64) _ _ _ ((rd_T91 l0 ab).f0) [.int .i64 ((rd_T91 l0 ab).f0)] from rfl) (Reps.one (show Kd.M (Kd.int .i64) _ _ _ ((rd_T91 l0 ab).f1) [.int .i64 ((rd_T91 l0 ab).f1)] from rfl) (Reps.none _ _)))))); intro v114 w37 ho38 hb hg_ hnew_; clear hg_ hnew_; (first | rw [← bo.out] at ho38 | (simp only [Int.reduceToNat] at ho38; rw [← bo.out] at ho38)); have n0_ := Aa.mk (Kd.Bm (by exact rU <| (Kd.Bb (Kd.B3 (p := ⟨ao, 1, none⟩) (Kd.B3 (p := ⟨ao, 0, none⟩) (Kd.C3 av.out al.out (by decide)) (fun _ hk => hk.2) (.int .i64 ((rd_T93 ((rd_T91 l0 ab).f2) af).f0))) (fun _ hk => hk.2) (.int .i64 ((rd_T93 ((rd_T91 l0 ab).f2) af).f1))) (fun _ h_ => h_.1))) hb); have n1_ := Aa.mk (Kd.Bt ho38 (Ae (by repeat (first | (with_reducible first | exact HB.out | apply Ad | apply Ab | apply Ac | refine Ak ?_ au.out | refine Ak ?_ aK.out) | exact HB.out)))); have n2_ := Aa.mk (Bz (g := ai) (o := .cells #[.int .i64 ((rd_T91 l0 ab).f0), .int .i64 ((rd_T91 l0 ab).f1), .slice (some aA) ((rd_T91 l0 ab).f2).length ar] 91 (0, 0)) (by (with_reducible repeat (first | refine Aq ?_ _ | refine Au ?_ | refine Ar ?_ _)); refine blk_far ?_ aq.out _; (with_reducible repeat (first | refine Aq ?_ _ | refine Au ?_ | refine Ar ?_ _)); refine blk_far ?_ aq.out _; exact bU <| ag.out) hb); have n3_ := Aa.mk (Bz (g := ao) (o := .cells #[.int .i64 ((rd_T93 ((rd_T91 l0 ab).f2) af).f0), .int .i64 ((rd_T93 ((rd_T91 l0 ab).f2) af).f1)] 93 (0, 0)) (by (with_reducible repeat (first | refine Aq ?_ _ | refine Au ?_ | refine Ar ?_ _)); refine Bc (cs := #[.int .i64 ((rd_T93 ((rd_T91 l0 ab).f2) af).f0), .int .i64 0]) ?_ 1 _ rfl; (with_reducible repeat (first | refine Aq ?_ _ | refine Au ?_ | refine Ar ?_ _)); refine Bc (cs := #[.int .i64 0, .int .i64 0]) ?_ 0 _ rfl; exact bU <| al.out) hb); have n4_ := Aa.mk (Aj (by repeat (first | (with_reducible first | exact HB.out | apply Ad | apply Ab | apply Ac | refine Ak ?_ au.out | refine Ak ?_ aK.out) | exact HB.out)) hb); clear av; clear ag; clear al; clear HB; have av := n0_; have aI := n1_; have ag := n2_; have al := n3_; have HB := n4_; clear n0_ n1_ n2_ n3_ n4_; clear hb ho38; obtain ⟨fd, fe, ff⟩ := Kd.Bk aI.out; subst ff) | ((with_reducible refine Ap (f := 70) rfl ?_); refine Br (some 32) rfl rfl Try.func70 (by kernel_rfl) rfl #[.slice fd bI.length fe] rfl (by (try simp only [List.map_toArray, List.map_cons, List.map_nil]); first | done | rfl | (simp only [List.length_drop, List.length_take]; rfl)) ?_; (with_reducible refine (Ce.calls _ _ bI false _ ?side1 ?side2 A10.out).mono ?_); (case side1 => repeat (first | exact (Kd.As aI.out).2.2 | (with_reducible refine Kd.Bf ?_ _) | (with_reducible refine Kd.Be ?_ _) | (with_reducible refine Kd.Bn ?_))); (case side2 => exact (Kd.As aI.out).2.1); rintro e w' ⟨rfl, ⟨nd, rfl⟩⟩; refine ⟨_, rfl, ?_⟩))
            go_ret2
            exact ⟨_, by first | rfl | (simp [Aw, Av] <;> rfl) | (simp [*, Aw, Av] <;> rfl), by first | exact Kd.C2 _ _ _ _ _ | exact Kd.N_nil _ _ _ _ _ | exact Kd.V_nil _ _ _ _ _ | exact Kd.Q_nil _ _ _ _ _ | exact Kd.S_nil _ _ _ _ _, by repeat (first | (with_reducible first | exact HB.out | apply Ad | apply Ab | apply Ac | refine Ak ?_ au.out | refine Ak ?_ aK.out) | exact HB.out)⟩
          ·rw [if_neg c9] at H
           exact absurd H (by simp)
         ·rw [if_neg c8] at H
          exact absurd H (by simp)
        ·rw [if_neg c7] at H
         have dc : decide (af < (((rd_T91 l0 ab).f2).length : Int)) = false := decide_eq_false c7
         clear c7
         have H' := Aa.mk H
         clear H
         go_wp2
         go_roundg k2
         case measure => have := HK1.out; have := HK2.out; omega
         case rel => exact ⟨(a5), (bV), (wrap64 (ab + 1)), (by first | rfl | (simp; done) | (simp [*]; done)), (by first | rfl | (simp; done) | (simp [*]; done)), H', ⟨by have := HK1.out; have := HK2.out; omega⟩, ⟨by exact rU <| av.out⟩, ⟨by repeat (first | (with_reducible first | exact HB.out | apply Ad | apply Ab | apply Ac | refine Ak ?_ au.out) | exact HB.out)⟩⟩
     ·rw [if_neg c4] at H
      exact absurd H (by simp)
    ·rw [if_neg c3] at H
     exact absurd H (by simp)
   ·rw [if_neg c2] at H
    have bn : decide (ab < (l0.length : Int)) = false := decide_eq_false c2
    clear c2
    by_cases c40 : bS = true
    ·subst c40
     have H1 := H
     rw [if_pos rfl] at H1
     clear H
     have H := H1
     clear H1
     simp only [Option.some.injEq, Prod.mk.injEq] at H
     obtain ⟨rfl, rfl⟩ := H
     go_wp2
     go_ret2
     exact ⟨_, by first | rfl | (simp [Aw, Av] <;> rfl) | (simp [*, Aw, Av] <;> rfl), by first | exact Kd.C2 _ _ _ _ _ | exact Kd.N_nil _ _ _ _ _ | exact Kd.V_nil _ _ _ _ _ | exact Kd.Q_nil _ _ _ _ _ | exact Kd.S_nil _ _ _ _ _, by repeat (first | (with_reducible first | exact HB.out | apply Ad | apply Ab | apply Ac) | exact HB.out)⟩
    ·replace c40 := Bool.eq_false_iff.mpr c40
     subst c40
     have H1 := H
     rw [if_neg (show ¬ (false = true) by decide)] at H1
     clear H
     have H := H1
     clear H1
     simp only [Option.some.injEq, Prod.mk.injEq] at H
     obtain ⟨rfl, rfl⟩ := H
     go_wp2
     go_ret2
     exact ⟨_, by first | rfl | (simp [Aw, Av] <;> rfl) | (simp [*, Aw, Av] <;> rfl), by exact rU <| av.out, by repeat (first | (with_reducible first | exact HB.out | apply Ad | apply Ab | apply Ac) | exact HB.out)⟩

def B1.l0 : Nat → Int → Int → Int → Int → List (S58) → List (S58) → Int → Int → Option ((List (S58)))
 | 0, _, _, _, _, _, _, _, _ => none
 | k + 1, x1, x2, x3, x4, x11, x14, x15, x16 => if x16 < x15 then (if 0 ≤ x16 then (if x16 < (x14.length : Int) then ((Cb.f ((rd_T58 x14 x16).f0) ((rd_T58 x14 x16).f1) ((rd_T58 x14 x16).f2) ((rd_T58 x14 x16).f3)).bind fun dd => (if dd = true then (if x11.length < 4398046511104 then (B1.l0 k x1 x2 x3 x4 (x11 ++ [(⟨wrap64 (((rd_T58 x14 x16).f0) - x1), wrap64 (((rd_T58 x14 x16).f1) - x2), wrap64 (((rd_T58 x14 x16).f2) + x3), wrap64 (((rd_T58 x14 x16).f3) + x4)⟩ : S58)]) x14 x15 (wrap64 (x16 + 1))) else (none)) else (B1.l0 k x1 x2 x3 x4 x11 x14 x15 (wrap64 (x16 + 1))))) else (none)) else (none)) else (some x11)
def B1.f (k : Nat) (l0 : List (S58)) (a1 : Int) (a2 : Int) (a3 : Int) (a4 : Int) : Option ((List (S58))) := B1.l0 k a1 a2 a3 a4 ([] : List (S58)) l0 (l0.length : Int) 0
set_option maxHeartbeats 8000000 in
set_option maxRecDepth 100000 in
theorem B1.calls (k : Nat) (A0 : Option Addr) (c0 : Nat) (l0 : List (S58)) (a1 : Int) (a2 : Int) (a3 : Int) (a4 : Int) (r : List (S58)) (w : World) (hr0 : Kd.C k58 w A0 l0.length l0) (hc0 : l0.length ≤ c0) (h : B1.f k l0 a1 a2 a3 a4 = some r) :
  Calls Try.prog 48 #[.slice A0 l0.length c0, .int .i64 a1, .int .i64 a2, .int .i64 a3, .int .i64 a4] w fun e w' => ∃ v0_ : Value, e = .returned (v0_) ∧ Kd.R k58 58 w' w.heap.size (fun _ => True) v0_ r ∧ Below w.heap.size w w' := by
 have hu58 := Try.underlying58
 have HR0 := Aa.mk hr0
 have HC0 := Aa.mk hc0
 clear hr0 hc0
 have HB := Aa.mk (Below.refl w.heap.size w)
 have H : (B1.l0 k a1 a2 a3 a4 ([] : List (S58)) l0 (l0.length : Int) 0) = some r := h
 clear h
 have H' := Aa.mk H
 clear H
 go_enter Try.func48, Try.ntmps48
 go_wp2
 go_loopg [11, 16] k (fun kq v11 v16 w' => ∃ (bl : List (S58)) (ac : Int), v16 = .int .i64 ac ∧ Aa (B1.l0 kq a1 a2 a3 a4 bl l0 (l0.length : Int) ac = some r) ∧ Aa (kq ≤ k) ∧ Aa (Kd.R k58 58 w' w.heap.size (fun _ => True) v11 bl) ∧ Aa (Below w.heap.size w w'))
 case atStart => exact ⟨(([] : List (S58))), (0), (by first | rfl | (simp; done) | (simp [*]; done)), H', ⟨Nat.le_refl _⟩, ⟨by first | exact Kd.C2 _ _ _ _ _ | exact Kd.N_nil _ _ _ _ _ | exact Kd.V_nil _ _ _ _ _ | exact Kd.Q_nil _ _ _ _ _ | exact Kd.S_nil _ _ _ _ _⟩, ⟨by repeat (first | (with_reducible first | exact HB.out | apply Ad | apply Ab | apply Ac) | exact HB.out)⟩⟩
 case round =>
  clear H'
  try clear p2
  try clear c4
  obtain ⟨bl, ac, rfl, HA, HK1, aG, HB⟩ := hrel
  cases gk with
  | zero => exact absurd HA.out (by simp [B1.l0])
  | succ k1 =>
   have H := HA.out
   clear HA
   simp only [B1.l0] at H
   by_cases c6 : ac < (l0.length : Int)
   ·rw [if_pos c6] at H
    have dp : decide (ac < (l0.length : Int)) = true := decide_eq_true c6
    clear c6
    by_cases c7 : 0 ≤ ac
    ·rw [if_pos c7] at H
     have dc : decide (0 ≤ ac) = true := decide_eq_true c7
     clear c7
     by_cases c8 : ac < (l0.length : Int)
     ·rw [if_pos c8] at H
      have eX : decide (ac < (l0.length : Int)) = true := decide_eq_true c8
      clear c8
      replace H := Option.bind_eq_some_iff.mp H
      obtain ⟨dd, A90, H⟩ := H
      try dsimp only at H
      have A9 := Aa.mk A90
      clear A90
      by_cases c10 : dd = true
      ·subst c10
       have H1 := H
       rw [if_pos rfl] at H1
       clear H
       have H := H1
       clear H1
       by_cases c11 : bl.length < 4398046511104
       ·rw [if_pos c11] at H
        have LMc11 := Aa.mk c11
        clear c11
        obtain ⟨fg, bY⟩ : ∃ y_ : List (S58), y_ = (bl ++ [(⟨wrap64 (((rd_T58 l0 ac).f0) - a1), wrap64 (((rd_T58 l0 ac).f1) - a2), wrap64 (((rd_T58 l0 ac).f2) + a3), wrap64 (((rd_T58 l0 ac).f3) + a4)⟩ : S58)]) := ⟨_, rfl⟩
        (try rw [Option.bind_some] at H); try rw [← bY] at H
        have dq := Aa.mk bY
        clear bY
        have H' := Aa.mk H
        clear H
        have bw : 0 ≤ (ac : Int) := of_decide_eq_true (by with_reducible assumption)
        have bx : ac < (l0.length : Int) := of_decide_eq_true (by with_reducible assumption)
        obtain ⟨dr, e120, aN, aQ, aT, aU⟩ := at_T58 HR0.out ac bw bx
        cases e120
        replace aN := (HB.out.cell (World.block_lt_of_cell? w _ aN)).trans aN
        replace aQ := (HB.out.cell (World.block_lt_of_cell? w _ aQ)).trans aQ
        replace aT := (HB.out.cell (World.block_lt_of_cell? w _ aT)).trans aT
        replace aU := (HB.out.cell (World.block_lt_of_cell? w _ aU)).trans aU
        replace bw := eq_true bw
        replace bx := eq_true bx
        go_wp2_with (first | ((with_reducible refine Bj (N := 13) rfl ?_); refine B2 ?hg (N := 13) ?hd (cs := #[.int .i64 0, .int .i64 0, .int .i64 0, .int .i64 0]) (t := 58) ?hr ?_; (case hd => rfl); (case hg => rfl); (case hr => first | (go_simp; done) | (go_simp; rfl)); intro am hg w12 hbox hb; have n0_ := Aa.mk (Kd.Bm (Kd.C1 (by exact rU <| aG.out) am (Nat.le_of_eq hg.symm)) hb); have n1_ := Aa.mk (Aj (lU HB.out) hb); have n2_ := Aa.mk (hbox); have n3_ := Aa.mk ((by rw [hg]; exact (Ae (lU HB.out)) : w.heap.size ≤ am)); have n4_ := Aa.mk ((by rw [hg]; exact (Ae (lU HB.out)) : w.heap.size ≤ am)); clear aG; clear HB; have aG := n0_; have HB := n1_; have ak := n2_; have dt := n3_; have bm := n4_; clear n0_ n1_ n2_ n3_ n4_; clear hb hbox hg; have b5 : w12.cell? ⟨am, 0, none⟩ = some (.int .i64 0) := (Ai ak.out 0).trans rfl; have b6 : w12.cell? ⟨am, 1, none⟩ = some (.int .i64 0) := (Ai ak.out 1).trans rfl; have b7 : w12.cell? ⟨am, 2, none⟩ = some (.int .i64 0) := (Ai ak.out 2).trans rfl; have b8 : w12.cell? ⟨am, 3, none⟩ = some (.int .i64 0) := (Ai ak.out 3).trans rfl; have b9 := Af ak.out 0; have cd := Af ak.out 1; have cg := Af ak.out 2; have ch := Af ak.out 3) | ((with_reducible refine Ap (f := 62) rfl ?_); refine Br (some 21) rfl rfl Try.func62 (by kernel_rfl) rfl #[.agg #[.int .i64 ((rd_T58 l0 ac).f0), .int .i64 ((rd_T58 l0 ac).f1), .int .i64 ((rd_T58 l0 ac).f2), .int .i64 ((rd_T58 l0 ac).f3)]] rfl (by (try simp only [List.map_toArray, List.map_cons, List.map_nil]); first | done | rfl | (simp only [List.length_drop, List.length_take]; rfl)) ?_; (with_reducible refine (Cb.calls ((rd_T58 l0 ac).f0) ((rd_T58 l0 ac).f1) ((rd_T58 l0 ac).f2) ((rd_T58 l0 ac).f3) true _ A9.out).mono ?_); rintro e w14 ⟨rfl, hb⟩; refine ⟨_, rfl, ?_⟩; have n0_ := Aa.mk (Kd.Bm (by exact rU <| (Kd.Bb (Kd.B3 (p := ⟨am, 3, none⟩) (Kd.B3 (p := ⟨am, 2, none⟩) (Kd.B3 (p := ⟨am, 1, none⟩) (Kd.B3 (p := ⟨am, 0, none⟩) (Kd.Bb aG.out (fun k_ hk => (⟨hk, hk.2⟩ : _ ∧ k_ ≠ am))) (fun _ hk => hk.2) (.int .i64 ((rd_T58 l0 ac).f0))) (fun _ hk => hk.2) (.int .i64 ((rd_T58 l0 ac).f1))) (fun _ hk => hk.2) (.int .i64 ((rd_T58 l0 ac).f2))) (fun _ hk => hk.2) (.int .i64 ((rd_T58 l0 ac).f3))) (fun _ h_ => h_.1))) hb); have n1_ := Aa.mk (Bz (g := am) (o := .cells #[.int .i64 ((rd_T58 l0 ac).f0), .int .i64 ((rd_T58 l0 ac).f1), .int .i64 ((rd_T58 l0 ac).f2), .int .i64 ((rd_T58 l0 ac).f3)] 58 (0, 0)) (by (with_reducible repeat (first | refine Aq ?_ _ | refine Au ?_ | refine Ar ?_ _)); refine Bc (cs := #[.int .i64 ((rd_T58 l0 ac).f0), .int .i64 ((rd_T58 l0 ac).f1), .int .i64 ((rd_T58 l0 ac).f2), .int .i64 0]) ?_ 3 _ rfl; (with_reducible repeat (first | refine Aq ?_ _ | refine Au ?_ | refine Ar ?_ _)); refine Bc (cs := #[.int .i64 ((rd_T58 l0 ac).f0), .int .i64 ((rd_T58 l0 ac).f1), .int .i64 0, .int .i64 0]) ?_ 2 _ rfl; (with_reducible repeat (first | refine Aq ?_ _ | refine Au ?_ | refine Ar ?_ _)); refine Bc (cs := #[.int .i64 ((rd_T58 l0 ac).f0), .int .i64 0, .int .i64 0, .int .i64 0]) ?_ 1 _ rfl; (with_reducible repeat (first | refine Aq ?_ _ | refine Au ?_ | refine Ar ?_ _)); refine Bc (cs := #[.int .i64 0, .int .i64 0, .int .i64 0, .int .i64 0]) ?_ 0 _ rfl; exact bU <| ak.out) hb); have n2_ := Aa.mk (Aj (by repeat (first | (with_reducible first | exact HB.out | apply Ad | apply Ab | apply Ac | refine Ak ?_ bm.out) | exact HB.out)) hb); clear aG; clear ak; clear HB; have aG := n0_; have ak := n1_; have HB := n2_; clear n0_ n1_ n2_; (try clear hb); (try clear hb2); (try clear hk); (try clear hi); have cN : w14.cell? ⟨am, 0, none⟩ = some (.int .i64 ((rd_T58 l0 ac).f0)) := (Ai ak.out 0).trans rfl; have cO : w14.cell? ⟨am, 1, none⟩ = some (.int .i64 ((rd_T58 l0 ac).f1)) := (Ai ak.out 1).trans rfl; have eq : w14.cell? ⟨am, 2, none⟩ = some (.int .i64 ((rd_T58 l0 ac).f2)) := (Ai ak.out 2).trans rfl; have er : w14.cell? ⟨am, 3, none⟩ = some (.int .i64 ((rd_T58 l0 ac).f3)) := (Ai ak.out 3).trans rfl; have cP := Af ak.out 0; have cQ := Af ak.out 1; have es := Af ak.out 2; have et := Af ak.out 3) | ((with_reducible refine B5 (b := .append) (xs := #[.tmp 22, .tmp 40]) rfl ?_); at_builtin; refine Kd.Cy k58 (w0 := w) w.heap.size rfl (.tmp 22) (.tmp 40) 22 58 (.agg #[(.int .i64 0), (.int .i64 0), (.int .i64 0), (.int .i64 0)]) 32 rfl Try.underlying22 info58 rfl (by decide) (by omega) u11 bl (⟨wrap64 (((rd_T58 l0 ac).f0) - a1), wrap64 (((rd_T58 l0 ac).f1) - a2), wrap64 (((rd_T58 l0 ac).f2) + a3), wrap64 (((rd_T58 l0 ac).f3) + a4)⟩ : S58) [.int .i64 (wrap64 (((rd_T58 l0 ac).f0) - a1)), .int .i64 (wrap64 (((rd_T58 l0 ac).f1) - a2)), .int .i64 (wrap64 (((rd_T58 l0 ac).f2) + a3)), .int .i64 (wrap64 (((rd_T58 l0 ac).f3) + a4))] (fun k_ => k_ ≠ am) (fun _ => False) rfl rfl ?aP (fun _ hk => hk.elim) ?aF ?aO ?aB ?aS ?aL ?_; (case aP => exact k58_mkM _ _ _ (⟨wrap64 (((rd_T58 l0 ac).f0) - a1), wrap64 (((rd_T58 l0 ac).f1) - a2), wrap64 (((rd_T58 l0 ac).f2) + a3), wrap64 (((rd_T58 l0 ac).f3) + a4)⟩ : S58)); (case aB => exact (by repeat (first | (with_reducible first | exact HB.out | apply Ad | apply Ab | apply Ac | refine Ak ?_ bm.out) | exact HB.out))); (case aF => exact (fun k_ hk => Kd.freshB (g := am) (o := .cells #[.int .i64 ((rd_T58 l0 ac).f0), .int .i64 ((rd_T58 l0 ac).f1), .int .i64 ((rd_T58 l0 ac).f2), .int .i64 ((rd_T58 l0 ac).f3)] 58 (0, 0)) (by exact bU <| ak.out) k_ hk)); (case aO => exact (by exact rU <| Kd.Bb aG.out (fun _ hk => hk.2))); (case aS => exact (Ae (by repeat (first | (with_reducible first | exact HB.out | apply Ad | apply Ab | apply Ac | refine Ak ?_ bm.out) | exact HB.out)))); (case aL => have := LMc11.out; omega); intro v124 w16 ho hb hg hat; rw [← dq.out] at ho; have n0_ := Aa.mk (Ck (g := am) (o := .cells #[.int .i64 ((rd_T58 l0 ac).f0), .int .i64 ((rd_T58 l0 ac).f1), .int .i64 ((rd_T58 l0 ac).f2), .int .i64 ((rd_T58 l0 ac).f3)] 58 (0, 0)) (by exact bU <| ak.out) hg (Kd.R_away aG.out (fun _ hk => hk.2))); have n1_ := Aa.mk (hb); have n2_ := Aa.mk (ho); clear ak; clear HB; clear aG; have ak := n0_; have HB := n1_; have du := n2_; clear n0_ n1_ n2_; clear ho hb hg hat))
        go_roundg k1
        case measure => have := HK1.out; omega
        case rel => exact ⟨(fg), (wrap64 (ac + 1)), (by first | rfl | (simp; done) | (simp [*]; done)), H', ⟨by have := HK1.out; omega⟩, ⟨by exact rU <| Kd.Bb du.out (fun _ hk => trivial)⟩, ⟨by repeat (first | (with_reducible first | exact HB.out | apply Ad | apply Ab | apply Ac | refine Ak ?_ bm.out) | exact HB.out)⟩⟩
       ·rw [if_neg c11] at H
        exact absurd H (by simp)
      ·replace c10 := Bool.eq_false_iff.mpr c10
       subst c10
       have H1 := H
       rw [if_neg (show ¬ (false = true) by decide)] at H1
       clear H
       have H := H1
       clear H1
       have H' := Aa.mk H
       clear H
       have bw : 0 ≤ (ac : Int) := of_decide_eq_true (by with_reducible assumption)
       have bx : ac < (l0.length : Int) := of_decide_eq_true (by with_reducible assumption)
       obtain ⟨dr, e120, aN, aQ, aT, aU⟩ := at_T58 HR0.out ac bw bx
       cases e120
       replace aN := (HB.out.cell (World.block_lt_of_cell? w _ aN)).trans aN
       replace aQ := (HB.out.cell (World.block_lt_of_cell? w _ aQ)).trans aQ
       replace aT := (HB.out.cell (World.block_lt_of_cell? w _ aT)).trans aT
       replace aU := (HB.out.cell (World.block_lt_of_cell? w _ aU)).trans aU
       replace bw := eq_true bw
       replace bx := eq_true bx
       go_wp2_with (first | ((with_reducible refine Bj (N := 13) rfl ?_); refine B2 ?hg (N := 13) ?hd (cs := #[.int .i64 0, .int .i64 0, .int .i64 0, .int .i64 0]) (t := 58) ?hr ?_; (case hd => rfl); (case hg => rfl); (case hr => first | (go_simp; done) | (go_simp; rfl)); intro am hg w17 hbox hb; have n0_ := Aa.mk (Kd.Bm (Kd.C1 (by exact rU <| aG.out) am (Nat.le_of_eq hg.symm)) hb); have n1_ := Aa.mk (Aj (lU HB.out) hb); have n2_ := Aa.mk (hbox); have n3_ := Aa.mk ((by rw [hg]; exact (Ae (lU HB.out)) : w.heap.size ≤ am)); have n4_ := Aa.mk ((by rw [hg]; exact (Ae (lU HB.out)) : w.heap.size ≤ am)); clear aG; clear HB; have aG := n0_; have HB := n1_; have ak := n2_; have dt := n3_; have bm := n4_; clear n0_ n1_ n2_ n3_ n4_; clear hb hbox hg; have ci : w17.cell? ⟨am, 0, none⟩ = some (.int .i64 0) := (Ai ak.out 0).trans rfl; have cj : w17.cell? ⟨am, 1, none⟩ = some (.int .i64 0) := (Ai ak.out 1).trans rfl; have cl : w17.cell? ⟨am, 2, none⟩ = some (.int .i64 0) := (Ai ak.out 2).trans rfl; have cn : w17.cell? ⟨am, 3, none⟩ = some (.int .i64 0) := (Ai ak.out 3).trans rfl; have co := Af ak.out 0; have cp := Af ak.out 1; have cq := Af ak.out 2; have ct := Af ak.out 3) | ((with_reducible refine Ap (f := 62) rfl ?_); refine Br (some 21) rfl rfl Try.func62 (by kernel_rfl) rfl #[.agg #[.int .i64 ((rd_T58 l0 ac).f0), .int .i64 ((rd_T58 l0 ac).f1), .int .i64 ((rd_T58 l0 ac).f2), .int .i64 ((rd_T58 l0 ac).f3)]] rfl (by (try simp only [List.map_toArray, List.map_cons, List.map_nil]); first | done | rfl | (simp only [List.length_drop, List.length_take]; rfl)) ?_; (with_reducible refine (Cb.calls ((rd_T58 l0 ac).f0) ((rd_T58 l0 ac).f1) ((rd_T58 l0 ac).f2) ((rd_T58 l0 ac).f3) false _ A9.out).mono ?_); rintro e w19 ⟨rfl, hb⟩; refine ⟨_, rfl, ?_⟩; have n0_ := Aa.mk (Kd.Bm (by exact rU <| (Kd.Bb (Kd.B3 (p := ⟨am, 3, none⟩) (Kd.B3 (p := ⟨am, 2, none⟩) (Kd.B3 (p := ⟨am, 1, none⟩) (Kd.B3 (p := ⟨am, 0, none⟩) (Kd.Bb aG.out (fun k_ hk => (⟨hk, hk.2⟩ : _ ∧ k_ ≠ am))) (fun _ hk => hk.2) (.int .i64 ((rd_T58 l0 ac).f0))) (fun _ hk => hk.2) (.int .i64 ((rd_T58 l0 ac).f1))) (fun _ hk => hk.2) (.int .i64 ((rd_T58 l0 ac).f2))) (fun _ hk => hk.2) (.int .i64 ((rd_T58 l0 ac).f3))) (fun _ h_ => h_.1))) hb); have n1_ := Aa.mk (Bz (g := am) (o := .cells #[.int .i64 ((rd_T58 l0 ac).f0), .int .i64 ((rd_T58 l0 ac).f1), .int .i64 ((rd_T58 l0 ac).f2), .int .i64 ((rd_T58 l0 ac).f3)] 58 (0, 0)) (by (with_reducible repeat (first | refine Aq ?_ _ | refine Au ?_ | refine Ar ?_ _)); refine Bc (cs := #[.int .i64 ((rd_T58 l0 ac).f0), .int .i64 ((rd_T58 l0 ac).f1), .int .i64 ((rd_T58 l0 ac).f2), .int .i64 0]) ?_ 3 _ rfl; (with_reducible repeat (first | refine Aq ?_ _ | refine Au ?_ | refine Ar ?_ _)); refine Bc (cs := #[.int .i64 ((rd_T58 l0 ac).f0), .int .i64 ((rd_T58 l0 ac).f1), .int .i64 0, .int .i64 0]) ?_ 2 _ rfl; (with_reducible repeat (first | refine Aq ?_ _ | refine Au ?_ | refine Ar ?_ _)); refine Bc (cs := #[.int .i64 ((rd_T58 l0 ac).f0), .int .i64 0, .int .i64 0, .int .i64 0]) ?_ 1 _ rfl; (with_reducible repeat (first | refine Aq ?_ _ | refine Au ?_ | refine Ar ?_ _)); refine Bc (cs := #[.int .i64 0, .int .i64 0, .int .i64 0, .int .i64 0]) ?_ 0 _ rfl; exact bU <| ak.out) hb); have n2_ := Aa.mk (Aj (by repeat (first | (with_reducible first | exact HB.out | apply Ad | apply Ab | apply Ac | refine Ak ?_ bm.out) | exact HB.out)) hb); clear aG; clear ak; clear HB; have aG := n0_; have ak := n1_; have HB := n2_; clear n0_ n1_ n2_; (try clear hb); (try clear hb2); (try clear hk); (try clear hi)))
       go_roundg k1
       case measure => have := HK1.out; omega
       case rel => exact ⟨(bl), (wrap64 (ac + 1)), (by first | rfl | (simp; done) | (simp [*]; done)), H', ⟨by have := HK1.out; omega⟩, ⟨by exact rU <| Kd.Bb aG.out (fun _ hk => trivial)⟩, ⟨by repeat (first | (with_reducible first | exact HB.out | apply Ad | apply Ab | apply Ac | refine Ak ?_ bm.out) | exact HB.out)⟩⟩
     ·rw [if_neg c8] at H
      exact absurd H (by simp)
    ·rw [if_neg c7] at H
     exact absurd H (by simp)
   ·rw [if_neg c6] at H
    have dp : decide (ac < (l0.length : Int)) = false := decide_eq_false c6
    clear c6
    obtain rfl := Option.some.inj H
    go_wp2
    go_ret
    exact ⟨_, by first | rfl | (simp [Aw, Av] <;> rfl) | (simp [*, Aw, Av] <;> rfl), by exact rU <| aG.out, by repeat (first | (with_reducible first | exact HB.out | apply Ad | apply Ab | apply Ac) | exact HB.out)⟩

mutual
def Bi.l0 : Nat → List Int → List (List (S58)) → Int → Int → Option (List Int)
 | 0, _, _, _, _ => none
 | k + 1, x3, x8, x9, x10 => if x10 < x9 then (if 0 ≤ x10 then (if x10 < (x8.length : Int) then (Bi.l1 k x3 x8 x9 x10 (rd_L5 x8 x10) ((rd_L5 x8 x10).length : Int) 0) else (none)) else (none)) else ((Cc.f x3).bind fun de => (some de))
def Bi.l1 : Nat → List Int → List (List (S58)) → Int → Int → List (S58) → Int → Int → Option (List Int)
 | 0, _, _, _, _, _, _, _ => none
 | k + 1, x3, x8, x9, x10, x14, x15, x16 => if x16 < x15 then (if 0 ≤ x16 then (if x16 < (x14.length : Int) then ((Cb.f ((rd_T58 x14 x16).f0) ((rd_T58 x14 x16).f1) ((rd_T58 x14 x16).f2) ((rd_T58 x14 x16).f3)).bind fun df => (if df = true then ((some (([(rd_T58 x14 x16).f1, (rd_T58 x14 x16).f3] : List Int) : List Int)).bind fun bz => (if x3.length + bz.length < 17592186044416 then (Bi.l1 k (x3 ++ bz) x8 x9 x10 x14 x15 (wrap64 (x16 + 1))) else (none))) else (Bi.l1 k x3 x8 x9 x10 x14 x15 (wrap64 (x16 + 1))))) else (none)) else (none)) else (Bi.l0 k x3 x8 x9 (wrap64 (x10 + 1)))
end
def Bi.f (k : Nat) (l0 : List (List (S58))) : Option (List Int) := Bi.l0 k ([] : List Int) l0 (l0.length : Int) 0
set_option maxHeartbeats 8000000 in
set_option maxRecDepth 100000 in
theorem Bi.calls (k : Nat) (A0 : Option Addr) (c0 : Nat) (l0 : List (List (S58))) (r : List Int) (w : World) (hr0 : Kd.C (Kd.slice 58 k58) w A0 l0.length l0) (hc0 : l0.length ≤ c0) (h : Bi.f k l0 = some r) :
  Calls Try.prog 43 #[.slice A0 l0.length c0] w fun e w' => ∃ v0_ : Value, e = .returned (v0_) ∧ Kd.R (Kd.int .i64) 3 w' w.heap.size (fun _ => True) v0_ r ∧ Below w.heap.size w w' := by
 have hu58 := Try.underlying58
 have HR0 := Aa.mk hr0
 have HC0 := Aa.mk hc0
 clear hr0 hc0
 have HB := Aa.mk (Below.refl w.heap.size w)
 have H : (Bi.l0 k ([] : List Int) l0 (l0.length : Int) 0) = some r := h
 clear h
 have H' := Aa.mk H
 clear H
 go_enter Try.func43, Try.ntmps43
 go_wp2
 go_loopg [3, 10] k (fun kq v3 v10 w' => ∃ (bu : List Int) (aa : Int), v10 = .int .i64 aa ∧ Aa (Bi.l0 kq bu l0 (l0.length : Int) aa = some r) ∧ Aa (kq ≤ k) ∧ Aa (Kd.R (Kd.int .i64) 3 w' w.heap.size (fun _ => True) v3 bu) ∧ Aa (Below w.heap.size w w'))
 case atStart => exact ⟨(([] : List Int)), (0), (by first | rfl | (simp; done) | (simp [*]; done)), H', ⟨Nat.le_refl _⟩, ⟨by first | exact Kd.C2 _ _ _ _ _ | exact Kd.N_nil _ _ _ _ _ | exact Kd.V_nil _ _ _ _ _ | exact Kd.Q_nil _ _ _ _ _ | exact Kd.S_nil _ _ _ _ _⟩, ⟨by repeat (first | (with_reducible first | exact HB.out | apply Ad | apply Ab | apply Ac) | exact HB.out)⟩⟩
 case round =>
  clear H'
  obtain ⟨bu, aa, rfl, HA, HK1, aH, HB⟩ := hrel
  cases gk with
  | zero => exact absurd HA.out (by simp [Bi.l0])
  | succ k1 =>
   have H := HA.out
   clear HA
   simp only [Bi.l0] at H
   by_cases c2 : aa < (l0.length : Int)
   ·rw [if_pos c2] at H
    have bn : decide (aa < (l0.length : Int)) = true := decide_eq_true c2
    clear c2
    by_cases c3 : 0 ≤ aa
    ·rw [if_pos c3] at H
     have bQ : decide (0 ≤ aa) = true := decide_eq_true c3
     clear c3
     by_cases c4 : aa < (l0.length : Int)
     ·rw [if_pos c4] at H
      have b4 : decide (aa < (l0.length : Int)) = true := decide_eq_true c4
      clear c4
      have H' := Aa.mk H
      clear H
      have cR : 0 ≤ (aa : Int) := of_decide_eq_true (by with_reducible assumption)
      have cS : aa < (l0.length : Int) := of_decide_eq_true (by with_reducible assumption)
      obtain ⟨fA, fh, fi, e129, bf, bG, hi129_0⟩ := at_L5 HR0.out aa cR cS
      cases e129
      replace bf := (HB.out.cell (World.block_lt_of_cell? w _ bf)).trans bf
      have bH := Aa.mk hi129_0
      have eu := Aa.mk bG
      clear hi129_0 bG
      replace cR := eq_true cR
      replace cS := eq_true cS
      go_wp2
      go_loopg [3, 16] k1 (fun kq v3 v16 w' => ∃ (bv : List Int) (ae : Int), v16 = .int .i64 ae ∧ Aa (Bi.l1 kq bv l0 (l0.length : Int) aa (rd_L5 l0 aa) ((rd_L5 l0 aa).length : Int) ae = some r) ∧ Aa (kq ≤ k1) ∧ Aa (Kd.R (Kd.int .i64) 3 w' w.heap.size (fun _ => True) v3 bv) ∧ Aa (Below w.heap.size w w'))
      case atStart => exact ⟨(bu), (0), (by first | rfl | (simp; done) | (simp [*]; done)), H', ⟨Nat.le_refl _⟩, ⟨by exact rU <| aH.out⟩, ⟨by repeat (first | (with_reducible first | exact HB.out | apply Ad | apply Ab | apply Ac) | exact HB.out)⟩⟩
      case round =>
       clear H'
       try clear c1
       try clear p1
       try clear q1
       try clear hx1
       try clear c2
       try clear bn
       try clear p2
       try clear c3
       try clear bQ
       try clear c4
       try clear b4
       try clear bf
       try clear cR
       try clear cS
       obtain ⟨bv, ae, rfl, HA, HK2, aH, HB⟩ := hrel
       cases gk with
       | zero => exact absurd HA.out (by simp [Bi.l1])
       | succ k2 =>
        have H := HA.out
        clear HA
        simp only [Bi.l1] at H
        by_cases c5 : ae < ((rd_L5 l0 aa).length : Int)
        ·rw [if_pos c5] at H
         have di : decide (ae < ((rd_L5 l0 aa).length : Int)) = true := decide_eq_true c5
         clear c5
         by_cases c6 : 0 ≤ ae
         ·rw [if_pos c6] at H
          have dp : decide (0 ≤ ae) = true := decide_eq_true c6
          clear c6
          by_cases c7 : ae < ((rd_L5 l0 aa).length : Int)
          ·rw [if_pos c7] at H
           have dc : decide (ae < ((rd_L5 l0 aa).length : Int)) = true := decide_eq_true c7
           clear c7
           replace H := Option.bind_eq_some_iff.mp H
           obtain ⟨df, A80, H⟩ := H
           try dsimp only at H
           have A8 := Aa.mk A80
           clear A80
           by_cases c9 : df = true
           ·subst c9
            have H1 := H
            rw [if_pos rfl] at H1
            clear H
            have H := H1
            clear H1
            obtain ⟨bz, bZ⟩ : ∃ y_ : List Int, y_ = (([(rd_T58 (rd_L5 l0 aa) ae).f1, (rd_T58 (rd_L5 l0 aa) ae).f3] : List Int)) := ⟨_, rfl⟩
            (try rw [Option.bind_some] at H); try rw [← bZ] at H
            have cW := Aa.mk bZ
            clear bZ
            by_cases c10 : bv.length + bz.length < 17592186044416
            ·rw [if_pos c10] at H
             have LMc10 := Aa.mk c10
             clear c10
             obtain ⟨fj, b3⟩ : ∃ y_ : List Int, y_ = (bv ++ bz) := ⟨_, rfl⟩
             (try rw [Option.bind_some] at H); try rw [← b3] at H
             have dv := Aa.mk b3
             clear b3
             have H' := Aa.mk H
             clear H
             have bB : 0 ≤ (ae : Int) := of_decide_eq_true (by with_reducible assumption)
             have bC : ae < ((rd_L5 l0 aa).length : Int) := of_decide_eq_true (by with_reducible assumption)
             obtain ⟨dw, e130, aV, aW, aX, aY⟩ := at_T58 bH.out ae bB bC
             cases e130
             replace aV := (HB.out.cell (World.block_lt_of_cell? w _ aV)).trans aV
             replace aW := (HB.out.cell (World.block_lt_of_cell? w _ aW)).trans aW
             replace aX := (HB.out.cell (World.block_lt_of_cell? w _ aX)).trans aX
             replace aY := (HB.out.cell (World.block_lt_of_cell? w _ aY)).trans aY
             replace bB := eq_true bB
             replace bC := eq_true bC
             go_wp2_with (first | ((with_reducible refine Bj (N := 7) rfl ?_); refine B2 ?hg (N := 7) ?hd (cs := #[.int .i64 0, .int .i64 0, .int .i64 0, .int .i64 0]) (t := 58) ?hr ?_; (case hd => rfl); (case hg => rfl); (case hr => first | (go_simp; done) | (go_simp; rfl)); intro ap hg w11 hbox hb; have n0_ := Aa.mk (Kd.Bm (by exact rU <| aH.out) hb); have n1_ := Aa.mk (Aj (lU HB.out) hb); have n2_ := Aa.mk (hbox); have n3_ := Aa.mk ((by rw [hg]; exact (Ae (lU HB.out)) : w.heap.size ≤ ap)); have n4_ := Aa.mk ((by rw [hg]; exact (Ae (lU HB.out)) : w.heap.size ≤ ap)); clear aH; clear HB; have aH := n0_; have HB := n1_; have aj := n2_; have dz := n3_; have a6 := n4_; clear n0_ n1_ n2_ n3_ n4_; clear hb hbox hg; have ew : w11.cell? ⟨ap, 0, none⟩ = some (.int .i64 0) := (Ai aj.out 0).trans rfl; have ex : w11.cell? ⟨ap, 1, none⟩ = some (.int .i64 0) := (Ai aj.out 1).trans rfl; have ey : w11.cell? ⟨ap, 2, none⟩ = some (.int .i64 0) := (Ai aj.out 2).trans rfl; have ez : w11.cell? ⟨ap, 3, none⟩ = some (.int .i64 0) := (Ai aj.out 3).trans rfl; have eA := Af aj.out 0; have eB := Af aj.out 1; have eC := Af aj.out 2; have eD := Af aj.out 3) | ((with_reducible refine Ap (f := 62) rfl ?_); refine Br (some 21) rfl rfl Try.func62 (by kernel_rfl) rfl #[.agg #[.int .i64 ((rd_T58 (rd_L5 l0 aa) ae).f0), .int .i64 ((rd_T58 (rd_L5 l0 aa) ae).f1), .int .i64 ((rd_T58 (rd_L5 l0 aa) ae).f2), .int .i64 ((rd_T58 (rd_L5 l0 aa) ae).f3)]] rfl (by (try simp only [List.map_toArray, List.map_cons, List.map_nil]); first | done | rfl | (simp only [List.length_drop, List.length_take]; rfl)) ?_; (with_reducible refine (Cb.calls ((rd_T58 (rd_L5 l0 aa) ae).f0) ((rd_T58 (rd_L5 l0 aa) ae).f1) ((rd_T58 (rd_L5 l0 aa) ae).f2) ((rd_T58 (rd_L5 l0 aa) ae).f3) true _ A8.out).mono ?_); rintro e w13 ⟨rfl, hb⟩; refine ⟨_, rfl, ?_⟩; have n0_ := Aa.mk (Kd.Bm (by exact rU <| (Kd.Bb (Kd.B3 (p := ⟨ap, 3, none⟩) (Kd.B3 (p := ⟨ap, 2, none⟩) (Kd.B3 (p := ⟨ap, 1, none⟩) (Kd.B3 (p := ⟨ap, 0, none⟩) (Kd.C3 aH.out aj.out (by decide)) (fun _ hk => hk.2) (.int .i64 ((rd_T58 (rd_L5 l0 aa) ae).f0))) (fun _ hk => hk.2) (.int .i64 ((rd_T58 (rd_L5 l0 aa) ae).f1))) (fun _ hk => hk.2) (.int .i64 ((rd_T58 (rd_L5 l0 aa) ae).f2))) (fun _ hk => hk.2) (.int .i64 ((rd_T58 (rd_L5 l0 aa) ae).f3))) (fun _ h_ => h_.1))) hb); have n1_ := Aa.mk (Bz (g := ap) (o := .cells #[.int .i64 ((rd_T58 (rd_L5 l0 aa) ae).f0), .int .i64 ((rd_T58 (rd_L5 l0 aa) ae).f1), .int .i64 ((rd_T58 (rd_L5 l0 aa) ae).f2), .int .i64 ((rd_T58 (rd_L5 l0 aa) ae).f3)] 58 (0, 0)) (by (with_reducible repeat (first | refine Aq ?_ _ | refine Au ?_ | refine Ar ?_ _)); refine Bc (cs := #[.int .i64 ((rd_T58 (rd_L5 l0 aa) ae).f0), .int .i64 ((rd_T58 (rd_L5 l0 aa) ae).f1), .int .i64 ((rd_T58 (rd_L5 l0 aa) ae).f2), .int .i64 0]) ?_ 3 _ rfl; (with_reducible repeat (first | refine Aq ?_ _ | refine Au ?_ | refine Ar ?_ _)); refine Bc (cs := #[.int .i64 ((rd_T58 (rd_L5 l0 aa) ae).f0), .int .i64 ((rd_T58 (rd_L5 l0 aa) ae).f1), .int .i64 0, .int .i64 0]) ?_ 2 _ rfl; (with_reducible repeat (first | refine Aq ?_ _ | refine Au ?_ | refine Ar ?_ _)); refine Bc (cs := #[.int .i64 ((rd_T58 (rd_L5 l0 aa) ae).f0), .int .i64 0, .int .i64 0, .int .i64 0]) ?_ 1 _ rfl; (with_reducible repeat (first | refine Aq ?_ _ | refine Au ?_ | refine Ar ?_ _)); refine Bc (cs := #[.int .i64 0, .int .i64 0, .int .i64 0, .int .i64 0]) ?_ 0 _ rfl; exact bU <| aj.out) hb); have n2_ := Aa.mk (Aj (by repeat (first | (with_reducible first | exact HB.out | apply Ad | apply Ab | apply Ac | refine Ak ?_ a6.out) | exact HB.out)) hb); clear aH; clear aj; clear HB; have aH := n0_; have aj := n1_; have HB := n2_; clear n0_ n1_ n2_; (try clear hb); (try clear hb2); (try clear hk); (try clear hi); have eE : w13.cell? ⟨ap, 0, none⟩ = some (.int .i64 ((rd_T58 (rd_L5 l0 aa) ae).f0)) := (Ai aj.out 0).trans rfl; have eF : w13.cell? ⟨ap, 1, none⟩ = some (.int .i64 ((rd_T58 (rd_L5 l0 aa) ae).f1)) := (Ai aj.out 1).trans rfl; have eG : w13.cell? ⟨ap, 2, none⟩ = some (.int .i64 ((rd_T58 (rd_L5 l0 aa) ae).f2)) := (Ai aj.out 2).trans rfl; have eH : w13.cell? ⟨ap, 3, none⟩ = some (.int .i64 ((rd_T58 (rd_L5 l0 aa) ae).f3)) := (Ai aj.out 3).trans rfl; have eI := Af aj.out 0; have eJ := Af aj.out 1; have eK := Af aj.out 2; have eL := Af aj.out 3) | ((with_reducible refine Bj (N := 27) rfl ?_); refine Kd.Cx (Kd.int .i64) _ 3 ?hg (N := 27) ?hd (xs := ([(rd_T58 (rd_L5 l0 aa) ae).f1, (rd_T58 (rd_L5 l0 aa) ae).f3] : List Int)) (inner := [.int .i64 ((rd_T58 (rd_L5 l0 aa) ae).f1), .int .i64 ((rd_T58 (rd_L5 l0 aa) ae).f3)]) (ok := fun _ => True) (okp := fun _ => True) ?hr ?hp (fun _ hk => hk) trivial (Below.refl _ _) (Nat.le_refl _) (by simp) ?_; (case hd => rfl); (case hg => rfl); (case hr => first | (go_simp; done) | (go_simp; rfl)); (case hp => exact (Reps.one (show Kd.M (Kd.int .i64) _ _ _ ((rd_T58 (rd_L5 l0 aa) ae).f1) [.int .i64 ((rd_T58 (rd_L5 l0 aa) ae).f1)] from rfl) (Reps.one (show Kd.M (Kd.int .i64) _ _ _ ((rd_T58 (rd_L5 l0 aa) ae).f3) [.int .i64 ((rd_T58 (rd_L5 l0 aa) ae).f3)] from rfl) (Reps.none _ _)))); intro v134 w15 ho16 hb hg_ hnew_; clear hg_ hnew_; (first | rw [← cW.out] at ho16 | (simp only [Int.reduceToNat] at ho16; rw [← cW.out] at ho16)); have n0_ := Aa.mk (Kd.Ao (by exact rU <| aH.out) (Kd.An ho16) hb); have n1_ := Aa.mk (Kd.Bt (Kd.Az ho16 (Kd.Bs (by exact rU <| aH.out))) (Ae (by repeat (first | (with_reducible first | exact HB.out | apply Ad | apply Ab | apply Ac | refine Ak ?_ a6.out) | exact HB.out)))); have n2_ := Aa.mk (Bz (g := ap) (o := .cells #[.int .i64 ((rd_T58 (rd_L5 l0 aa) ae).f0), .int .i64 ((rd_T58 (rd_L5 l0 aa) ae).f1), .int .i64 ((rd_T58 (rd_L5 l0 aa) ae).f2), .int .i64 ((rd_T58 (rd_L5 l0 aa) ae).f3)] 58 (0, 0)) (by exact bU <| aj.out) hb); have n3_ := Aa.mk (Aj (by repeat (first | (with_reducible first | exact HB.out | apply Ad | apply Ab | apply Ac | refine Ak ?_ a6.out) | exact HB.out)) hb); clear aH; clear aj; clear HB; have aH := n0_; have bp := n1_; have aj := n2_; have HB := n3_; clear n0_ n1_ n2_ n3_; clear hb ho16; obtain ⟨fk, fm, fo⟩ := Kd.Bk bp.out; subst fo) | ((with_reducible refine B5 (b := .append) (xs := #[.tmp 22, .tmp 27]) rfl ?_); at_builtin; refine Kd.Cs (Kd.int .i64) (w0 := w) w.heap.size rfl (.tmp 22) (.tmp 27) 29 3 (.int .i64 0) 8 rfl Try.underlying29 info3 rfl (by decide) (by omega) u3 bv bz _ _ _ (fun k_ => some k_ ≠ (.slice fk bz.length fm : Value).ownBlock) (fun _ => False) rfl rfl ?aO ?aR (fun _ _ h => h) (fun _ h => h.elim) ?aF ?aB ?aS ?aL ?_; (case aR => repeat (first | exact (Kd.As bp.out).2.2 | (with_reducible refine Kd.Bf ?_ _) | (with_reducible refine Kd.Be ?_ _) | (with_reducible refine Kd.Bn ?_))); (case aB => exact (by repeat (first | (with_reducible first | exact HB.out | apply Ad | apply Ab | apply Ac | refine Ak ?_ a6.out) | exact HB.out))); (case aF => exact (fun k_ hk => Kd.fresh' (Kd.Bs (by exact rU <| bp.out)) k_ hk)); (case aO => exact (by exact rU <| Kd.Bb aH.out (fun _ hk => hk.2))); (case aS => exact (Ae (by repeat (first | (with_reducible first | exact HB.out | apply Ad | apply Ab | apply Ac | refine Ak ?_ a6.out) | exact HB.out)))); (case aL => have := LMc10.out; omega); intro v137 w17 ho hb hg hat; rw [← dv.out] at ho; have n0_ := Aa.mk (Ck (g := ap) (o := .cells #[.int .i64 ((rd_T58 (rd_L5 l0 aa) ae).f0), .int .i64 ((rd_T58 (rd_L5 l0 aa) ae).f1), .int .i64 ((rd_T58 (rd_L5 l0 aa) ae).f2), .int .i64 ((rd_T58 (rd_L5 l0 aa) ae).f3)] 58 (0, 0)) (by exact bU <| aj.out) hg (Kd.R_ne aH.out aj.out (by decide))); have n1_ := Aa.mk (Kd.Co (ok := (fun _ => True)) (by exact rU <| bp.out) hg hat); have n2_ := Aa.mk (hb); have n3_ := Aa.mk (ho); clear aj; clear bp; clear HB; clear aH; have aj := n0_; have bp := n1_; have HB := n2_; have dA := n3_; clear n0_ n1_ n2_ n3_; clear ho hb hg hat))
             go_roundg k2
             case measure => have := HK1.out; have := HK2.out; omega
             case rel => exact ⟨(fj), (wrap64 (ae + 1)), (by first | rfl | (simp; done) | (simp [*]; done)), H', ⟨by have := HK1.out; have := HK2.out; omega⟩, ⟨by exact rU <| Kd.Bb dA.out (fun _ hk => trivial)⟩, ⟨by repeat (first | (with_reducible first | exact HB.out | apply Ad | apply Ab | apply Ac | refine Ak ?_ a6.out) | exact HB.out)⟩⟩
            ·rw [if_neg c10] at H
             exact absurd H (by simp)
           ·replace c9 := Bool.eq_false_iff.mpr c9
            subst c9
            have H1 := H
            rw [if_neg (show ¬ (false = true) by decide)] at H1
            clear H
            have H := H1
            clear H1
            have H' := Aa.mk H
            clear H
            have bB : 0 ≤ (ae : Int) := of_decide_eq_true (by with_reducible assumption)
            have bC : ae < ((rd_L5 l0 aa).length : Int) := of_decide_eq_true (by with_reducible assumption)
            obtain ⟨dw, e130, aV, aW, aX, aY⟩ := at_T58 bH.out ae bB bC
            cases e130
            replace aV := (HB.out.cell (World.block_lt_of_cell? w _ aV)).trans aV
            replace aW := (HB.out.cell (World.block_lt_of_cell? w _ aW)).trans aW
            replace aX := (HB.out.cell (World.block_lt_of_cell? w _ aX)).trans aX
            replace aY := (HB.out.cell (World.block_lt_of_cell? w _ aY)).trans aY
            replace bB := eq_true bB
            replace bC := eq_true bC
            go_wp2_with (first | ((with_reducible refine Bj (N := 7) rfl ?_); refine B2 ?hg (N := 7) ?hd (cs := #[.int .i64 0, .int .i64 0, .int .i64 0, .int .i64 0]) (t := 58) ?hr ?_; (case hd => rfl); (case hg => rfl); (case hr => first | (go_simp; done) | (go_simp; rfl)); intro ap hg w19 hbox hb; have n0_ := Aa.mk (Kd.Bm (by exact rU <| aH.out) hb); have n1_ := Aa.mk (Aj (lU HB.out) hb); have n2_ := Aa.mk (hbox); have n3_ := Aa.mk ((by rw [hg]; exact (Ae (lU HB.out)) : w.heap.size ≤ ap)); have n4_ := Aa.mk ((by rw [hg]; exact (Ae (lU HB.out)) : w.heap.size ≤ ap)); clear aH; clear HB; have aH := n0_; have HB := n1_; have aj := n2_; have dz := n3_; have a6 := n4_; clear n0_ n1_ n2_ n3_ n4_; clear hb hbox hg; have cu : w19.cell? ⟨ap, 0, none⟩ = some (.int .i64 0) := (Ai aj.out 0).trans rfl; have cv : w19.cell? ⟨ap, 1, none⟩ = some (.int .i64 0) := (Ai aj.out 1).trans rfl; have cw : w19.cell? ⟨ap, 2, none⟩ = some (.int .i64 0) := (Ai aj.out 2).trans rfl; have cx : w19.cell? ⟨ap, 3, none⟩ = some (.int .i64 0) := (Ai aj.out 3).trans rfl; have cy := Af aj.out 0; have cz := Af aj.out 1; have cA := Af aj.out 2; have cB := Af aj.out 3) | ((with_reducible refine Ap (f := 62) rfl ?_); refine Br (some 21) rfl rfl Try.func62 (by kernel_rfl) rfl #[.agg #[.int .i64 ((rd_T58 (rd_L5 l0 aa) ae).f0), .int .i64 ((rd_T58 (rd_L5 l0 aa) ae).f1), .int .i64 ((rd_T58 (rd_L5 l0 aa) ae).f2), .int .i64 ((rd_T58 (rd_L5 l0 aa) ae).f3)]] rfl (by (try simp only [List.map_toArray, List.map_cons, List.map_nil]); first | done | rfl | (simp only [List.length_drop, List.length_take]; rfl)) ?_; (with_reducible refine (Cb.calls ((rd_T58 (rd_L5 l0 aa) ae).f0) ((rd_T58 (rd_L5 l0 aa) ae).f1) ((rd_T58 (rd_L5 l0 aa) ae).f2) ((rd_T58 (rd_L5 l0 aa) ae).f3) false _ A8.out).mono ?_); rintro e w21 ⟨rfl, hb⟩; refine ⟨_, rfl, ?_⟩; have n0_ := Aa.mk (Kd.Bm (by exact rU <| (Kd.Bb (Kd.B3 (p := ⟨ap, 3, none⟩) (Kd.B3 (p := ⟨ap, 2, none⟩) (Kd.B3 (p := ⟨ap, 1, none⟩) (Kd.B3 (p := ⟨ap, 0, none⟩) (Kd.C3 aH.out aj.out (by decide)) (fun _ hk => hk.2) (.int .i64 ((rd_T58 (rd_L5 l0 aa) ae).f0))) (fun _ hk => hk.2) (.int .i64 ((rd_T58 (rd_L5 l0 aa) ae).f1))) (fun _ hk => hk.2) (.int .i64 ((rd_T58 (rd_L5 l0 aa) ae).f2))) (fun _ hk => hk.2) (.int .i64 ((rd_T58 (rd_L5 l0 aa) ae).f3))) (fun _ h_ => h_.1))) hb); have n1_ := Aa.mk (Bz (g := ap) (o := .cells #[.int .i64 ((rd_T58 (rd_L5 l0 aa) ae).f0), .int .i64 ((rd_T58 (rd_L5 l0 aa) ae).f1), .int .i64 ((rd_T58 (rd_L5 l0 aa) ae).f2), .int .i64 ((rd_T58 (rd_L5 l0 aa) ae).f3)] 58 (0, 0)) (by (with_reducible repeat (first | refine Aq ?_ _ | refine Au ?_ | refine Ar ?_ _)); refine Bc (cs := #[.int .i64 ((rd_T58 (rd_L5 l0 aa) ae).f0), .int .i64 ((rd_T58 (rd_L5 l0 aa) ae).f1), .int .i64 ((rd_T58 (rd_L5 l0 aa) ae).f2), .int .i64 0]) ?_ 3 _ rfl; (with_reducible repeat (first | refine Aq ?_ _ | refine Au ?_ | refine Ar ?_ _)); refine Bc (cs := #[.int .i64 ((rd_T58 (rd_L5 l0 aa) ae).f0), .int .i64 ((rd_T58 (rd_L5 l0 aa) ae).f1), .int .i64 0, .int .i64 0]) ?_ 2 _ rfl; (with_reducible repeat (first | refine Aq ?_ _ | refine Au ?_ | refine Ar ?_ _)); refine Bc (cs := #[.int .i64 ((rd_T58 (rd_L5 l0 aa) ae).f0), .int .i64 0, .int .i64 0, .int .i64 0]) ?_ 1 _ rfl; (with_reducible repeat (first | refine Aq ?_ _ | refine Au ?_ | refine Ar ?_ _)); refine Bc (cs := #[.int .i64 0, .int .i64 0, .int .i64 0, .int .i64 0]) ?_ 0 _ rfl; exact bU <| aj.out) hb); have n2_ := Aa.mk (Aj (by repeat (first | (with_reducible first | exact HB.out | apply Ad | apply Ab | apply Ac | refine Ak ?_ a6.out) | exact HB.out)) hb); clear aH; clear aj; clear HB; have aH := n0_; have aj := n1_; have HB := n2_; clear n0_ n1_ n2_; (try clear hb); (try clear hb2); (try clear hk); (try clear hi)))
            go_roundg k2
            case measure => have := HK1.out; have := HK2.out; omega
            case rel => exact ⟨(bv), (wrap64 (ae + 1)), (by first | rfl | (simp; done) | (simp [*]; done)), H', ⟨by have := HK1.out; have := HK2.out; omega⟩, ⟨by exact rU <| aH.out⟩, ⟨by repeat (first | (with_reducible first | exact HB.out | apply Ad | apply Ab | apply Ac | refine Ak ?_ a6.out) | exact HB.out)⟩⟩
          ·rw [if_neg c7] at H
           exact absurd H (by simp)
         ·rw [if_neg c6] at H
          exact absurd H (by simp)
        ·rw [if_neg c5] at H
         have di : decide (ae < ((rd_L5 l0 aa).length : Int)) = false := decide_eq_false c5
         clear c5
         have H' := Aa.mk H
         clear H
         go_wp2
         go_roundg k2
         case measure => have := HK1.out; have := HK2.out; omega
         case rel => exact ⟨(bv), (wrap64 (aa + 1)), (by first | rfl | (simp; done) | (simp [*]; done)), H', ⟨by have := HK1.out; have := HK2.out; omega⟩, ⟨by exact rU <| aH.out⟩, ⟨by repeat (first | (with_reducible first | exact HB.out | apply Ad | apply Ab | apply Ac) | exact HB.out)⟩⟩
     ·rw [if_neg c4] at H
      exact absurd H (by simp)
    ·rw [if_neg c3] at H
     exact absurd H (by simp)
   ·rw [if_neg c2] at H
    have bn : decide (aa < (l0.length : Int)) = false := decide_eq_false c2
    clear c2
    replace H := Option.bind_eq_some_iff.mp H
    obtain ⟨de, A220, H⟩ := H
    try dsimp only at H
    have A22 := Aa.mk A220
    clear A220
    obtain rfl := Option.some.inj H
    obtain ⟨cC, cD, cZ⟩ := Kd.Bk aH.out
    subst cZ
    go_wp2_with (first | ((with_reducible refine Ap (f := 71) rfl ?_); refine Br (some 32) rfl rfl Try.func71 (by kernel_rfl) rfl #[.slice cC bu.length cD] rfl (by (try simp only [List.map_toArray, List.map_cons, List.map_nil]); first | done | rfl | (simp only [List.length_drop, List.length_take]; rfl)) ?_; (with_reducible refine (Cc.calls (fun k_ => some k_ = (.slice cC bu.length cD : Value).ownBlock) (.slice cC bu.length cD) bu de w _ ?side1 ?side2 A22.out).mono ?_); (case side1 => repeat (first | (with_reducible first | exact HB.out | apply Ad | apply Ab | apply Ac) | exact HB.out)); (case side2 => exact Kd.Ct rfl aH.out); rintro e w24 ⟨v127, rfl, ho0, hb, hkp⟩; refine ⟨_, rfl, ?_⟩; have n0_ := Aa.mk (Kd.Bb (ok' := fun k_ => True) ho0 (fun k_ hk_ => trivial)); have n1_ := Aa.mk (hb); clear HB; clear aH; have dB := n0_; have HB := n1_; clear n0_ n1_; (try clear hb); (try clear hkp); (try clear ho0)))
    go_ret
    exact ⟨_, by first | rfl | (simp [Aw, Av] <;> rfl) | (simp [*, Aw, Av] <;> rfl), by exact rU <| dB.out, by repeat (first | (with_reducible first | exact HB.out | apply Ad | apply Ab | apply Ac) | exact HB.out)⟩

end Go.Proofs.Ytobdfiglgdbecaa.PGA

