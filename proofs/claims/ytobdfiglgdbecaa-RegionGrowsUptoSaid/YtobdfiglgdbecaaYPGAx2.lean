import Derived.Test.YtobdfiglgdbecaaYPGAx0
import Derived.Test.YtobdfiglgdbecaaYDI
import Derived.Test.YtobdfiglgdbecaaYNR
namespace Go.Proofs.Ytobdfiglgdbecaa.PGA
open Go.Proofs.Ytobdfiglgdbecaa.PGB
open Go.RowKit Go.Proofs.YtobdfiglgdbecaaW.PrintWords Go.Proofs.YtobdfiglgdbecaaW.PrintLast Go.Proofs.YtobdfiglgdbecaaW.PrintMore
attribute [local go_sem] max2_int min2_int max_two min_two max_three min_three max_four min_four
set_option linter.unusedVariables false
set_option linter.unusedSimpArgs false

def B4.f (bc : Int) (bx : Int) (be : Int) (bz : Int) : Option (Bool) := if bc < be then (some (decide (bx < bz))) else (some false)
set_option maxHeartbeats 8000000 in
set_option maxRecDepth 100000 in
theorem B4.calls (bc : Int) (bx : Int) (be : Int) (bz : Int) (r : Bool) (w : World) (h : B4.f bc bx be bz = some r) :
  Calls Try.prog 62 #[.agg #[.int .i64 bc, .int .i64 bx, .int .i64 be, .int .i64 bz]] w fun e w' => e = .returned (.bool r) ∧ Below w.heap.size w w' := by
 have hu58 := Try.underlying58
 have HB := Aa.mk (Below.refl w.heap.size w)
 have H : (if bc < be then (some (decide (bx < bz))) else (some false)) = some r := h
 clear h
 by_cases c2 : bc < be
 ·rw [if_pos c2] at H
  have bu : decide (bc < be) = true := decide_eq_true c2
  clear c2
  obtain rfl := Option.some.inj H
  go_enter Try.func62, Try.ntmps62
  go_wp2_with (first | ((with_reducible refine Bj (N := 1) rfl ?_); refine B0 ?hg (N := 1) ?hd (cs := #[.int .i64 bc, .int .i64 bx, .int .i64 be, .int .i64 bz]) (t := 58) ?hr ?_; (case hd => rfl); (case hg => rfl); (case hr => first | (go_simp; done) | (go_simp; rfl)); intro aJ hg w3 hbox hb; have n0_ := Aa.mk (Ak (lU HB.out) hb); have n1_ := Aa.mk (hbox); have n2_ := Aa.mk ((by rw [hg]; exact (Ag (lU HB.out)) : w.heap.size ≤ aJ)); have n3_ := Aa.mk ((by rw [hg]; exact (Ag (lU HB.out)) : w.heap.size ≤ aJ)); clear HB; have HB := n0_; have aE := n1_; have dm := n2_; have bP := n3_; clear n0_ n1_ n2_ n3_; clear hb hbox hg; have eV : w3.cell? ⟨aJ, 0, none⟩ = some (.int .i64 bc) := (Aj aE.out 0).trans rfl; have eW : w3.cell? ⟨aJ, 1, none⟩ = some (.int .i64 bx) := (Aj aE.out 1).trans rfl; have eX : w3.cell? ⟨aJ, 2, none⟩ = some (.int .i64 be) := (Aj aE.out 2).trans rfl; have eY : w3.cell? ⟨aJ, 3, none⟩ = some (.int .i64 bz) := (Aj aE.out 3).trans rfl; have eZ := Af aE.out 0; have e5 := Af aE.out 1; have e6 := Af aE.out 2; have e7 := Af aE.out 3))
  go_ret
  exact ⟨by first | rfl | (simp [Ax, Aw] <;> rfl) | (simp [*, Ax, Aw] <;> rfl), by repeat (first | (with_reducible first | exact HB.out | apply Ad | apply Ab | apply Ac | refine Ai ?_ bP.out) | exact HB.out)⟩
 ·rw [if_neg c2] at H
  have bu : decide (bc < be) = false := decide_eq_false c2
  clear c2
  obtain rfl := Option.some.inj H
  go_enter Try.func62, Try.ntmps62
  go_wp2_with (first | ((with_reducible refine Bj (N := 1) rfl ?_); refine B0 ?hg (N := 1) ?hd (cs := #[.int .i64 bc, .int .i64 bx, .int .i64 be, .int .i64 bz]) (t := 58) ?hr ?_; (case hd => rfl); (case hg => rfl); (case hr => first | (go_simp; done) | (go_simp; rfl)); intro aJ hg w5 hbox hb; have n0_ := Aa.mk (Ak (lU HB.out) hb); have n1_ := Aa.mk (hbox); have n2_ := Aa.mk ((by rw [hg]; exact (Ag (lU HB.out)) : w.heap.size ≤ aJ)); have n3_ := Aa.mk ((by rw [hg]; exact (Ag (lU HB.out)) : w.heap.size ≤ aJ)); clear HB; have HB := n0_; have aE := n1_; have dm := n2_; have bP := n3_; clear n0_ n1_ n2_ n3_; clear hb hbox hg; have bQ : w5.cell? ⟨aJ, 0, none⟩ = some (.int .i64 bc) := (Aj aE.out 0).trans rfl; have bR : w5.cell? ⟨aJ, 1, none⟩ = some (.int .i64 bx) := (Aj aE.out 1).trans rfl; have bS : w5.cell? ⟨aJ, 2, none⟩ = some (.int .i64 be) := (Aj aE.out 2).trans rfl; have e8 : w5.cell? ⟨aJ, 3, none⟩ = some (.int .i64 bz) := (Aj aE.out 3).trans rfl; have bT := Af aE.out 0; have bV := Af aE.out 1; have bW := Af aE.out 2; have e9 := Af aE.out 3))
  go_ret
  exact ⟨by first | rfl | (simp [Ax, Aw] <;> rfl) | (simp [*, Ax, Aw] <;> rfl), by repeat (first | (with_reducible first | exact HB.out | apply Ad | apply Ab | apply Ac | refine Ai ?_ bP.out) | exact HB.out)⟩

def Bk.l0 : Nat → List (S58) → Int → Int → Option (Int)
 | 0, _, _, _ => none
 | k + 1, x8, x9, x10 => if x10 < x9 then (if 0 ≤ x10 then (if x10 < (x8.length : Int) then ((B4.f ((rd_T58 x8 x10).f0) ((rd_T58 x8 x10).f1) ((rd_T58 x8 x10).f2) ((rd_T58 x8 x10).f3)).bind fun de => (if de = true then ((Ce.f (([(rd_T58 x8 x10).f0, (rd_T58 x8 x10).f1, (rd_T58 x8 x10).f2, (rd_T58 x8 x10).f3] : List Int))).bind fun df => (if df = true then (Bk.l0 k x8 x9 (wrap64 (x10 + 1))) else (some 61))) else (Bk.l0 k x8 x9 (wrap64 (x10 + 1))))) else (none)) else (none)) else (some 0)
def Bk.f (k : Nat) (l0 : List (S58)) : Option (Int) := if (l0.length : Int) > 4096 then (some 60) else (Bk.l0 k l0 (l0.length : Int) 0)
set_option maxHeartbeats 8000000 in
set_option maxRecDepth 100000 in
theorem Bk.calls (k : Nat) (A0 : Option Addr) (c0 : Nat) (l0 : List (S58)) (r : Int) (w : World) (hr0 : Kd.C k58 w A0 l0.length l0) (hc0 : l0.length ≤ c0) (h : Bk.f k l0 = some r) :
  Calls Try.prog 42 #[.slice A0 l0.length c0] w fun e w' => e = .returned (.int .i64 r) ∧ Below w.heap.size w w' := by
 have hu58 := Try.underlying58
 have HR0 := Aa.mk hr0
 have HC0 := Aa.mk hc0
 clear hr0 hc0
 have HB := Aa.mk (Below.refl w.heap.size w)
 have H : (if (l0.length : Int) > 4096 then (some 60) else (Bk.l0 k l0 (l0.length : Int) 0)) = some r := h
 clear h
 by_cases c2 : (l0.length : Int) > 4096
 ·rw [if_pos c2] at H
  have bu : decide (4096 < (l0.length : Int)) = true := decide_eq_true c2
  have dn : decide (4096 < l0.length) = true := decide_eq_true (by omega)
  clear c2
  obtain rfl := Option.some.inj H
  go_enter Try.func42, Try.ntmps42
  go_wp2
  go_ret
  exact ⟨by first | rfl | (simp [Ax, Aw] <;> rfl) | (simp [*, Ax, Aw] <;> rfl), by repeat (first | (with_reducible first | exact HB.out | apply Ad | apply Ab | apply Ac) | exact HB.out)⟩
 ·rw [if_neg c2] at H
  have bu : decide (4096 < (l0.length : Int)) = false := decide_eq_false c2
  have dn : decide (4096 < l0.length) = false := decide_eq_false (by omega)
  clear c2
  have H' := Aa.mk H
  clear H
  go_enter Try.func42, Try.ntmps42
  go_wp2
  go_loopg [10] k (fun kq v10 w' => ∃ (aa : Int), v10 = .int .i64 aa ∧ Aa (Bk.l0 kq l0 (l0.length : Int) aa = some r) ∧ Aa (kq ≤ k) ∧ Aa (Below w.heap.size w w'))
  case atStart => exact ⟨(0), (by first | rfl | (simp; done) | (simp [*]; done)), H', ⟨Nat.le_refl _⟩, ⟨by repeat (first | (with_reducible first | exact HB.out | apply Ad | apply Ab | apply Ac) | exact HB.out)⟩⟩
  case round =>
   clear H'
   try clear c2
   try clear bu
   try clear dn
   try clear p2
   obtain ⟨aa, rfl, HA, HK1, HB⟩ := hrel
   cases gk with
   | zero => exact absurd HA.out (by simp [Bk.l0])
   | succ k1 =>
    have H := HA.out
    clear HA
    simp only [Bk.l0] at H
    by_cases c3 : aa < (l0.length : Int)
    ·rw [if_pos c3] at H
     have bX : decide (aa < (l0.length : Int)) = true := decide_eq_true c3
     clear c3
     by_cases c4 : 0 ≤ aa
     ·rw [if_pos c4] at H
      have cd : decide (0 ≤ aa) = true := decide_eq_true c4
      clear c4
      by_cases c5 : aa < (l0.length : Int)
      ·rw [if_pos c5] at H
       have dp : decide (aa < (l0.length : Int)) = true := decide_eq_true c5
       clear c5
       replace H := Option.bind_eq_some_iff.mp H
       obtain ⟨de, A60, H⟩ := H
       try dsimp only at H
       have A6 := Aa.mk A60
       clear A60
       by_cases c7 : de = true
       ·subst c7
        have H1 := H
        rw [if_pos rfl] at H1
        clear H
        have H := H1
        clear H1
        obtain ⟨dq, bY⟩ : ∃ y_ : List Int, y_ = (([(rd_T58 l0 aa).f0, (rd_T58 l0 aa).f1, (rd_T58 l0 aa).f2, (rd_T58 l0 aa).f3] : List Int)) := ⟨_, rfl⟩
        (try rw [Option.bind_some] at H); try rw [← bY] at H
        have bJ := Aa.mk bY
        clear bY
        replace H := Option.bind_eq_some_iff.mp H
        obtain ⟨df, A80, H⟩ := H
        try dsimp only at H
        have A8 := Aa.mk A80
        clear A80
        by_cases c9 : df = true
        ·subst c9
         have H1 := H
         rw [if_pos rfl] at H1
         clear H
         have H := H1
         clear H1
         have H' := Aa.mk H
         clear H
         have bm : 0 ≤ (aa : Int) := of_decide_eq_true (by with_reducible assumption)
         have bn : aa < (l0.length : Int) := of_decide_eq_true (by with_reducible assumption)
         obtain ⟨cZ, e102, aw, ax, ay, az⟩ := at_T58 HR0.out aa bm bn
         cases e102
         replace aw := (HB.out.cell (World.block_lt_of_cell? w _ aw)).trans aw
         replace ax := (HB.out.cell (World.block_lt_of_cell? w _ ax)).trans ax
         replace ay := (HB.out.cell (World.block_lt_of_cell? w _ ay)).trans ay
         replace az := (HB.out.cell (World.block_lt_of_cell? w _ az)).trans az
         replace bm := eq_true bm
         replace bn := eq_true bn
         go_wp2_with (first | ((with_reducible refine Bj (N := 4) rfl ?_); (try (refine Cc (by rfl) ?_; dsimp only)); refine B0 ?hg (N := 4) ?hd (cs := #[.int .i64 0, .int .i64 0, .int .i64 0, .int .i64 0]) (t := 58) ?hr ?_; (case hd => rfl); (case hg => rfl); (case hr => first | (go_simp; done) | (go_simp; rfl)); intro an hg w10 hbox hb; have n0_ := Aa.mk (Ak (lU HB.out) hb); have n1_ := Aa.mk (hbox); have n2_ := Aa.mk ((by rw [hg]; exact (Ag (lU HB.out)) : w.heap.size ≤ an)); have n3_ := Aa.mk ((by rw [hg]; exact (Ag (lU HB.out)) : w.heap.size ≤ an)); clear HB; have HB := n0_; have ah := n1_; have da := n2_; have aZ := n3_; clear n0_ n1_ n2_ n3_; clear hb hbox hg; have dI : w10.cell? ⟨an, 0, none⟩ = some (.int .i64 0) := (Aj ah.out 0).trans rfl; have dJ : w10.cell? ⟨an, 1, none⟩ = some (.int .i64 0) := (Aj ah.out 1).trans rfl; have dK : w10.cell? ⟨an, 2, none⟩ = some (.int .i64 0) := (Aj ah.out 2).trans rfl; have dL : w10.cell? ⟨an, 3, none⟩ = some (.int .i64 0) := (Aj ah.out 3).trans rfl; have dM := Af ah.out 0; have dN := Af ah.out 1; have dO := Af ah.out 2; have dP := Af ah.out 3) | ((with_reducible refine As (f := 62) rfl ?_); refine Br (some 15) rfl rfl Try.func62 (by kernel_rfl) rfl #[.agg #[.int .i64 ((rd_T58 l0 aa).f0), .int .i64 ((rd_T58 l0 aa).f1), .int .i64 ((rd_T58 l0 aa).f2), .int .i64 ((rd_T58 l0 aa).f3)]] rfl (by (try simp only [List.map_toArray, List.map_cons, List.map_nil]); first | done | rfl | (simp only [List.length_drop, List.length_take]; rfl)) ?_; (with_reducible refine (B4.calls ((rd_T58 l0 aa).f0) ((rd_T58 l0 aa).f1) ((rd_T58 l0 aa).f2) ((rd_T58 l0 aa).f3) true _ A6.out).mono ?_); rintro e w12 ⟨rfl, hb⟩; refine ⟨_, rfl, ?_⟩; have n0_ := Aa.mk (Bc (g := an) (o := .cells #[.int .i64 ((rd_T58 l0 aa).f0), .int .i64 ((rd_T58 l0 aa).f1), .int .i64 ((rd_T58 l0 aa).f2), .int .i64 ((rd_T58 l0 aa).f3)] 58 (0, 0)) (by (with_reducible repeat (first | refine Am ?_ _ | refine Ar ?_ | refine An ?_ _)); refine Bb (cs := #[.int .i64 ((rd_T58 l0 aa).f0), .int .i64 ((rd_T58 l0 aa).f1), .int .i64 ((rd_T58 l0 aa).f2), .int .i64 0]) ?_ 3 _ rfl; (with_reducible repeat (first | refine Am ?_ _ | refine Ar ?_ | refine An ?_ _)); refine Bb (cs := #[.int .i64 ((rd_T58 l0 aa).f0), .int .i64 ((rd_T58 l0 aa).f1), .int .i64 0, .int .i64 0]) ?_ 2 _ rfl; (with_reducible repeat (first | refine Am ?_ _ | refine Ar ?_ | refine An ?_ _)); refine Bb (cs := #[.int .i64 ((rd_T58 l0 aa).f0), .int .i64 0, .int .i64 0, .int .i64 0]) ?_ 1 _ rfl; (with_reducible repeat (first | refine Am ?_ _ | refine Ar ?_ | refine An ?_ _)); refine Bb (cs := #[.int .i64 0, .int .i64 0, .int .i64 0, .int .i64 0]) ?_ 0 _ rfl; exact bU <| ah.out) hb); have n1_ := Aa.mk (Ak (by repeat (first | (with_reducible first | exact HB.out | apply Ad | apply Ab | apply Ac | refine Ai ?_ aZ.out) | exact HB.out)) hb); clear ah; clear HB; have ah := n0_; have HB := n1_; clear n0_ n1_; (try clear hb); (try clear hb2); (try clear hk); (try clear hi); have cg : w12.cell? ⟨an, 0, none⟩ = some (.int .i64 ((rd_T58 l0 aa).f0)) := (Aj ah.out 0).trans rfl; have ch : w12.cell? ⟨an, 1, none⟩ = some (.int .i64 ((rd_T58 l0 aa).f1)) := (Aj ah.out 1).trans rfl; have ci : w12.cell? ⟨an, 2, none⟩ = some (.int .i64 ((rd_T58 l0 aa).f2)) := (Aj ah.out 2).trans rfl; have cj : w12.cell? ⟨an, 3, none⟩ = some (.int .i64 ((rd_T58 l0 aa).f3)) := (Aj ah.out 3).trans rfl; have cl := Af ah.out 0; have cn := Af ah.out 1; have co := Af ah.out 2; have cp := Af ah.out 3) | ((with_reducible refine Bj (N := 25) rfl ?_); (try (refine Cc (by rfl) ?_; dsimp only)); refine Kd.Cz (Kd.int .i64) _ 3 ?hg (N := 25) ?hd (xs := ([(rd_T58 l0 aa).f0, (rd_T58 l0 aa).f1, (rd_T58 l0 aa).f2, (rd_T58 l0 aa).f3] : List Int)) (inner := [.int .i64 ((rd_T58 l0 aa).f0), .int .i64 ((rd_T58 l0 aa).f1), .int .i64 ((rd_T58 l0 aa).f2), .int .i64 ((rd_T58 l0 aa).f3)]) (ok := fun _ => True) (okp := fun _ => True) ?hr ?hp (fun _ hk => hk) trivial (Below.refl _ _) (Nat.le_refl _) (by simp) ?_; (case hd => rfl); (case hg => rfl); (case hr => first | (go_simp; done) | (go_simp; rfl)); (case hp => exact (Reps.one (show Kd.M (Kd.int .i64) _ _ _ ((rd_T58 l0 aa).f0) [.int .i64 ((rd_T58 l0 aa).f0)] from rfl) (Reps.one (show Kd.M (Kd.int .i64) _ _ _ ((rd_T58 l0 aa).f1) [.int .i64 ((rd_T58 l0 aa).f1)] from rfl) (Reps.one (show Kd.M (Kd.int .i64) _ _ _ ((rd_T58 l0 aa).f2) [.int .i64 ((rd_T58 l0 aa).f2)] from rfl) (Reps.one (show Kd.M (Kd.int .i64) _ _ _ ((rd_T58 l0 aa).f3) [.int .i64 ((rd_T58 l0 aa).f3)] from rfl) (Reps.none _ _)))))); intro v106 w14 ho15 hb hg_ hnew_; clear hg_ hnew_; (first | rw [← bJ.out] at ho15 | (simp only [Int.reduceToNat] at ho15; rw [← bJ.out] at ho15)); have n0_ := Aa.mk (Kd.Bx ho15 (Ag (by repeat (first | (with_reducible first | exact HB.out | apply Ad | apply Ab | apply Ac | refine Ai ?_ aZ.out) | exact HB.out)))); have n1_ := Aa.mk (Bc (g := an) (o := .cells #[.int .i64 ((rd_T58 l0 aa).f0), .int .i64 ((rd_T58 l0 aa).f1), .int .i64 ((rd_T58 l0 aa).f2), .int .i64 ((rd_T58 l0 aa).f3)] 58 (0, 0)) (by exact bU <| ah.out) hb); have n2_ := Aa.mk (Ak (by repeat (first | (with_reducible first | exact HB.out | apply Ad | apply Ab | apply Ac | refine Ai ?_ aZ.out) | exact HB.out)) hb); clear ah; clear HB; have bo := n0_; have ah := n1_; have HB := n2_; clear n0_ n1_ n2_; clear hb ho15; obtain ⟨fL, fM, fa⟩ := Kd.Bn bo.out; subst fa) | (go_at_call 70; (with_reducible refine (Ce.calls _ _ dq true _ ?side1 ?side2 A8.out).mono ?_); (case side1 => repeat (first | exact (Kd.At bo.out).2.2 | (with_reducible refine Kd.Bi ?_ _) | (with_reducible refine Kd.Bh ?_ _) | (with_reducible refine Kd.Bm ?_))); (case side2 => exact (Kd.At bo.out).2.1); rintro e w' ⟨rfl, ⟨nd, rfl⟩⟩))
         go_roundg k1
         case measure => have := HK1.out; omega
         case rel => exact ⟨(wrap64 (aa + 1)), (by first | rfl | (simp; done) | (simp [*]; done)), H', ⟨by have := HK1.out; omega⟩, ⟨by repeat (first | (with_reducible first | exact HB.out | apply Ad | apply Ab | apply Ac | refine Ai ?_ aZ.out) | exact HB.out)⟩⟩
        ·replace c9 := Bool.eq_false_iff.mpr c9
         subst c9
         have H1 := H
         rw [if_neg (show ¬ (false = true) by decide)] at H1
         clear H
         have H := H1
         clear H1
         obtain rfl := Option.some.inj H
         have bm : 0 ≤ (aa : Int) := of_decide_eq_true (by with_reducible assumption)
         have bn : aa < (l0.length : Int) := of_decide_eq_true (by with_reducible assumption)
         obtain ⟨cZ, e102, aw, ax, ay, az⟩ := at_T58 HR0.out aa bm bn
         cases e102
         replace aw := (HB.out.cell (World.block_lt_of_cell? w _ aw)).trans aw
         replace ax := (HB.out.cell (World.block_lt_of_cell? w _ ax)).trans ax
         replace ay := (HB.out.cell (World.block_lt_of_cell? w _ ay)).trans ay
         replace az := (HB.out.cell (World.block_lt_of_cell? w _ az)).trans az
         replace bm := eq_true bm
         replace bn := eq_true bn
         go_wp2_with (first | ((with_reducible refine Bj (N := 4) rfl ?_); (try (refine Cc (by rfl) ?_; dsimp only)); refine B0 ?hg (N := 4) ?hd (cs := #[.int .i64 0, .int .i64 0, .int .i64 0, .int .i64 0]) (t := 58) ?hr ?_; (case hd => rfl); (case hg => rfl); (case hr => first | (go_simp; done) | (go_simp; rfl)); intro an hg w17 hbox hb; have n0_ := Aa.mk (Ak (lU HB.out) hb); have n1_ := Aa.mk (hbox); have n2_ := Aa.mk ((by rw [hg]; exact (Ag (lU HB.out)) : w.heap.size ≤ an)); have n3_ := Aa.mk ((by rw [hg]; exact (Ag (lU HB.out)) : w.heap.size ≤ an)); clear HB; have HB := n0_; have ah := n1_; have da := n2_; have aZ := n3_; clear n0_ n1_ n2_ n3_; clear hb hbox hg; have cq : w17.cell? ⟨an, 0, none⟩ = some (.int .i64 0) := (Aj ah.out 0).trans rfl; have ct : w17.cell? ⟨an, 1, none⟩ = some (.int .i64 0) := (Aj ah.out 1).trans rfl; have cu : w17.cell? ⟨an, 2, none⟩ = some (.int .i64 0) := (Aj ah.out 2).trans rfl; have cv : w17.cell? ⟨an, 3, none⟩ = some (.int .i64 0) := (Aj ah.out 3).trans rfl; have cw := Af ah.out 0; have cx := Af ah.out 1; have cy := Af ah.out 2; have cz := Af ah.out 3) | ((with_reducible refine As (f := 62) rfl ?_); refine Br (some 15) rfl rfl Try.func62 (by kernel_rfl) rfl #[.agg #[.int .i64 ((rd_T58 l0 aa).f0), .int .i64 ((rd_T58 l0 aa).f1), .int .i64 ((rd_T58 l0 aa).f2), .int .i64 ((rd_T58 l0 aa).f3)]] rfl (by (try simp only [List.map_toArray, List.map_cons, List.map_nil]); first | done | rfl | (simp only [List.length_drop, List.length_take]; rfl)) ?_; (with_reducible refine (B4.calls ((rd_T58 l0 aa).f0) ((rd_T58 l0 aa).f1) ((rd_T58 l0 aa).f2) ((rd_T58 l0 aa).f3) true _ A6.out).mono ?_); rintro e w19 ⟨rfl, hb⟩; refine ⟨_, rfl, ?_⟩; have n0_ := Aa.mk (Bc (g := an) (o := .cells #[.int .i64 ((rd_T58 l0 aa).f0), .int .i64 ((rd_T58 l0 aa).f1), .int .i64 ((rd_T58 l0 aa).f2), .int .i64 ((rd_T58 l0 aa).f3)] 58 (0, 0)) (by (with_reducible repeat (first | refine Am ?_ _ | refine Ar ?_ | refine An ?_ _)); refine Bb (cs := #[.int .i64 ((rd_T58 l0 aa).f0), .int .i64 ((rd_T58 l0 aa).f1), .int .i64 ((rd_T58 l0 aa).f2), .int .i64 0]) ?_ 3 _ rfl; (with_reducible repeat (first | refine Am ?_ _ | refine Ar ?_ | refine An ?_ _)); refine Bb (cs := #[.int .i64 ((rd_T58 l0 aa).f0), .int .i64 ((rd_T58 l0 aa).f1), .int .i64 0, .int .i64 0]) ?_ 2 _ rfl; (with_reducible repeat (first | refine Am ?_ _ | refine Ar ?_ | refine An ?_ _)); refine Bb (cs := #[.int .i64 ((rd_T58 l0 aa).f0), .int .i64 0, .int .i64 0, .int .i64 0]) ?_ 1 _ rfl; (with_reducible repeat (first | refine Am ?_ _ | refine Ar ?_ | refine An ?_ _)); refine Bb (cs := #[.int .i64 0, .int .i64 0, .int .i64 0, .int .i64 0]) ?_ 0 _ rfl; exact bU <| ah.out) hb); have n1_ := Aa.mk (Ak (by repeat (first | (with_reducible first | exact HB.out | apply Ad | apply Ab | apply Ac | refine Ai ?_ aZ.out) | exact HB.out)) hb); clear ah; clear HB; have ah := n0_; have HB := n1_; clear n0_ n1_; (try clear hb); (try clear hb2); (try clear hk); (try clear hi); have cA : w19.cell? ⟨an, 0, none⟩ = some (.int .i64 ((rd_T58 l0 aa).f0)) := (Aj ah.out 0).trans rfl; have cB : w19.cell? ⟨an, 1, none⟩ = some (.int .i64 ((rd_T58 l0 aa).f1)) := (Aj ah.out 1).trans rfl; have cC : w19.cell? ⟨an, 2, none⟩ = some (.int .i64 ((rd_T58 l0 aa).f2)) := (Aj ah.out 2).trans rfl; have cD : w19.cell? ⟨an, 3, none⟩ = some (.int .i64 ((rd_T58 l0 aa).f3)) := (Aj ah.out 3).trans rfl; have cE := Af ah.out 0; have cF := Af ah.out 1; have cG := Af ah.out 2; have cH := Af ah.out 3) | ((with_reducible refine Bj (N := 25) rfl ?_); (try (refine Cc (by rfl) ?_; dsimp only)); refine Kd.Cz (Kd.int .i64) _ 3 ?hg (N := 25) ?hd (xs := ([(rd_T58 l0 aa).f0, (rd_T58 l0 aa).f1, (rd_T58 l0 aa).f2, (rd_T58 l0 aa).f3] : List Int)) (inner := [.int .i64 ((rd_T58 l0 aa).f0), .int .i64 ((rd_T58 l0 aa).f1), .int .i64 ((rd_T58 l0 aa).f2), .int .i64 ((rd_T58 l0 aa).f3)]) (ok := fun _ => True) (okp := fun _ => True) ?hr ?hp (fun _ hk => hk) trivial (Below.refl _ _) (Nat.le_refl _) (by simp) ?_; (case hd => rfl); (case hg => rfl); (case hr => first | (go_simp; done) | (go_simp; rfl)); (case hp => exact (Reps.one (show Kd.M (Kd.int .i64) _ _ _ ((rd_T58 l0 aa).f0) [.int .i64 ((rd_T58 l0 aa).f0)] from rfl) (Reps.one (show Kd.M (Kd.int .i64) _ _ _ ((rd_T58 l0 aa).f1) [.int .i64 ((rd_T58 l0 aa).f1)] from rfl) (Reps.one (show Kd.M (Kd.int .i64) _ _ _ ((rd_T58 l0 aa).f2) [.int .i64 ((rd_T58 l0 aa).f2)] from rfl) (Reps.one (show Kd.M (Kd.int .i64) _ _ _ ((rd_T58 l0 aa).f3) [.int .i64 ((rd_T58 l0 aa).f3)] from rfl) (Reps.none _ _)))))); intro v106 w21 ho22 hb hg_ hnew_; clear hg_ hnew_; (first | rw [← bJ.out] at ho22 | (simp only [Int.reduceToNat] at ho22; rw [← bJ.out] at ho22)); have n0_ := Aa.mk (Kd.Bx ho22 (Ag (by repeat (first | (with_reducible first | exact HB.out | apply Ad | apply Ab | apply Ac | refine Ai ?_ aZ.out) | exact HB.out)))); have n1_ := Aa.mk (Bc (g := an) (o := .cells #[.int .i64 ((rd_T58 l0 aa).f0), .int .i64 ((rd_T58 l0 aa).f1), .int .i64 ((rd_T58 l0 aa).f2), .int .i64 ((rd_T58 l0 aa).f3)] 58 (0, 0)) (by exact bU <| ah.out) hb); have n2_ := Aa.mk (Ak (by repeat (first | (with_reducible first | exact HB.out | apply Ad | apply Ab | apply Ac | refine Ai ?_ aZ.out) | exact HB.out)) hb); clear ah; clear HB; have bo := n0_; have ah := n1_; have HB := n2_; clear n0_ n1_ n2_; clear hb ho22; obtain ⟨cI, cJ, dg⟩ := Kd.Bn bo.out; subst dg) | (go_at_call 70; (with_reducible refine (Ce.calls _ _ dq false _ ?side1 ?side2 A8.out).mono ?_); (case side1 => repeat (first | exact (Kd.At bo.out).2.2 | (with_reducible refine Kd.Bi ?_ _) | (with_reducible refine Kd.Bh ?_ _) | (with_reducible refine Kd.Bm ?_))); (case side2 => exact (Kd.At bo.out).2.1); rintro e w' ⟨rfl, ⟨nd, rfl⟩⟩))
         go_ret
         exact ⟨by first | rfl | (simp [Ax, Aw] <;> rfl) | (simp [*, Ax, Aw] <;> rfl), by repeat (first | (with_reducible first | exact HB.out | apply Ad | apply Ab | apply Ac | refine Ai ?_ aZ.out) | exact HB.out)⟩
       ·replace c7 := Bool.eq_false_iff.mpr c7
        subst c7
        have H1 := H
        rw [if_neg (show ¬ (false = true) by decide)] at H1
        clear H
        have H := H1
        clear H1
        have H' := Aa.mk H
        clear H
        have bm : 0 ≤ (aa : Int) := of_decide_eq_true (by with_reducible assumption)
        have bn : aa < (l0.length : Int) := of_decide_eq_true (by with_reducible assumption)
        obtain ⟨cZ, e102, aw, ax, ay, az⟩ := at_T58 HR0.out aa bm bn
        cases e102
        replace aw := (HB.out.cell (World.block_lt_of_cell? w _ aw)).trans aw
        replace ax := (HB.out.cell (World.block_lt_of_cell? w _ ax)).trans ax
        replace ay := (HB.out.cell (World.block_lt_of_cell? w _ ay)).trans ay
        replace az := (HB.out.cell (World.block_lt_of_cell? w _ az)).trans az
        replace bm := eq_true bm
        replace bn := eq_true bn
        go_wp2_with (first | ((with_reducible refine Bj (N := 4) rfl ?_); (try (refine Cc (by rfl) ?_; dsimp only)); refine B0 ?hg (N := 4) ?hd (cs := #[.int .i64 0, .int .i64 0, .int .i64 0, .int .i64 0]) (t := 58) ?hr ?_; (case hd => rfl); (case hg => rfl); (case hr => first | (go_simp; done) | (go_simp; rfl)); intro an hg w24 hbox hb; have n0_ := Aa.mk (Ak (lU HB.out) hb); have n1_ := Aa.mk (hbox); have n2_ := Aa.mk ((by rw [hg]; exact (Ag (lU HB.out)) : w.heap.size ≤ an)); have n3_ := Aa.mk ((by rw [hg]; exact (Ag (lU HB.out)) : w.heap.size ≤ an)); clear HB; have HB := n0_; have ah := n1_; have da := n2_; have aZ := n3_; clear n0_ n1_ n2_ n3_; clear hb hbox hg; have cK : w24.cell? ⟨an, 0, none⟩ = some (.int .i64 0) := (Aj ah.out 0).trans rfl; have cL : w24.cell? ⟨an, 1, none⟩ = some (.int .i64 0) := (Aj ah.out 1).trans rfl; have cM : w24.cell? ⟨an, 2, none⟩ = some (.int .i64 0) := (Aj ah.out 2).trans rfl; have dQ : w24.cell? ⟨an, 3, none⟩ = some (.int .i64 0) := (Aj ah.out 3).trans rfl; have cN := Af ah.out 0; have cO := Af ah.out 1; have cP := Af ah.out 2; have dR := Af ah.out 3) | ((with_reducible refine As (f := 62) rfl ?_); refine Br (some 15) rfl rfl Try.func62 (by kernel_rfl) rfl #[.agg #[.int .i64 ((rd_T58 l0 aa).f0), .int .i64 ((rd_T58 l0 aa).f1), .int .i64 ((rd_T58 l0 aa).f2), .int .i64 ((rd_T58 l0 aa).f3)]] rfl (by (try simp only [List.map_toArray, List.map_cons, List.map_nil]); first | done | rfl | (simp only [List.length_drop, List.length_take]; rfl)) ?_; (with_reducible refine (B4.calls ((rd_T58 l0 aa).f0) ((rd_T58 l0 aa).f1) ((rd_T58 l0 aa).f2) ((rd_T58 l0 aa).f3) false _ A6.out).mono ?_); rintro e w26 ⟨rfl, hb⟩; refine ⟨_, rfl, ?_⟩; have n0_ := Aa.mk (Bc (g := an) (o := .cells #[.int .i64 ((rd_T58 l0 aa).f0), .int .i64 ((rd_T58 l0 aa).f1), .int .i64 ((rd_T58 l0 aa).f2), .int .i64 ((rd_T58 l0 aa).f3)] 58 (0, 0)) (by (with_reducible repeat (first | refine Am ?_ _ | refine Ar ?_ | refine An ?_ _)); refine Bb (cs := #[.int .i64 ((rd_T58 l0 aa).f0), .int .i64 ((rd_T58 l0 aa).f1), .int .i64 ((rd_T58 l0 aa).f2), .int .i64 0]) ?_ 3 _ rfl; (with_reducible repeat (first | refine Am ?_ _ | refine Ar ?_ | refine An ?_ _)); refine Bb (cs := #[.int .i64 ((rd_T58 l0 aa).f0), .int .i64 ((rd_T58 l0 aa).f1), .int .i64 0, .int .i64 0]) ?_ 2 _ rfl; (with_reducible repeat (first | refine Am ?_ _ | refine Ar ?_ | refine An ?_ _)); refine Bb (cs := #[.int .i64 ((rd_T58 l0 aa).f0), .int .i64 0, .int .i64 0, .int .i64 0]) ?_ 1 _ rfl; (with_reducible repeat (first | refine Am ?_ _ | refine Ar ?_ | refine An ?_ _)); refine Bb (cs := #[.int .i64 0, .int .i64 0, .int .i64 0, .int .i64 0]) ?_ 0 _ rfl; exact bU <| ah.out) hb); have n1_ := Aa.mk (Ak (by repeat (first | (with_reducible first | exact HB.out | apply Ad | apply Ab | apply Ac | refine Ai ?_ aZ.out) | exact HB.out)) hb); clear ah; clear HB; have ah := n0_; have HB := n1_; clear n0_ n1_; (try clear hb); (try clear hb2); (try clear hk); (try clear hi)))
        go_roundg k1
        case measure => have := HK1.out; omega
        case rel => exact ⟨(wrap64 (aa + 1)), (by first | rfl | (simp; done) | (simp [*]; done)), H', ⟨by have := HK1.out; omega⟩, ⟨by repeat (first | (with_reducible first | exact HB.out | apply Ad | apply Ab | apply Ac | refine Ai ?_ aZ.out) | exact HB.out)⟩⟩
      ·rw [if_neg c5] at H
       exact absurd H (by simp)
     ·rw [if_neg c4] at H
      exact absurd H (by simp)
    ·rw [if_neg c3] at H
     have bX : decide (aa < (l0.length : Int)) = false := decide_eq_false c3
     clear c3
     obtain rfl := Option.some.inj H
     go_wp2
     go_ret
     exact ⟨by first | rfl | (simp [Ax, Aw] <;> rfl) | (simp [*, Ax, Aw] <;> rfl), by repeat (first | (with_reducible first | exact HB.out | apply Ad | apply Ab | apply Ac) | exact HB.out)⟩

mutual
def Bo.l0 : Nat → List (S58) → Bool → List (S91) → Int → Int → Option ((List (S58)) × Int)
 | 0, _, _, _, _, _ => none
 | k + 1, x4, x5, x10, x11, x12 => if x12 < x11 then (if 0 ≤ x12 then (if x12 < (x10.length : Int) then (Bo.l1 k x4 x5 x10 x11 x12 ((rd_T91 x10 x12).f2) (((rd_T91 x10 x12).f2).length : Int) 0 ((rd_T91 x10 x12).f0) ((rd_T91 x10 x12).f1) ((rd_T91 x10 x12).f2)) else (none)) else (none)) else (if x5 = true then (some (([] : List (S58)), 60)) else (some (x4, 0)))
def Bo.l1 : Nat → List (S58) → Bool → List (S91) → Int → Int → List (S93) → Int → Int → Int → Int → List (S93) → Option ((List (S58)) × Int)
 | 0, _, _, _, _, _, _, _, _, _, _, _ => none
 | k + 1, x4, x5, x10, x11, x12, x17, x18, x19, bf, bg, bK => if x19 < x18 then (if 0 ≤ x19 then (if x19 < (x17.length : Int) then ((Ce.f (([(rd_T93 x17 x19).f0, (rd_T93 x17 x19).f1, bf, bg] : List Int))).bind fun dh => (if dh = true then (if (x4.length : Int) = 4096 then (Bo.l1 k x4 true x10 x11 x12 x17 x18 (wrap64 (x19 + 1)) bf bg bK) else (if x4.length < 4398046511104 then (Bo.l1 k (x4 ++ [(⟨(rd_T93 x17 x19).f0, bf, (rd_T93 x17 x19).f1, bg⟩ : S58)]) x5 x10 x11 x12 x17 x18 (wrap64 (x19 + 1)) bf bg bK) else (none))) else (some (([] : List (S58)), 61)))) else (none)) else (none)) else (Bo.l0 k x4 x5 x10 x11 (wrap64 (x12 + 1)))
end
def Bo.f (k : Nat) (l0 : List (S91)) : Option ((List (S58)) × Int) := Bo.l0 k ([] : List (S58)) false l0 (l0.length : Int) 0
set_option maxHeartbeats 8000000 in
set_option maxRecDepth 100000 in
theorem Bo.calls (k : Nat) (A0 : Option Addr) (c0 : Nat) (l0 : List (S91)) (r1 : List (S58)) (r2 : Int) (w : World) (hr0 : Kd.C k91 w A0 l0.length l0) (hc0 : l0.length ≤ c0) (h : Bo.f k l0 = some (r1, r2)) :
  Calls Try.prog 46 #[.slice A0 l0.length c0] w fun e w' => ∃ v0_ : Value, e = .returned (.tuple #[v0_, .int .i64 r2]) ∧ Kd.R k58 58 w' w.heap.size (fun _ => True) v0_ r1 ∧ Below w.heap.size w w' := by
 have hu91 := Try.underlying91
 have hu93 := Try.underlying93
 have hu58 := Try.underlying58
 have HR0 := Aa.mk hr0
 have HC0 := Aa.mk hc0
 clear hr0 hc0
 have HB := Aa.mk (Below.refl w.heap.size w)
 have H : (Bo.l0 k ([] : List (S58)) false l0 (l0.length : Int) 0) = some (r1, r2) := h
 clear h
 have H' := Aa.mk H
 clear H
 go_enter Try.func46, Try.ntmps46
 go_wp2
 go_loopg [4, 5, 12] k (fun kq v4 v5 v12 w' => ∃ (cQ : List (S58)) (bZ : Bool) (ab : Int), v5 = .bool bZ ∧ v12 = .int .i64 ab ∧ Aa (Bo.l0 kq cQ bZ l0 (l0.length : Int) ab = some (r1, r2)) ∧ Aa (kq ≤ k) ∧ Aa (Kd.R k58 58 w' w.heap.size (fun _ => True) v4 cQ) ∧ Aa (Below w.heap.size w w'))
 case atStart => exact ⟨(([] : List (S58))), (false), (0), (by first | rfl | (simp; done) | (simp [*]; done)), (by first | rfl | (simp; done) | (simp [*]; done)), H', ⟨Nat.le_refl _⟩, ⟨by first | exact Kd.Cy _ _ _ _ _ | exact Kd.N_nil _ _ _ _ _ | exact Kd.V_nil _ _ _ _ _ | exact Kd.Q_nil _ _ _ _ _ | exact Kd.S_nil _ _ _ _ _⟩, ⟨by repeat (first | (with_reducible first | exact HB.out | apply Ad | apply Ab | apply Ac) | exact HB.out)⟩⟩
 case round =>
  clear H'
  obtain ⟨cQ, bZ, ab, rfl, rfl, HA, HK1, av, HB⟩ := hrel
  cases gk with
  | zero => exact absurd HA.out (by simp [Bo.l0])
  | succ k1 =>
   have H := HA.out
   clear HA
   simp only [Bo.l0] at H
   by_cases c2 : ab < (l0.length : Int)
   ·rw [if_pos c2] at H
    have bu : decide (ab < (l0.length : Int)) = true := decide_eq_true c2
    clear c2
    by_cases c3 : 0 ≤ ab
    ·rw [if_pos c3] at H
     have bX : decide (0 ≤ ab) = true := decide_eq_true c3
     clear c3
     by_cases c4 : ab < (l0.length : Int)
     ·rw [if_pos c4] at H
      have cd : decide (ab < (l0.length : Int)) = true := decide_eq_true c4
      clear c4
      have H' := Aa.mk H
      clear H
      have cR : 0 ≤ (ab : Int) := of_decide_eq_true (by with_reducible assumption)
      have cS : ab < (l0.length : Int) := of_decide_eq_true (by with_reducible assumption)
      obtain ⟨fC, b3, ar, e109, bh, bi, bj, bL, hi109_2⟩ := at_T91 HR0.out ab cR cS
      cases e109
      replace bh := (HB.out.cell (World.block_lt_of_cell? w _ bh)).trans bh
      replace bi := (HB.out.cell (World.block_lt_of_cell? w _ bi)).trans bi
      replace bj := (HB.out.cell (World.block_lt_of_cell? w _ bj)).trans bj
      have bB := Aa.mk hi109_2
      have dS := Aa.mk bL
      clear hi109_2 bL
      replace cR := eq_true cR
      replace cS := eq_true cS
      go_wp2_with (first | ((with_reducible refine Bj (N := 7) rfl ?_); refine B0 ?hg (N := 7) ?hd (cs := #[.int .i64 0, .int .i64 0, .slice none 0 0]) (t := 91) ?hr ?_; (case hd => rfl); (case hg => rfl); (case hr => first | (go_simp; done) | (go_simp; rfl)); intro ai hg w5 hbox hb; have n0_ := Aa.mk (Kd.Be (by exact rU <| av.out) hb); have n1_ := Aa.mk (Ak (lU HB.out) hb); have n2_ := Aa.mk (hbox); have n3_ := Aa.mk ((by rw [hg]; exact (Ag (lU HB.out)) : w.heap.size ≤ ai)); have n4_ := Aa.mk ((by rw [hg]; exact (Ag (lU HB.out)) : w.heap.size ≤ ai)); clear av; clear HB; have av := n0_; have HB := n1_; have ag := n2_; have fD := n3_; have au := n4_; clear n0_ n1_ n2_ n3_ n4_; clear hb hbox hg; have bQ : w5.cell? ⟨ai, 0, none⟩ = some (.int .i64 0) := (Aj ag.out 0).trans rfl; have bR : w5.cell? ⟨ai, 1, none⟩ = some (.int .i64 0) := (Aj ag.out 1).trans rfl; have bS : w5.cell? ⟨ai, 2, none⟩ = some (.slice none 0 0) := (Aj ag.out 2).trans rfl; have bT := Af ag.out 0; have bV := Af ag.out 1; have bW := Af ag.out 2))
      go_loopg [4, 5, 19] k1 (fun kq v4 v5 v19 w' => ∃ (a8 : List (S58)) (b4 : Bool) (af : Int), v5 = .bool b4 ∧ v19 = .int .i64 af ∧ Aa (Bo.l1 kq a8 b4 l0 (l0.length : Int) ab ((rd_T91 l0 ab).f2) (((rd_T91 l0 ab).f2).length : Int) af ((rd_T91 l0 ab).f0) ((rd_T91 l0 ab).f1) ((rd_T91 l0 ab).f2) = some (r1, r2)) ∧ Aa (kq ≤ k1) ∧ Aa (Kd.R k58 58 w' w.heap.size (fun _ => True) v4 a8) ∧ Aa (w'.heap[ai]? = some (.cells #[.int .i64 ((rd_T91 l0 ab).f0), .int .i64 ((rd_T91 l0 ab).f1), (.slice b3 ((rd_T91 l0 ab).f2).length ar)] 91 (0, 0))) ∧ Aa (Below w.heap.size w w'))
      case atStart => exact ⟨(cQ), (bZ), (0), (by first | rfl | (simp; done) | (simp [*]; done)), (by first | rfl | (simp; done) | (simp [*]; done)), H', ⟨Nat.le_refl _⟩, ⟨by exact rU <| Kd.Bs (Kd.B8 (p := ⟨ai, 2, none⟩) (Kd.B8 (p := ⟨ai, 1, none⟩) (Kd.B8 (p := ⟨ai, 0, none⟩) (Kd.Cx av.out ag.out (by decide)) (fun _ hk => hk.2) (.int .i64 ((rd_T91 l0 ab).f0))) (fun _ hk => hk.2) (.int .i64 ((rd_T91 l0 ab).f1))) (fun _ hk => hk.2) (.slice b3 ((rd_T91 l0 ab).f2).length ar)) (fun _ hk => trivial)⟩, ⟨by (with_reducible repeat (first | refine Am ?_ _ | refine Ar ?_ | refine An ?_ _)); refine Bb (cs := #[.int .i64 ((rd_T91 l0 ab).f0), .int .i64 ((rd_T91 l0 ab).f1), .slice none 0 0]) ?_ 2 _ rfl; (with_reducible repeat (first | refine Am ?_ _ | refine Ar ?_ | refine An ?_ _)); refine Bb (cs := #[.int .i64 ((rd_T91 l0 ab).f0), .int .i64 0, .slice none 0 0]) ?_ 1 _ rfl; (with_reducible repeat (first | refine Am ?_ _ | refine Ar ?_ | refine An ?_ _)); refine Bb (cs := #[.int .i64 0, .int .i64 0, .slice none 0 0]) ?_ 0 _ rfl; exact bU <| ag.out⟩, ⟨by repeat (first | (with_reducible first | exact HB.out | apply Ad | apply Ab | apply Ac | refine Ai ?_ au.out) | exact HB.out)⟩⟩
      case round =>
       clear H'
       try clear c1
       try clear p1
       try clear q1
       try clear hx1
       try clear c2
       try clear bu
       try clear p2
       try clear c3
       try clear bX
       try clear c4
       try clear cd
       try clear bQ
       try clear bR
       try clear bS
       try clear bT
       try clear bV
       try clear bW
       try clear bh
       try clear bi
       try clear bj
       try clear cR
       try clear cS
       obtain ⟨a8, b4, af, rfl, rfl, HA, HK2, av, ag, HB⟩ := hrel
       cases gk with
       | zero => exact absurd HA.out (by simp [Bo.l1])
       | succ k2 =>
        have H := HA.out
        clear HA
        simp only [Bo.l1] at H
        by_cases c7 : af < (((rd_T91 l0 ab).f2).length : Int)
        ·rw [if_pos c7] at H
         have di : decide (af < (((rd_T91 l0 ab).f2).length : Int)) = true := decide_eq_true c7
         clear c7
         by_cases c8 : 0 ≤ af
         ·rw [if_pos c8] at H
          have fb : decide (0 ≤ af) = true := decide_eq_true c8
          clear c8
          by_cases c9 : af < (((rd_T91 l0 ab).f2).length : Int)
          ·rw [if_pos c9] at H
           have fN : decide (af < (((rd_T91 l0 ab).f2).length : Int)) = true := decide_eq_true c9
           clear c9
           obtain ⟨bO, b5⟩ : ∃ y_ : List Int, y_ = (([(rd_T93 ((rd_T91 l0 ab).f2) af).f0, (rd_T93 ((rd_T91 l0 ab).f2) af).f1, ((rd_T91 l0 ab).f0), ((rd_T91 l0 ab).f1)] : List Int)) := ⟨_, rfl⟩
           (try rw [Option.bind_some] at H); try rw [← b5] at H
           have bv := Aa.mk b5
           clear b5
           replace H := Option.bind_eq_some_iff.mp H
           obtain ⟨dh, A100, H⟩ := H
           try dsimp only at H
           have A10 := Aa.mk A100
           clear A100
           by_cases c11 : dh = true
           ·subst c11
            have H1 := H
            rw [if_pos rfl] at H1
            clear H
            have H := H1
            clear H1
            by_cases c12 : (a8.length : Int) = 4096
            ·rw [if_pos c12] at H
             have dr : ((a8.length : Int) == 4096) = true := beq_iff_eq.mpr c12
             have dt : ((a8.length : Int) != 4096) = false := bne_eq_false_iff_eq.mpr c12
             clear c12
             have H' := Aa.mk H
             clear H
             have bp : 0 ≤ (af : Int) := of_decide_eq_true (by with_reducible assumption)
             have bq : af < (((rd_T91 l0 ab).f2).length : Int) := of_decide_eq_true (by with_reducible assumption)
             obtain ⟨aA, e111, aC, aD⟩ := at_T93 bB.out af bp bq
             cases e111
             replace aC := (HB.out.cell (World.block_lt_of_cell? w _ aC)).trans aC
             replace aD := (HB.out.cell (World.block_lt_of_cell? w _ aD)).trans aD
             replace bp := eq_true bp
             replace bq := eq_true bq
             go_wp2_with (first | ((with_reducible refine Bj (N := 9) rfl ?_); refine B0 ?hg (N := 9) ?hd (cs := #[.int .i64 0, .int .i64 0]) (t := 93) ?hr ?_; (case hd => rfl); (case hg => rfl); (case hr => first | (go_simp; done) | (go_simp; rfl)); intro ao hg w13 hbox hb; have n0_ := Aa.mk (Kd.Be (by exact rU <| av.out) hb); have n1_ := Aa.mk (Bc (g := ai) (o := .cells #[.int .i64 ((rd_T91 l0 ab).f0), .int .i64 ((rd_T91 l0 ab).f1), .slice (some aA) ((rd_T91 l0 ab).f2).length ar] 91 (0, 0)) (by exact bU <| ag.out) hb); have n2_ := Aa.mk (Ak (by repeat (first | (with_reducible first | exact HB.out | apply Ad | apply Ab | apply Ac | refine Ai ?_ au.out) | exact HB.out)) hb); have n3_ := Aa.mk (hbox); have n4_ := Aa.mk ((by rw [hg]; exact (Ag (by repeat (first | (with_reducible first | exact HB.out | apply Ad | apply Ab | apply Ac | refine Ai ?_ au.out) | exact HB.out))) : w.heap.size ≤ ao)); have n5_ := Aa.mk ((by rw [hg]; exact (Ag (by repeat (first | (with_reducible first | exact HB.out | apply Ad | apply Ab | apply Ac | refine Ai ?_ au.out) | exact HB.out))) : w.heap.size ≤ ao)); have n6_ := Aa.mk ((by rw [hg]; exact Nat.ne_of_lt (Cj (g := ai) (o := .cells #[.int .i64 ((rd_T91 l0 ab).f0), .int .i64 ((rd_T91 l0 ab).f1), .slice (some aA) ((rd_T91 l0 ab).f2).length ar] 91 (0, 0)) (by exact bU <| ag.out)) : ai ≠ ao)); have n7_ := Aa.mk ((by rw [hg]; exact Nat.ne_of_gt (Cj (g := ai) (o := .cells #[.int .i64 ((rd_T91 l0 ab).f0), .int .i64 ((rd_T91 l0 ab).f1), .slice (some aA) ((rd_T91 l0 ab).f2).length ar] 91 (0, 0)) (by exact bU <| ag.out)) : ao ≠ ai)); clear av; clear ag; clear HB; have av := n0_; have ag := n1_; have HB := n2_; have al := n3_; have dc := n4_; have aK := n5_; have aq := n6_; have aM := n7_; clear n0_ n1_ n2_ n3_ n4_ n5_ n6_ n7_; clear hb hbox hg; have fE := aM.out; have fF := aq.out; have cT : w13.cell? ⟨ao, 0, none⟩ = some (.int .i64 0) := (Aj al.out 0).trans rfl; have cU : w13.cell? ⟨ao, 1, none⟩ = some (.int .i64 0) := (Aj al.out 1).trans rfl; have cV := Af al.out 0; have cW := Af al.out 1; have dT : w13.cell? ⟨ai, 0, none⟩ = some (.int .i64 ((rd_T91 l0 ab).f0)) := (Aj ag.out 0).trans rfl; have dU : w13.cell? ⟨ai, 1, none⟩ = some (.int .i64 ((rd_T91 l0 ab).f1)) := (Aj ag.out 1).trans rfl; have dV : w13.cell? ⟨ai, 2, none⟩ = some (.slice (some aA) ((rd_T91 l0 ab).f2).length ar) := (Aj ag.out 2).trans rfl; have dW := Af ag.out 0; have dX := Af ag.out 1; have dY := Af ag.out 2) | ((with_reducible refine Bj (N := 31) rfl ?_); refine Kd.Cz (Kd.int .i64) _ 3 ?hg (N := 31) ?hd (xs := ([(rd_T93 ((rd_T91 l0 ab).f2) af).f0, (rd_T93 ((rd_T91 l0 ab).f2) af).f1, ((rd_T91 l0 ab).f0), ((rd_T91 l0 ab).f1)] : List Int)) (inner := [.int .i64 ((rd_T93 ((rd_T91 l0 ab).f2) af).f0), .int .i64 ((rd_T93 ((rd_T91 l0 ab).f2) af).f1), .int .i64 ((rd_T91 l0 ab).f0), .int .i64 ((rd_T91 l0 ab).f1)]) (ok := fun _ => True) (okp := fun _ => True) ?hr ?hp (fun _ hk => hk) trivial (Below.refl _ _) (Nat.le_refl _) (by simp) ?_; (case hd => rfl); (case hg => rfl); (case hr => first | (go_simp; done) | (go_simp; rfl)); (case hp => exact (Reps.one (show Kd.M (Kd.int .i64) _ _ _ ((rd_T93 ((rd_T91 l0 ab).f2) af).f0) [.int .i64 ((rd_T93 ((rd_T91 l0 ab).f2) af).f0)] from rfl) (Reps.one (show Kd.M (Kd.int .i64) _ _ _ ((rd_T93 ((rd_T91 l0 ab).f2) af).f1) [.int .i64 ((rd_T93 ((rd_T91 l0 ab).f2) af).f1)] from rfl) (Reps.one (show Kd.M (Kd.int .i64) _ _ _ ((rd_T91 l0 ab).f0) [.int .i64 ((rd_T91 l0 ab).f0)] from rfl) (Reps.one (show Kd.M (Kd.int .i64) _ _ _ ((rd_T91 l0 ab).f1) [.int .i64 ((rd_T91 l0 ab).f1)] from rfl) (Reps.none _ _)))))); intro v114 w17 ho18 hb hg_ hnew_; clear hg_ hnew_; (first | rw [← bv.out] at ho18 | (simp only [Int.reduceToNat] at ho18; rw [← bv.out] at ho18)); have n0_ := Aa.mk (Kd.Be (by exact rU <| (Kd.Bs (Kd.B8 (p := ⟨ao, 1, none⟩) (Kd.B8 (p := ⟨ao, 0, none⟩) (Kd.Cx av.out al.out (by decide)) (fun _ hk => hk.2) (.int .i64 ((rd_T93 ((rd_T91 l0 ab).f2) af).f0))) (fun _ hk => hk.2) (.int .i64 ((rd_T93 ((rd_T91 l0 ab).f2) af).f1))) (fun _ h_ => h_.1))) hb); have n1_ := Aa.mk (Kd.Bx ho18 (Ag (by repeat (first | (with_reducible first | exact HB.out | apply Ad | apply Ab | apply Ac | refine Ai ?_ au.out | refine Ai ?_ aK.out) | exact HB.out)))); have n2_ := Aa.mk (Bc (g := ai) (o := .cells #[.int .i64 ((rd_T91 l0 ab).f0), .int .i64 ((rd_T91 l0 ab).f1), .slice (some aA) ((rd_T91 l0 ab).f2).length ar] 91 (0, 0)) (by (with_reducible repeat (first | refine Am ?_ _ | refine Ar ?_ | refine An ?_ _)); refine Ca ?_ aq.out _; (with_reducible repeat (first | refine Am ?_ _ | refine Ar ?_ | refine An ?_ _)); refine Ca ?_ aq.out _; exact bU <| ag.out) hb); have n3_ := Aa.mk (Bc (g := ao) (o := .cells #[.int .i64 ((rd_T93 ((rd_T91 l0 ab).f2) af).f0), .int .i64 ((rd_T93 ((rd_T91 l0 ab).f2) af).f1)] 93 (0, 0)) (by (with_reducible repeat (first | refine Am ?_ _ | refine Ar ?_ | refine An ?_ _)); refine Bb (cs := #[.int .i64 ((rd_T93 ((rd_T91 l0 ab).f2) af).f0), .int .i64 0]) ?_ 1 _ rfl; (with_reducible repeat (first | refine Am ?_ _ | refine Ar ?_ | refine An ?_ _)); refine Bb (cs := #[.int .i64 0, .int .i64 0]) ?_ 0 _ rfl; exact bU <| al.out) hb); have n4_ := Aa.mk (Ak (by repeat (first | (with_reducible first | exact HB.out | apply Ad | apply Ab | apply Ac | refine Ai ?_ au.out | refine Ai ?_ aK.out) | exact HB.out)) hb); clear av; clear ag; clear al; clear HB; have av := n0_; have aI := n1_; have ag := n2_; have al := n3_; have HB := n4_; clear n0_ n1_ n2_ n3_ n4_; clear hb ho18; obtain ⟨fc, fd, fe⟩ := Kd.Bn aI.out; subst fe) | ((with_reducible refine As (f := 70) rfl ?_); refine Br (some 32) rfl rfl Try.func70 (by kernel_rfl) rfl #[.slice fc bO.length fd] rfl (by (try simp only [List.map_toArray, List.map_cons, List.map_nil]); first | done | rfl | (simp only [List.length_drop, List.length_take]; rfl)) ?_; (with_reducible refine (Ce.calls _ _ bO true _ ?side1 ?side2 A10.out).mono ?_); (case side1 => repeat (first | exact (Kd.At aI.out).2.2 | (with_reducible refine Kd.Bi ?_ _) | (with_reducible refine Kd.Bh ?_ _) | (with_reducible refine Kd.Bm ?_))); (case side2 => exact (Kd.At aI.out).2.1); rintro e w' ⟨rfl, ⟨nd, rfl⟩⟩; refine ⟨_, rfl, ?_⟩; obtain ⟨fO, fP, ff⟩ := Kd.Bn av.out; subst ff))
             go_roundg k2
             case measure => have := HK1.out; have := HK2.out; omega
             case rel => exact ⟨(a8), (true), (wrap64 (af + 1)), (by first | rfl | (simp; done) | (simp [*]; done)), (by first | rfl | (simp; done) | (simp [*]; done)), H', ⟨by have := HK1.out; have := HK2.out; omega⟩, ⟨by exact rU <| av.out⟩, ⟨by exact bU <| ag.out⟩, ⟨by repeat (first | (with_reducible first | exact HB.out | apply Ad | apply Ab | apply Ac | refine Ai ?_ au.out | refine Ai ?_ aK.out) | exact HB.out)⟩⟩
            ·rw [if_neg c12] at H
             have dr : ((a8.length : Int) == 4096) = false := beq_eq_false_iff_ne.mpr c12
             have dt : ((a8.length : Int) != 4096) = true := bne_iff_ne.mpr c12
             by_cases c21 : a8.length < 4398046511104
             ·rw [if_pos c21] at H
              have LMc21 := Aa.mk c21
              clear c21
              obtain ⟨fg, b6⟩ : ∃ y_ : List (S58), y_ = (a8 ++ [(⟨(rd_T93 ((rd_T91 l0 ab).f2) af).f0, ((rd_T91 l0 ab).f0), (rd_T93 ((rd_T91 l0 ab).f2) af).f1, ((rd_T91 l0 ab).f1)⟩ : S58)]) := ⟨_, rfl⟩
              (try rw [Option.bind_some] at H); try rw [← b6] at H
              have du := Aa.mk b6
              clear b6
              have H' := Aa.mk H
              clear H
              have bp : 0 ≤ (af : Int) := of_decide_eq_true (by with_reducible assumption)
              have bq : af < (((rd_T91 l0 ab).f2).length : Int) := of_decide_eq_true (by with_reducible assumption)
              obtain ⟨aA, e111, aC, aD⟩ := at_T93 bB.out af bp bq
              cases e111
              replace aC := (HB.out.cell (World.block_lt_of_cell? w _ aC)).trans aC
              replace aD := (HB.out.cell (World.block_lt_of_cell? w _ aD)).trans aD
              replace bp := eq_true bp
              replace bq := eq_true bq
              go_wp2_with (first | ((with_reducible refine Bj (N := 9) rfl ?_); refine B0 ?hg (N := 9) ?hd (cs := #[.int .i64 0, .int .i64 0]) (t := 93) ?hr ?_; (case hd => rfl); (case hg => rfl); (case hr => first | (go_simp; done) | (go_simp; rfl)); intro ao hg w22 hbox hb; have n0_ := Aa.mk (Kd.Be (by exact rU <| av.out) hb); have n1_ := Aa.mk (Bc (g := ai) (o := .cells #[.int .i64 ((rd_T91 l0 ab).f0), .int .i64 ((rd_T91 l0 ab).f1), .slice (some aA) ((rd_T91 l0 ab).f2).length ar] 91 (0, 0)) (by exact bU <| ag.out) hb); have n2_ := Aa.mk (Ak (by repeat (first | (with_reducible first | exact HB.out | apply Ad | apply Ab | apply Ac | refine Ai ?_ au.out) | exact HB.out)) hb); have n3_ := Aa.mk (hbox); have n4_ := Aa.mk ((by rw [hg]; exact (Ag (by repeat (first | (with_reducible first | exact HB.out | apply Ad | apply Ab | apply Ac | refine Ai ?_ au.out) | exact HB.out))) : w.heap.size ≤ ao)); have n5_ := Aa.mk ((by rw [hg]; exact (Ag (by repeat (first | (with_reducible first | exact HB.out | apply Ad | apply Ab | apply Ac | refine Ai ?_ au.out) | exact HB.out))) : w.heap.size ≤ ao)); have n6_ := Aa.mk ((by rw [hg]; exact Nat.ne_of_lt (Cj (g := ai) (o := .cells #[.int .i64 ((rd_T91 l0 ab).f0), .int .i64 ((rd_T91 l0 ab).f1), .slice (some aA) ((rd_T91 l0 ab).f2).length ar] 91 (0, 0)) (by exact bU <| ag.out)) : ai ≠ ao)); have n7_ := Aa.mk ((by rw [hg]; exact Nat.ne_of_gt (Cj (g := ai) (o := .cells #[.int .i64 ((rd_T91 l0 ab).f0), .int .i64 ((rd_T91 l0 ab).f1), .slice (some aA) ((rd_T91 l0 ab).f2).length ar] 91 (0, 0)) (by exact bU <| ag.out)) : ao ≠ ai)); clear av; clear ag; clear HB; have av := n0_; have ag := n1_; have HB := n2_; have al := n3_; have dc := n4_; have aK := n5_; have aq := n6_; have aM := n7_; clear n0_ n1_ n2_ n3_ n4_ n5_ n6_ n7_; clear hb hbox hg; have fG := aM.out; have fH := aq.out; have dZ : w22.cell? ⟨ao, 0, none⟩ = some (.int .i64 0) := (Aj al.out 0).trans rfl; have d8 : w22.cell? ⟨ao, 1, none⟩ = some (.int .i64 0) := (Aj al.out 1).trans rfl; have d9 := Af al.out 0; have ec := Af al.out 1; have cK : w22.cell? ⟨ai, 0, none⟩ = some (.int .i64 ((rd_T91 l0 ab).f0)) := (Aj ag.out 0).trans rfl; have cL : w22.cell? ⟨ai, 1, none⟩ = some (.int .i64 ((rd_T91 l0 ab).f1)) := (Aj ag.out 1).trans rfl; have cM : w22.cell? ⟨ai, 2, none⟩ = some (.slice (some aA) ((rd_T91 l0 ab).f2).length ar) := (Aj ag.out 2).trans rfl; have cN := Af ag.out 0; have cO := Af ag.out 1; have cP := Af ag.out 2) | ((with_reducible refine Bj (N := 31) rfl ?_); refine Kd.Cz (Kd.int .i64) _ 3 ?hg (N := 31) ?hd (xs := ([(rd_T93 ((rd_T91 l0 ab).f2) af).f0, (rd_T93 ((rd_T91 l0 ab).f2) af).f1, ((rd_T91 l0 ab).f0), ((rd_T91 l0 ab).f1)] : List Int)) (inner := [.int .i64 ((rd_T93 ((rd_T91 l0 ab).f2) af).f0), .int .i64 ((rd_T93 ((rd_T91 l0 ab).f2) af).f1), .int .i64 ((rd_T91 l0 ab).f0), .int .i64 ((rd_T91 l0 ab).f1)]) (ok := fun _ => True) (okp := fun _ => True) ?hr ?hp (fun _ hk => hk) trivial (Below.refl _ _) (Nat.le_refl _) (by simp) ?_; (case hd => rfl); (case hg => rfl); (case hr => first | (go_simp; done) | (go_simp; rfl)); (case hp => exact (Reps.one (show Kd.M (Kd.int .i64) _ _ _ ((rd_T93 ((rd_T91 l0 ab).f2) af).f0) [.int .i64 ((rd_T93 ((rd_T91 l0 ab).f2) af).f0)] from rfl) (Reps.one (show Kd.M (Kd.int .i64) _ _ _ ((rd_T93 ((rd_T91 l0 ab).f2) af).f1) [.int .i64 ((rd_T93 ((rd_T91 l0 ab).f2) af).f1)] from rfl) (Reps.one (show Kd.M (Kd.int .i64) _ _ _ ((rd_T91 l0 ab).f0) [.int .i64 ((rd_T91 l0 ab).f0)] from rfl) (Reps.one (show Kd.M (Kd.int .i64) _ _ _ ((rd_T91 l0 ab).f1) [.int .i64 ((rd_T91 l0 ab).f1)] from rfl) (Reps.none _ _)))))); intro v114 w26 ho27 hb hg_ hnew_; clear hg_ hnew_; (first | rw [← bv.out] at ho27 | (simp only [Int.reduceToNat] at ho27; rw [← bv.out] at ho27)); have n0_ := Aa.mk (Kd.Be (by exact rU <| (Kd.Bs (Kd.B8 (p := ⟨ao, 1, none⟩) (Kd.B8 (p := ⟨ao, 0, none⟩) (Kd.Cx av.out al.out (by decide)) (fun _ hk => hk.2) (.int .i64 ((rd_T93 ((rd_T91 l0 ab).f2) af).f0))) (fun _ hk => hk.2) (.int .i64 ((rd_T93 ((rd_T91 l0 ab).f2) af).f1))) (fun _ h_ => h_.1))) hb); have n1_ := Aa.mk (Kd.Bx ho27 (Ag (by repeat (first | (with_reducible first | exact HB.out | apply Ad | apply Ab | apply Ac | refine Ai ?_ au.out | refine Ai ?_ aK.out) | exact HB.out)))); have n2_ := Aa.mk (Bc (g := ai) (o := .cells #[.int .i64 ((rd_T91 l0 ab).f0), .int .i64 ((rd_T91 l0 ab).f1), .slice (some aA) ((rd_T91 l0 ab).f2).length ar] 91 (0, 0)) (by (with_reducible repeat (first | refine Am ?_ _ | refine Ar ?_ | refine An ?_ _)); refine Ca ?_ aq.out _; (with_reducible repeat (first | refine Am ?_ _ | refine Ar ?_ | refine An ?_ _)); refine Ca ?_ aq.out _; exact bU <| ag.out) hb); have n3_ := Aa.mk (Bc (g := ao) (o := .cells #[.int .i64 ((rd_T93 ((rd_T91 l0 ab).f2) af).f0), .int .i64 ((rd_T93 ((rd_T91 l0 ab).f2) af).f1)] 93 (0, 0)) (by (with_reducible repeat (first | refine Am ?_ _ | refine Ar ?_ | refine An ?_ _)); refine Bb (cs := #[.int .i64 ((rd_T93 ((rd_T91 l0 ab).f2) af).f0), .int .i64 0]) ?_ 1 _ rfl; (with_reducible repeat (first | refine Am ?_ _ | refine Ar ?_ | refine An ?_ _)); refine Bb (cs := #[.int .i64 0, .int .i64 0]) ?_ 0 _ rfl; exact bU <| al.out) hb); have n4_ := Aa.mk (Ak (by repeat (first | (with_reducible first | exact HB.out | apply Ad | apply Ab | apply Ac | refine Ai ?_ au.out | refine Ai ?_ aK.out) | exact HB.out)) hb); clear av; clear ag; clear al; clear HB; have av := n0_; have aI := n1_; have ag := n2_; have al := n3_; have HB := n4_; clear n0_ n1_ n2_ n3_ n4_; clear hb ho27; obtain ⟨fh, fi, fj⟩ := Kd.Bn aI.out; subst fj) | ((with_reducible refine As (f := 70) rfl ?_); refine Br (some 32) rfl rfl Try.func70 (by kernel_rfl) rfl #[.slice fh bO.length fi] rfl (by (try simp only [List.map_toArray, List.map_cons, List.map_nil]); first | done | rfl | (simp only [List.length_drop, List.length_take]; rfl)) ?_; (with_reducible refine (Ce.calls _ _ bO true _ ?side1 ?side2 A10.out).mono ?_); (case side1 => repeat (first | exact (Kd.At aI.out).2.2 | (with_reducible refine Kd.Bi ?_ _) | (with_reducible refine Kd.Bh ?_ _) | (with_reducible refine Kd.Bm ?_))); (case side2 => exact (Kd.At aI.out).2.1); rintro e w' ⟨rfl, ⟨nd, rfl⟩⟩; refine ⟨_, rfl, ?_⟩; obtain ⟨fk, fm, fo⟩ := Kd.Bn av.out; subst fo; have ed : w26.cell? ⟨ao, 0, none⟩ = some (.int .i64 ((rd_T93 ((rd_T91 l0 ab).f2) af).f0)) := (Aj al.out 0).trans rfl; have ef : w26.cell? ⟨ao, 1, none⟩ = some (.int .i64 ((rd_T93 ((rd_T91 l0 ab).f2) af).f1)) := (Aj al.out 1).trans rfl; have eh := Af al.out 0; have ei := Af al.out 1; have ej : w26.cell? ⟨ai, 0, none⟩ = some (.int .i64 ((rd_T91 l0 ab).f0)) := (Aj ag.out 0).trans rfl; have ek : w26.cell? ⟨ai, 1, none⟩ = some (.int .i64 ((rd_T91 l0 ab).f1)) := (Aj ag.out 1).trans rfl; have el : w26.cell? ⟨ai, 2, none⟩ = some (.slice (some aA) ((rd_T91 l0 ab).f2).length ar) := (Aj ag.out 2).trans rfl; have em := Af ag.out 0; have en := Af ag.out 1; have eo := Af ag.out 2) | ((with_reducible refine Cn (b := .append) (xs := #[.tmp 37, .tmp 47]) rfl ?_); at_builtin; refine Kd.R_append k58 (w0 := w) w.heap.size rfl (.tmp 37) (.tmp 47) 22 58 (.agg #[(.int .i64 0), (.int .i64 0), (.int .i64 0), (.int .i64 0)]) 32 rfl Try.underlying22 info58 rfl (by decide) (by omega) (.slice fk a8.length fm) a8 (⟨(rd_T93 ((rd_T91 l0 ab).f2) af).f0, ((rd_T91 l0 ab).f0), (rd_T93 ((rd_T91 l0 ab).f2) af).f1, ((rd_T91 l0 ab).f1)⟩ : S58) [.int .i64 ((rd_T93 ((rd_T91 l0 ab).f2) af).f0), .int .i64 ((rd_T91 l0 ab).f0), .int .i64 ((rd_T93 ((rd_T91 l0 ab).f2) af).f1), .int .i64 ((rd_T91 l0 ab).f1)] (fun _ => True) (fun _ => False) rfl rfl ?aP (fun _ hk => hk.elim) ?aF ?aO ?aB ?aS ?aL ?_; (case aP => exact k58_mkM _ _ _ (⟨(rd_T93 ((rd_T91 l0 ab).f2) af).f0, ((rd_T91 l0 ab).f0), (rd_T93 ((rd_T91 l0 ab).f2) af).f1, ((rd_T91 l0 ab).f1)⟩ : S58)); (case aB => exact (by repeat (first | (with_reducible first | exact HB.out | apply Ad | apply Ab | apply Ac | refine Ai ?_ au.out | refine Ai ?_ aK.out) | exact HB.out))); (case aF => exact (fun _ _ => trivial)); (case aO => exact (by exact rU <| av.out)); (case aS => exact (Ag (by repeat (first | (with_reducible first | exact HB.out | apply Ad | apply Ab | apply Ac | refine Ai ?_ au.out | refine Ai ?_ aK.out) | exact HB.out)))); (case aL => have := LMc21.out; omega); intro v118 w32 ho hb hg hat; rw [← du.out] at ho; have n0_ := Aa.mk (C4 (g := ai) (o := .cells #[.int .i64 ((rd_T91 l0 ab).f0), .int .i64 ((rd_T91 l0 ab).f1), .slice (some aA) ((rd_T91 l0 ab).f2).length ar] 91 (0, 0)) (by exact bU <| ag.out) hg (Kd.R_ne av.out ag.out (by decide))); have n1_ := Aa.mk (C4 (g := ao) (o := .cells #[.int .i64 ((rd_T93 ((rd_T91 l0 ab).f2) af).f0), .int .i64 ((rd_T93 ((rd_T91 l0 ab).f2) af).f1)] 93 (0, 0)) (by exact bU <| al.out) hg (Kd.R_ne av.out al.out (by decide))); have n2_ := Aa.mk (Kd.Ct (by exact rU <| aI.out) (Kd.Ck (by exact rU <| av.out)) (by decide) hg); have n3_ := Aa.mk (hb); have n4_ := Aa.mk (ho); clear ag; clear al; clear aI; clear HB; clear av; have ag := n0_; have al := n1_; have aI := n2_; have HB := n3_; have dv := n4_; clear n0_ n1_ n2_ n3_ n4_; clear ho hb hg hat))
              go_roundg k2
              case measure => have := HK1.out; have := HK2.out; omega
              case rel => exact ⟨(fg), (b4), (wrap64 (af + 1)), (by first | rfl | (simp; done) | (simp [*]; done)), (by first | rfl | (simp; done) | (simp [*]; done)), H', ⟨by have := HK1.out; have := HK2.out; omega⟩, ⟨by exact rU <| dv.out⟩, ⟨by exact bU <| ag.out⟩, ⟨by repeat (first | (with_reducible first | exact HB.out | apply Ad | apply Ab | apply Ac | refine Ai ?_ au.out | refine Ai ?_ aK.out) | exact HB.out)⟩⟩
             ·rw [if_neg c21] at H
              exact absurd H (by simp)
           ·replace c11 := Bool.eq_false_iff.mpr c11
            subst c11
            have H1 := H
            rw [if_neg (show ¬ (false = true) by decide)] at H1
            clear H
            have H := H1
            clear H1
            simp only [Option.some.injEq, Prod.mk.injEq] at H
            obtain ⟨rfl, rfl⟩ := H
            have bp : 0 ≤ (af : Int) := of_decide_eq_true (by with_reducible assumption)
            have bq : af < (((rd_T91 l0 ab).f2).length : Int) := of_decide_eq_true (by with_reducible assumption)
            obtain ⟨aA, e111, aC, aD⟩ := at_T93 bB.out af bp bq
            cases e111
            replace aC := (HB.out.cell (World.block_lt_of_cell? w _ aC)).trans aC
            replace aD := (HB.out.cell (World.block_lt_of_cell? w _ aD)).trans aD
            replace bp := eq_true bp
            replace bq := eq_true bq
            go_wp2_with (first | ((with_reducible refine Bj (N := 9) rfl ?_); refine B0 ?hg (N := 9) ?hd (cs := #[.int .i64 0, .int .i64 0]) (t := 93) ?hr ?_; (case hd => rfl); (case hg => rfl); (case hr => first | (go_simp; done) | (go_simp; rfl)); intro ao hg w33 hbox hb; have n0_ := Aa.mk (Kd.Be (by exact rU <| av.out) hb); have n1_ := Aa.mk (Bc (g := ai) (o := .cells #[.int .i64 ((rd_T91 l0 ab).f0), .int .i64 ((rd_T91 l0 ab).f1), .slice (some aA) ((rd_T91 l0 ab).f2).length ar] 91 (0, 0)) (by exact bU <| ag.out) hb); have n2_ := Aa.mk (Ak (by repeat (first | (with_reducible first | exact HB.out | apply Ad | apply Ab | apply Ac | refine Ai ?_ au.out) | exact HB.out)) hb); have n3_ := Aa.mk (hbox); have n4_ := Aa.mk ((by rw [hg]; exact (Ag (by repeat (first | (with_reducible first | exact HB.out | apply Ad | apply Ab | apply Ac | refine Ai ?_ au.out) | exact HB.out))) : w.heap.size ≤ ao)); have n5_ := Aa.mk ((by rw [hg]; exact (Ag (by repeat (first | (with_reducible first | exact HB.out | apply Ad | apply Ab | apply Ac | refine Ai ?_ au.out) | exact HB.out))) : w.heap.size ≤ ao)); have n6_ := Aa.mk ((by rw [hg]; exact Nat.ne_of_lt (Cj (g := ai) (o := .cells #[.int .i64 ((rd_T91 l0 ab).f0), .int .i64 ((rd_T91 l0 ab).f1), .slice (some aA) ((rd_T91 l0 ab).f2).length ar] 91 (0, 0)) (by exact bU <| ag.out)) : ai ≠ ao)); have n7_ := Aa.mk ((by rw [hg]; exact Nat.ne_of_gt (Cj (g := ai) (o := .cells #[.int .i64 ((rd_T91 l0 ab).f0), .int .i64 ((rd_T91 l0 ab).f1), .slice (some aA) ((rd_T91 l0 ab).f2).length ar] 91 (0, 0)) (by exact bU <| ag.out)) : ao ≠ ai)); clear av; clear ag; clear HB; have av := n0_; have ag := n1_; have HB := n2_; have al := n3_; have dc := n4_; have aK := n5_; have aq := n6_; have aM := n7_; clear n0_ n1_ n2_ n3_ n4_ n5_ n6_ n7_; clear hb hbox hg; have fI := aM.out; have fJ := aq.out; have ep : w33.cell? ⟨ao, 0, none⟩ = some (.int .i64 0) := (Aj al.out 0).trans rfl; have eq : w33.cell? ⟨ao, 1, none⟩ = some (.int .i64 0) := (Aj al.out 1).trans rfl; have er := Af al.out 0; have es := Af al.out 1; have et : w33.cell? ⟨ai, 0, none⟩ = some (.int .i64 ((rd_T91 l0 ab).f0)) := (Aj ag.out 0).trans rfl; have eu : w33.cell? ⟨ai, 1, none⟩ = some (.int .i64 ((rd_T91 l0 ab).f1)) := (Aj ag.out 1).trans rfl; have ew : w33.cell? ⟨ai, 2, none⟩ = some (.slice (some aA) ((rd_T91 l0 ab).f2).length ar) := (Aj ag.out 2).trans rfl; have ex := Af ag.out 0; have ey := Af ag.out 1; have ez := Af ag.out 2) | ((with_reducible refine Bj (N := 31) rfl ?_); refine Kd.Cz (Kd.int .i64) _ 3 ?hg (N := 31) ?hd (xs := ([(rd_T93 ((rd_T91 l0 ab).f2) af).f0, (rd_T93 ((rd_T91 l0 ab).f2) af).f1, ((rd_T91 l0 ab).f0), ((rd_T91 l0 ab).f1)] : List Int)) (inner := [.int .i64 ((rd_T93 ((rd_T91 l0 ab).f2) af).f0), .int .i64 ((rd_T93 ((rd_T91 l0 ab).f2) af).f1), .int .i64 ((rd_T91 l0 ab).f0), .int .i64 ((rd_T91 l0 ab).f1)]) (ok := fun _ => True) (okp := fun _ => True) ?hr ?hp (fun _ hk => hk) trivial (Below.refl _ _) (Nat.le_refl _) (by simp) ?_; (case hd => rfl); (case hg => rfl); (case hr => first | (go_simp; done) | (go_simp; rfl)); (case hp => exact (Reps.one (show Kd.M (Kd.int .i64) _ _ _ ((rd_T93 ((rd_T91 l0 ab).f2) af).f0) [.int .i64 ((rd_T93 ((rd_T91 l0 ab).f2) af).f0)] from rfl) (Reps.one (show Kd.M (Kd.int .i64) _ _ _ ((rd_T93 ((rd_T91 l0 ab).f2) af).f1) [.int .i64 ((rd_T93 ((rd_T91 l0 ab).f2) af).f1)] from rfl) (Reps.one (show Kd.M (Kd.int .i64) _ _ _ ((rd_T91 l0 ab).f0) [.int .i64 ((rd_T91 l0 ab).f0)] from rfl) (Reps.one (show Kd.M (Kd.int .i64) _ _ _ ((rd_T91 l0 ab).f1) [.int .i64 ((rd_T91 l0 ab).f1)] from rfl) (Reps.none _ _)))))); intro v114 w37 ho38 hb hg_ hnew_; clear hg_ hnew_; (first | rw [← bv.out] at ho38 | (simp only [Int.reduceToNat] at ho38; rw [← bv.out] at ho38)); have n0_ := Aa.mk (Kd.Be (by exact rU <| (Kd.Bs (Kd.B8 (p := ⟨ao, 1, none⟩) (Kd.B8 (p := ⟨ao, 0, none⟩) (Kd.Cx av.out al.out (by decide)) (fun _ hk => hk.2) (.int .i64 ((rd_T93 ((rd_T91 l0 ab).f2) af).f0))) (fun _ hk => hk.2) (.int .i64 ((rd_T93 ((rd_T91 l0 ab).f2) af).f1))) (fun _ h_ => h_.1))) hb); have n1_ := Aa.mk (Kd.Bx ho38 (Ag (by repeat (first | (with_reducible first | exact HB.out | apply Ad | apply Ab | apply Ac | refine Ai ?_ au.out | refine Ai ?_ aK.out) | exact HB.out)))); have n2_ := Aa.mk (Bc (g := ai) (o := .cells #[.int .i64 ((rd_T91 l0 ab).f0), .int .i64 ((rd_T91 l0 ab).f1), .slice (some aA) ((rd_T91 l0 ab).f2).length ar] 91 (0, 0)) (by (with_reducible repeat (first | refine Am ?_ _ | refine Ar ?_ | refine An ?_ _)); refine Ca ?_ aq.out _; (with_reducible repeat (first | refine Am ?_ _ | refine Ar ?_ | refine An ?_ _)); refine Ca ?_ aq.out _; exact bU <| ag.out) hb); have n3_ := Aa.mk (Bc (g := ao) (o := .cells #[.int .i64 ((rd_T93 ((rd_T91 l0 ab).f2) af).f0), .int .i64 ((rd_T93 ((rd_T91 l0 ab).f2) af).f1)] 93 (0, 0)) (by (with_reducible repeat (first | refine Am ?_ _ | refine Ar ?_ | refine An ?_ _)); refine Bb (cs := #[.int .i64 ((rd_T93 ((rd_T91 l0 ab).f2) af).f0), .int .i64 0]) ?_ 1 _ rfl; (with_reducible repeat (first | refine Am ?_ _ | refine Ar ?_ | refine An ?_ _)); refine Bb (cs := #[.int .i64 0, .int .i64 0]) ?_ 0 _ rfl; exact bU <| al.out) hb); have n4_ := Aa.mk (Ak (by repeat (first | (with_reducible first | exact HB.out | apply Ad | apply Ab | apply Ac | refine Ai ?_ au.out | refine Ai ?_ aK.out) | exact HB.out)) hb); clear av; clear ag; clear al; clear HB; have av := n0_; have aI := n1_; have ag := n2_; have al := n3_; have HB := n4_; clear n0_ n1_ n2_ n3_ n4_; clear hb ho38; obtain ⟨fp, fq, ft⟩ := Kd.Bn aI.out; subst ft) | ((with_reducible refine As (f := 70) rfl ?_); refine Br (some 32) rfl rfl Try.func70 (by kernel_rfl) rfl #[.slice fp bO.length fq] rfl (by (try simp only [List.map_toArray, List.map_cons, List.map_nil]); first | done | rfl | (simp only [List.length_drop, List.length_take]; rfl)) ?_; (with_reducible refine (Ce.calls _ _ bO false _ ?side1 ?side2 A10.out).mono ?_); (case side1 => repeat (first | exact (Kd.At aI.out).2.2 | (with_reducible refine Kd.Bi ?_ _) | (with_reducible refine Kd.Bh ?_ _) | (with_reducible refine Kd.Bm ?_))); (case side2 => exact (Kd.At aI.out).2.1); rintro e w' ⟨rfl, ⟨nd, rfl⟩⟩; refine ⟨_, rfl, ?_⟩))
            go_ret2
            exact ⟨_, by first | rfl | (simp [Ax, Aw] <;> rfl) | (simp [*, Ax, Aw] <;> rfl), by first | exact Kd.Cy _ _ _ _ _ | exact Kd.N_nil _ _ _ _ _ | exact Kd.V_nil _ _ _ _ _ | exact Kd.Q_nil _ _ _ _ _ | exact Kd.S_nil _ _ _ _ _, by repeat (first | (with_reducible first | exact HB.out | apply Ad | apply Ab | apply Ac | refine Ai ?_ au.out | refine Ai ?_ aK.out) | exact HB.out)⟩
          ·rw [if_neg c9] at H
           exact absurd H (by simp)
         ·rw [if_neg c8] at H
          exact absurd H (by simp)
        ·rw [if_neg c7] at H
         have di : decide (af < (((rd_T91 l0 ab).f2).length : Int)) = false := decide_eq_false c7
         clear c7
         have H' := Aa.mk H
         clear H
         go_wp2
         go_roundg k2
         case measure => have := HK1.out; have := HK2.out; omega
         case rel => exact ⟨(a8), (b4), (wrap64 (ab + 1)), (by first | rfl | (simp; done) | (simp [*]; done)), (by first | rfl | (simp; done) | (simp [*]; done)), H', ⟨by have := HK1.out; have := HK2.out; omega⟩, ⟨by exact rU <| av.out⟩, ⟨by repeat (first | (with_reducible first | exact HB.out | apply Ad | apply Ab | apply Ac | refine Ai ?_ au.out) | exact HB.out)⟩⟩
     ·rw [if_neg c4] at H
      exact absurd H (by simp)
    ·rw [if_neg c3] at H
     exact absurd H (by simp)
   ·rw [if_neg c2] at H
    have bu : decide (ab < (l0.length : Int)) = false := decide_eq_false c2
    clear c2
    by_cases c40 : bZ = true
    ·subst c40
     have H1 := H
     rw [if_pos rfl] at H1
     clear H
     have H := H1
     clear H1
     simp only [Option.some.injEq, Prod.mk.injEq] at H
     obtain ⟨rfl, rfl⟩ := H
     go_wp2
     go_ret2
     exact ⟨_, by first | rfl | (simp [Ax, Aw] <;> rfl) | (simp [*, Ax, Aw] <;> rfl), by first | exact Kd.Cy _ _ _ _ _ | exact Kd.N_nil _ _ _ _ _ | exact Kd.V_nil _ _ _ _ _ | exact Kd.Q_nil _ _ _ _ _ | exact Kd.S_nil _ _ _ _ _, by repeat (first | (with_reducible first | exact HB.out | apply Ad | apply Ab | apply Ac) | exact HB.out)⟩
    ·replace c40 := Bool.eq_false_iff.mpr c40
     subst c40
     have H1 := H
     rw [if_neg (show ¬ (false = true) by decide)] at H1
     clear H
     have H := H1
     clear H1
     simp only [Option.some.injEq, Prod.mk.injEq] at H
     obtain ⟨rfl, rfl⟩ := H
     go_wp2
     go_ret2
     exact ⟨_, by first | rfl | (simp [Ax, Aw] <;> rfl) | (simp [*, Ax, Aw] <;> rfl), by exact rU <| av.out, by repeat (first | (with_reducible first | exact HB.out | apply Ad | apply Ab | apply Ac) | exact HB.out)⟩

def B3.l0 : Nat → Int → Int → Int → Int → List (S58) → List (S58) → Int → Int → Option ((List (S58)))
 | 0, _, _, _, _, _, _, _, _ => none
 | k + 1, x1, x2, x3, x4, x11, x14, x15, x16 => if x16 < x15 then (if 0 ≤ x16 then (if x16 < (x14.length : Int) then ((B4.f ((rd_T58 x14 x16).f0) ((rd_T58 x14 x16).f1) ((rd_T58 x14 x16).f2) ((rd_T58 x14 x16).f3)).bind fun dj => (if dj = true then (if x11.length < 4398046511104 then (B3.l0 k x1 x2 x3 x4 (x11 ++ [(⟨wrap64 (((rd_T58 x14 x16).f0) - x1), wrap64 (((rd_T58 x14 x16).f1) - x2), wrap64 (((rd_T58 x14 x16).f2) + x3), wrap64 (((rd_T58 x14 x16).f3) + x4)⟩ : S58)]) x14 x15 (wrap64 (x16 + 1))) else (none)) else (B3.l0 k x1 x2 x3 x4 x11 x14 x15 (wrap64 (x16 + 1))))) else (none)) else (none)) else (some x11)
def B3.f (k : Nat) (l0 : List (S58)) (a1 : Int) (a2 : Int) (a3 : Int) (a4 : Int) : Option ((List (S58))) := B3.l0 k a1 a2 a3 a4 ([] : List (S58)) l0 (l0.length : Int) 0
set_option maxHeartbeats 8000000 in
set_option maxRecDepth 100000 in
theorem B3.calls (k : Nat) (A0 : Option Addr) (c0 : Nat) (l0 : List (S58)) (a1 : Int) (a2 : Int) (a3 : Int) (a4 : Int) (r : List (S58)) (w : World) (hr0 : Kd.C k58 w A0 l0.length l0) (hc0 : l0.length ≤ c0) (h : B3.f k l0 a1 a2 a3 a4 = some r) :
  Calls Try.prog 48 #[.slice A0 l0.length c0, .int .i64 a1, .int .i64 a2, .int .i64 a3, .int .i64 a4] w fun e w' => ∃ v0_ : Value, e = .returned (v0_) ∧ Kd.R k58 58 w' w.heap.size (fun _ => True) v0_ r ∧ Below w.heap.size w w' := by
 have hu58 := Try.underlying58
 have HR0 := Aa.mk hr0
 have HC0 := Aa.mk hc0
 clear hr0 hc0
 have HB := Aa.mk (Below.refl w.heap.size w)
 have H : (B3.l0 k a1 a2 a3 a4 ([] : List (S58)) l0 (l0.length : Int) 0) = some r := h
 clear h
 have H' := Aa.mk H
 clear H
 go_enter Try.func48, Try.ntmps48
 go_wp2
 go_loopg [11, 16] k (fun kq v11 v16 w' => ∃ (br : List (S58)) (ac : Int), v16 = .int .i64 ac ∧ Aa (B3.l0 kq a1 a2 a3 a4 br l0 (l0.length : Int) ac = some r) ∧ Aa (kq ≤ k) ∧ Aa (Kd.R k58 58 w' w.heap.size (fun _ => True) v11 br) ∧ Aa (Below w.heap.size w w'))
 case atStart => exact ⟨(([] : List (S58))), (0), (by first | rfl | (simp; done) | (simp [*]; done)), H', ⟨Nat.le_refl _⟩, ⟨by first | exact Kd.Cy _ _ _ _ _ | exact Kd.N_nil _ _ _ _ _ | exact Kd.V_nil _ _ _ _ _ | exact Kd.Q_nil _ _ _ _ _ | exact Kd.S_nil _ _ _ _ _⟩, ⟨by repeat (first | (with_reducible first | exact HB.out | apply Ad | apply Ab | apply Ac) | exact HB.out)⟩⟩
 case round =>
  clear H'
  try clear p2
  try clear c4
  obtain ⟨br, ac, rfl, HA, HK1, aG, HB⟩ := hrel
  cases gk with
  | zero => exact absurd HA.out (by simp [B3.l0])
  | succ k1 =>
   have H := HA.out
   clear HA
   simp only [B3.l0] at H
   by_cases c6 : ac < (l0.length : Int)
   ·rw [if_pos c6] at H
    have dw : decide (ac < (l0.length : Int)) = true := decide_eq_true c6
    clear c6
    by_cases c7 : 0 ≤ ac
    ·rw [if_pos c7] at H
     have di : decide (0 ≤ ac) = true := decide_eq_true c7
     clear c7
     by_cases c8 : ac < (l0.length : Int)
     ·rw [if_pos c8] at H
      have fb : decide (ac < (l0.length : Int)) = true := decide_eq_true c8
      clear c8
      replace H := Option.bind_eq_some_iff.mp H
      obtain ⟨dj, A90, H⟩ := H
      try dsimp only at H
      have A9 := Aa.mk A90
      clear A90
      by_cases c10 : dj = true
      ·subst c10
       have H1 := H
       rw [if_pos rfl] at H1
       clear H
       have H := H1
       clear H1
       by_cases c11 : br.length < 4398046511104
       ·rw [if_pos c11] at H
        have LMc11 := Aa.mk c11
        clear c11
        obtain ⟨fu, b7⟩ : ∃ y_ : List (S58), y_ = (br ++ [(⟨wrap64 (((rd_T58 l0 ac).f0) - a1), wrap64 (((rd_T58 l0 ac).f1) - a2), wrap64 (((rd_T58 l0 ac).f2) + a3), wrap64 (((rd_T58 l0 ac).f3) + a4)⟩ : S58)]) := ⟨_, rfl⟩
        (try rw [Option.bind_some] at H); try rw [← b7] at H
        have dz := Aa.mk b7
        clear b7
        have H' := Aa.mk H
        clear H
        have bE : 0 ≤ (ac : Int) := of_decide_eq_true (by with_reducible assumption)
        have bF : ac < (l0.length : Int) := of_decide_eq_true (by with_reducible assumption)
        obtain ⟨dA, e120, aN, aQ, aT, aU⟩ := at_T58 HR0.out ac bE bF
        cases e120
        replace aN := (HB.out.cell (World.block_lt_of_cell? w _ aN)).trans aN
        replace aQ := (HB.out.cell (World.block_lt_of_cell? w _ aQ)).trans aQ
        replace aT := (HB.out.cell (World.block_lt_of_cell? w _ aT)).trans aT
        replace aU := (HB.out.cell (World.block_lt_of_cell? w _ aU)).trans aU
        replace bE := eq_true bE
        replace bF := eq_true bF
        go_wp2_with (first | ((with_reducible refine Bj (N := 13) rfl ?_); refine B0 ?hg (N := 13) ?hd (cs := #[.int .i64 0, .int .i64 0, .int .i64 0, .int .i64 0]) (t := 58) ?hr ?_; (case hd => rfl); (case hg => rfl); (case hr => first | (go_simp; done) | (go_simp; rfl)); intro am hg w12 hbox hb; have n0_ := Aa.mk (Kd.Be (Kd.C0 (by exact rU <| aG.out) am (Nat.le_of_eq hg.symm)) hb); have n1_ := Aa.mk (Ak (lU HB.out) hb); have n2_ := Aa.mk (hbox); have n3_ := Aa.mk ((by rw [hg]; exact (Ag (lU HB.out)) : w.heap.size ≤ am)); have n4_ := Aa.mk ((by rw [hg]; exact (Ag (lU HB.out)) : w.heap.size ≤ am)); clear aG; clear HB; have aG := n0_; have HB := n1_; have ak := n2_; have dB := n3_; have bs := n4_; clear n0_ n1_ n2_ n3_ n4_; clear hb hbox hg; have cg : w12.cell? ⟨am, 0, none⟩ = some (.int .i64 0) := (Aj ak.out 0).trans rfl; have ch : w12.cell? ⟨am, 1, none⟩ = some (.int .i64 0) := (Aj ak.out 1).trans rfl; have ci : w12.cell? ⟨am, 2, none⟩ = some (.int .i64 0) := (Aj ak.out 2).trans rfl; have cj : w12.cell? ⟨am, 3, none⟩ = some (.int .i64 0) := (Aj ak.out 3).trans rfl; have cl := Af ak.out 0; have cn := Af ak.out 1; have co := Af ak.out 2; have cp := Af ak.out 3) | ((with_reducible refine As (f := 62) rfl ?_); refine Br (some 21) rfl rfl Try.func62 (by kernel_rfl) rfl #[.agg #[.int .i64 ((rd_T58 l0 ac).f0), .int .i64 ((rd_T58 l0 ac).f1), .int .i64 ((rd_T58 l0 ac).f2), .int .i64 ((rd_T58 l0 ac).f3)]] rfl (by (try simp only [List.map_toArray, List.map_cons, List.map_nil]); first | done | rfl | (simp only [List.length_drop, List.length_take]; rfl)) ?_; (with_reducible refine (B4.calls ((rd_T58 l0 ac).f0) ((rd_T58 l0 ac).f1) ((rd_T58 l0 ac).f2) ((rd_T58 l0 ac).f3) true _ A9.out).mono ?_); rintro e w14 ⟨rfl, hb⟩; refine ⟨_, rfl, ?_⟩; have n0_ := Aa.mk (Kd.Be (by exact rU <| (Kd.Bs (Kd.B8 (p := ⟨am, 3, none⟩) (Kd.B8 (p := ⟨am, 2, none⟩) (Kd.B8 (p := ⟨am, 1, none⟩) (Kd.B8 (p := ⟨am, 0, none⟩) (Kd.Bs aG.out (fun k_ hk => (⟨hk, hk.2⟩ : _ ∧ k_ ≠ am))) (fun _ hk => hk.2) (.int .i64 ((rd_T58 l0 ac).f0))) (fun _ hk => hk.2) (.int .i64 ((rd_T58 l0 ac).f1))) (fun _ hk => hk.2) (.int .i64 ((rd_T58 l0 ac).f2))) (fun _ hk => hk.2) (.int .i64 ((rd_T58 l0 ac).f3))) (fun _ h_ => h_.1))) hb); have n1_ := Aa.mk (Bc (g := am) (o := .cells #[.int .i64 ((rd_T58 l0 ac).f0), .int .i64 ((rd_T58 l0 ac).f1), .int .i64 ((rd_T58 l0 ac).f2), .int .i64 ((rd_T58 l0 ac).f3)] 58 (0, 0)) (by (with_reducible repeat (first | refine Am ?_ _ | refine Ar ?_ | refine An ?_ _)); refine Bb (cs := #[.int .i64 ((rd_T58 l0 ac).f0), .int .i64 ((rd_T58 l0 ac).f1), .int .i64 ((rd_T58 l0 ac).f2), .int .i64 0]) ?_ 3 _ rfl; (with_reducible repeat (first | refine Am ?_ _ | refine Ar ?_ | refine An ?_ _)); refine Bb (cs := #[.int .i64 ((rd_T58 l0 ac).f0), .int .i64 ((rd_T58 l0 ac).f1), .int .i64 0, .int .i64 0]) ?_ 2 _ rfl; (with_reducible repeat (first | refine Am ?_ _ | refine Ar ?_ | refine An ?_ _)); refine Bb (cs := #[.int .i64 ((rd_T58 l0 ac).f0), .int .i64 0, .int .i64 0, .int .i64 0]) ?_ 1 _ rfl; (with_reducible repeat (first | refine Am ?_ _ | refine Ar ?_ | refine An ?_ _)); refine Bb (cs := #[.int .i64 0, .int .i64 0, .int .i64 0, .int .i64 0]) ?_ 0 _ rfl; exact bU <| ak.out) hb); have n2_ := Aa.mk (Ak (by repeat (first | (with_reducible first | exact HB.out | apply Ad | apply Ab | apply Ac | refine Ai ?_ bs.out) | exact HB.out)) hb); clear aG; clear ak; clear HB; have aG := n0_; have ak := n1_; have HB := n2_; clear n0_ n1_ n2_; (try clear hb); (try clear hb2); (try clear hk); (try clear hi); have cT : w14.cell? ⟨am, 0, none⟩ = some (.int .i64 ((rd_T58 l0 ac).f0)) := (Aj ak.out 0).trans rfl; have cU : w14.cell? ⟨am, 1, none⟩ = some (.int .i64 ((rd_T58 l0 ac).f1)) := (Aj ak.out 1).trans rfl; have eA : w14.cell? ⟨am, 2, none⟩ = some (.int .i64 ((rd_T58 l0 ac).f2)) := (Aj ak.out 2).trans rfl; have eB : w14.cell? ⟨am, 3, none⟩ = some (.int .i64 ((rd_T58 l0 ac).f3)) := (Aj ak.out 3).trans rfl; have cV := Af ak.out 0; have cW := Af ak.out 1; have eC := Af ak.out 2; have eD := Af ak.out 3) | ((with_reducible refine Cn (b := .append) (xs := #[.tmp 22, .tmp 40]) rfl ?_); at_builtin; refine Kd.R_append k58 (w0 := w) w.heap.size rfl (.tmp 22) (.tmp 40) 22 58 (.agg #[(.int .i64 0), (.int .i64 0), (.int .i64 0), (.int .i64 0)]) 32 rfl Try.underlying22 info58 rfl (by decide) (by omega) u11 br (⟨wrap64 (((rd_T58 l0 ac).f0) - a1), wrap64 (((rd_T58 l0 ac).f1) - a2), wrap64 (((rd_T58 l0 ac).f2) + a3), wrap64 (((rd_T58 l0 ac).f3) + a4)⟩ : S58) [.int .i64 (wrap64 (((rd_T58 l0 ac).f0) - a1)), .int .i64 (wrap64 (((rd_T58 l0 ac).f1) - a2)), .int .i64 (wrap64 (((rd_T58 l0 ac).f2) + a3)), .int .i64 (wrap64 (((rd_T58 l0 ac).f3) + a4))] (fun k_ => k_ ≠ am) (fun _ => False) rfl rfl ?aP (fun _ hk => hk.elim) ?aF ?aO ?aB ?aS ?aL ?_; (case aP => exact k58_mkM _ _ _ (⟨wrap64 (((rd_T58 l0 ac).f0) - a1), wrap64 (((rd_T58 l0 ac).f1) - a2), wrap64 (((rd_T58 l0 ac).f2) + a3), wrap64 (((rd_T58 l0 ac).f3) + a4)⟩ : S58)); (case aB => exact (by repeat (first | (with_reducible first | exact HB.out | apply Ad | apply Ab | apply Ac | refine Ai ?_ bs.out) | exact HB.out))); (case aF => exact (fun k_ hk => Kd.freshB (g := am) (o := .cells #[.int .i64 ((rd_T58 l0 ac).f0), .int .i64 ((rd_T58 l0 ac).f1), .int .i64 ((rd_T58 l0 ac).f2), .int .i64 ((rd_T58 l0 ac).f3)] 58 (0, 0)) (by exact bU <| ak.out) k_ hk)); (case aO => exact (by exact rU <| Kd.Bs aG.out (fun _ hk => hk.2))); (case aS => exact (Ag (by repeat (first | (with_reducible first | exact HB.out | apply Ad | apply Ab | apply Ac | refine Ai ?_ bs.out) | exact HB.out)))); (case aL => have := LMc11.out; omega); intro v124 w16 ho hb hg hat; rw [← dz.out] at ho; have n0_ := Aa.mk (C4 (g := am) (o := .cells #[.int .i64 ((rd_T58 l0 ac).f0), .int .i64 ((rd_T58 l0 ac).f1), .int .i64 ((rd_T58 l0 ac).f2), .int .i64 ((rd_T58 l0 ac).f3)] 58 (0, 0)) (by exact bU <| ak.out) hg (Kd.R_away aG.out (fun _ hk => hk.2))); have n1_ := Aa.mk (hb); have n2_ := Aa.mk (ho); clear ak; clear HB; clear aG; have ak := n0_; have HB := n1_; have dC := n2_; clear n0_ n1_ n2_; clear ho hb hg hat))
        go_roundg k1
        case measure => have := HK1.out; omega
        case rel => exact ⟨(fu), (wrap64 (ac + 1)), (by first | rfl | (simp; done) | (simp [*]; done)), H', ⟨by have := HK1.out; omega⟩, ⟨by exact rU <| Kd.Bs dC.out (fun _ hk => trivial)⟩, ⟨by repeat (first | (with_reducible first | exact HB.out | apply Ad | apply Ab | apply Ac | refine Ai ?_ bs.out) | exact HB.out)⟩⟩
       ·rw [if_neg c11] at H
        exact absurd H (by simp)
      ·replace c10 := Bool.eq_false_iff.mpr c10
       subst c10
       have H1 := H
       rw [if_neg (show ¬ (false = true) by decide)] at H1
       clear H
       have H := H1
       clear H1
       have H' := Aa.mk H
       clear H
       have bE : 0 ≤ (ac : Int) := of_decide_eq_true (by with_reducible assumption)
       have bF : ac < (l0.length : Int) := of_decide_eq_true (by with_reducible assumption)
       obtain ⟨dA, e120, aN, aQ, aT, aU⟩ := at_T58 HR0.out ac bE bF
       cases e120
       replace aN := (HB.out.cell (World.block_lt_of_cell? w _ aN)).trans aN
       replace aQ := (HB.out.cell (World.block_lt_of_cell? w _ aQ)).trans aQ
       replace aT := (HB.out.cell (World.block_lt_of_cell? w _ aT)).trans aT
       replace aU := (HB.out.cell (World.block_lt_of_cell? w _ aU)).trans aU
       replace bE := eq_true bE
       replace bF := eq_true bF
       go_wp2_with (first | ((with_reducible refine Bj (N := 13) rfl ?_); refine B0 ?hg (N := 13) ?hd (cs := #[.int .i64 0, .int .i64 0, .int .i64 0, .int .i64 0]) (t := 58) ?hr ?_; (case hd => rfl); (case hg => rfl); (case hr => first | (go_simp; done) | (go_simp; rfl)); intro am hg w17 hbox hb; have n0_ := Aa.mk (Kd.Be (Kd.C0 (by exact rU <| aG.out) am (Nat.le_of_eq hg.symm)) hb); have n1_ := Aa.mk (Ak (lU HB.out) hb); have n2_ := Aa.mk (hbox); have n3_ := Aa.mk ((by rw [hg]; exact (Ag (lU HB.out)) : w.heap.size ≤ am)); have n4_ := Aa.mk ((by rw [hg]; exact (Ag (lU HB.out)) : w.heap.size ≤ am)); clear aG; clear HB; have aG := n0_; have HB := n1_; have ak := n2_; have dB := n3_; have bs := n4_; clear n0_ n1_ n2_ n3_ n4_; clear hb hbox hg; have cq : w17.cell? ⟨am, 0, none⟩ = some (.int .i64 0) := (Aj ak.out 0).trans rfl; have ct : w17.cell? ⟨am, 1, none⟩ = some (.int .i64 0) := (Aj ak.out 1).trans rfl; have cu : w17.cell? ⟨am, 2, none⟩ = some (.int .i64 0) := (Aj ak.out 2).trans rfl; have cv : w17.cell? ⟨am, 3, none⟩ = some (.int .i64 0) := (Aj ak.out 3).trans rfl; have cw := Af ak.out 0; have cx := Af ak.out 1; have cy := Af ak.out 2; have cz := Af ak.out 3) | ((with_reducible refine As (f := 62) rfl ?_); refine Br (some 21) rfl rfl Try.func62 (by kernel_rfl) rfl #[.agg #[.int .i64 ((rd_T58 l0 ac).f0), .int .i64 ((rd_T58 l0 ac).f1), .int .i64 ((rd_T58 l0 ac).f2), .int .i64 ((rd_T58 l0 ac).f3)]] rfl (by (try simp only [List.map_toArray, List.map_cons, List.map_nil]); first | done | rfl | (simp only [List.length_drop, List.length_take]; rfl)) ?_; (with_reducible refine (B4.calls ((rd_T58 l0 ac).f0) ((rd_T58 l0 ac).f1) ((rd_T58 l0 ac).f2) ((rd_T58 l0 ac).f3) false _ A9.out).mono ?_); rintro e w19 ⟨rfl, hb⟩; refine ⟨_, rfl, ?_⟩; have n0_ := Aa.mk (Kd.Be (by exact rU <| (Kd.Bs (Kd.B8 (p := ⟨am, 3, none⟩) (Kd.B8 (p := ⟨am, 2, none⟩) (Kd.B8 (p := ⟨am, 1, none⟩) (Kd.B8 (p := ⟨am, 0, none⟩) (Kd.Bs aG.out (fun k_ hk => (⟨hk, hk.2⟩ : _ ∧ k_ ≠ am))) (fun _ hk => hk.2) (.int .i64 ((rd_T58 l0 ac).f0))) (fun _ hk => hk.2) (.int .i64 ((rd_T58 l0 ac).f1))) (fun _ hk => hk.2) (.int .i64 ((rd_T58 l0 ac).f2))) (fun _ hk => hk.2) (.int .i64 ((rd_T58 l0 ac).f3))) (fun _ h_ => h_.1))) hb); have n1_ := Aa.mk (Bc (g := am) (o := .cells #[.int .i64 ((rd_T58 l0 ac).f0), .int .i64 ((rd_T58 l0 ac).f1), .int .i64 ((rd_T58 l0 ac).f2), .int .i64 ((rd_T58 l0 ac).f3)] 58 (0, 0)) (by (with_reducible repeat (first | refine Am ?_ _ | refine Ar ?_ | refine An ?_ _)); refine Bb (cs := #[.int .i64 ((rd_T58 l0 ac).f0), .int .i64 ((rd_T58 l0 ac).f1), .int .i64 ((rd_T58 l0 ac).f2), .int .i64 0]) ?_ 3 _ rfl; (with_reducible repeat (first | refine Am ?_ _ | refine Ar ?_ | refine An ?_ _)); refine Bb (cs := #[.int .i64 ((rd_T58 l0 ac).f0), .int .i64 ((rd_T58 l0 ac).f1), .int .i64 0, .int .i64 0]) ?_ 2 _ rfl; (with_reducible repeat (first | refine Am ?_ _ | refine Ar ?_ | refine An ?_ _)); refine Bb (cs := #[.int .i64 ((rd_T58 l0 ac).f0), .int .i64 0, .int .i64 0, .int .i64 0]) ?_ 1 _ rfl; (with_reducible repeat (first | refine Am ?_ _ | refine Ar ?_ | refine An ?_ _)); refine Bb (cs := #[.int .i64 0, .int .i64 0, .int .i64 0, .int .i64 0]) ?_ 0 _ rfl; exact bU <| ak.out) hb); have n2_ := Aa.mk (Ak (by repeat (first | (with_reducible first | exact HB.out | apply Ad | apply Ab | apply Ac | refine Ai ?_ bs.out) | exact HB.out)) hb); clear aG; clear ak; clear HB; have aG := n0_; have ak := n1_; have HB := n2_; clear n0_ n1_ n2_; (try clear hb); (try clear hb2); (try clear hk); (try clear hi)))
       go_roundg k1
       case measure => have := HK1.out; omega
       case rel => exact ⟨(br), (wrap64 (ac + 1)), (by first | rfl | (simp; done) | (simp [*]; done)), H', ⟨by have := HK1.out; omega⟩, ⟨by exact rU <| Kd.Bs aG.out (fun _ hk => trivial)⟩, ⟨by repeat (first | (with_reducible first | exact HB.out | apply Ad | apply Ab | apply Ac | refine Ai ?_ bs.out) | exact HB.out)⟩⟩
     ·rw [if_neg c8] at H
      exact absurd H (by simp)
    ·rw [if_neg c7] at H
     exact absurd H (by simp)
   ·rw [if_neg c6] at H
    have dw : decide (ac < (l0.length : Int)) = false := decide_eq_false c6
    clear c6
    obtain rfl := Option.some.inj H
    go_wp2
    go_ret
    exact ⟨_, by first | rfl | (simp [Ax, Aw] <;> rfl) | (simp [*, Ax, Aw] <;> rfl), by exact rU <| aG.out, by repeat (first | (with_reducible first | exact HB.out | apply Ad | apply Ab | apply Ac) | exact HB.out)⟩

mutual
def Bp.l0 : Nat → List Int → List (List (S58)) → Int → Int → Option (List Int)
 | 0, _, _, _, _ => none
 | k + 1, x3, x8, x9, x10 => if x10 < x9 then (if 0 ≤ x10 then (if x10 < (x8.length : Int) then (Bp.l1 k x3 x8 x9 x10 (rd_L5 x8 x10) ((rd_L5 x8 x10).length : Int) 0) else (none)) else (none)) else ((Cb.f x3).bind fun dk => (some dk))
def Bp.l1 : Nat → List Int → List (List (S58)) → Int → Int → List (S58) → Int → Int → Option (List Int)
 | 0, _, _, _, _, _, _, _ => none
 | k + 1, x3, x8, x9, x10, x14, x15, x16 => if x16 < x15 then (if 0 ≤ x16 then (if x16 < (x14.length : Int) then ((B4.f ((rd_T58 x14 x16).f0) ((rd_T58 x14 x16).f1) ((rd_T58 x14 x16).f2) ((rd_T58 x14 x16).f3)).bind fun dl => (if dl = true then ((some (([(rd_T58 x14 x16).f1, (rd_T58 x14 x16).f3] : List Int) : List Int)).bind fun bG => (if x3.length + bG.length < 17592186044416 then (Bp.l1 k (x3 ++ bG) x8 x9 x10 x14 x15 (wrap64 (x16 + 1))) else (none))) else (Bp.l1 k x3 x8 x9 x10 x14 x15 (wrap64 (x16 + 1))))) else (none)) else (none)) else (Bp.l0 k x3 x8 x9 (wrap64 (x10 + 1)))
end
def Bp.f (k : Nat) (l0 : List (List (S58))) : Option (List Int) := Bp.l0 k ([] : List Int) l0 (l0.length : Int) 0
set_option maxHeartbeats 8000000 in
set_option maxRecDepth 100000 in
theorem Bp.calls (k : Nat) (A0 : Option Addr) (c0 : Nat) (l0 : List (List (S58))) (r : List Int) (w : World) (hr0 : Kd.C (Kd.slice 58 k58) w A0 l0.length l0) (hc0 : l0.length ≤ c0) (h : Bp.f k l0 = some r) :
  Calls Try.prog 43 #[.slice A0 l0.length c0] w fun e w' => ∃ v0_ : Value, e = .returned (v0_) ∧ Kd.R (Kd.int .i64) 3 w' w.heap.size (fun _ => True) v0_ r ∧ Below w.heap.size w w' := by
 have hu58 := Try.underlying58
 have HR0 := Aa.mk hr0
 have HC0 := Aa.mk hc0
 clear hr0 hc0
 have HB := Aa.mk (Below.refl w.heap.size w)
 have H : (Bp.l0 k ([] : List Int) l0 (l0.length : Int) 0) = some r := h
 clear h
 have H' := Aa.mk H
 clear H
 go_enter Try.func43, Try.ntmps43
 go_wp2
 go_loopg [3, 10] k (fun kq v3 v10 w' => ∃ (bC : List Int) (aa : Int), v10 = .int .i64 aa ∧ Aa (Bp.l0 kq bC l0 (l0.length : Int) aa = some r) ∧ Aa (kq ≤ k) ∧ Aa (Kd.R (Kd.int .i64) 3 w' w.heap.size (fun _ => True) v3 bC) ∧ Aa (Below w.heap.size w w'))
 case atStart => exact ⟨(([] : List Int)), (0), (by first | rfl | (simp; done) | (simp [*]; done)), H', ⟨Nat.le_refl _⟩, ⟨by first | exact Kd.Cy _ _ _ _ _ | exact Kd.N_nil _ _ _ _ _ | exact Kd.V_nil _ _ _ _ _ | exact Kd.Q_nil _ _ _ _ _ | exact Kd.S_nil _ _ _ _ _⟩, ⟨by repeat (first | (with_reducible first | exact HB.out | apply Ad | apply Ab | apply Ac) | exact HB.out)⟩⟩
 case round =>
  clear H'
  obtain ⟨bC, aa, rfl, HA, HK1, aH, HB⟩ := hrel
  cases gk with
  | zero => exact absurd HA.out (by simp [Bp.l0])
  | succ k1 =>
   have H := HA.out
   clear HA
   simp only [Bp.l0] at H
   by_cases c2 : aa < (l0.length : Int)
   ·rw [if_pos c2] at H
    have bu : decide (aa < (l0.length : Int)) = true := decide_eq_true c2
    clear c2
    by_cases c3 : 0 ≤ aa
    ·rw [if_pos c3] at H
     have bX : decide (0 ≤ aa) = true := decide_eq_true c3
     clear c3
     by_cases c4 : aa < (l0.length : Int)
     ·rw [if_pos c4] at H
      have cd : decide (aa < (l0.length : Int)) = true := decide_eq_true c4
      clear c4
      have H' := Aa.mk H
      clear H
      have cX : 0 ≤ (aa : Int) := of_decide_eq_true (by with_reducible assumption)
      have cY : aa < (l0.length : Int) := of_decide_eq_true (by with_reducible assumption)
      obtain ⟨fK, fw, fx, e129, bl, bM, hi129_0⟩ := at_L5 HR0.out aa cX cY
      cases e129
      replace bl := (HB.out.cell (World.block_lt_of_cell? w _ bl)).trans bl
      have bN := Aa.mk hi129_0
      have eE := Aa.mk bM
      clear hi129_0 bM
      replace cX := eq_true cX
      replace cY := eq_true cY
      go_wp2
      go_loopg [3, 16] k1 (fun kq v3 v16 w' => ∃ (bD : List Int) (ae : Int), v16 = .int .i64 ae ∧ Aa (Bp.l1 kq bD l0 (l0.length : Int) aa (rd_L5 l0 aa) ((rd_L5 l0 aa).length : Int) ae = some r) ∧ Aa (kq ≤ k1) ∧ Aa (Kd.R (Kd.int .i64) 3 w' w.heap.size (fun _ => True) v3 bD) ∧ Aa (Below w.heap.size w w'))
      case atStart => exact ⟨(bC), (0), (by first | rfl | (simp; done) | (simp [*]; done)), H', ⟨Nat.le_refl _⟩, ⟨by exact rU <| aH.out⟩, ⟨by repeat (first | (with_reducible first | exact HB.out | apply Ad | apply Ab | apply Ac) | exact HB.out)⟩⟩
      case round =>
       clear H'
       try clear c1
       try clear p1
       try clear q1
       try clear hx1
       try clear c2
       try clear bu
       try clear p2
       try clear c3
       try clear bX
       try clear c4
       try clear cd
       try clear bl
       try clear cX
       try clear cY
       obtain ⟨bD, ae, rfl, HA, HK2, aH, HB⟩ := hrel
       cases gk with
       | zero => exact absurd HA.out (by simp [Bp.l1])
       | succ k2 =>
        have H := HA.out
        clear HA
        simp only [Bp.l1] at H
        by_cases c5 : ae < ((rd_L5 l0 aa).length : Int)
        ·rw [if_pos c5] at H
         have dp : decide (ae < ((rd_L5 l0 aa).length : Int)) = true := decide_eq_true c5
         clear c5
         by_cases c6 : 0 ≤ ae
         ·rw [if_pos c6] at H
          have dw : decide (0 ≤ ae) = true := decide_eq_true c6
          clear c6
          by_cases c7 : ae < ((rd_L5 l0 aa).length : Int)
          ·rw [if_pos c7] at H
           have di : decide (ae < ((rd_L5 l0 aa).length : Int)) = true := decide_eq_true c7
           clear c7
           replace H := Option.bind_eq_some_iff.mp H
           obtain ⟨dl, A80, H⟩ := H
           try dsimp only at H
           have A8 := Aa.mk A80
           clear A80
           by_cases c9 : dl = true
           ·subst c9
            have H1 := H
            rw [if_pos rfl] at H1
            clear H
            have H := H1
            clear H1
            obtain ⟨bG, b8⟩ : ∃ y_ : List Int, y_ = (([(rd_T58 (rd_L5 l0 aa) ae).f1, (rd_T58 (rd_L5 l0 aa) ae).f3] : List Int)) := ⟨_, rfl⟩
            (try rw [Option.bind_some] at H); try rw [← b8] at H
            have dd := Aa.mk b8
            clear b8
            by_cases c10 : bD.length + bG.length < 17592186044416
            ·rw [if_pos c10] at H
             have LMc10 := Aa.mk c10
             clear c10
             obtain ⟨fy, b9⟩ : ∃ y_ : List Int, y_ = (bD ++ bG) := ⟨_, rfl⟩
             (try rw [Option.bind_some] at H); try rw [← b9] at H
             have dD := Aa.mk b9
             clear b9
             have H' := Aa.mk H
             clear H
             have bH : 0 ≤ (ae : Int) := of_decide_eq_true (by with_reducible assumption)
             have bI : ae < ((rd_L5 l0 aa).length : Int) := of_decide_eq_true (by with_reducible assumption)
             obtain ⟨dE, e130, aV, aW, aX, aY⟩ := at_T58 bN.out ae bH bI
             cases e130
             replace aV := (HB.out.cell (World.block_lt_of_cell? w _ aV)).trans aV
             replace aW := (HB.out.cell (World.block_lt_of_cell? w _ aW)).trans aW
             replace aX := (HB.out.cell (World.block_lt_of_cell? w _ aX)).trans aX
             replace aY := (HB.out.cell (World.block_lt_of_cell? w _ aY)).trans aY
             replace bH := eq_true bH
             replace bI := eq_true bI
             go_wp2_with (first | ((with_reducible refine Bj (N := 7) rfl ?_); refine B0 ?hg (N := 7) ?hd (cs := #[.int .i64 0, .int .i64 0, .int .i64 0, .int .i64 0]) (t := 58) ?hr ?_; (case hd => rfl); (case hg => rfl); (case hr => first | (go_simp; done) | (go_simp; rfl)); intro ap hg w11 hbox hb; have n0_ := Aa.mk (Kd.Be (by exact rU <| aH.out) hb); have n1_ := Aa.mk (Ak (lU HB.out) hb); have n2_ := Aa.mk (hbox); have n3_ := Aa.mk ((by rw [hg]; exact (Ag (lU HB.out)) : w.heap.size ≤ ap)); have n4_ := Aa.mk ((by rw [hg]; exact (Ag (lU HB.out)) : w.heap.size ≤ ap)); clear aH; clear HB; have aH := n0_; have HB := n1_; have aj := n2_; have dF := n3_; have a9 := n4_; clear n0_ n1_ n2_ n3_ n4_; clear hb hbox hg; have eF : w11.cell? ⟨ap, 0, none⟩ = some (.int .i64 0) := (Aj aj.out 0).trans rfl; have eG : w11.cell? ⟨ap, 1, none⟩ = some (.int .i64 0) := (Aj aj.out 1).trans rfl; have eH : w11.cell? ⟨ap, 2, none⟩ = some (.int .i64 0) := (Aj aj.out 2).trans rfl; have eI : w11.cell? ⟨ap, 3, none⟩ = some (.int .i64 0) := (Aj aj.out 3).trans rfl; have eJ := Af aj.out 0; have eK := Af aj.out 1; have eL := Af aj.out 2; have eM := Af aj.out 3) | ((with_reducible refine As (f := 62) rfl ?_); refine Br (some 21) rfl rfl Try.func62 (by kernel_rfl) rfl #[.agg #[.int .i64 ((rd_T58 (rd_L5 l0 aa) ae).f0), .int .i64 ((rd_T58 (rd_L5 l0 aa) ae).f1), .int .i64 ((rd_T58 (rd_L5 l0 aa) ae).f2), .int .i64 ((rd_T58 (rd_L5 l0 aa) ae).f3)]] rfl (by (try simp only [List.map_toArray, List.map_cons, List.map_nil]); first | done | rfl | (simp only [List.length_drop, List.length_take]; rfl)) ?_; (with_reducible refine (B4.calls ((rd_T58 (rd_L5 l0 aa) ae).f0) ((rd_T58 (rd_L5 l0 aa) ae).f1) ((rd_T58 (rd_L5 l0 aa) ae).f2) ((rd_T58 (rd_L5 l0 aa) ae).f3) true _ A8.out).mono ?_); rintro e w13 ⟨rfl, hb⟩; refine ⟨_, rfl, ?_⟩; have n0_ := Aa.mk (Kd.Be (by exact rU <| (Kd.Bs (Kd.B8 (p := ⟨ap, 3, none⟩) (Kd.B8 (p := ⟨ap, 2, none⟩) (Kd.B8 (p := ⟨ap, 1, none⟩) (Kd.B8 (p := ⟨ap, 0, none⟩) (Kd.Cx aH.out aj.out (by decide)) (fun _ hk => hk.2) (.int .i64 ((rd_T58 (rd_L5 l0 aa) ae).f0))) (fun _ hk => hk.2) (.int .i64 ((rd_T58 (rd_L5 l0 aa) ae).f1))) (fun _ hk => hk.2) (.int .i64 ((rd_T58 (rd_L5 l0 aa) ae).f2))) (fun _ hk => hk.2) (.int .i64 ((rd_T58 (rd_L5 l0 aa) ae).f3))) (fun _ h_ => h_.1))) hb); have n1_ := Aa.mk (Bc (g := ap) (o := .cells #[.int .i64 ((rd_T58 (rd_L5 l0 aa) ae).f0), .int .i64 ((rd_T58 (rd_L5 l0 aa) ae).f1), .int .i64 ((rd_T58 (rd_L5 l0 aa) ae).f2), .int .i64 ((rd_T58 (rd_L5 l0 aa) ae).f3)] 58 (0, 0)) (by (with_reducible repeat (first | refine Am ?_ _ | refine Ar ?_ | refine An ?_ _)); refine Bb (cs := #[.int .i64 ((rd_T58 (rd_L5 l0 aa) ae).f0), .int .i64 ((rd_T58 (rd_L5 l0 aa) ae).f1), .int .i64 ((rd_T58 (rd_L5 l0 aa) ae).f2), .int .i64 0]) ?_ 3 _ rfl; (with_reducible repeat (first | refine Am ?_ _ | refine Ar ?_ | refine An ?_ _)); refine Bb (cs := #[.int .i64 ((rd_T58 (rd_L5 l0 aa) ae).f0), .int .i64 ((rd_T58 (rd_L5 l0 aa) ae).f1), .int .i64 0, .int .i64 0]) ?_ 2 _ rfl; (with_reducible repeat (first | refine Am ?_ _ | refine Ar ?_ | refine An ?_ _)); refine Bb (cs := #[.int .i64 ((rd_T58 (rd_L5 l0 aa) ae).f0), .int .i64 0, .int .i64 0, .int .i64 0]) ?_ 1 _ rfl; (with_reducible repeat (first | refine Am ?_ _ | refine Ar ?_ | refine An ?_ _)); refine Bb (cs := #[.int .i64 0, .int .i64 0, .int .i64 0, .int .i64 0]) ?_ 0 _ rfl; exact bU <| aj.out) hb); have n2_ := Aa.mk (Ak (by repeat (first | (with_reducible first | exact HB.out | apply Ad | apply Ab | apply Ac | refine Ai ?_ a9.out) | exact HB.out)) hb); clear aH; clear aj; clear HB; have aH := n0_; have aj := n1_; have HB := n2_; clear n0_ n1_ n2_; (try clear hb); (try clear hb2); (try clear hk); (try clear hi); have eN : w13.cell? ⟨ap, 0, none⟩ = some (.int .i64 ((rd_T58 (rd_L5 l0 aa) ae).f0)) := (Aj aj.out 0).trans rfl; have eO : w13.cell? ⟨ap, 1, none⟩ = some (.int .i64 ((rd_T58 (rd_L5 l0 aa) ae).f1)) := (Aj aj.out 1).trans rfl; have eP : w13.cell? ⟨ap, 2, none⟩ = some (.int .i64 ((rd_T58 (rd_L5 l0 aa) ae).f2)) := (Aj aj.out 2).trans rfl; have eQ : w13.cell? ⟨ap, 3, none⟩ = some (.int .i64 ((rd_T58 (rd_L5 l0 aa) ae).f3)) := (Aj aj.out 3).trans rfl; have eR := Af aj.out 0; have eS := Af aj.out 1; have eT := Af aj.out 2; have eU := Af aj.out 3) | ((with_reducible refine Bj (N := 27) rfl ?_); refine Kd.Cz (Kd.int .i64) _ 3 ?hg (N := 27) ?hd (xs := ([(rd_T58 (rd_L5 l0 aa) ae).f1, (rd_T58 (rd_L5 l0 aa) ae).f3] : List Int)) (inner := [.int .i64 ((rd_T58 (rd_L5 l0 aa) ae).f1), .int .i64 ((rd_T58 (rd_L5 l0 aa) ae).f3)]) (ok := fun _ => True) (okp := fun _ => True) ?hr ?hp (fun _ hk => hk) trivial (Below.refl _ _) (Nat.le_refl _) (by simp) ?_; (case hd => rfl); (case hg => rfl); (case hr => first | (go_simp; done) | (go_simp; rfl)); (case hp => exact (Reps.one (show Kd.M (Kd.int .i64) _ _ _ ((rd_T58 (rd_L5 l0 aa) ae).f1) [.int .i64 ((rd_T58 (rd_L5 l0 aa) ae).f1)] from rfl) (Reps.one (show Kd.M (Kd.int .i64) _ _ _ ((rd_T58 (rd_L5 l0 aa) ae).f3) [.int .i64 ((rd_T58 (rd_L5 l0 aa) ae).f3)] from rfl) (Reps.none _ _)))); intro v134 w15 ho16 hb hg_ hnew_; clear hg_ hnew_; (first | rw [← dd.out] at ho16 | (simp only [Int.reduceToNat] at ho16; rw [← dd.out] at ho16)); have n0_ := Aa.mk (Kd.Ap (by exact rU <| aH.out) (Kd.Ao ho16) hb); have n1_ := Aa.mk (Kd.Bx (Kd.Au ho16 (Kd.Bq (by exact rU <| aH.out))) (Ag (by repeat (first | (with_reducible first | exact HB.out | apply Ad | apply Ab | apply Ac | refine Ai ?_ a9.out) | exact HB.out)))); have n2_ := Aa.mk (Bc (g := ap) (o := .cells #[.int .i64 ((rd_T58 (rd_L5 l0 aa) ae).f0), .int .i64 ((rd_T58 (rd_L5 l0 aa) ae).f1), .int .i64 ((rd_T58 (rd_L5 l0 aa) ae).f2), .int .i64 ((rd_T58 (rd_L5 l0 aa) ae).f3)] 58 (0, 0)) (by exact bU <| aj.out) hb); have n3_ := Aa.mk (Ak (by repeat (first | (with_reducible first | exact HB.out | apply Ad | apply Ab | apply Ac | refine Ai ?_ a9.out) | exact HB.out)) hb); clear aH; clear aj; clear HB; have aH := n0_; have bw := n1_; have aj := n2_; have HB := n3_; clear n0_ n1_ n2_ n3_; clear hb ho16; obtain ⟨fz, fA, fB⟩ := Kd.Bn bw.out; subst fB) | ((with_reducible refine Cn (b := .append) (xs := #[.tmp 22, .tmp 27]) rfl ?_); at_builtin; refine Kd.C1 (Kd.int .i64) (w0 := w) w.heap.size rfl (.tmp 22) (.tmp 27) 29 3 (.int .i64 0) 8 rfl Try.underlying29 info3 rfl (by decide) (by omega) u3 bD bG _ _ _ (fun k_ => some k_ ≠ (.slice fz bG.length fA : Value).ownBlock) (fun _ => False) rfl rfl ?aO ?aR (fun _ _ h => h) (fun _ h => h.elim) ?aF ?aB ?aS ?aL ?_; (case aR => repeat (first | exact (Kd.At bw.out).2.2 | (with_reducible refine Kd.Bi ?_ _) | (with_reducible refine Kd.Bh ?_ _) | (with_reducible refine Kd.Bm ?_))); (case aB => exact (by repeat (first | (with_reducible first | exact HB.out | apply Ad | apply Ab | apply Ac | refine Ai ?_ a9.out) | exact HB.out))); (case aF => exact (fun k_ hk => Kd.fresh' (Kd.Bq (by exact rU <| bw.out)) k_ hk)); (case aO => exact (by exact rU <| Kd.Bs aH.out (fun _ hk => hk.2))); (case aS => exact (Ag (by repeat (first | (with_reducible first | exact HB.out | apply Ad | apply Ab | apply Ac | refine Ai ?_ a9.out) | exact HB.out)))); (case aL => have := LMc10.out; omega); intro v137 w17 ho hb hg hat; rw [← dD.out] at ho; have n0_ := Aa.mk (C4 (g := ap) (o := .cells #[.int .i64 ((rd_T58 (rd_L5 l0 aa) ae).f0), .int .i64 ((rd_T58 (rd_L5 l0 aa) ae).f1), .int .i64 ((rd_T58 (rd_L5 l0 aa) ae).f2), .int .i64 ((rd_T58 (rd_L5 l0 aa) ae).f3)] 58 (0, 0)) (by exact bU <| aj.out) hg (Kd.R_ne aH.out aj.out (by decide))); have n1_ := Aa.mk (Kd.R_after (ok := (fun _ => True)) (by exact rU <| bw.out) hg hat); have n2_ := Aa.mk (hb); have n3_ := Aa.mk (ho); clear aj; clear bw; clear HB; clear aH; have aj := n0_; have bw := n1_; have HB := n2_; have dG := n3_; clear n0_ n1_ n2_ n3_; clear ho hb hg hat))
             go_roundg k2
             case measure => have := HK1.out; have := HK2.out; omega
             case rel => exact ⟨(fy), (wrap64 (ae + 1)), (by first | rfl | (simp; done) | (simp [*]; done)), H', ⟨by have := HK1.out; have := HK2.out; omega⟩, ⟨by exact rU <| Kd.Bs dG.out (fun _ hk => trivial)⟩, ⟨by repeat (first | (with_reducible first | exact HB.out | apply Ad | apply Ab | apply Ac | refine Ai ?_ a9.out) | exact HB.out)⟩⟩
            ·rw [if_neg c10] at H
             exact absurd H (by simp)
           ·replace c9 := Bool.eq_false_iff.mpr c9
            subst c9
            have H1 := H
            rw [if_neg (show ¬ (false = true) by decide)] at H1
            clear H
            have H := H1
            clear H1
            have H' := Aa.mk H
            clear H
            have bH : 0 ≤ (ae : Int) := of_decide_eq_true (by with_reducible assumption)
            have bI : ae < ((rd_L5 l0 aa).length : Int) := of_decide_eq_true (by with_reducible assumption)
            obtain ⟨dE, e130, aV, aW, aX, aY⟩ := at_T58 bN.out ae bH bI
            cases e130
            replace aV := (HB.out.cell (World.block_lt_of_cell? w _ aV)).trans aV
            replace aW := (HB.out.cell (World.block_lt_of_cell? w _ aW)).trans aW
            replace aX := (HB.out.cell (World.block_lt_of_cell? w _ aX)).trans aX
            replace aY := (HB.out.cell (World.block_lt_of_cell? w _ aY)).trans aY
            replace bH := eq_true bH
            replace bI := eq_true bI
            go_wp2_with (first | ((with_reducible refine Bj (N := 7) rfl ?_); refine B0 ?hg (N := 7) ?hd (cs := #[.int .i64 0, .int .i64 0, .int .i64 0, .int .i64 0]) (t := 58) ?hr ?_; (case hd => rfl); (case hg => rfl); (case hr => first | (go_simp; done) | (go_simp; rfl)); intro ap hg w19 hbox hb; have n0_ := Aa.mk (Kd.Be (by exact rU <| aH.out) hb); have n1_ := Aa.mk (Ak (lU HB.out) hb); have n2_ := Aa.mk (hbox); have n3_ := Aa.mk ((by rw [hg]; exact (Ag (lU HB.out)) : w.heap.size ≤ ap)); have n4_ := Aa.mk ((by rw [hg]; exact (Ag (lU HB.out)) : w.heap.size ≤ ap)); clear aH; clear HB; have aH := n0_; have HB := n1_; have aj := n2_; have dF := n3_; have a9 := n4_; clear n0_ n1_ n2_ n3_ n4_; clear hb hbox hg; have cA : w19.cell? ⟨ap, 0, none⟩ = some (.int .i64 0) := (Aj aj.out 0).trans rfl; have cB : w19.cell? ⟨ap, 1, none⟩ = some (.int .i64 0) := (Aj aj.out 1).trans rfl; have cC : w19.cell? ⟨ap, 2, none⟩ = some (.int .i64 0) := (Aj aj.out 2).trans rfl; have cD : w19.cell? ⟨ap, 3, none⟩ = some (.int .i64 0) := (Aj aj.out 3).trans rfl; have cE := Af aj.out 0; have cF := Af aj.out 1; have cG := Af aj.out 2; have cH := Af aj.out 3) | ((with_reducible refine As (f := 62) rfl ?_); refine Br (some 21) rfl rfl Try.func62 (by kernel_rfl) rfl #[.agg #[.int .i64 ((rd_T58 (rd_L5 l0 aa) ae).f0), .int .i64 ((rd_T58 (rd_L5 l0 aa) ae).f1), .int .i64 ((rd_T58 (rd_L5 l0 aa) ae).f2), .int .i64 ((rd_T58 (rd_L5 l0 aa) ae).f3)]] rfl (by (try simp only [List.map_toArray, List.map_cons, List.map_nil]); first | done | rfl | (simp only [List.length_drop, List.length_take]; rfl)) ?_; (with_reducible refine (B4.calls ((rd_T58 (rd_L5 l0 aa) ae).f0) ((rd_T58 (rd_L5 l0 aa) ae).f1) ((rd_T58 (rd_L5 l0 aa) ae).f2) ((rd_T58 (rd_L5 l0 aa) ae).f3) false _ A8.out).mono ?_); rintro e w21 ⟨rfl, hb⟩; refine ⟨_, rfl, ?_⟩; have n0_ := Aa.mk (Kd.Be (by exact rU <| (Kd.Bs (Kd.B8 (p := ⟨ap, 3, none⟩) (Kd.B8 (p := ⟨ap, 2, none⟩) (Kd.B8 (p := ⟨ap, 1, none⟩) (Kd.B8 (p := ⟨ap, 0, none⟩) (Kd.Cx aH.out aj.out (by decide)) (fun _ hk => hk.2) (.int .i64 ((rd_T58 (rd_L5 l0 aa) ae).f0))) (fun _ hk => hk.2) (.int .i64 ((rd_T58 (rd_L5 l0 aa) ae).f1))) (fun _ hk => hk.2) (.int .i64 ((rd_T58 (rd_L5 l0 aa) ae).f2))) (fun _ hk => hk.2) (.int .i64 ((rd_T58 (rd_L5 l0 aa) ae).f3))) (fun _ h_ => h_.1))) hb); have n1_ := Aa.mk (Bc (g := ap) (o := .cells #[.int .i64 ((rd_T58 (rd_L5 l0 aa) ae).f0), .int .i64 ((rd_T58 (rd_L5 l0 aa) ae).f1), .int .i64 ((rd_T58 (rd_L5 l0 aa) ae).f2), .int .i64 ((rd_T58 (rd_L5 l0 aa) ae).f3)] 58 (0, 0)) (by (with_reducible repeat (first | refine Am ?_ _ | refine Ar ?_ | refine An ?_ _)); refine Bb (cs := #[.int .i64 ((rd_T58 (rd_L5 l0 aa) ae).f0), .int .i64 ((rd_T58 (rd_L5 l0 aa) ae).f1), .int .i64 ((rd_T58 (rd_L5 l0 aa) ae).f2), .int .i64 0]) ?_ 3 _ rfl; (with_reducible repeat (first | refine Am ?_ _ | refine Ar ?_ | refine An ?_ _)); refine Bb (cs := #[.int .i64 ((rd_T58 (rd_L5 l0 aa) ae).f0), .int .i64 ((rd_T58 (rd_L5 l0 aa) ae).f1), .int .i64 0, .int .i64 0]) ?_ 2 _ rfl; (with_reducible repeat (first | refine Am ?_ _ | refine Ar ?_ | refine An ?_ _)); refine Bb (cs := #[.int .i64 ((rd_T58 (rd_L5 l0 aa) ae).f0), .int .i64 0, .int .i64 0, .int .i64 0]) ?_ 1 _ rfl; (with_reducible repeat (first | refine Am ?_ _ | refine Ar ?_ | refine An ?_ _)); refine Bb (cs := #[.int .i64 0, .int .i64 0, .int .i64 0, .int .i64 0]) ?_ 0 _ rfl; exact bU <| aj.out) hb); have n2_ := Aa.mk (Ak (by repeat (first | (with_reducible first | exact HB.out | apply Ad | apply Ab | apply Ac | refine Ai ?_ a9.out) | exact HB.out)) hb); clear aH; clear aj; clear HB; have aH := n0_; have aj := n1_; have HB := n2_; clear n0_ n1_ n2_; (try clear hb); (try clear hb2); (try clear hk); (try clear hi)))
            go_roundg k2
            case measure => have := HK1.out; have := HK2.out; omega
            case rel => exact ⟨(bD), (wrap64 (ae + 1)), (by first | rfl | (simp; done) | (simp [*]; done)), H', ⟨by have := HK1.out; have := HK2.out; omega⟩, ⟨by exact rU <| aH.out⟩, ⟨by repeat (first | (with_reducible first | exact HB.out | apply Ad | apply Ab | apply Ac | refine Ai ?_ a9.out) | exact HB.out)⟩⟩
          ·rw [if_neg c7] at H
           exact absurd H (by simp)
         ·rw [if_neg c6] at H
          exact absurd H (by simp)
        ·rw [if_neg c5] at H
         have dp : decide (ae < ((rd_L5 l0 aa).length : Int)) = false := decide_eq_false c5
         clear c5
         have H' := Aa.mk H
         clear H
         go_wp2
         go_roundg k2
         case measure => have := HK1.out; have := HK2.out; omega
         case rel => exact ⟨(bD), (wrap64 (aa + 1)), (by first | rfl | (simp; done) | (simp [*]; done)), H', ⟨by have := HK1.out; have := HK2.out; omega⟩, ⟨by exact rU <| aH.out⟩, ⟨by repeat (first | (with_reducible first | exact HB.out | apply Ad | apply Ab | apply Ac) | exact HB.out)⟩⟩
     ·rw [if_neg c4] at H
      exact absurd H (by simp)
    ·rw [if_neg c3] at H
     exact absurd H (by simp)
   ·rw [if_neg c2] at H
    have bu : decide (aa < (l0.length : Int)) = false := decide_eq_false c2
    clear c2
    replace H := Option.bind_eq_some_iff.mp H
    obtain ⟨dk, A220, H⟩ := H
    try dsimp only at H
    have A22 := Aa.mk A220
    clear A220
    obtain rfl := Option.some.inj H
    obtain ⟨cI, cJ, dg⟩ := Kd.Bn aH.out
    subst dg
    go_wp2_with (first | ((with_reducible refine As (f := 71) rfl ?_); refine Br (some 32) rfl rfl Try.func71 (by kernel_rfl) rfl #[.slice cI bC.length cJ] rfl (by (try simp only [List.map_toArray, List.map_cons, List.map_nil]); first | done | rfl | (simp only [List.length_drop, List.length_take]; rfl)) ?_; (with_reducible refine (Cb.calls (fun k_ => some k_ = (.slice cI bC.length cJ : Value).ownBlock) (.slice cI bC.length cJ) bC dk w _ ?side1 ?side2 A22.out).mono ?_); (case side1 => repeat (first | (with_reducible first | exact HB.out | apply Ad | apply Ab | apply Ac) | exact HB.out)); (case side2 => exact Kd.Cs rfl aH.out); rintro e w24 ⟨v127, rfl, ho0, hb, hkp⟩; refine ⟨_, rfl, ?_⟩; have n0_ := Aa.mk (Kd.Bs (ok' := fun k_ => True) ho0 (fun k_ hk_ => trivial)); have n1_ := Aa.mk (hb); clear HB; clear aH; have dH := n0_; have HB := n1_; clear n0_ n1_; (try clear hb); (try clear hkp); (try clear ho0)))
    go_ret
    exact ⟨_, by first | rfl | (simp [Ax, Aw] <;> rfl) | (simp [*, Ax, Aw] <;> rfl), by exact rU <| dH.out, by repeat (first | (with_reducible first | exact HB.out | apply Ad | apply Ab | apply Ac) | exact HB.out)⟩

end Go.Proofs.Ytobdfiglgdbecaa.PGA

