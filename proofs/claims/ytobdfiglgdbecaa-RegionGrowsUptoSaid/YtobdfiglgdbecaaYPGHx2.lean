import Derived.Test.YtobdfiglgdbecaaYPGHx0
namespace Go.Proofs.Ytobdfiglgdbecaa.PGH
open Go.Proofs.Ytobdfiglgdbecaa.PGA Go.Proofs.Ytobdfiglgdbecaa.PGB
open Go.RowKit Go.Proofs.YtobdfiglgdbecaaW.PrintWords Go.Proofs.YtobdfiglgdbecaaW.PrintLast Go.Proofs.YtobdfiglgdbecaaW.PrintMore
attribute [local go_sem] max2_int min2_int max_two min_two max_three min_three max_four min_four
set_option linter.unusedVariables false
set_option linter.unusedSimpArgs false

def Ch.f (ar : Int) (ax : Int) (au : Int) (ay : Int) : Option (Bool) := if ar < au then (some (decide (ax < ay))) else (some false)
set_option maxHeartbeats 8000000 in
set_option maxRecDepth 100000 in
theorem Ch.calls (ar : Int) (ax : Int) (au : Int) (ay : Int) (r : Bool) (w : World) (h : Ch.f ar ax au ay = some r) :
  Calls Try.prog 64 #[.agg #[.int .i64 ar, .int .i64 ax, .int .i64 au, .int .i64 ay]] w fun e w' => e = .returned (.bool r) ∧ Below w.heap.size w w' := by
 have hu58 := Try.underlying58
 have HB := Aa.mk (Below.refl w.heap.size w)
 have H : (if ar < au then (some (decide (ax < ay))) else (some false)) = some r := h
 clear h
 by_cases c2 : ar < au
 ·rw [if_pos c2] at H
  have az : decide (ar < au) = true := decide_eq_true c2
  clear c2
  obtain rfl := Option.some.inj H
  go_enter Try.func64, Try.ntmps64
  go_wp2_with (first | ((with_reducible refine Bj (N := 1) rfl ?_); refine B0 ?hg (N := 1) ?hd (cs := #[.int .i64 ar, .int .i64 ax, .int .i64 au, .int .i64 ay]) (t := 58) ?hr ?_; (case hd => rfl); (case hg => rfl); (case hr => first | (go_simp; done) | (go_simp; rfl)); intro ap hg w3 hbox hb; have n0_ := Aa.mk (Ak (lU HB.out) hb); have n1_ := Aa.mk (hbox); have n2_ := Aa.mk ((by rw [hg]; exact (Ag (lU HB.out)) : w.heap.size ≤ ap)); have n3_ := Aa.mk ((by rw [hg]; exact (Ag (lU HB.out)) : w.heap.size ≤ ap)); clear HB; have HB := n0_; have aj := n1_; have be := n2_; have aN := n3_; clear n0_ n1_ n2_ n3_; clear hb hbox hg; have cW : w3.cell? ⟨ap, 0, none⟩ = some (.int .i64 ar) := (Aj aj.out 0).trans rfl; have cX : w3.cell? ⟨ap, 1, none⟩ = some (.int .i64 ax) := (Aj aj.out 1).trans rfl; have cY : w3.cell? ⟨ap, 2, none⟩ = some (.int .i64 au) := (Aj aj.out 2).trans rfl; have cZ : w3.cell? ⟨ap, 3, none⟩ = some (.int .i64 ay) := (Aj aj.out 3).trans rfl; have da := Af aj.out 0; have dc := Af aj.out 1; have dd := Af aj.out 2; have de := Af aj.out 3))
  go_ret
  exact ⟨by first | rfl | (simp [Ax, Aw] <;> rfl) | (simp [*, Ax, Aw] <;> rfl), by repeat (first | (with_reducible first | exact HB.out | apply Ad | apply Ab | apply Ac | refine Ai ?_ aN.out) | exact HB.out)⟩
 ·rw [if_neg c2] at H
  have az : decide (ar < au) = false := decide_eq_false c2
  clear c2
  obtain rfl := Option.some.inj H
  go_enter Try.func64, Try.ntmps64
  go_wp2_with (first | ((with_reducible refine Bj (N := 1) rfl ?_); refine B0 ?hg (N := 1) ?hd (cs := #[.int .i64 ar, .int .i64 ax, .int .i64 au, .int .i64 ay]) (t := 58) ?hr ?_; (case hd => rfl); (case hg => rfl); (case hr => first | (go_simp; done) | (go_simp; rfl)); intro ap hg w5 hbox hb; have n0_ := Aa.mk (Ak (lU HB.out) hb); have n1_ := Aa.mk (hbox); have n2_ := Aa.mk ((by rw [hg]; exact (Ag (lU HB.out)) : w.heap.size ≤ ap)); have n3_ := Aa.mk ((by rw [hg]; exact (Ag (lU HB.out)) : w.heap.size ≤ ap)); clear HB; have HB := n0_; have aj := n1_; have be := n2_; have aN := n3_; clear n0_ n1_ n2_ n3_; clear hb hbox hg; have df : w5.cell? ⟨ap, 0, none⟩ = some (.int .i64 ar) := (Aj aj.out 0).trans rfl; have dg : w5.cell? ⟨ap, 1, none⟩ = some (.int .i64 ax) := (Aj aj.out 1).trans rfl; have dh : w5.cell? ⟨ap, 2, none⟩ = some (.int .i64 au) := (Aj aj.out 2).trans rfl; have di : w5.cell? ⟨ap, 3, none⟩ = some (.int .i64 ay) := (Aj aj.out 3).trans rfl; have dj := Af aj.out 0; have dk := Af aj.out 1; have dl := Af aj.out 2; have dm := Af aj.out 3))
  go_ret
  exact ⟨by first | rfl | (simp [Ax, Aw] <;> rfl) | (simp [*, Ax, Aw] <;> rfl), by repeat (first | (with_reducible first | exact HB.out | apply Ad | apply Ab | apply Ac | refine Ai ?_ aN.out) | exact HB.out)⟩

def Bf.f (a0 : Int) : Option (Bool) := if a0 ≥ (-8192) then (some (decide (a0 ≤ 8192))) else (some false)
set_option maxHeartbeats 8000000 in
set_option maxRecDepth 100000 in
theorem Bf.calls (a0 : Int) (r : Bool) (w : World) (h : Bf.f a0 = some r) :
  Calls Try.prog 76 #[.int .i64 a0] w fun e w' => e = .returned (.bool r) ∧ Drawn0 w w' := by
 have H : (if a0 ≥ (-8192) then (some (decide (a0 ≤ 8192))) else (some false)) = some r := h
 clear h
 by_cases c2 : a0 ≥ (-8192)
 ·rw [if_pos c2] at H
  have az : decide ((-8192) ≤ a0) = true := decide_eq_true c2
  clear c2
  obtain rfl := Option.some.inj H
  go_enter Try.func76, Try.ntmps76
  go_wp2
  go_ret
  exact ⟨by first | rfl | (simp; done) | (simp [*]; done), by repeat (first | exact Drawn0.refl _ | apply Drawn0.step)⟩
 ·rw [if_neg c2] at H
  have az : decide ((-8192) ≤ a0) = false := decide_eq_false c2
  clear c2
  obtain rfl := Option.some.inj H
  go_enter Try.func76, Try.ntmps76
  go_wp2
  go_ret
  exact ⟨by first | rfl | (simp; done) | (simp [*]; done), by repeat (first | exact Drawn0.refl _ | apply Drawn0.step)⟩

def Bv.l0 : Nat → List (S58) → Int → Option (Int)
 | 0, _, _ => none
 | k + 1, x0, x3 => if x3 < (x0.length : Int) then (if 0 ≤ x3 then ((Ch.f ((rd_T58 x0 x3).f0) ((rd_T58 x0 x3).f1) ((rd_T58 x0 x3).f2) ((rd_T58 x0 x3).f3)).bind fun aW => (if aW = true then ((Bf.f ((rd_T58 x0 x3).f0)).bind fun aX => (if aX = true then ((Bf.f ((rd_T58 x0 x3).f1)).bind fun aY => (if aY = true then ((Bf.f ((rd_T58 x0 x3).f2)).bind fun aZ => (if aZ = true then ((Bf.f ((rd_T58 x0 x3).f3)).bind fun a8 => (if a8 = true then (Bv.l0 k x0 (wrap64 (x3 + 1))) else (some 61))) else (some 61))) else (some 61))) else (some 61))) else (Bv.l0 k x0 (wrap64 (x3 + 1))))) else (none)) else (some 0)
def Bv.f (k : Nat) (l0 : List (S58)) : Option (Int) := Bv.l0 k l0 0
set_option maxHeartbeats 8000000 in
set_option maxRecDepth 100000 in
theorem Bv.calls (k : Nat) (A0 : Option Addr) (c0 : Nat) (l0 : List (S58)) (r : Int) (w : World) (hr0 : Kd.C k58 w A0 l0.length l0) (hc0 : l0.length ≤ c0) (h : Bv.f k l0 = some r) :
  Calls Try.prog 52 #[.slice A0 l0.length c0] w fun e w' => e = .returned (.int .i64 r) ∧ Below w.heap.size w w' := by
 have hu58 := Try.underlying58
 have HR0 := Aa.mk hr0
 have HC0 := Aa.mk hc0
 clear hr0 hc0
 have HB := Aa.mk (Below.refl w.heap.size w)
 have H : (Bv.l0 k l0 0) = some r := h
 clear h
 have H' := Aa.mk H
 clear H
 go_enter Try.func52, Try.ntmps52
 go_wp2
 go_loopg [3] k (fun kq v3 w' => ∃ (aa : Int), v3 = .int .i64 aa ∧ Aa (Bv.l0 kq l0 aa = some r) ∧ Aa (kq ≤ k) ∧ Aa (Below w.heap.size w w'))
 case atStart => exact ⟨(0), (by first | rfl | (simp; done) | (simp [*]; done)), H', ⟨Nat.le_refl _⟩, ⟨by repeat (first | (with_reducible first | exact HB.out | apply Ad | apply Ab | apply Ac) | exact HB.out)⟩⟩
 case round =>
  clear H'
  obtain ⟨aa, rfl, HA, HK1, HB⟩ := hrel
  cases gk with
  | zero => exact absurd HA.out (by simp [Bv.l0])
  | succ k1 =>
   have H := HA.out
   clear HA
   simp only [Bv.l0] at H
   by_cases c2 : aa < (l0.length : Int)
   ·rw [if_pos c2] at H
    have az : decide (aa < (l0.length : Int)) = true := decide_eq_true c2
    clear c2
    by_cases c3 : 0 ≤ aa
    ·rw [if_pos c3] at H
     have dn : decide (0 ≤ aa) = true := decide_eq_true c3
     clear c3
     replace H := Option.bind_eq_some_iff.mp H
     obtain ⟨aW, A40, H⟩ := H
     try dsimp only at H
     have A4 := Aa.mk A40
     clear A40
     by_cases c5 : aW = true
     ·subst c5
      have H1 := H
      rw [if_pos rfl] at H1
      clear H
      have H := H1
      clear H1
      replace H := Option.bind_eq_some_iff.mp H
      obtain ⟨aX, A60, H⟩ := H
      try dsimp only at H
      have A6 := Aa.mk A60
      clear A60
      by_cases c7 : aX = true
      ·subst c7
       have H1 := H
       rw [if_pos rfl] at H1
       clear H
       have H := H1
       clear H1
       replace H := Option.bind_eq_some_iff.mp H
       obtain ⟨aY, A80, H⟩ := H
       try dsimp only at H
       have A8 := Aa.mk A80
       clear A80
       by_cases c9 : aY = true
       ·subst c9
        have H1 := H
        rw [if_pos rfl] at H1
        clear H
        have H := H1
        clear H1
        replace H := Option.bind_eq_some_iff.mp H
        obtain ⟨aZ, A100, H⟩ := H
        try dsimp only at H
        have A10 := Aa.mk A100
        clear A100
        by_cases c11 : aZ = true
        ·subst c11
         have H1 := H
         rw [if_pos rfl] at H1
         clear H
         have H := H1
         clear H1
         replace H := Option.bind_eq_some_iff.mp H
         obtain ⟨a8, A120, H⟩ := H
         try dsimp only at H
         have A12 := Aa.mk A120
         clear A120
         by_cases c13 : a8 = true
         ·subst c13
          have H1 := H
          rw [if_pos rfl] at H1
          clear H
          have H := H1
          clear H1
          have H' := Aa.mk H
          clear H
          have am : 0 ≤ (aa : Int) := of_decide_eq_true (by with_reducible assumption)
          have an : aa < (l0.length : Int) := of_decide_eq_true (by with_reducible assumption)
          obtain ⟨aE, e102, ae, af, ag, ah⟩ := at_T58 HR0.out aa am an
          cases e102
          replace ae := (HB.out.cell (World.block_lt_of_cell? w _ ae)).trans ae
          replace af := (HB.out.cell (World.block_lt_of_cell? w _ af)).trans af
          replace ag := (HB.out.cell (World.block_lt_of_cell? w _ ag)).trans ag
          replace ah := (HB.out.cell (World.block_lt_of_cell? w _ ah)).trans ah
          replace am := eq_true am
          replace an := eq_true an
          go_wp2_with (first | ((with_reducible refine Bj (N := 4) rfl ?_); refine B0 ?hg (N := 4) ?hd (cs := #[.int .i64 0, .int .i64 0, .int .i64 0, .int .i64 0]) (t := 58) ?hr ?_; (case hd => rfl); (case hg => rfl); (case hr => first | (go_simp; done) | (go_simp; rfl)); intro ac hg w14 hbox hb; have n0_ := Aa.mk (Ak (lU HB.out) hb); have n1_ := Aa.mk (hbox); have n2_ := Aa.mk ((by rw [hg]; exact (Ag (lU HB.out)) : w.heap.size ≤ ac)); have n3_ := Aa.mk ((by rw [hg]; exact (Ag (lU HB.out)) : w.heap.size ≤ ac)); clear HB; have HB := n0_; have ab := n1_; have aG := n2_; have ak := n3_; clear n0_ n1_ n2_ n3_; clear hb hbox hg; have bf : w14.cell? ⟨ac, 0, none⟩ = some (.int .i64 0) := (Aj ab.out 0).trans rfl; have bg : w14.cell? ⟨ac, 1, none⟩ = some (.int .i64 0) := (Aj ab.out 1).trans rfl; have bh : w14.cell? ⟨ac, 2, none⟩ = some (.int .i64 0) := (Aj ab.out 2).trans rfl; have bi : w14.cell? ⟨ac, 3, none⟩ = some (.int .i64 0) := (Aj ab.out 3).trans rfl; have bj := Af ab.out 0; have bl := Af ab.out 1; have bm := Af ab.out 2; have bn := Af ab.out 3) | ((with_reducible refine As (f := 64) rfl ?_); refine Br (some 16) rfl rfl Try.func64 (by kernel_rfl) rfl #[.agg #[.int .i64 ((rd_T58 l0 aa).f0), .int .i64 ((rd_T58 l0 aa).f1), .int .i64 ((rd_T58 l0 aa).f2), .int .i64 ((rd_T58 l0 aa).f3)]] rfl (by (try simp only [List.map_toArray, List.map_cons, List.map_nil]); first | done | rfl | (simp only [List.length_drop, List.length_take]; rfl)) ?_; (with_reducible refine (Ch.calls ((rd_T58 l0 aa).f0) ((rd_T58 l0 aa).f1) ((rd_T58 l0 aa).f2) ((rd_T58 l0 aa).f3) true _ A4.out).mono ?_); rintro e w16 ⟨rfl, hb⟩; refine ⟨_, rfl, ?_⟩; have n0_ := Aa.mk (Bc (g := ac) (o := .cells #[.int .i64 ((rd_T58 l0 aa).f0), .int .i64 ((rd_T58 l0 aa).f1), .int .i64 ((rd_T58 l0 aa).f2), .int .i64 ((rd_T58 l0 aa).f3)] 58 (0, 0)) (by (with_reducible repeat (first | refine Am ?_ _ | refine Ar ?_ | refine An ?_ _)); refine Bb (cs := #[.int .i64 ((rd_T58 l0 aa).f0), .int .i64 ((rd_T58 l0 aa).f1), .int .i64 ((rd_T58 l0 aa).f2), .int .i64 0]) ?_ 3 _ rfl; (with_reducible repeat (first | refine Am ?_ _ | refine Ar ?_ | refine An ?_ _)); refine Bb (cs := #[.int .i64 ((rd_T58 l0 aa).f0), .int .i64 ((rd_T58 l0 aa).f1), .int .i64 0, .int .i64 0]) ?_ 2 _ rfl; (with_reducible repeat (first | refine Am ?_ _ | refine Ar ?_ | refine An ?_ _)); refine Bb (cs := #[.int .i64 ((rd_T58 l0 aa).f0), .int .i64 0, .int .i64 0, .int .i64 0]) ?_ 1 _ rfl; (with_reducible repeat (first | refine Am ?_ _ | refine Ar ?_ | refine An ?_ _)); refine Bb (cs := #[.int .i64 0, .int .i64 0, .int .i64 0, .int .i64 0]) ?_ 0 _ rfl; exact bU <| ab.out) hb); have n1_ := Aa.mk (Ak (by repeat (first | (with_reducible first | exact HB.out | apply Ad | apply Ab | apply Ac | refine Ai ?_ ak.out) | exact HB.out)) hb); clear ab; clear HB; have ab := n0_; have HB := n1_; clear n0_ n1_; (try clear hb); (try clear hb2); (try clear hk); (try clear hi); have bo : w16.cell? ⟨ac, 0, none⟩ = some (.int .i64 ((rd_T58 l0 aa).f0)) := (Aj ab.out 0).trans rfl; have bp : w16.cell? ⟨ac, 1, none⟩ = some (.int .i64 ((rd_T58 l0 aa).f1)) := (Aj ab.out 1).trans rfl; have bq : w16.cell? ⟨ac, 2, none⟩ = some (.int .i64 ((rd_T58 l0 aa).f2)) := (Aj ab.out 2).trans rfl; have br : w16.cell? ⟨ac, 3, none⟩ = some (.int .i64 ((rd_T58 l0 aa).f3)) := (Aj ab.out 3).trans rfl; have bs := Af ab.out 0; have bu := Af ab.out 1; have bv := Af ab.out 2; have bw := Af ab.out 3) | (go_at_call 76; (with_reducible refine (Bf.calls ((rd_T58 l0 aa).f0) true _ A6.out).mono ?_); rintro e w' ⟨rfl, ⟨nd, rfl⟩⟩) | (go_at_call 76; (with_reducible refine (Bf.calls ((rd_T58 l0 aa).f1) true _ A8.out).mono ?_); rintro e w' ⟨rfl, ⟨nd, rfl⟩⟩) | (go_at_call 76; (with_reducible refine (Bf.calls ((rd_T58 l0 aa).f2) true _ A10.out).mono ?_); rintro e w' ⟨rfl, ⟨nd, rfl⟩⟩) | (go_at_call 76; (with_reducible refine (Bf.calls ((rd_T58 l0 aa).f3) true _ A12.out).mono ?_); rintro e w' ⟨rfl, ⟨nd, rfl⟩⟩))
          go_roundg k1
          case measure => have := HK1.out; omega
          case rel => exact ⟨(wrap64 (aa + 1)), (by first | rfl | (simp; done) | (simp [*]; done)), H', ⟨by have := HK1.out; omega⟩, ⟨by repeat (first | (with_reducible first | exact HB.out | apply Ad | apply Ab | apply Ac | refine Ai ?_ ak.out) | exact HB.out)⟩⟩
         ·replace c13 := Bool.eq_false_iff.mpr c13
          subst c13
          have H1 := H
          rw [if_neg (show ¬ (false = true) by decide)] at H1
          clear H
          have H := H1
          clear H1
          obtain rfl := Option.some.inj H
          have am : 0 ≤ (aa : Int) := of_decide_eq_true (by with_reducible assumption)
          have an : aa < (l0.length : Int) := of_decide_eq_true (by with_reducible assumption)
          obtain ⟨aE, e102, ae, af, ag, ah⟩ := at_T58 HR0.out aa am an
          cases e102
          replace ae := (HB.out.cell (World.block_lt_of_cell? w _ ae)).trans ae
          replace af := (HB.out.cell (World.block_lt_of_cell? w _ af)).trans af
          replace ag := (HB.out.cell (World.block_lt_of_cell? w _ ag)).trans ag
          replace ah := (HB.out.cell (World.block_lt_of_cell? w _ ah)).trans ah
          replace am := eq_true am
          replace an := eq_true an
          go_wp2_with (first | ((with_reducible refine Bj (N := 4) rfl ?_); refine B0 ?hg (N := 4) ?hd (cs := #[.int .i64 0, .int .i64 0, .int .i64 0, .int .i64 0]) (t := 58) ?hr ?_; (case hd => rfl); (case hg => rfl); (case hr => first | (go_simp; done) | (go_simp; rfl)); intro ac hg w18 hbox hb; have n0_ := Aa.mk (Ak (lU HB.out) hb); have n1_ := Aa.mk (hbox); have n2_ := Aa.mk ((by rw [hg]; exact (Ag (lU HB.out)) : w.heap.size ≤ ac)); have n3_ := Aa.mk ((by rw [hg]; exact (Ag (lU HB.out)) : w.heap.size ≤ ac)); clear HB; have HB := n0_; have ab := n1_; have aG := n2_; have ak := n3_; clear n0_ n1_ n2_ n3_; clear hb hbox hg; have bx : w18.cell? ⟨ac, 0, none⟩ = some (.int .i64 0) := (Aj ab.out 0).trans rfl; have bz : w18.cell? ⟨ac, 1, none⟩ = some (.int .i64 0) := (Aj ab.out 1).trans rfl; have bB : w18.cell? ⟨ac, 2, none⟩ = some (.int .i64 0) := (Aj ab.out 2).trans rfl; have bC : w18.cell? ⟨ac, 3, none⟩ = some (.int .i64 0) := (Aj ab.out 3).trans rfl; have bD := Af ab.out 0; have bE := Af ab.out 1; have bF := Af ab.out 2; have bG := Af ab.out 3) | ((with_reducible refine As (f := 64) rfl ?_); refine Br (some 16) rfl rfl Try.func64 (by kernel_rfl) rfl #[.agg #[.int .i64 ((rd_T58 l0 aa).f0), .int .i64 ((rd_T58 l0 aa).f1), .int .i64 ((rd_T58 l0 aa).f2), .int .i64 ((rd_T58 l0 aa).f3)]] rfl (by (try simp only [List.map_toArray, List.map_cons, List.map_nil]); first | done | rfl | (simp only [List.length_drop, List.length_take]; rfl)) ?_; (with_reducible refine (Ch.calls ((rd_T58 l0 aa).f0) ((rd_T58 l0 aa).f1) ((rd_T58 l0 aa).f2) ((rd_T58 l0 aa).f3) true _ A4.out).mono ?_); rintro e w20 ⟨rfl, hb⟩; refine ⟨_, rfl, ?_⟩; have n0_ := Aa.mk (Bc (g := ac) (o := .cells #[.int .i64 ((rd_T58 l0 aa).f0), .int .i64 ((rd_T58 l0 aa).f1), .int .i64 ((rd_T58 l0 aa).f2), .int .i64 ((rd_T58 l0 aa).f3)] 58 (0, 0)) (by (with_reducible repeat (first | refine Am ?_ _ | refine Ar ?_ | refine An ?_ _)); refine Bb (cs := #[.int .i64 ((rd_T58 l0 aa).f0), .int .i64 ((rd_T58 l0 aa).f1), .int .i64 ((rd_T58 l0 aa).f2), .int .i64 0]) ?_ 3 _ rfl; (with_reducible repeat (first | refine Am ?_ _ | refine Ar ?_ | refine An ?_ _)); refine Bb (cs := #[.int .i64 ((rd_T58 l0 aa).f0), .int .i64 ((rd_T58 l0 aa).f1), .int .i64 0, .int .i64 0]) ?_ 2 _ rfl; (with_reducible repeat (first | refine Am ?_ _ | refine Ar ?_ | refine An ?_ _)); refine Bb (cs := #[.int .i64 ((rd_T58 l0 aa).f0), .int .i64 0, .int .i64 0, .int .i64 0]) ?_ 1 _ rfl; (with_reducible repeat (first | refine Am ?_ _ | refine Ar ?_ | refine An ?_ _)); refine Bb (cs := #[.int .i64 0, .int .i64 0, .int .i64 0, .int .i64 0]) ?_ 0 _ rfl; exact bU <| ab.out) hb); have n1_ := Aa.mk (Ak (by repeat (first | (with_reducible first | exact HB.out | apply Ad | apply Ab | apply Ac | refine Ai ?_ ak.out) | exact HB.out)) hb); clear ab; clear HB; have ab := n0_; have HB := n1_; clear n0_ n1_; (try clear hb); (try clear hb2); (try clear hk); (try clear hi); have bH : w20.cell? ⟨ac, 0, none⟩ = some (.int .i64 ((rd_T58 l0 aa).f0)) := (Aj ab.out 0).trans rfl; have bI : w20.cell? ⟨ac, 1, none⟩ = some (.int .i64 ((rd_T58 l0 aa).f1)) := (Aj ab.out 1).trans rfl; have bJ : w20.cell? ⟨ac, 2, none⟩ = some (.int .i64 ((rd_T58 l0 aa).f2)) := (Aj ab.out 2).trans rfl; have bK : w20.cell? ⟨ac, 3, none⟩ = some (.int .i64 ((rd_T58 l0 aa).f3)) := (Aj ab.out 3).trans rfl; have bL := Af ab.out 0; have bM := Af ab.out 1; have bN := Af ab.out 2; have bO := Af ab.out 3) | (go_at_call 76; (with_reducible refine (Bf.calls ((rd_T58 l0 aa).f0) true _ A6.out).mono ?_); rintro e w' ⟨rfl, ⟨nd, rfl⟩⟩) | (go_at_call 76; (with_reducible refine (Bf.calls ((rd_T58 l0 aa).f1) true _ A8.out).mono ?_); rintro e w' ⟨rfl, ⟨nd, rfl⟩⟩) | (go_at_call 76; (with_reducible refine (Bf.calls ((rd_T58 l0 aa).f2) true _ A10.out).mono ?_); rintro e w' ⟨rfl, ⟨nd, rfl⟩⟩) | (go_at_call 76; (with_reducible refine (Bf.calls ((rd_T58 l0 aa).f3) false _ A12.out).mono ?_); rintro e w' ⟨rfl, ⟨nd, rfl⟩⟩))
          go_ret
          exact ⟨by first | rfl | (simp [Ax, Aw] <;> rfl) | (simp [*, Ax, Aw] <;> rfl), by repeat (first | (with_reducible first | exact HB.out | apply Ad | apply Ab | apply Ac | refine Ai ?_ ak.out) | exact HB.out)⟩
        ·replace c11 := Bool.eq_false_iff.mpr c11
         subst c11
         have H1 := H
         rw [if_neg (show ¬ (false = true) by decide)] at H1
         clear H
         have H := H1
         clear H1
         obtain rfl := Option.some.inj H
         have am : 0 ≤ (aa : Int) := of_decide_eq_true (by with_reducible assumption)
         have an : aa < (l0.length : Int) := of_decide_eq_true (by with_reducible assumption)
         obtain ⟨aE, e102, ae, af, ag, ah⟩ := at_T58 HR0.out aa am an
         cases e102
         replace ae := (HB.out.cell (World.block_lt_of_cell? w _ ae)).trans ae
         replace af := (HB.out.cell (World.block_lt_of_cell? w _ af)).trans af
         replace ag := (HB.out.cell (World.block_lt_of_cell? w _ ag)).trans ag
         replace ah := (HB.out.cell (World.block_lt_of_cell? w _ ah)).trans ah
         replace am := eq_true am
         replace an := eq_true an
         go_wp2_with (first | ((with_reducible refine Bj (N := 4) rfl ?_); refine B0 ?hg (N := 4) ?hd (cs := #[.int .i64 0, .int .i64 0, .int .i64 0, .int .i64 0]) (t := 58) ?hr ?_; (case hd => rfl); (case hg => rfl); (case hr => first | (go_simp; done) | (go_simp; rfl)); intro ac hg w22 hbox hb; have n0_ := Aa.mk (Ak (lU HB.out) hb); have n1_ := Aa.mk (hbox); have n2_ := Aa.mk ((by rw [hg]; exact (Ag (lU HB.out)) : w.heap.size ≤ ac)); have n3_ := Aa.mk ((by rw [hg]; exact (Ag (lU HB.out)) : w.heap.size ≤ ac)); clear HB; have HB := n0_; have ab := n1_; have aG := n2_; have ak := n3_; clear n0_ n1_ n2_ n3_; clear hb hbox hg; have bP : w22.cell? ⟨ac, 0, none⟩ = some (.int .i64 0) := (Aj ab.out 0).trans rfl; have bQ : w22.cell? ⟨ac, 1, none⟩ = some (.int .i64 0) := (Aj ab.out 1).trans rfl; have bR : w22.cell? ⟨ac, 2, none⟩ = some (.int .i64 0) := (Aj ab.out 2).trans rfl; have bS : w22.cell? ⟨ac, 3, none⟩ = some (.int .i64 0) := (Aj ab.out 3).trans rfl; have bT := Af ab.out 0; have bV := Af ab.out 1; have bW := Af ab.out 2; have bX := Af ab.out 3) | ((with_reducible refine As (f := 64) rfl ?_); refine Br (some 16) rfl rfl Try.func64 (by kernel_rfl) rfl #[.agg #[.int .i64 ((rd_T58 l0 aa).f0), .int .i64 ((rd_T58 l0 aa).f1), .int .i64 ((rd_T58 l0 aa).f2), .int .i64 ((rd_T58 l0 aa).f3)]] rfl (by (try simp only [List.map_toArray, List.map_cons, List.map_nil]); first | done | rfl | (simp only [List.length_drop, List.length_take]; rfl)) ?_; (with_reducible refine (Ch.calls ((rd_T58 l0 aa).f0) ((rd_T58 l0 aa).f1) ((rd_T58 l0 aa).f2) ((rd_T58 l0 aa).f3) true _ A4.out).mono ?_); rintro e w24 ⟨rfl, hb⟩; refine ⟨_, rfl, ?_⟩; have n0_ := Aa.mk (Bc (g := ac) (o := .cells #[.int .i64 ((rd_T58 l0 aa).f0), .int .i64 ((rd_T58 l0 aa).f1), .int .i64 ((rd_T58 l0 aa).f2), .int .i64 ((rd_T58 l0 aa).f3)] 58 (0, 0)) (by (with_reducible repeat (first | refine Am ?_ _ | refine Ar ?_ | refine An ?_ _)); refine Bb (cs := #[.int .i64 ((rd_T58 l0 aa).f0), .int .i64 ((rd_T58 l0 aa).f1), .int .i64 ((rd_T58 l0 aa).f2), .int .i64 0]) ?_ 3 _ rfl; (with_reducible repeat (first | refine Am ?_ _ | refine Ar ?_ | refine An ?_ _)); refine Bb (cs := #[.int .i64 ((rd_T58 l0 aa).f0), .int .i64 ((rd_T58 l0 aa).f1), .int .i64 0, .int .i64 0]) ?_ 2 _ rfl; (with_reducible repeat (first | refine Am ?_ _ | refine Ar ?_ | refine An ?_ _)); refine Bb (cs := #[.int .i64 ((rd_T58 l0 aa).f0), .int .i64 0, .int .i64 0, .int .i64 0]) ?_ 1 _ rfl; (with_reducible repeat (first | refine Am ?_ _ | refine Ar ?_ | refine An ?_ _)); refine Bb (cs := #[.int .i64 0, .int .i64 0, .int .i64 0, .int .i64 0]) ?_ 0 _ rfl; exact bU <| ab.out) hb); have n1_ := Aa.mk (Ak (by repeat (first | (with_reducible first | exact HB.out | apply Ad | apply Ab | apply Ac | refine Ai ?_ ak.out) | exact HB.out)) hb); clear ab; clear HB; have ab := n0_; have HB := n1_; clear n0_ n1_; (try clear hb); (try clear hb2); (try clear hk); (try clear hi); have bY : w24.cell? ⟨ac, 0, none⟩ = some (.int .i64 ((rd_T58 l0 aa).f0)) := (Aj ab.out 0).trans rfl; have bZ : w24.cell? ⟨ac, 1, none⟩ = some (.int .i64 ((rd_T58 l0 aa).f1)) := (Aj ab.out 1).trans rfl; have b3 : w24.cell? ⟨ac, 2, none⟩ = some (.int .i64 ((rd_T58 l0 aa).f2)) := (Aj ab.out 2).trans rfl; have b4 : w24.cell? ⟨ac, 3, none⟩ = some (.int .i64 ((rd_T58 l0 aa).f3)) := (Aj ab.out 3).trans rfl; have b5 := Af ab.out 0; have b6 := Af ab.out 1; have b7 := Af ab.out 2; have b8 := Af ab.out 3) | (go_at_call 76; (with_reducible refine (Bf.calls ((rd_T58 l0 aa).f0) true _ A6.out).mono ?_); rintro e w' ⟨rfl, ⟨nd, rfl⟩⟩) | (go_at_call 76; (with_reducible refine (Bf.calls ((rd_T58 l0 aa).f1) true _ A8.out).mono ?_); rintro e w' ⟨rfl, ⟨nd, rfl⟩⟩) | (go_at_call 76; (with_reducible refine (Bf.calls ((rd_T58 l0 aa).f2) false _ A10.out).mono ?_); rintro e w' ⟨rfl, ⟨nd, rfl⟩⟩))
         go_ret
         exact ⟨by first | rfl | (simp [Ax, Aw] <;> rfl) | (simp [*, Ax, Aw] <;> rfl), by repeat (first | (with_reducible first | exact HB.out | apply Ad | apply Ab | apply Ac | refine Ai ?_ ak.out) | exact HB.out)⟩
       ·replace c9 := Bool.eq_false_iff.mpr c9
        subst c9
        have H1 := H
        rw [if_neg (show ¬ (false = true) by decide)] at H1
        clear H
        have H := H1
        clear H1
        obtain rfl := Option.some.inj H
        have am : 0 ≤ (aa : Int) := of_decide_eq_true (by with_reducible assumption)
        have an : aa < (l0.length : Int) := of_decide_eq_true (by with_reducible assumption)
        obtain ⟨aE, e102, ae, af, ag, ah⟩ := at_T58 HR0.out aa am an
        cases e102
        replace ae := (HB.out.cell (World.block_lt_of_cell? w _ ae)).trans ae
        replace af := (HB.out.cell (World.block_lt_of_cell? w _ af)).trans af
        replace ag := (HB.out.cell (World.block_lt_of_cell? w _ ag)).trans ag
        replace ah := (HB.out.cell (World.block_lt_of_cell? w _ ah)).trans ah
        replace am := eq_true am
        replace an := eq_true an
        go_wp2_with (first | ((with_reducible refine Bj (N := 4) rfl ?_); refine B0 ?hg (N := 4) ?hd (cs := #[.int .i64 0, .int .i64 0, .int .i64 0, .int .i64 0]) (t := 58) ?hr ?_; (case hd => rfl); (case hg => rfl); (case hr => first | (go_simp; done) | (go_simp; rfl)); intro ac hg w26 hbox hb; have n0_ := Aa.mk (Ak (lU HB.out) hb); have n1_ := Aa.mk (hbox); have n2_ := Aa.mk ((by rw [hg]; exact (Ag (lU HB.out)) : w.heap.size ≤ ac)); have n3_ := Aa.mk ((by rw [hg]; exact (Ag (lU HB.out)) : w.heap.size ≤ ac)); clear HB; have HB := n0_; have ab := n1_; have aG := n2_; have ak := n3_; clear n0_ n1_ n2_ n3_; clear hb hbox hg; have b9 : w26.cell? ⟨ac, 0, none⟩ = some (.int .i64 0) := (Aj ab.out 0).trans rfl; have cd : w26.cell? ⟨ac, 1, none⟩ = some (.int .i64 0) := (Aj ab.out 1).trans rfl; have cg : w26.cell? ⟨ac, 2, none⟩ = some (.int .i64 0) := (Aj ab.out 2).trans rfl; have ch : w26.cell? ⟨ac, 3, none⟩ = some (.int .i64 0) := (Aj ab.out 3).trans rfl; have ci := Af ab.out 0; have cj := Af ab.out 1; have cl := Af ab.out 2; have cn := Af ab.out 3) | ((with_reducible refine As (f := 64) rfl ?_); refine Br (some 16) rfl rfl Try.func64 (by kernel_rfl) rfl #[.agg #[.int .i64 ((rd_T58 l0 aa).f0), .int .i64 ((rd_T58 l0 aa).f1), .int .i64 ((rd_T58 l0 aa).f2), .int .i64 ((rd_T58 l0 aa).f3)]] rfl (by (try simp only [List.map_toArray, List.map_cons, List.map_nil]); first | done | rfl | (simp only [List.length_drop, List.length_take]; rfl)) ?_; (with_reducible refine (Ch.calls ((rd_T58 l0 aa).f0) ((rd_T58 l0 aa).f1) ((rd_T58 l0 aa).f2) ((rd_T58 l0 aa).f3) true _ A4.out).mono ?_); rintro e w28 ⟨rfl, hb⟩; refine ⟨_, rfl, ?_⟩; have n0_ := Aa.mk (Bc (g := ac) (o := .cells #[.int .i64 ((rd_T58 l0 aa).f0), .int .i64 ((rd_T58 l0 aa).f1), .int .i64 ((rd_T58 l0 aa).f2), .int .i64 ((rd_T58 l0 aa).f3)] 58 (0, 0)) (by (with_reducible repeat (first | refine Am ?_ _ | refine Ar ?_ | refine An ?_ _)); refine Bb (cs := #[.int .i64 ((rd_T58 l0 aa).f0), .int .i64 ((rd_T58 l0 aa).f1), .int .i64 ((rd_T58 l0 aa).f2), .int .i64 0]) ?_ 3 _ rfl; (with_reducible repeat (first | refine Am ?_ _ | refine Ar ?_ | refine An ?_ _)); refine Bb (cs := #[.int .i64 ((rd_T58 l0 aa).f0), .int .i64 ((rd_T58 l0 aa).f1), .int .i64 0, .int .i64 0]) ?_ 2 _ rfl; (with_reducible repeat (first | refine Am ?_ _ | refine Ar ?_ | refine An ?_ _)); refine Bb (cs := #[.int .i64 ((rd_T58 l0 aa).f0), .int .i64 0, .int .i64 0, .int .i64 0]) ?_ 1 _ rfl; (with_reducible repeat (first | refine Am ?_ _ | refine Ar ?_ | refine An ?_ _)); refine Bb (cs := #[.int .i64 0, .int .i64 0, .int .i64 0, .int .i64 0]) ?_ 0 _ rfl; exact bU <| ab.out) hb); have n1_ := Aa.mk (Ak (by repeat (first | (with_reducible first | exact HB.out | apply Ad | apply Ab | apply Ac | refine Ai ?_ ak.out) | exact HB.out)) hb); clear ab; clear HB; have ab := n0_; have HB := n1_; clear n0_ n1_; (try clear hb); (try clear hb2); (try clear hk); (try clear hi); have co : w28.cell? ⟨ac, 0, none⟩ = some (.int .i64 ((rd_T58 l0 aa).f0)) := (Aj ab.out 0).trans rfl; have cp : w28.cell? ⟨ac, 1, none⟩ = some (.int .i64 ((rd_T58 l0 aa).f1)) := (Aj ab.out 1).trans rfl; have cq : w28.cell? ⟨ac, 2, none⟩ = some (.int .i64 ((rd_T58 l0 aa).f2)) := (Aj ab.out 2).trans rfl; have ct : w28.cell? ⟨ac, 3, none⟩ = some (.int .i64 ((rd_T58 l0 aa).f3)) := (Aj ab.out 3).trans rfl; have cu := Af ab.out 0; have cv := Af ab.out 1; have cw := Af ab.out 2; have cx := Af ab.out 3) | (go_at_call 76; (with_reducible refine (Bf.calls ((rd_T58 l0 aa).f0) true _ A6.out).mono ?_); rintro e w' ⟨rfl, ⟨nd, rfl⟩⟩) | (go_at_call 76; (with_reducible refine (Bf.calls ((rd_T58 l0 aa).f1) false _ A8.out).mono ?_); rintro e w' ⟨rfl, ⟨nd, rfl⟩⟩))
        go_ret
        exact ⟨by first | rfl | (simp [Ax, Aw] <;> rfl) | (simp [*, Ax, Aw] <;> rfl), by repeat (first | (with_reducible first | exact HB.out | apply Ad | apply Ab | apply Ac | refine Ai ?_ ak.out) | exact HB.out)⟩
      ·replace c7 := Bool.eq_false_iff.mpr c7
       subst c7
       have H1 := H
       rw [if_neg (show ¬ (false = true) by decide)] at H1
       clear H
       have H := H1
       clear H1
       obtain rfl := Option.some.inj H
       have am : 0 ≤ (aa : Int) := of_decide_eq_true (by with_reducible assumption)
       have an : aa < (l0.length : Int) := of_decide_eq_true (by with_reducible assumption)
       obtain ⟨aE, e102, ae, af, ag, ah⟩ := at_T58 HR0.out aa am an
       cases e102
       replace ae := (HB.out.cell (World.block_lt_of_cell? w _ ae)).trans ae
       replace af := (HB.out.cell (World.block_lt_of_cell? w _ af)).trans af
       replace ag := (HB.out.cell (World.block_lt_of_cell? w _ ag)).trans ag
       replace ah := (HB.out.cell (World.block_lt_of_cell? w _ ah)).trans ah
       replace am := eq_true am
       replace an := eq_true an
       go_wp2_with (first | ((with_reducible refine Bj (N := 4) rfl ?_); refine B0 ?hg (N := 4) ?hd (cs := #[.int .i64 0, .int .i64 0, .int .i64 0, .int .i64 0]) (t := 58) ?hr ?_; (case hd => rfl); (case hg => rfl); (case hr => first | (go_simp; done) | (go_simp; rfl)); intro ac hg w30 hbox hb; have n0_ := Aa.mk (Ak (lU HB.out) hb); have n1_ := Aa.mk (hbox); have n2_ := Aa.mk ((by rw [hg]; exact (Ag (lU HB.out)) : w.heap.size ≤ ac)); have n3_ := Aa.mk ((by rw [hg]; exact (Ag (lU HB.out)) : w.heap.size ≤ ac)); clear HB; have HB := n0_; have ab := n1_; have aG := n2_; have ak := n3_; clear n0_ n1_ n2_ n3_; clear hb hbox hg; have cy : w30.cell? ⟨ac, 0, none⟩ = some (.int .i64 0) := (Aj ab.out 0).trans rfl; have cz : w30.cell? ⟨ac, 1, none⟩ = some (.int .i64 0) := (Aj ab.out 1).trans rfl; have cA : w30.cell? ⟨ac, 2, none⟩ = some (.int .i64 0) := (Aj ab.out 2).trans rfl; have cB : w30.cell? ⟨ac, 3, none⟩ = some (.int .i64 0) := (Aj ab.out 3).trans rfl; have cC := Af ab.out 0; have cD := Af ab.out 1; have cE := Af ab.out 2; have cF := Af ab.out 3) | ((with_reducible refine As (f := 64) rfl ?_); refine Br (some 16) rfl rfl Try.func64 (by kernel_rfl) rfl #[.agg #[.int .i64 ((rd_T58 l0 aa).f0), .int .i64 ((rd_T58 l0 aa).f1), .int .i64 ((rd_T58 l0 aa).f2), .int .i64 ((rd_T58 l0 aa).f3)]] rfl (by (try simp only [List.map_toArray, List.map_cons, List.map_nil]); first | done | rfl | (simp only [List.length_drop, List.length_take]; rfl)) ?_; (with_reducible refine (Ch.calls ((rd_T58 l0 aa).f0) ((rd_T58 l0 aa).f1) ((rd_T58 l0 aa).f2) ((rd_T58 l0 aa).f3) true _ A4.out).mono ?_); rintro e w32 ⟨rfl, hb⟩; refine ⟨_, rfl, ?_⟩; have n0_ := Aa.mk (Bc (g := ac) (o := .cells #[.int .i64 ((rd_T58 l0 aa).f0), .int .i64 ((rd_T58 l0 aa).f1), .int .i64 ((rd_T58 l0 aa).f2), .int .i64 ((rd_T58 l0 aa).f3)] 58 (0, 0)) (by (with_reducible repeat (first | refine Am ?_ _ | refine Ar ?_ | refine An ?_ _)); refine Bb (cs := #[.int .i64 ((rd_T58 l0 aa).f0), .int .i64 ((rd_T58 l0 aa).f1), .int .i64 ((rd_T58 l0 aa).f2), .int .i64 0]) ?_ 3 _ rfl; (with_reducible repeat (first | refine Am ?_ _ | refine Ar ?_ | refine An ?_ _)); refine Bb (cs := #[.int .i64 ((rd_T58 l0 aa).f0), .int .i64 ((rd_T58 l0 aa).f1), .int .i64 0, .int .i64 0]) ?_ 2 _ rfl; (with_reducible repeat (first | refine Am ?_ _ | refine Ar ?_ | refine An ?_ _)); refine Bb (cs := #[.int .i64 ((rd_T58 l0 aa).f0), .int .i64 0, .int .i64 0, .int .i64 0]) ?_ 1 _ rfl; (with_reducible repeat (first | refine Am ?_ _ | refine Ar ?_ | refine An ?_ _)); refine Bb (cs := #[.int .i64 0, .int .i64 0, .int .i64 0, .int .i64 0]) ?_ 0 _ rfl; exact bU <| ab.out) hb); have n1_ := Aa.mk (Ak (by repeat (first | (with_reducible first | exact HB.out | apply Ad | apply Ab | apply Ac | refine Ai ?_ ak.out) | exact HB.out)) hb); clear ab; clear HB; have ab := n0_; have HB := n1_; clear n0_ n1_; (try clear hb); (try clear hb2); (try clear hk); (try clear hi); have cG : w32.cell? ⟨ac, 0, none⟩ = some (.int .i64 ((rd_T58 l0 aa).f0)) := (Aj ab.out 0).trans rfl; have cH : w32.cell? ⟨ac, 1, none⟩ = some (.int .i64 ((rd_T58 l0 aa).f1)) := (Aj ab.out 1).trans rfl; have cI : w32.cell? ⟨ac, 2, none⟩ = some (.int .i64 ((rd_T58 l0 aa).f2)) := (Aj ab.out 2).trans rfl; have cJ : w32.cell? ⟨ac, 3, none⟩ = some (.int .i64 ((rd_T58 l0 aa).f3)) := (Aj ab.out 3).trans rfl; have cK := Af ab.out 0; have cL := Af ab.out 1; have cM := Af ab.out 2; have cN := Af ab.out 3) | (go_at_call 76; (with_reducible refine (Bf.calls ((rd_T58 l0 aa).f0) false _ A6.out).mono ?_); rintro e w' ⟨rfl, ⟨nd, rfl⟩⟩))
       go_ret
       exact ⟨by first | rfl | (simp [Ax, Aw] <;> rfl) | (simp [*, Ax, Aw] <;> rfl), by repeat (first | (with_reducible first | exact HB.out | apply Ad | apply Ab | apply Ac | refine Ai ?_ ak.out) | exact HB.out)⟩
     ·replace c5 := Bool.eq_false_iff.mpr c5
      subst c5
      have H1 := H
      rw [if_neg (show ¬ (false = true) by decide)] at H1
      clear H
      have H := H1
      clear H1
      have H' := Aa.mk H
      clear H
      have am : 0 ≤ (aa : Int) := of_decide_eq_true (by with_reducible assumption)
      have an : aa < (l0.length : Int) := of_decide_eq_true (by with_reducible assumption)
      obtain ⟨aE, e102, ae, af, ag, ah⟩ := at_T58 HR0.out aa am an
      cases e102
      replace ae := (HB.out.cell (World.block_lt_of_cell? w _ ae)).trans ae
      replace af := (HB.out.cell (World.block_lt_of_cell? w _ af)).trans af
      replace ag := (HB.out.cell (World.block_lt_of_cell? w _ ag)).trans ag
      replace ah := (HB.out.cell (World.block_lt_of_cell? w _ ah)).trans ah
      replace am := eq_true am
      replace an := eq_true an
      go_wp2_with (first | ((with_reducible refine Bj (N := 4) rfl ?_); refine B0 ?hg (N := 4) ?hd (cs := #[.int .i64 0, .int .i64 0, .int .i64 0, .int .i64 0]) (t := 58) ?hr ?_; (case hd => rfl); (case hg => rfl); (case hr => first | (go_simp; done) | (go_simp; rfl)); intro ac hg w34 hbox hb; have n0_ := Aa.mk (Ak (lU HB.out) hb); have n1_ := Aa.mk (hbox); have n2_ := Aa.mk ((by rw [hg]; exact (Ag (lU HB.out)) : w.heap.size ≤ ac)); have n3_ := Aa.mk ((by rw [hg]; exact (Ag (lU HB.out)) : w.heap.size ≤ ac)); clear HB; have HB := n0_; have ab := n1_; have aG := n2_; have ak := n3_; clear n0_ n1_ n2_ n3_; clear hb hbox hg; have cO : w34.cell? ⟨ac, 0, none⟩ = some (.int .i64 0) := (Aj ab.out 0).trans rfl; have cP : w34.cell? ⟨ac, 1, none⟩ = some (.int .i64 0) := (Aj ab.out 1).trans rfl; have cQ : w34.cell? ⟨ac, 2, none⟩ = some (.int .i64 0) := (Aj ab.out 2).trans rfl; have cR : w34.cell? ⟨ac, 3, none⟩ = some (.int .i64 0) := (Aj ab.out 3).trans rfl; have cS := Af ab.out 0; have cT := Af ab.out 1; have cU := Af ab.out 2; have cV := Af ab.out 3) | ((with_reducible refine As (f := 64) rfl ?_); refine Br (some 16) rfl rfl Try.func64 (by kernel_rfl) rfl #[.agg #[.int .i64 ((rd_T58 l0 aa).f0), .int .i64 ((rd_T58 l0 aa).f1), .int .i64 ((rd_T58 l0 aa).f2), .int .i64 ((rd_T58 l0 aa).f3)]] rfl (by (try simp only [List.map_toArray, List.map_cons, List.map_nil]); first | done | rfl | (simp only [List.length_drop, List.length_take]; rfl)) ?_; (with_reducible refine (Ch.calls ((rd_T58 l0 aa).f0) ((rd_T58 l0 aa).f1) ((rd_T58 l0 aa).f2) ((rd_T58 l0 aa).f3) false _ A4.out).mono ?_); rintro e w36 ⟨rfl, hb⟩; refine ⟨_, rfl, ?_⟩; have n0_ := Aa.mk (Bc (g := ac) (o := .cells #[.int .i64 ((rd_T58 l0 aa).f0), .int .i64 ((rd_T58 l0 aa).f1), .int .i64 ((rd_T58 l0 aa).f2), .int .i64 ((rd_T58 l0 aa).f3)] 58 (0, 0)) (by (with_reducible repeat (first | refine Am ?_ _ | refine Ar ?_ | refine An ?_ _)); refine Bb (cs := #[.int .i64 ((rd_T58 l0 aa).f0), .int .i64 ((rd_T58 l0 aa).f1), .int .i64 ((rd_T58 l0 aa).f2), .int .i64 0]) ?_ 3 _ rfl; (with_reducible repeat (first | refine Am ?_ _ | refine Ar ?_ | refine An ?_ _)); refine Bb (cs := #[.int .i64 ((rd_T58 l0 aa).f0), .int .i64 ((rd_T58 l0 aa).f1), .int .i64 0, .int .i64 0]) ?_ 2 _ rfl; (with_reducible repeat (first | refine Am ?_ _ | refine Ar ?_ | refine An ?_ _)); refine Bb (cs := #[.int .i64 ((rd_T58 l0 aa).f0), .int .i64 0, .int .i64 0, .int .i64 0]) ?_ 1 _ rfl; (with_reducible repeat (first | refine Am ?_ _ | refine Ar ?_ | refine An ?_ _)); refine Bb (cs := #[.int .i64 0, .int .i64 0, .int .i64 0, .int .i64 0]) ?_ 0 _ rfl; exact bU <| ab.out) hb); have n1_ := Aa.mk (Ak (by repeat (first | (with_reducible first | exact HB.out | apply Ad | apply Ab | apply Ac | refine Ai ?_ ak.out) | exact HB.out)) hb); clear ab; clear HB; have ab := n0_; have HB := n1_; clear n0_ n1_; (try clear hb); (try clear hb2); (try clear hk); (try clear hi)))
      go_roundg k1
      case measure => have := HK1.out; omega
      case rel => exact ⟨(wrap64 (aa + 1)), (by first | rfl | (simp; done) | (simp [*]; done)), H', ⟨by have := HK1.out; omega⟩, ⟨by repeat (first | (with_reducible first | exact HB.out | apply Ad | apply Ab | apply Ac | refine Ai ?_ ak.out) | exact HB.out)⟩⟩
    ·rw [if_neg c3] at H
     exact absurd H (by simp)
   ·rw [if_neg c2] at H
    have az : decide (aa < (l0.length : Int)) = false := decide_eq_false c2
    clear c2
    obtain rfl := Option.some.inj H
    go_wp2
    go_ret
    exact ⟨by first | rfl | (simp [Ax, Aw] <;> rfl) | (simp [*, Ax, Aw] <;> rfl), by repeat (first | (with_reducible first | exact HB.out | apply Ad | apply Ab | apply Ac) | exact HB.out)⟩

def Ci.f (k : Nat) (l0 : List (S58)) : Option (Int) := if (l0.length : Int) > 4096 then (some 60) else ((Bv.f k l0).bind fun aQ => (some aQ))
set_option maxHeartbeats 8000000 in
set_option maxRecDepth 100000 in
theorem Ci.calls (k : Nat) (A0 : Option Addr) (c0 : Nat) (l0 : List (S58)) (r : Int) (w : World) (hr0 : Kd.C k58 w A0 l0.length l0) (hc0 : l0.length ≤ c0) (h : Ci.f k l0 = some r) :
  Calls Try.prog 50 #[.slice A0 l0.length c0] w fun e w' => e = .returned (.int .i64 r) ∧ Below w.heap.size w w' := by
 have HR0 := Aa.mk hr0
 have HC0 := Aa.mk hc0
 clear hr0 hc0
 have HB := Aa.mk (Below.refl w.heap.size w)
 have H : (if (l0.length : Int) > 4096 then (some 60) else ((Bv.f k l0).bind fun aQ => (some aQ))) = some r := h
 clear h
 by_cases c2 : (l0.length : Int) > 4096
 ·rw [if_pos c2] at H
  have az : decide (4096 < (l0.length : Int)) = true := decide_eq_true c2
  have dp : decide (4096 < l0.length) = true := decide_eq_true (by omega)
  clear c2
  obtain rfl := Option.some.inj H
  go_enter Try.func50, Try.ntmps50
  go_wp2
  go_ret
  exact ⟨by first | rfl | (simp [Ax, Aw] <;> rfl) | (simp [*, Ax, Aw] <;> rfl), by repeat (first | (with_reducible first | exact HB.out | apply Ad | apply Ab | apply Ac) | exact HB.out)⟩
 ·rw [if_neg c2] at H
  have az : decide (4096 < (l0.length : Int)) = false := decide_eq_false c2
  have dp : decide (4096 < l0.length) = false := decide_eq_false (by omega)
  clear c2
  replace H := Option.bind_eq_some_iff.mp H
  obtain ⟨aQ, A30, H⟩ := H
  try dsimp only at H
  have A3 := Aa.mk A30
  clear A30
  obtain rfl := Option.some.inj H
  go_enter Try.func50, Try.ntmps50
  go_wp2_with (first | ((with_reducible refine As (f := 52) rfl ?_); refine Br (some 7) rfl rfl Try.func52 (by kernel_rfl) rfl #[.slice A0 l0.length c0] rfl (by (try simp only [List.map_toArray, List.map_cons, List.map_nil]); first | done | rfl | (simp only [List.length_drop, List.length_take]; rfl)) ?_; (with_reducible refine (Bv.calls k _ _ l0 aQ _ ?side1 ?side2 A3.out).mono ?_); (case side1 => repeat (first | exact HR0.out | (with_reducible refine Kd.Bi ?_ _) | (with_reducible refine Kd.Bh ?_ _) | (with_reducible refine Kd.Bm ?_))); (case side2 => exact HC0.out); rintro e w4 ⟨rfl, hb⟩; refine ⟨_, rfl, ?_⟩; have n0_ := Aa.mk (Ak (lU HB.out) hb); clear HB; have HB := n0_; clear n0_; (try clear hb); (try clear hb2); (try clear hk); (try clear hi)))
  go_ret
  exact ⟨by first | rfl | (simp [Ax, Aw] <;> rfl) | (simp [*, Ax, Aw] <;> rfl), by repeat (first | (with_reducible first | exact HB.out | apply Ad | apply Ab | apply Ac) | exact HB.out)⟩

def Bw.l0 : Nat → List (List (S58)) → Int → Option (Bool)
 | 0, _, _ => none
 | k + 1, x0, x3 => if x3 < (x0.length : Int) then (if 0 ≤ x3 then (if ((rd_L2 x0 x3).length : Int) > 30 then (some false) else ((Ci.f k (rd_L2 x0 x3)).bind fun aA => (if aA = 0 then (Bw.l0 k x0 (wrap64 (x3 + 1))) else (some false)))) else (none)) else (some true)
def Bw.f (k : Nat) (l0 : List (List (S58))) : Option (Bool) := Bw.l0 k l0 0
set_option maxHeartbeats 8000000 in
set_option maxRecDepth 100000 in
theorem Bw.calls (k : Nat) (A0 : Option Addr) (c0 : Nat) (l0 : List (List (S58))) (r : Bool) (w : World) (hr0 : Kd.C (Kd.slice 58 k58) w A0 l0.length l0) (hc0 : l0.length ≤ c0) (h : Bw.f k l0 = some r) :
  Calls Try.prog 29 #[.slice A0 l0.length c0] w fun e w' => e = .returned (.bool r) ∧ Below w.heap.size w w' := by
 have HR0 := Aa.mk hr0
 have HC0 := Aa.mk hc0
 clear hr0 hc0
 have HB := Aa.mk (Below.refl w.heap.size w)
 have H : (Bw.l0 k l0 0) = some r := h
 clear h
 have H' := Aa.mk H
 clear H
 go_enter Try.func29, Try.ntmps29
 go_wp2
 go_loopg [3] k (fun kq v3 w' => ∃ (aa : Int), v3 = .int .i64 aa ∧ Aa (Bw.l0 kq l0 aa = some r) ∧ Aa (kq ≤ k) ∧ Aa (Below w.heap.size w w'))
 case atStart => exact ⟨(0), (by first | rfl | (simp; done) | (simp [*]; done)), H', ⟨Nat.le_refl _⟩, ⟨by repeat (first | (with_reducible first | exact HB.out | apply Ad | apply Ab | apply Ac) | exact HB.out)⟩⟩
 case round =>
  clear H'
  obtain ⟨aa, rfl, HA, HK1, HB⟩ := hrel
  cases gk with
  | zero => exact absurd HA.out (by simp [Bw.l0])
  | succ k1 =>
   have H := HA.out
   clear HA
   simp only [Bw.l0] at H
   by_cases c2 : aa < (l0.length : Int)
   ·rw [if_pos c2] at H
    have az : decide (aa < (l0.length : Int)) = true := decide_eq_true c2
    clear c2
    by_cases c3 : 0 ≤ aa
    ·rw [if_pos c3] at H
     have dn : decide (0 ≤ aa) = true := decide_eq_true c3
     clear c3
     by_cases c4 : ((rd_L2 l0 aa).length : Int) > 30
     ·rw [if_pos c4] at H
      have dq : decide (30 < ((rd_L2 l0 aa).length : Int)) = true := decide_eq_true c4
      have dr : decide (30 < (rd_L2 l0 aa).length) = true := decide_eq_true (by omega)
      clear c4
      obtain rfl := Option.some.inj H
      have av : 0 ≤ (aa : Int) := of_decide_eq_true (by with_reducible assumption)
      have aw : aa < (l0.length : Int) := of_decide_eq_true (by with_reducible assumption)
      obtain ⟨aJ, aT, aU, e110, ai, ao, hi110_0⟩ := at_L2 HR0.out aa av aw
      cases e110
      replace ai := (HB.out.cell (World.block_lt_of_cell? w _ ai)).trans ai
      have aK := Aa.mk hi110_0
      have aM := Aa.mk ao
      clear hi110_0 ao
      replace av := eq_true av
      replace aw := eq_true aw
      go_wp2
      go_ret
      exact ⟨by first | rfl | (simp [Ax, Aw] <;> rfl) | (simp [*, Ax, Aw] <;> rfl), by repeat (first | (with_reducible first | exact HB.out | apply Ad | apply Ab | apply Ac) | exact HB.out)⟩
     ·rw [if_neg c4] at H
      have dq : decide (30 < ((rd_L2 l0 aa).length : Int)) = false := decide_eq_false c4
      have dr : decide (30 < (rd_L2 l0 aa).length) = false := decide_eq_false (by omega)
      clear c4
      replace H := Option.bind_eq_some_iff.mp H
      obtain ⟨aA, A50, H⟩ := H
      try dsimp only at H
      have A5 := Aa.mk A50
      clear A50
      by_cases c6 : aA = 0
      ·rw [if_pos c6] at H
       have dt : (aA == 0) = true := beq_iff_eq.mpr c6
       have du : (aA != 0) = false := bne_eq_false_iff_eq.mpr c6
       clear c6
       have H' := Aa.mk H
       clear H
       have av : 0 ≤ (aa : Int) := of_decide_eq_true (by with_reducible assumption)
       have aw : aa < (l0.length : Int) := of_decide_eq_true (by with_reducible assumption)
       obtain ⟨aJ, aT, aU, e110, ai, ao, hi110_0⟩ := at_L2 HR0.out aa av aw
       cases e110
       replace ai := (HB.out.cell (World.block_lt_of_cell? w _ ai)).trans ai
       have aK := Aa.mk hi110_0
       have aM := Aa.mk ao
       clear hi110_0 ao
       replace av := eq_true av
       replace aw := eq_true aw
       have aH : 0 ≤ (aa : Int) := of_decide_eq_true (by with_reducible assumption)
       have aI : aa < (l0.length : Int) := of_decide_eq_true (by with_reducible assumption)
       obtain ⟨aV, a9, bc, e111, al, aq, hi111_0⟩ := at_L2 HR0.out aa aH aI
       obtain rfl : aJ = aV := (by injection e111)
       replace al := (HB.out.cell (World.block_lt_of_cell? w _ al)).trans al
       have aC := Aa.mk hi111_0
       have aD := Aa.mk aq
       clear hi111_0 aq
       replace aH := eq_true aH
       replace aI := eq_true aI
       have ea_ := Option.some.inj (ai.symm.trans al)
       injection ea_ with ea_ en_ ec_
       subst ea_
       subst ec_
       clear en_
       go_wp2_with (first | (go_at_call 50; (with_reducible refine (Ci.calls k1 _ _ (rd_L2 l0 aa) aA _ ?side1 ?side2 A5.out).mono ?_); (case side1 => repeat (first | exact (Kd.C3 aC.out HB.out) | (with_reducible refine Kd.Bi ?_ _) | (with_reducible refine Kd.Bh ?_ _) | (with_reducible refine Kd.Bm ?_))); (case side2 => exact aD.out); rintro e w7 ⟨rfl, hb⟩; have n0_ := Aa.mk (Ak (lU HB.out) hb); clear HB; have HB := n0_; clear n0_; (try clear hb); (try clear hb2); (try clear hk); (try clear hi)))
       go_roundg k1
       case measure => have := HK1.out; omega
       case rel => exact ⟨(wrap64 (aa + 1)), (by first | rfl | (simp; done) | (simp [*]; done)), H', ⟨by have := HK1.out; omega⟩, ⟨by repeat (first | (with_reducible first | exact HB.out | apply Ad | apply Ab | apply Ac) | exact HB.out)⟩⟩
      ·rw [if_neg c6] at H
       have dt : (aA == 0) = false := beq_eq_false_iff_ne.mpr c6
       have du : (aA != 0) = true := bne_iff_ne.mpr c6
       obtain rfl := Option.some.inj H
       have av : 0 ≤ (aa : Int) := of_decide_eq_true (by with_reducible assumption)
       have aw : aa < (l0.length : Int) := of_decide_eq_true (by with_reducible assumption)
       obtain ⟨aJ, aT, aU, e110, ai, ao, hi110_0⟩ := at_L2 HR0.out aa av aw
       cases e110
       replace ai := (HB.out.cell (World.block_lt_of_cell? w _ ai)).trans ai
       have aK := Aa.mk hi110_0
       have aM := Aa.mk ao
       clear hi110_0 ao
       replace av := eq_true av
       replace aw := eq_true aw
       have aH : 0 ≤ (aa : Int) := of_decide_eq_true (by with_reducible assumption)
       have aI : aa < (l0.length : Int) := of_decide_eq_true (by with_reducible assumption)
       obtain ⟨aV, a9, bc, e111, al, aq, hi111_0⟩ := at_L2 HR0.out aa aH aI
       obtain rfl : aJ = aV := (by injection e111)
       replace al := (HB.out.cell (World.block_lt_of_cell? w _ al)).trans al
       have aC := Aa.mk hi111_0
       have aD := Aa.mk aq
       clear hi111_0 aq
       replace aH := eq_true aH
       replace aI := eq_true aI
       have ea_ := Option.some.inj (ai.symm.trans al)
       injection ea_ with ea_ en_ ec_
       subst ea_
       subst ec_
       clear en_
       go_wp2_with (first | (go_at_call 50; (with_reducible refine (Ci.calls k1 _ _ (rd_L2 l0 aa) aA _ ?side1 ?side2 A5.out).mono ?_); (case side1 => repeat (first | exact (Kd.C3 aC.out HB.out) | (with_reducible refine Kd.Bi ?_ _) | (with_reducible refine Kd.Bh ?_ _) | (with_reducible refine Kd.Bm ?_))); (case side2 => exact aD.out); rintro e w8 ⟨rfl, hb⟩; have n0_ := Aa.mk (Ak (lU HB.out) hb); clear HB; have HB := n0_; clear n0_; (try clear hb); (try clear hb2); (try clear hk); (try clear hi)))
       go_ret
       exact ⟨by first | rfl | (simp [Ax, Aw] <;> rfl) | (simp [*, Ax, Aw] <;> rfl), by repeat (first | (with_reducible first | exact HB.out | apply Ad | apply Ab | apply Ac) | exact HB.out)⟩
    ·rw [if_neg c3] at H
     exact absurd H (by simp)
   ·rw [if_neg c2] at H
    have az : decide (aa < (l0.length : Int)) = false := decide_eq_false c2
    clear c2
    obtain rfl := Option.some.inj H
    go_wp2
    go_ret
    exact ⟨by first | rfl | (simp [Ax, Aw] <;> rfl) | (simp [*, Ax, Aw] <;> rfl), by repeat (first | (with_reducible first | exact HB.out | apply Ad | apply Ab | apply Ac) | exact HB.out)⟩

end Go.Proofs.Ytobdfiglgdbecaa.PGH

