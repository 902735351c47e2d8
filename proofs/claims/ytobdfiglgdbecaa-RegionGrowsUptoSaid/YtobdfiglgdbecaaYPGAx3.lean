import Derived.Test.YtobdfiglgdbecaaYPGAx0
import Derived.Test.YtobdfiglgdbecaaYPGAx2
import Derived.Test.YtobdfiglgdbecaaYSF
namespace Go.Proofs.Ytobdfiglgdbecaa.PGA
open Go.Proofs.Ytobdfiglgdbecaa.PGB
open Go.RowKit Go.Proofs.YtobdfiglgdbecaaW.PrintWords Go.Proofs.YtobdfiglgdbecaaW.PrintLast Go.Proofs.YtobdfiglgdbecaaW.PrintMore
attribute [local go_sem] max2_int min2_int max_two min_two max_three min_three max_four min_four
set_option linter.unusedVariables false
set_option linter.unusedSimpArgs false

mutual
def Ba.l0 : Nat → Int → List (S93) → List (S58) → Int → Int → Option ((List (S93)))
 | 0, _, _, _, _, _ => none
 | k + 1, x1, x5, x12, x13, x14 => if x14 < x13 then (if 0 ≤ x14 then (if x14 < (x12.length : Int) then ((B4.f ((rd_T58 x12 x14).f0) ((rd_T58 x12 x14).f1) ((rd_T58 x12 x14).f2) ((rd_T58 x12 x14).f3)).bind fun cq => (if cq = true then (if ((rd_T58 x12 x14).f1) ≤ x1 then (if x1 < ((rd_T58 x12 x14).f3) then (if x5.length < 8796093022208 then (Ba.l0 k x1 (x5 ++ [(⟨(rd_T58 x12 x14).f0, (rd_T58 x12 x14).f2⟩ : S93)]) x12 x13 (wrap64 (x14 + 1))) else (none)) else (Ba.l0 k x1 x5 x12 x13 (wrap64 (x14 + 1)))) else (Ba.l0 k x1 x5 x12 x13 (wrap64 (x14 + 1)))) else (Ba.l0 k x1 x5 x12 x13 (wrap64 (x14 + 1))))) else (none)) else (none)) else ((Cv.f x5).bind fun be => (Ba.l1 k ([] : List (S93)) be (x5.length : Int) 0))
def Ba.l1 : Nat → List (S93) → List (S93) → Int → Int → Option ((List (S93)))
 | 0, _, _, _, _ => none
 | k + 1, x8, x43, x44, x45 => if x45 < x44 then (if 0 ≤ x45 then (if x45 < (x43.length : Int) then (if (x8.length : Int) > 0 then (if 0 ≤ (wrap64 ((x8.length : Int) - 1)) then (if (wrap64 ((x8.length : Int) - 1)) < (x8.length : Int) then (if ((rd_T93 x43 x45).f0) ≤ ((rd_T93 x8 (wrap64 ((x8.length : Int) - 1))).f1) then (Ba.l1 k (x8.set ((wrap64 ((x8.length : Int) - 1)) : Int).toNat (⟨(rd_T93 x8 (wrap64 ((x8.length : Int) - 1))).f0, mx ((rd_T93 x8 (wrap64 ((x8.length : Int) - 1))).f1) ((rd_T93 x43 x45).f1)⟩ : S93)) x43 x44 (wrap64 (x45 + 1))) else (if x8.length < 8796093022208 then (Ba.l1 k (x8 ++ [(⟨(rd_T93 x43 x45).f0, (rd_T93 x43 x45).f1⟩ : S93)]) x43 x44 (wrap64 (x45 + 1))) else (none))) else (none)) else (none)) else (if x8.length < 8796093022208 then (Ba.l1 k (x8 ++ [(⟨(rd_T93 x43 x45).f0, (rd_T93 x43 x45).f1⟩ : S93)]) x43 x44 (wrap64 (x45 + 1))) else (none))) else (none)) else (none)) else (some x8)
end
def Ba.f (k : Nat) (l0 : List (S58)) (a1 : Int) : Option ((List (S93))) := Ba.l0 k a1 ([] : List (S93)) l0 (l0.length : Int) 0
def Ba.T14 : Bool × List (List Nat × List Nat) := (true, [([], []), ([0], [0]), ([1], [1]), ([2], [2]), ([3, 2], [2, 3]), ([2], [2]), ([2], [2]), ([6, 2], [2, 6]), ([5, 7, 2], [2, 5, 7]), ([8, 2], [2, 8]), ([9, 2], [2, 9]), ([4, 10, 2], [2, 4, 10]), ([2, 11], [2, 11])])
def Ba.B14 : List Nat := [0, 1, 3, 7, 15, 7, 7, 71, 231, 487, 999, 2047, 4095]
theorem Ba.tab14 : rtab .any (opsOf Try.f74 14) = Ba.T14 := by kernel_rfl
theorem Ba.bits14 : waitsOk Ba.T14.2 Ba.B14 = true := by kernel_rfl
def Ba.T15 : Bool × List (List Nat × List Nat) := (true, [([], []), ([], []), ([1], [1]), ([], []), ([], []), ([4], [4]), ([3, 5], [3, 5]), ([6], [6]), ([7], [7]), ([], []), ([9], [9]), ([8, 10], [8, 10]), ([0, 2, 0, 1, 2, 3, 4, 5, 6, 7, 8, 9, 10, 11], [0, 2]), ([12, 0, 1, 2, 3, 4, 5, 6, 7, 8, 9, 10, 11], [12]), ([13, 11, 0, 1, 2, 3, 4, 5, 6, 7, 8, 9, 10, 11], [11, 13])])
def Ba.B15 : List Nat := [0, 0, 2, 0, 0, 16, 56, 120, 248, 0, 512, 2040, 4095, 8191, 16383]
theorem Ba.tab15 : rtab .any (opsOf Try.f74 15) = Ba.T15 := by kernel_rfl
theorem Ba.bits15 : waitsOk Ba.T15.2 Ba.B15 = true := by kernel_rfl
set_option maxHeartbeats 8000000 in
set_option maxRecDepth 100000 in
theorem Ba.calls (k : Nat) (A0 : Option Addr) (c0 : Nat) (l0 : List (S58)) (a1 : Int) (r : List (S93)) (w : World) (hr0 : Kd.C k58 w A0 l0.length l0) (hc0 : l0.length ≤ c0) (h : Ba.f k l0 a1 = some r) :
  Calls Try.prog 74 #[.slice A0 l0.length c0, .int .i64 a1] w fun e w' => ∃ v0_ : Value, e = .returned (v0_) ∧ Kd.R k93 93 w' w.heap.size (fun _ => True) v0_ r ∧ Below w.heap.size w w' := by
 have hu58 := Try.underlying58
 have hu93 := Try.underlying93
 have HR0 := Aa.mk hr0
 have HC0 := Aa.mk hc0
 clear hr0 hc0
 have HB := Aa.mk (Below.refl w.heap.size w)
 have H : (Ba.l0 k a1 ([] : List (S93)) l0 (l0.length : Int) 0) = some r := h
 clear h
 have H' := Aa.mk H
 clear H
 go_enter Try.func74, Try.ntmps74
 go_wp2
 go_loopg [5, 14] k (fun kq v5 v14 w' => ∃ (au : List (S93)) (aa : Int), v14 = .int .i64 aa ∧ Aa (Ba.l0 kq a1 au l0 (l0.length : Int) aa = some r) ∧ Aa (kq ≤ k) ∧ Aa (Kd.R k93 93 w' w.heap.size (fun _ => True) v5 au) ∧ Aa (Below w.heap.size w w'))
 case atStart => exact ⟨(([] : List (S93))), (0), (by first | rfl | (simp; done) | (simp [*]; done)), H', ⟨Nat.le_refl _⟩, ⟨by first | exact Kd.Cy _ _ _ _ _ | exact Kd.N_nil _ _ _ _ _ | exact Kd.V_nil _ _ _ _ _ | exact Kd.Q_nil _ _ _ _ _ | exact Kd.S_nil _ _ _ _ _⟩, ⟨by repeat (first | (with_reducible first | exact HB.out | apply Ad | apply Ab | apply Ac) | exact HB.out)⟩⟩
 case round =>
  clear H'
  try clear p2
  obtain ⟨au, aa, rfl, HA, HK1, aq, HB⟩ := hrel
  cases gk with
  | zero => exact absurd HA.out (by simp [Ba.l0])
  | succ k1 =>
   have H := HA.out
   clear HA
   simp only [Ba.l0] at H
   by_cases c3 : aa < (l0.length : Int)
   ·rw [if_pos c3] at H
    have cD : decide (aa < (l0.length : Int)) = true := decide_eq_true c3
    clear c3
    by_cases c4 : 0 ≤ aa
    ·rw [if_pos c4] at H
     have dt : decide (0 ≤ aa) = true := decide_eq_true c4
     clear c4
     by_cases c5 : aa < (l0.length : Int)
     ·rw [if_pos c5] at H
      have du : decide (aa < (l0.length : Int)) = true := decide_eq_true c5
      clear c5
      replace H := Option.bind_eq_some_iff.mp H
      obtain ⟨cq, A60, H⟩ := H
      try dsimp only at H
      have A6 := Aa.mk A60
      clear A60
      by_cases c7 : cq = true
      ·subst c7
       have H1 := H
       rw [if_pos rfl] at H1
       clear H
       have H := H1
       clear H1
       by_cases c8 : ((rd_T58 l0 aa).f1) ≤ a1
       ·rw [if_pos c8] at H
        have cE : decide (((rd_T58 l0 aa).f1) ≤ a1) = true := decide_eq_true c8
        clear c8
        by_cases c9 : a1 < ((rd_T58 l0 aa).f3)
        ·rw [if_pos c9] at H
         have cF : decide (a1 < ((rd_T58 l0 aa).f3)) = true := decide_eq_true c9
         clear c9
         by_cases c10 : au.length < 8796093022208
         ·rw [if_pos c10] at H
          have LMc10 := Aa.mk c10
          clear c10
          obtain ⟨dv, aU⟩ : ∃ y_ : List (S93), y_ = (au ++ [(⟨(rd_T58 l0 aa).f0, (rd_T58 l0 aa).f2⟩ : S93)]) := ⟨_, rfl⟩
          (try rw [Option.bind_some] at H); try rw [← aU] at H
          have cG := Aa.mk aU
          clear aU
          have H' := Aa.mk H
          clear H
          have az : 0 ≤ (aa : Int) := of_decide_eq_true (by with_reducible assumption)
          have aA : aa < (l0.length : Int) := of_decide_eq_true (by with_reducible assumption)
          obtain ⟨aV, e139, am, an, ao, ap⟩ := at_T58 HR0.out aa az aA
          cases e139
          replace am := (HB.out.cell (World.block_lt_of_cell? w _ am)).trans am
          replace an := (HB.out.cell (World.block_lt_of_cell? w _ an)).trans an
          replace ao := (HB.out.cell (World.block_lt_of_cell? w _ ao)).trans ao
          replace ap := (HB.out.cell (World.block_lt_of_cell? w _ ap)).trans ap
          replace az := eq_true az
          replace aA := eq_true aA
          go_wp2_with (first | ((with_reducible refine Bj (N := 7) rfl ?_); refine B0 ?hg (N := 7) ?hd (cs := #[.int .i64 0, .int .i64 0, .int .i64 0, .int .i64 0]) (t := 58) ?hr ?_; (case hd => rfl); (case hg => rfl); (case hr => first | (go_simp; done) | (go_simp; rfl)); intro ah hg w11 hbox hb; have n0_ := Aa.mk (Kd.Be (by exact rU <| aq.out) hb); have n1_ := Aa.mk (Ak (lU HB.out) hb); have n2_ := Aa.mk (hbox); have n3_ := Aa.mk ((by rw [hg]; exact (Ag (lU HB.out)) : w.heap.size ≤ ah)); have n4_ := Aa.mk ((by rw [hg]; exact (Ag (lU HB.out)) : w.heap.size ≤ ah)); clear aq; clear HB; have aq := n0_; have HB := n1_; have af := n2_; have aW := n3_; have av := n4_; clear n0_ n1_ n2_ n3_ n4_; clear hb hbox hg; have bf : w11.cell? ⟨ah, 0, none⟩ = some (.int .i64 0) := (Aj af.out 0).trans rfl; have bg : w11.cell? ⟨ah, 1, none⟩ = some (.int .i64 0) := (Aj af.out 1).trans rfl; have bh : w11.cell? ⟨ah, 2, none⟩ = some (.int .i64 0) := (Aj af.out 2).trans rfl; have bi : w11.cell? ⟨ah, 3, none⟩ = some (.int .i64 0) := (Aj af.out 3).trans rfl; have bj := Af af.out 0; have bl := Af af.out 1; have bm := Af af.out 2; have bn := Af af.out 3) | ((with_reducible refine As (f := 62) rfl ?_); refine Br (some 19) rfl rfl Try.func62 (by kernel_rfl) rfl #[.agg #[.int .i64 ((rd_T58 l0 aa).f0), .int .i64 ((rd_T58 l0 aa).f1), .int .i64 ((rd_T58 l0 aa).f2), .int .i64 ((rd_T58 l0 aa).f3)]] rfl (by (try simp only [List.map_toArray, List.map_cons, List.map_nil]); first | done | rfl | (simp only [List.length_drop, List.length_take]; rfl)) ?_; (with_reducible refine (B4.calls ((rd_T58 l0 aa).f0) ((rd_T58 l0 aa).f1) ((rd_T58 l0 aa).f2) ((rd_T58 l0 aa).f3) true _ A6.out).mono ?_); rintro e w13 ⟨rfl, hb⟩; refine ⟨_, rfl, ?_⟩; have n0_ := Aa.mk (Kd.Be (by exact rU <| (Kd.Bs (Kd.B8 (p := ⟨ah, 3, none⟩) (Kd.B8 (p := ⟨ah, 2, none⟩) (Kd.B8 (p := ⟨ah, 1, none⟩) (Kd.B8 (p := ⟨ah, 0, none⟩) (Kd.Cx aq.out af.out (by decide)) (fun _ hk => hk.2) (.int .i64 ((rd_T58 l0 aa).f0))) (fun _ hk => hk.2) (.int .i64 ((rd_T58 l0 aa).f1))) (fun _ hk => hk.2) (.int .i64 ((rd_T58 l0 aa).f2))) (fun _ hk => hk.2) (.int .i64 ((rd_T58 l0 aa).f3))) (fun _ h_ => h_.1))) hb); have n1_ := Aa.mk (Bc (g := ah) (o := .cells #[.int .i64 ((rd_T58 l0 aa).f0), .int .i64 ((rd_T58 l0 aa).f1), .int .i64 ((rd_T58 l0 aa).f2), .int .i64 ((rd_T58 l0 aa).f3)] 58 (0, 0)) (by (with_reducible repeat (first | refine Am ?_ _ | refine Ar ?_ | refine An ?_ _)); refine Bb (cs := #[.int .i64 ((rd_T58 l0 aa).f0), .int .i64 ((rd_T58 l0 aa).f1), .int .i64 ((rd_T58 l0 aa).f2), .int .i64 0]) ?_ 3 _ rfl; (with_reducible repeat (first | refine Am ?_ _ | refine Ar ?_ | refine An ?_ _)); refine Bb (cs := #[.int .i64 ((rd_T58 l0 aa).f0), .int .i64 ((rd_T58 l0 aa).f1), .int .i64 0, .int .i64 0]) ?_ 2 _ rfl; (with_reducible repeat (first | refine Am ?_ _ | refine Ar ?_ | refine An ?_ _)); refine Bb (cs := #[.int .i64 ((rd_T58 l0 aa).f0), .int .i64 0, .int .i64 0, .int .i64 0]) ?_ 1 _ rfl; (with_reducible repeat (first | refine Am ?_ _ | refine Ar ?_ | refine An ?_ _)); refine Bb (cs := #[.int .i64 0, .int .i64 0, .int .i64 0, .int .i64 0]) ?_ 0 _ rfl; exact bU <| af.out) hb); have n2_ := Aa.mk (Ak (by repeat (first | (with_reducible first | exact HB.out | apply Ad | apply Ab | apply Ac | refine Ai ?_ av.out) | exact HB.out)) hb); clear aq; clear af; clear HB; have aq := n0_; have af := n1_; have HB := n2_; clear n0_ n1_ n2_; (try clear hb); (try clear hb2); (try clear hk); (try clear hi); have bo : w13.cell? ⟨ah, 0, none⟩ = some (.int .i64 ((rd_T58 l0 aa).f0)) := (Aj af.out 0).trans rfl; have bp : w13.cell? ⟨ah, 1, none⟩ = some (.int .i64 ((rd_T58 l0 aa).f1)) := (Aj af.out 1).trans rfl; have bq : w13.cell? ⟨ah, 2, none⟩ = some (.int .i64 ((rd_T58 l0 aa).f2)) := (Aj af.out 2).trans rfl; have br : w13.cell? ⟨ah, 3, none⟩ = some (.int .i64 ((rd_T58 l0 aa).f3)) := (Aj af.out 3).trans rfl; have bs := Af af.out 0; have bu := Af af.out 1; have bv := Af af.out 2; have bw := Af af.out 3) | ((with_reducible refine Cn (b := .append) (xs := #[.tmp 32, .tmp 38]) rfl ?_); at_builtin; refine Kd.R_append k93 (w0 := w) w.heap.size rfl (.tmp 32) (.tmp 38) 89 93 (.agg #[(.int .i64 0), (.int .i64 0)]) 16 rfl Try.underlying89 info93 rfl (by decide) (by omega) u5 au (⟨(rd_T58 l0 aa).f0, (rd_T58 l0 aa).f2⟩ : S93) [.int .i64 ((rd_T58 l0 aa).f0), .int .i64 ((rd_T58 l0 aa).f2)] (fun _ => True) (fun _ => False) rfl rfl ?aP (fun _ hk => hk.elim) ?aF ?aO ?aB ?aS ?aL ?_; (case aP => exact k93_mkM _ _ _ (⟨(rd_T58 l0 aa).f0, (rd_T58 l0 aa).f2⟩ : S93)); (case aB => exact (by repeat (first | (with_reducible first | exact HB.out | apply Ad | apply Ab | apply Ac | refine Ai ?_ av.out) | exact HB.out))); (case aF => exact (fun _ _ => trivial)); (case aO => exact (by exact rU <| aq.out)); (case aS => exact (Ag (by repeat (first | (with_reducible first | exact HB.out | apply Ad | apply Ab | apply Ac | refine Ai ?_ av.out) | exact HB.out)))); (case aL => have := LMc10.out; omega); intro v143 w15 ho hb hg hat; rw [← cG.out] at ho; have n0_ := Aa.mk (C4 (g := ah) (o := .cells #[.int .i64 ((rd_T58 l0 aa).f0), .int .i64 ((rd_T58 l0 aa).f1), .int .i64 ((rd_T58 l0 aa).f2), .int .i64 ((rd_T58 l0 aa).f3)] 58 (0, 0)) (by exact bU <| af.out) hg (Kd.R_ne aq.out af.out (by decide))); have n1_ := Aa.mk (hb); have n2_ := Aa.mk (ho); clear af; clear HB; clear aq; have af := n0_; have HB := n1_; have cH := n2_; clear n0_ n1_ n2_; clear ho hb hg hat))
          go_roundg k1
          case measure => have := HK1.out; omega
          case rel => exact ⟨(dv), (wrap64 (aa + 1)), (by first | rfl | (simp; done) | (simp [*]; done)), H', ⟨by have := HK1.out; omega⟩, ⟨by exact rU <| cH.out⟩, ⟨by repeat (first | (with_reducible first | exact HB.out | apply Ad | apply Ab | apply Ac | refine Ai ?_ av.out) | exact HB.out)⟩⟩
         ·rw [if_neg c10] at H
          exact absurd H (by simp)
        ·rw [if_neg c9] at H
         have cF : decide (a1 < ((rd_T58 l0 aa).f3)) = false := decide_eq_false c9
         clear c9
         have H' := Aa.mk H
         clear H
         have az : 0 ≤ (aa : Int) := of_decide_eq_true (by with_reducible assumption)
         have aA : aa < (l0.length : Int) := of_decide_eq_true (by with_reducible assumption)
         obtain ⟨aV, e139, am, an, ao, ap⟩ := at_T58 HR0.out aa az aA
         cases e139
         replace am := (HB.out.cell (World.block_lt_of_cell? w _ am)).trans am
         replace an := (HB.out.cell (World.block_lt_of_cell? w _ an)).trans an
         replace ao := (HB.out.cell (World.block_lt_of_cell? w _ ao)).trans ao
         replace ap := (HB.out.cell (World.block_lt_of_cell? w _ ap)).trans ap
         replace az := eq_true az
         replace aA := eq_true aA
         go_wp2_with (first | ((with_reducible refine Bj (N := 7) rfl ?_); refine B0 ?hg (N := 7) ?hd (cs := #[.int .i64 0, .int .i64 0, .int .i64 0, .int .i64 0]) (t := 58) ?hr ?_; (case hd => rfl); (case hg => rfl); (case hr => first | (go_simp; done) | (go_simp; rfl)); intro ah hg w16 hbox hb; have n0_ := Aa.mk (Kd.Be (by exact rU <| aq.out) hb); have n1_ := Aa.mk (Ak (lU HB.out) hb); have n2_ := Aa.mk (hbox); have n3_ := Aa.mk ((by rw [hg]; exact (Ag (lU HB.out)) : w.heap.size ≤ ah)); have n4_ := Aa.mk ((by rw [hg]; exact (Ag (lU HB.out)) : w.heap.size ≤ ah)); clear aq; clear HB; have aq := n0_; have HB := n1_; have af := n2_; have aW := n3_; have av := n4_; clear n0_ n1_ n2_ n3_ n4_; clear hb hbox hg; have bx : w16.cell? ⟨ah, 0, none⟩ = some (.int .i64 0) := (Aj af.out 0).trans rfl; have bz : w16.cell? ⟨ah, 1, none⟩ = some (.int .i64 0) := (Aj af.out 1).trans rfl; have bB : w16.cell? ⟨ah, 2, none⟩ = some (.int .i64 0) := (Aj af.out 2).trans rfl; have bC : w16.cell? ⟨ah, 3, none⟩ = some (.int .i64 0) := (Aj af.out 3).trans rfl; have bD := Af af.out 0; have bE := Af af.out 1; have bF := Af af.out 2; have bG := Af af.out 3) | ((with_reducible refine As (f := 62) rfl ?_); refine Br (some 19) rfl rfl Try.func62 (by kernel_rfl) rfl #[.agg #[.int .i64 ((rd_T58 l0 aa).f0), .int .i64 ((rd_T58 l0 aa).f1), .int .i64 ((rd_T58 l0 aa).f2), .int .i64 ((rd_T58 l0 aa).f3)]] rfl (by (try simp only [List.map_toArray, List.map_cons, List.map_nil]); first | done | rfl | (simp only [List.length_drop, List.length_take]; rfl)) ?_; (with_reducible refine (B4.calls ((rd_T58 l0 aa).f0) ((rd_T58 l0 aa).f1) ((rd_T58 l0 aa).f2) ((rd_T58 l0 aa).f3) true _ A6.out).mono ?_); rintro e w18 ⟨rfl, hb⟩; refine ⟨_, rfl, ?_⟩; have n0_ := Aa.mk (Kd.Be (by exact rU <| (Kd.Bs (Kd.B8 (p := ⟨ah, 3, none⟩) (Kd.B8 (p := ⟨ah, 2, none⟩) (Kd.B8 (p := ⟨ah, 1, none⟩) (Kd.B8 (p := ⟨ah, 0, none⟩) (Kd.Cx aq.out af.out (by decide)) (fun _ hk => hk.2) (.int .i64 ((rd_T58 l0 aa).f0))) (fun _ hk => hk.2) (.int .i64 ((rd_T58 l0 aa).f1))) (fun _ hk => hk.2) (.int .i64 ((rd_T58 l0 aa).f2))) (fun _ hk => hk.2) (.int .i64 ((rd_T58 l0 aa).f3))) (fun _ h_ => h_.1))) hb); have n1_ := Aa.mk (Bc (g := ah) (o := .cells #[.int .i64 ((rd_T58 l0 aa).f0), .int .i64 ((rd_T58 l0 aa).f1), .int .i64 ((rd_T58 l0 aa).f2), .int .i64 ((rd_T58 l0 aa).f3)] 58 (0, 0)) (by (with_reducible repeat (first | refine Am ?_ _ | refine Ar ?_ | refine An ?_ _)); refine Bb (cs := #[.int .i64 ((rd_T58 l0 aa).f0), .int .i64 ((rd_T58 l0 aa).f1), .int .i64 ((rd_T58 l0 aa).f2), .int .i64 0]) ?_ 3 _ rfl; (with_reducible repeat (first | refine Am ?_ _ | refine Ar ?_ | refine An ?_ _)); refine Bb (cs := #[.int .i64 ((rd_T58 l0 aa).f0), .int .i64 ((rd_T58 l0 aa).f1), .int .i64 0, .int .i64 0]) ?_ 2 _ rfl; (with_reducible repeat (first | refine Am ?_ _ | refine Ar ?_ | refine An ?_ _)); refine Bb (cs := #[.int .i64 ((rd_T58 l0 aa).f0), .int .i64 0, .int .i64 0, .int .i64 0]) ?_ 1 _ rfl; (with_reducible repeat (first | refine Am ?_ _ | refine Ar ?_ | refine An ?_ _)); refine Bb (cs := #[.int .i64 0, .int .i64 0, .int .i64 0, .int .i64 0]) ?_ 0 _ rfl; exact bU <| af.out) hb); have n2_ := Aa.mk (Ak (by repeat (first | (with_reducible first | exact HB.out | apply Ad | apply Ab | apply Ac | refine Ai ?_ av.out) | exact HB.out)) hb); clear aq; clear af; clear HB; have aq := n0_; have af := n1_; have HB := n2_; clear n0_ n1_ n2_; (try clear hb); (try clear hb2); (try clear hk); (try clear hi); have bH : w18.cell? ⟨ah, 0, none⟩ = some (.int .i64 ((rd_T58 l0 aa).f0)) := (Aj af.out 0).trans rfl; have bI : w18.cell? ⟨ah, 1, none⟩ = some (.int .i64 ((rd_T58 l0 aa).f1)) := (Aj af.out 1).trans rfl; have bJ : w18.cell? ⟨ah, 2, none⟩ = some (.int .i64 ((rd_T58 l0 aa).f2)) := (Aj af.out 2).trans rfl; have bK : w18.cell? ⟨ah, 3, none⟩ = some (.int .i64 ((rd_T58 l0 aa).f3)) := (Aj af.out 3).trans rfl; have bL := Af af.out 0; have bM := Af af.out 1; have bN := Af af.out 2; have bO := Af af.out 3))
         go_roundg k1
         case measure => have := HK1.out; omega
         case rel => exact ⟨(au), (wrap64 (aa + 1)), (by first | rfl | (simp; done) | (simp [*]; done)), H', ⟨by have := HK1.out; omega⟩, ⟨by exact rU <| aq.out⟩, ⟨by repeat (first | (with_reducible first | exact HB.out | apply Ad | apply Ab | apply Ac | refine Ai ?_ av.out) | exact HB.out)⟩⟩
       ·rw [if_neg c8] at H
        have cE : decide (((rd_T58 l0 aa).f1) ≤ a1) = false := decide_eq_false c8
        clear c8
        have H' := Aa.mk H
        clear H
        have az : 0 ≤ (aa : Int) := of_decide_eq_true (by with_reducible assumption)
        have aA : aa < (l0.length : Int) := of_decide_eq_true (by with_reducible assumption)
        obtain ⟨aV, e139, am, an, ao, ap⟩ := at_T58 HR0.out aa az aA
        cases e139
        replace am := (HB.out.cell (World.block_lt_of_cell? w _ am)).trans am
        replace an := (HB.out.cell (World.block_lt_of_cell? w _ an)).trans an
        replace ao := (HB.out.cell (World.block_lt_of_cell? w _ ao)).trans ao
        replace ap := (HB.out.cell (World.block_lt_of_cell? w _ ap)).trans ap
        replace az := eq_true az
        replace aA := eq_true aA
        go_wp2_with (first | ((with_reducible refine Bj (N := 7) rfl ?_); refine B0 ?hg (N := 7) ?hd (cs := #[.int .i64 0, .int .i64 0, .int .i64 0, .int .i64 0]) (t := 58) ?hr ?_; (case hd => rfl); (case hg => rfl); (case hr => first | (go_simp; done) | (go_simp; rfl)); intro ah hg w20 hbox hb; have n0_ := Aa.mk (Kd.Be (by exact rU <| aq.out) hb); have n1_ := Aa.mk (Ak (lU HB.out) hb); have n2_ := Aa.mk (hbox); have n3_ := Aa.mk ((by rw [hg]; exact (Ag (lU HB.out)) : w.heap.size ≤ ah)); have n4_ := Aa.mk ((by rw [hg]; exact (Ag (lU HB.out)) : w.heap.size ≤ ah)); clear aq; clear HB; have aq := n0_; have HB := n1_; have af := n2_; have aW := n3_; have av := n4_; clear n0_ n1_ n2_ n3_ n4_; clear hb hbox hg; have bP : w20.cell? ⟨ah, 0, none⟩ = some (.int .i64 0) := (Aj af.out 0).trans rfl; have bQ : w20.cell? ⟨ah, 1, none⟩ = some (.int .i64 0) := (Aj af.out 1).trans rfl; have bR : w20.cell? ⟨ah, 2, none⟩ = some (.int .i64 0) := (Aj af.out 2).trans rfl; have bS : w20.cell? ⟨ah, 3, none⟩ = some (.int .i64 0) := (Aj af.out 3).trans rfl; have bT := Af af.out 0; have bV := Af af.out 1; have bW := Af af.out 2; have bX := Af af.out 3) | ((with_reducible refine As (f := 62) rfl ?_); refine Br (some 19) rfl rfl Try.func62 (by kernel_rfl) rfl #[.agg #[.int .i64 ((rd_T58 l0 aa).f0), .int .i64 ((rd_T58 l0 aa).f1), .int .i64 ((rd_T58 l0 aa).f2), .int .i64 ((rd_T58 l0 aa).f3)]] rfl (by (try simp only [List.map_toArray, List.map_cons, List.map_nil]); first | done | rfl | (simp only [List.length_drop, List.length_take]; rfl)) ?_; (with_reducible refine (B4.calls ((rd_T58 l0 aa).f0) ((rd_T58 l0 aa).f1) ((rd_T58 l0 aa).f2) ((rd_T58 l0 aa).f3) true _ A6.out).mono ?_); rintro e w22 ⟨rfl, hb⟩; refine ⟨_, rfl, ?_⟩; have n0_ := Aa.mk (Kd.Be (by exact rU <| (Kd.Bs (Kd.B8 (p := ⟨ah, 3, none⟩) (Kd.B8 (p := ⟨ah, 2, none⟩) (Kd.B8 (p := ⟨ah, 1, none⟩) (Kd.B8 (p := ⟨ah, 0, none⟩) (Kd.Cx aq.out af.out (by decide)) (fun _ hk => hk.2) (.int .i64 ((rd_T58 l0 aa).f0))) (fun _ hk => hk.2) (.int .i64 ((rd_T58 l0 aa).f1))) (fun _ hk => hk.2) (.int .i64 ((rd_T58 l0 aa).f2))) (fun _ hk => hk.2) (.int .i64 ((rd_T58 l0 aa).f3))) (fun _ h_ => h_.1))) hb); have n1_ := Aa.mk (Bc (g := ah) (o := .cells #[.int .i64 ((rd_T58 l0 aa).f0), .int .i64 ((rd_T58 l0 aa).f1), .int .i64 ((rd_T58 l0 aa).f2), .int .i64 ((rd_T58 l0 aa).f3)] 58 (0, 0)) (by (with_reducible repeat (first | refine Am ?_ _ | refine Ar ?_ | refine An ?_ _)); refine Bb (cs := #[.int .i64 ((rd_T58 l0 aa).f0), .int .i64 ((rd_T58 l0 aa).f1), .int .i64 ((rd_T58 l0 aa).f2), .int .i64 0]) ?_ 3 _ rfl; (with_reducible repeat (first | refine Am ?_ _ | refine Ar ?_ | refine An ?_ _)); refine Bb (cs := #[.int .i64 ((rd_T58 l0 aa).f0), .int .i64 ((rd_T58 l0 aa).f1), .int .i64 0, .int .i64 0]) ?_ 2 _ rfl; (with_reducible repeat (first | refine Am ?_ _ | refine Ar ?_ | refine An ?_ _)); refine Bb (cs := #[.int .i64 ((rd_T58 l0 aa).f0), .int .i64 0, .int .i64 0, .int .i64 0]) ?_ 1 _ rfl; (with_reducible repeat (first | refine Am ?_ _ | refine Ar ?_ | refine An ?_ _)); refine Bb (cs := #[.int .i64 0, .int .i64 0, .int .i64 0, .int .i64 0]) ?_ 0 _ rfl; exact bU <| af.out) hb); have n2_ := Aa.mk (Ak (by repeat (first | (with_reducible first | exact HB.out | apply Ad | apply Ab | apply Ac | refine Ai ?_ av.out) | exact HB.out)) hb); clear aq; clear af; clear HB; have aq := n0_; have af := n1_; have HB := n2_; clear n0_ n1_ n2_; (try clear hb); (try clear hb2); (try clear hk); (try clear hi); have bY : w22.cell? ⟨ah, 0, none⟩ = some (.int .i64 ((rd_T58 l0 aa).f0)) := (Aj af.out 0).trans rfl; have bZ : w22.cell? ⟨ah, 1, none⟩ = some (.int .i64 ((rd_T58 l0 aa).f1)) := (Aj af.out 1).trans rfl; have b3 : w22.cell? ⟨ah, 2, none⟩ = some (.int .i64 ((rd_T58 l0 aa).f2)) := (Aj af.out 2).trans rfl; have b4 : w22.cell? ⟨ah, 3, none⟩ = some (.int .i64 ((rd_T58 l0 aa).f3)) := (Aj af.out 3).trans rfl; have b5 := Af af.out 0; have b6 := Af af.out 1; have b7 := Af af.out 2; have b8 := Af af.out 3))
        go_roundg k1
        case measure => have := HK1.out; omega
        case rel => exact ⟨(au), (wrap64 (aa + 1)), (by first | rfl | (simp; done) | (simp [*]; done)), H', ⟨by have := HK1.out; omega⟩, ⟨by exact rU <| aq.out⟩, ⟨by repeat (first | (with_reducible first | exact HB.out | apply Ad | apply Ab | apply Ac | refine Ai ?_ av.out) | exact HB.out)⟩⟩
      ·replace c7 := Bool.eq_false_iff.mpr c7
       subst c7
       have H1 := H
       rw [if_neg (show ¬ (false = true) by decide)] at H1
       clear H
       have H := H1
       clear H1
       have H' := Aa.mk H
       clear H
       have az : 0 ≤ (aa : Int) := of_decide_eq_true (by with_reducible assumption)
       have aA : aa < (l0.length : Int) := of_decide_eq_true (by with_reducible assumption)
       obtain ⟨aV, e139, am, an, ao, ap⟩ := at_T58 HR0.out aa az aA
       cases e139
       replace am := (HB.out.cell (World.block_lt_of_cell? w _ am)).trans am
       replace an := (HB.out.cell (World.block_lt_of_cell? w _ an)).trans an
       replace ao := (HB.out.cell (World.block_lt_of_cell? w _ ao)).trans ao
       replace ap := (HB.out.cell (World.block_lt_of_cell? w _ ap)).trans ap
       replace az := eq_true az
       replace aA := eq_true aA
       go_wp2_with (first | ((with_reducible refine Bj (N := 7) rfl ?_); refine B0 ?hg (N := 7) ?hd (cs := #[.int .i64 0, .int .i64 0, .int .i64 0, .int .i64 0]) (t := 58) ?hr ?_; (case hd => rfl); (case hg => rfl); (case hr => first | (go_simp; done) | (go_simp; rfl)); intro ah hg w24 hbox hb; have n0_ := Aa.mk (Kd.Be (by exact rU <| aq.out) hb); have n1_ := Aa.mk (Ak (lU HB.out) hb); have n2_ := Aa.mk (hbox); have n3_ := Aa.mk ((by rw [hg]; exact (Ag (lU HB.out)) : w.heap.size ≤ ah)); have n4_ := Aa.mk ((by rw [hg]; exact (Ag (lU HB.out)) : w.heap.size ≤ ah)); clear aq; clear HB; have aq := n0_; have HB := n1_; have af := n2_; have aW := n3_; have av := n4_; clear n0_ n1_ n2_ n3_ n4_; clear hb hbox hg; have b9 : w24.cell? ⟨ah, 0, none⟩ = some (.int .i64 0) := (Aj af.out 0).trans rfl; have cd : w24.cell? ⟨ah, 1, none⟩ = some (.int .i64 0) := (Aj af.out 1).trans rfl; have cg : w24.cell? ⟨ah, 2, none⟩ = some (.int .i64 0) := (Aj af.out 2).trans rfl; have ch : w24.cell? ⟨ah, 3, none⟩ = some (.int .i64 0) := (Aj af.out 3).trans rfl; have ci := Af af.out 0; have cj := Af af.out 1; have cl := Af af.out 2; have cn := Af af.out 3) | ((with_reducible refine As (f := 62) rfl ?_); refine Br (some 19) rfl rfl Try.func62 (by kernel_rfl) rfl #[.agg #[.int .i64 ((rd_T58 l0 aa).f0), .int .i64 ((rd_T58 l0 aa).f1), .int .i64 ((rd_T58 l0 aa).f2), .int .i64 ((rd_T58 l0 aa).f3)]] rfl (by (try simp only [List.map_toArray, List.map_cons, List.map_nil]); first | done | rfl | (simp only [List.length_drop, List.length_take]; rfl)) ?_; (with_reducible refine (B4.calls ((rd_T58 l0 aa).f0) ((rd_T58 l0 aa).f1) ((rd_T58 l0 aa).f2) ((rd_T58 l0 aa).f3) false _ A6.out).mono ?_); rintro e w26 ⟨rfl, hb⟩; refine ⟨_, rfl, ?_⟩; have n0_ := Aa.mk (Kd.Be (by exact rU <| (Kd.Bs (Kd.B8 (p := ⟨ah, 3, none⟩) (Kd.B8 (p := ⟨ah, 2, none⟩) (Kd.B8 (p := ⟨ah, 1, none⟩) (Kd.B8 (p := ⟨ah, 0, none⟩) (Kd.Cx aq.out af.out (by decide)) (fun _ hk => hk.2) (.int .i64 ((rd_T58 l0 aa).f0))) (fun _ hk => hk.2) (.int .i64 ((rd_T58 l0 aa).f1))) (fun _ hk => hk.2) (.int .i64 ((rd_T58 l0 aa).f2))) (fun _ hk => hk.2) (.int .i64 ((rd_T58 l0 aa).f3))) (fun _ h_ => h_.1))) hb); have n1_ := Aa.mk (Bc (g := ah) (o := .cells #[.int .i64 ((rd_T58 l0 aa).f0), .int .i64 ((rd_T58 l0 aa).f1), .int .i64 ((rd_T58 l0 aa).f2), .int .i64 ((rd_T58 l0 aa).f3)] 58 (0, 0)) (by (with_reducible repeat (first | refine Am ?_ _ | refine Ar ?_ | refine An ?_ _)); refine Bb (cs := #[.int .i64 ((rd_T58 l0 aa).f0), .int .i64 ((rd_T58 l0 aa).f1), .int .i64 ((rd_T58 l0 aa).f2), .int .i64 0]) ?_ 3 _ rfl; (with_reducible repeat (first | refine Am ?_ _ | refine Ar ?_ | refine An ?_ _)); refine Bb (cs := #[.int .i64 ((rd_T58 l0 aa).f0), .int .i64 ((rd_T58 l0 aa).f1), .int .i64 0, .int .i64 0]) ?_ 2 _ rfl; (with_reducible repeat (first | refine Am ?_ _ | refine Ar ?_ | refine An ?_ _)); refine Bb (cs := #[.int .i64 ((rd_T58 l0 aa).f0), .int .i64 0, .int .i64 0, .int .i64 0]) ?_ 1 _ rfl; (with_reducible repeat (first | refine Am ?_ _ | refine Ar ?_ | refine An ?_ _)); refine Bb (cs := #[.int .i64 0, .int .i64 0, .int .i64 0, .int .i64 0]) ?_ 0 _ rfl; exact bU <| af.out) hb); have n2_ := Aa.mk (Ak (by repeat (first | (with_reducible first | exact HB.out | apply Ad | apply Ab | apply Ac | refine Ai ?_ av.out) | exact HB.out)) hb); clear aq; clear af; clear HB; have aq := n0_; have af := n1_; have HB := n2_; clear n0_ n1_ n2_; (try clear hb); (try clear hb2); (try clear hk); (try clear hi)))
       go_roundg k1
       case measure => have := HK1.out; omega
       case rel => exact ⟨(au), (wrap64 (aa + 1)), (by first | rfl | (simp; done) | (simp [*]; done)), H', ⟨by have := HK1.out; omega⟩, ⟨by exact rU <| aq.out⟩, ⟨by repeat (first | (with_reducible first | exact HB.out | apply Ad | apply Ab | apply Ac | refine Ai ?_ av.out) | exact HB.out)⟩⟩
     ·rw [if_neg c5] at H
      exact absurd H (by simp)
    ·rw [if_neg c4] at H
     exact absurd H (by simp)
   ·rw [if_neg c3] at H
    have cD : decide (aa < (l0.length : Int)) = false := decide_eq_false c3
    clear c3
    replace H := Option.bind_eq_some_iff.mp H
    obtain ⟨be, A270, H⟩ := H
    try dsimp only at H
    have A27 := Aa.mk A270
    clear A270
    have H' := Aa.mk H
    clear H
    obtain ⟨aX, aE, dw⟩ := Kd.Bn aq.out
    subst dw
    go_wp2_with (first | ((with_reducible refine As (f := 87) rfl ?_); refine Br (some 42) rfl rfl Try.func87 (by kernel_rfl) rfl #[.slice aX au.length aE, .func (.func 88) #[] #[]] rfl (by (try simp only [List.map_toArray, List.map_cons, List.map_nil]); first | done | rfl | (simp only [List.length_drop, List.length_take]; rfl)) ?_; (with_reducible refine (Cv.calls (fun k_ => some k_ = (.slice aX au.length aE : Value).ownBlock) (.slice aX au.length aE) au be w _ ?side1 ?side2 A27.out).mono ?_); (case side1 => repeat (first | (with_reducible first | exact HB.out | apply Ad | apply Ab | apply Ac) | exact HB.out)); (case side2 => exact Kd.Cs rfl aq.out); rintro e w29 ⟨rfl, hy0, hb, hkp⟩; refine ⟨_, rfl, ?_⟩; have n0_ := Aa.mk (Kd.R_reok rfl hy0 (fun k_ e_ => aq.out.1 k_ e_)); have n1_ := Aa.mk (hb); clear aq; clear HB; have aq := n0_; have HB := n1_; clear n0_ n1_; (try clear hb); (try clear hkp); (try clear hy0)))
    go_loopg [8, 45] k1 (fun kq v8 v45 w' => ∃ (aj : List (S93)) (ab : List (S93)) (ac : Int), v45 = .int .i64 ac ∧ Aa (Ba.l1 kq aj ab (au.length : Int) ac = some r) ∧ Aa (kq ≤ k1) ∧ Aa (Kd.R k93 93 w' w.heap.size (fun k_ => some k_ ≠ ((.slice aX au.length aE) : Value).ownBlock) v8 aj) ∧ Aa (Kd.R k93 93 w' w.heap.size (fun k_ => some k_ ≠ (v8 : Value).ownBlock) (.slice aX au.length aE) ab) ∧ Aa (Below w.heap.size w w'))
    case atStart => exact ⟨(([] : List (S93))), (be), (0), (by first | rfl | (simp; done) | (simp [*]; done)), H', ⟨Nat.le_refl _⟩, ⟨by first | exact Kd.Cy _ _ _ _ _ | exact Kd.N_nil _ _ _ _ _ | exact Kd.V_nil _ _ _ _ _ | exact Kd.Q_nil _ _ _ _ _ | exact Kd.S_nil _ _ _ _ _⟩, ⟨by exact rU <| Kd.Bs aq.out (fun _ hk => (by simp [Value.ownBlock]))⟩, ⟨by repeat (first | (with_reducible first | exact HB.out | apply Ad | apply Ab | apply Ac) | exact HB.out)⟩⟩
    case round =>
     clear H'
     try clear c1
     try clear p1
     try clear q1
     try clear hx1
     try clear p2
     try clear c3
     try clear cD
     try clear c4
     try clear dt
     try clear c5
     try clear du
     try clear c6
     try clear p6
     try clear c7
     try clear c8
     try clear cE
     try clear c9
     try clear cF
     try clear c10
     try clear p13
     try clear q13
     try clear hx13
     try clear bf
     try clear bg
     try clear bh
     try clear bi
     try clear bo
     try clear bp
     try clear bq
     try clear br
     try clear bx
     try clear bz
     try clear bB
     try clear bC
     try clear bH
     try clear bI
     try clear bJ
     try clear bK
     try clear bP
     try clear bQ
     try clear bR
     try clear bS
     try clear bY
     try clear bZ
     try clear b3
     try clear b4
     try clear b9
     try clear cd
     try clear cg
     try clear ch
     try clear bj
     try clear bl
     try clear bm
     try clear bn
     try clear bs
     try clear bu
     try clear bv
     try clear bw
     try clear bD
     try clear bE
     try clear bF
     try clear bG
     try clear bL
     try clear bM
     try clear bN
     try clear bO
     try clear bT
     try clear bV
     try clear bW
     try clear bX
     try clear b5
     try clear b6
     try clear b7
     try clear b8
     try clear ci
     try clear cj
     try clear cl
     try clear cn
     try clear am
     try clear an
     try clear ao
     try clear ap
     try clear az
     try clear p2
     try clear aA
     obtain ⟨aj, ab, ac, rfl, HA, HK2, al, ai, HB⟩ := hrel
     have ar := (Kd.At ai.out).1
     rw [ar] at ai
     (try simp only [ar])
     (try simp only [ar] at al)
     cases gk with
     | zero => exact absurd HA.out (by simp [Ba.l1])
     | succ k2 =>
      have H := HA.out
      clear HA
      simp only [Ba.l1] at H
      by_cases c30 : ac < (au.length : Int)
      ·rw [if_pos c30] at H
       have co : decide (ac < (au.length : Int)) = true := decide_eq_true c30
       clear c30
       by_cases c31 : 0 ≤ ac
       ·rw [if_pos c31] at H
        have dF : decide (0 ≤ ac) = true := decide_eq_true c31
        clear c31
        by_cases c32 : ac < (ab.length : Int)
        ·rw [if_pos c32] at H
         have dG : decide (ac < (ab.length : Int)) = true := decide_eq_true c32
         clear c32
         by_cases c33 : (aj.length : Int) > 0
         ·rw [if_pos c33] at H
          have cI : decide (0 < (aj.length : Int)) = true := decide_eq_true c33
          have cJ : decide (0 < aj.length) = true := decide_eq_true (by omega)
          clear c33
          obtain ⟨ak, aY⟩ : ∃ j_ : Int, (wrap64 ((aj.length : Int) - 1)) = j_ := ⟨_, rfl⟩
          replace H : (if 0 ≤ (ak) then (if (ak) < (aj.length : Int) then (if ((rd_T93 ab ac).f0) ≤ ((rd_T93 aj (ak)).f1) then (Ba.l1 k2 (aj.set ((ak) : Int).toNat (⟨(rd_T93 aj (ak)).f0, mx ((rd_T93 aj (ak)).f1) ((rd_T93 ab ac).f1)⟩ : S93)) ab (au.length : Int) (wrap64 (ac + 1))) else (if aj.length < 8796093022208 then (Ba.l1 k2 (aj ++ [(⟨(rd_T93 ab ac).f0, (rd_T93 ab ac).f1⟩ : S93)]) ab (au.length : Int) (wrap64 (ac + 1))) else (none))) else (none)) else (none)) = some r := by first | (rw [aY] at H; exact H) | (simp only [aY] at H ⊢; exact H)
          have hji34w : (IntKind.i64.wrap ((aj.length : Int) - 1)) = ak := (i64_w _).trans aY
          by_cases c35 : 0 ≤ (ak)
          ·rw [if_pos c35] at H
           have dH : decide (0 ≤ (ak)) = true := decide_eq_true c35
           clear c35
           by_cases c36 : (ak) < (aj.length : Int)
           ·rw [if_pos c36] at H
            have dI : decide ((ak) < (aj.length : Int)) = true := decide_eq_true c36
            clear c36
            by_cases c37 : ((rd_T93 ab ac).f0) ≤ ((rd_T93 aj (ak)).f1)
            ·rw [if_pos c37] at H
             have cK : decide (((rd_T93 ab ac).f0) ≤ ((rd_T93 aj (ak)).f1)) = true := decide_eq_true c37
             clear c37
             obtain ⟨aK, aZ⟩ : ∃ j_ : Int, (mx ((rd_T93 aj (ak)).f1) ((rd_T93 ab ac).f1)) = j_ := ⟨_, rfl⟩
             replace H : (Ba.l1 k2 (aj.set ((ak) : Int).toNat (⟨(rd_T93 aj (ak)).f0, aK⟩ : S93)) ab (au.length : Int) (wrap64 (ac + 1))) = some r := by first | (rw [aZ] at H; exact H) | (simp only [aZ] at H ⊢; exact H)
             have hji38_ : (if ((rd_T93 aj (ak)).f1) < ((rd_T93 ab ac).f1) then ((rd_T93 ab ac).f1) else ((rd_T93 aj (ak)).f1)) = aK := aZ
             obtain ⟨dz, a8⟩ : ∃ y_ : List (S93), y_ = (aj.set ((ak) : Int).toNat (⟨(rd_T93 aj (ak)).f0, aK⟩ : S93)) := ⟨_, rfl⟩
             (try rw [Option.bind_some] at H); try rw [← a8] at H
             have cL := Aa.mk a8
             clear a8
             have H' := Aa.mk H
             clear H
             have aG : 0 ≤ (ac : Int) := of_decide_eq_true (by with_reducible assumption)
             have aH : ac < (ab.length : Int) := of_decide_eq_true (by with_reducible assumption)
             obtain ⟨aC, e146, aQ, aT⟩ := at_T93 (Kd.At ai.out).2.2 ac aG aH
             cases e146
             replace aG := eq_true aG
             replace aH := eq_true aH
             try go_wp2_with (first | ((with_reducible refine Bj (N := 10) rfl ?_); refine B0 ?hg (N := 10) ?hd (cs := #[.int .i64 0, .int .i64 0]) (t := 93) ?hr ?_; (case hd => rfl); (case hg => rfl); (case hr => first | (go_simp; done) | (go_simp; rfl)); intro ae hg w40 hbox hb; have n0_ := Aa.mk (Kd.Be (Kd.C0 (by exact rU <| al.out) ae (Nat.le_of_eq hg.symm)) hb); have n1_ := Aa.mk (Kd.Be (Kd.C0 (by exact rU <| ai.out) ae (Nat.le_of_eq hg.symm)) hb); have n2_ := Aa.mk (Ak (lU HB.out) hb); have n3_ := Aa.mk (hbox); have n4_ := Aa.mk ((by rw [hg]; exact (Ag (lU HB.out)) : w.heap.size ≤ ae)); have n5_ := Aa.mk ((by rw [hg]; exact (Ag (lU HB.out)) : w.heap.size ≤ ae)); clear al; clear ai; clear HB; have al := n0_; have ai := n1_; have HB := n2_; have ag := n3_; have cp := n4_; have ay := n5_; clear n0_ n1_ n2_ n3_ n4_ n5_; clear hb hbox hg; have cW : w40.cell? ⟨ae, 0, none⟩ = some (.int .i64 0) := (Aj ag.out 0).trans rfl; have cX : w40.cell? ⟨ae, 1, none⟩ = some (.int .i64 0) := (Aj ag.out 1).trans rfl; have cY := Af ag.out 0; have cZ := Af ag.out 1; obtain ⟨cM, cN, dA⟩ := Kd.Bn al.out; subst dA))
             have n0_ : Aa (Kd.R k93 93 ((w40.setCell ⟨ae, 0, none⟩ (.int .i64 ((rd_T93 ab ac).f0))).setCell ⟨ae, 1, none⟩ (.int .i64 ((rd_T93 ab ac).f1))) w.heap.size (fun k_ => some k_ ≠ (.slice (some aC) ab.length aE : Value).ownBlock ∧ k_ ≠ ae) (.slice cM aj.length cN) aj) := ⟨by exact rU <| Kd.Bs (Kd.B8 (p := ⟨ae, 1, none⟩) (Kd.B8 (p := ⟨ae, 0, none⟩) (Kd.Bs al.out (fun k_ hk => (⟨hk, hk.2⟩ : _ ∧ k_ ≠ ae))) (fun _ hk => hk.2) (.int .i64 ((rd_T93 ab ac).f0))) (fun _ hk => hk.2) (.int .i64 ((rd_T93 ab ac).f1))) (fun _ hk => ⟨hk.1.1, hk.1.2⟩)⟩
             have n1_ : Aa (Kd.R k93 93 ((w40.setCell ⟨ae, 0, none⟩ (.int .i64 ((rd_T93 ab ac).f0))).setCell ⟨ae, 1, none⟩ (.int .i64 ((rd_T93 ab ac).f1))) w.heap.size (fun k_ => some k_ ≠ (.slice cM aj.length cN : Value).ownBlock ∧ k_ ≠ ae) (.slice (some aC) ab.length aE) ab) := ⟨by exact rU <| Kd.Bs (Kd.B8 (p := ⟨ae, 1, none⟩) (Kd.B8 (p := ⟨ae, 0, none⟩) (Kd.Bs ai.out (fun k_ hk => (⟨hk, hk.2⟩ : _ ∧ k_ ≠ ae))) (fun _ hk => hk.2) (.int .i64 ((rd_T93 ab ac).f0))) (fun _ hk => hk.2) (.int .i64 ((rd_T93 ab ac).f1))) (fun _ hk => ⟨hk.1.1, hk.1.2⟩)⟩
             have n2_ : Aa (((w40.setCell ⟨ae, 0, none⟩ (.int .i64 ((rd_T93 ab ac).f0))).setCell ⟨ae, 1, none⟩ (.int .i64 ((rd_T93 ab ac).f1))).heap[ae]? = some (.cells #[.int .i64 ((rd_T93 ab ac).f0), .int .i64 ((rd_T93 ab ac).f1)] 93 (0, 0))) := ⟨by (with_reducible repeat (first | refine Am ?_ _ | refine Ar ?_ | refine An ?_ _)); refine Bb (cs := #[.int .i64 ((rd_T93 ab ac).f0), .int .i64 0]) ?_ 1 _ rfl; (with_reducible repeat (first | refine Am ?_ _ | refine Ar ?_ | refine An ?_ _)); refine Bb (cs := #[.int .i64 0, .int .i64 0]) ?_ 0 _ rfl; exact bU <| ag.out⟩
             have n3_ : Aa (Below w.heap.size w ((w40.setCell ⟨ae, 0, none⟩ (.int .i64 ((rd_T93 ab ac).f0))).setCell ⟨ae, 1, none⟩ (.int .i64 ((rd_T93 ab ac).f1)))) := ⟨by repeat (first | (with_reducible first | exact HB.out | apply Ad | apply Ab | apply Ac | refine Ai ?_ ay.out) | exact HB.out)⟩
             (try clear al)
             (try clear ai)
             (try clear ag)
             (try clear HB)
             generalize ((w40.setCell ⟨ae, 0, none⟩ (.int .i64 ((rd_T93 ab ac).f0))).setCell ⟨ae, 1, none⟩ (.int .i64 ((rd_T93 ab ac).f1))) = w43 at n0_ n1_ n2_ n3_ ⊢
             have al := n0_
             have ai := n1_
             have ag := n2_
             have HB := n3_
             clear n0_ n1_ n2_ n3_
             have n0_ := Aa.mk (Kd.Cd al.out)
             have n1_ := Aa.mk (Kd.Cd ai.out)
             have n2_ := Aa.mk (Ar ag.out)
             have n3_ := Aa.mk (Ac HB.out)
             clear al
             clear ai
             clear ag
             clear HB
             have al := n0_
             have ai := n1_
             have ag := n2_
             have HB := n3_
             clear n0_ n1_ n2_ n3_
             have aM : 0 ≤ ((ak) : Int) := of_decide_eq_true (by with_reducible assumption)
             have aN : (ak) < (aj.length : Int) := of_decide_eq_true (by with_reducible assumption)
             obtain ⟨aD, e148, aw, ax⟩ := at_T93 (Kd.At al.out).2.2 (ak) aM aN
             cases e148
             replace aM := eq_true aM
             replace aN := eq_true aN
             refine start_ (n := 13) (S := fun w' => w'.cell? ⟨ae, 0, none⟩ = some (.int .i64 ((rd_T93 ab ac).f0)) ∧ w'.cell? ⟨ae, 1, none⟩ = some (.int .i64 ((rd_T93 ab ac).f1)) ∧ w'.cell? (aD.add (((ak)).toNat * 2)) = some (.int .i64 ((rd_T93 aj (ak)).f0)) ∧ w'.cell? ⟨(aD.add (((ak)).toNat * 2)).block, (aD.add (((ak)).toNat * 2)).off + 1, none⟩ = some (.int .i64 ((rd_T93 aj (ak)).f1))) (ds := []) #[false, false, false, false, false, false, false, false, false, false, false, false, false] (by kernel_rfl) rfl rfl ⟨(Aj ag.out 0).trans rfl, (Aj ag.out 1).trans rfl, aw, ax⟩ (fun hHeld => ?_); refine with_tabW Ba.tab14 Ba.bits14 (fun HT_ HW_ => ?_)
             generalize w43.drew = w44 at al ai ag HB aw ax hHeld ⊢
             refine pure_ (i := 0) (N := some 51) (v := ?_) (a' := ?_) (bA 13 1) rfl rfl (any_of HT_.out (by kernel_rfl)) (fun _ _ _ h => h) (Or.inl ⟨by rfl, ?_⟩) ?_ ?_
             rotate_left; (intro w'; go_simp; with_reducible rfl); rotate_left; (simp only [Act.put, sA, sB, sC, i64_w, i32_w]; rfl)
             refine pure_ (i := 1) (N := some 52) (v := ?_) (a' := ?_) (bA 13 3) rfl rfl (any_of HT_.out (by kernel_rfl)) (fun _ _ _ h => h) (Or.inl ⟨by rfl, ?_⟩) ?_ ?_
             rotate_left; (intro w'; go_simp; with_reducible rfl); rotate_left; (simp only [Act.put, sA, sB, sC, i64_w, i32_w]; rfl)
             refine pure_ (i := 2) (N := some 53) (v := ?_) (a' := ?_) (bA 13 7) rfl rfl (any_of HT_.out (by kernel_rfl)) (fun _ _ _ h => h) (Or.inl ⟨by rfl, ?_⟩) ?_ ?_
             rotate_left; (intro w'; go_simp; with_reducible rfl); rotate_left; (simp only [Act.put, sA, sB, sC, i64_w, i32_w]; rfl)
             refine pure_ (i := 3) (N := some 54) (v := ?_) (a' := ?_) (bA 13 15) rfl rfl (any_of HT_.out (by kernel_rfl)) (fun _ _ _ h => h) (Or.inl ⟨by rfl, ?_⟩) ?_ ?_
             rotate_left; (intro w'; go_simp; with_reducible rfl); rotate_left; (simp only [Act.put, sA, sB, sC, i64_w, i32_w]; rfl)
             refine pure_ (i := 5) (N := some 56) (v := ?_) (a' := ?_) (bA 13 47) rfl rfl (any_of HT_.out (by kernel_rfl)) (fun _ _ _ h => h) (Or.inl ⟨by rfl, ?_⟩) ?_ ?_
             rotate_left; (intro w'; go_simp; with_reducible rfl); rotate_left; (simp only [Act.put, sA, sB, sC, i64_w, i32_w]; rfl)
             refine pure_ (i := 6) (N := some 57) (v := ?_) (a' := ?_) (bA 13 111) rfl rfl (any_of HT_.out (by kernel_rfl)) (fun _ _ _ h => h) (Or.inl ⟨by rfl, ?_⟩) ?_ ?_
             rotate_left; (intro w'; go_simp; with_reducible rfl); rotate_left; (simp only [Act.put, sA, sB, sC, i64_w, i32_w]; rfl)
             refine pure_ (i := 7) (N := some 58) (v := ?_) (a' := ?_) (bA 13 239) rfl rfl (any_of HT_.out (by kernel_rfl)) (fun _ _ _ h => h) (Or.inl ⟨by rfl, ?_⟩) ?_ ?_
             rotate_left; (intro w'; go_simp; with_reducible rfl); rotate_left; (simp only [Act.put, sA, sB, sC, i64_w, i32_w]; rfl)
             refine pure_ (i := 8) (N := some 59) (v := ?_) (a' := ?_) (bA 13 495) rfl rfl (any_of HT_.out (by kernel_rfl)) (fun _ _ _ h => h) (Or.inl ⟨by rfl, ?_⟩) ?_ ?_
             rotate_left; (intro w'; go_simp; with_reducible rfl); rotate_left; (simp only [Act.put, sA, sB, sC, i64_w, i32_w]; rfl)
             refine pure_ (i := 9) (N := some 60) (v := ?_) (a' := ?_) (bA 13 1007) rfl rfl (any_of HT_.out (by kernel_rfl)) (fun _ _ _ h => h) (Or.inl ⟨by rfl, ?_⟩) ?_ ?_
             rotate_left; (intro w'; go_simp; with_reducible rfl); rotate_left; (simp only [Act.put, sA, sB, sC, i64_w, i32_w]; rfl)
             refine take_ (i := 4) (N := some 55) (v := ?_) (a' := ?_) (bA 13 1023) rfl rfl (take_ofW HT_.out HW_.out (by kernel_rfl)) (fun _ _ _ h => h) (Or.inl ⟨by rfl, ?_⟩) hHeld ?_ ?_
             rotate_left; (rintro w' ⟨s0, s1, s2, s3⟩; go_simp; with_reducible rfl); rotate_left; (simp only [Act.put, sA, sB, sC, i64_w, i32_w]; rfl)
             refine take_ (i := 10) (N := some 61) (v := ?_) (a' := ?_) (bA 13 2047) rfl rfl (take_ofW HT_.out HW_.out (by kernel_rfl)) (fun _ _ _ h => h) (Or.inl ⟨by rfl, ?_⟩) hHeld ?_ ?_
             rotate_left; (rintro w' ⟨s0, s1, s2, s3⟩; go_simp; with_reducible rfl); rotate_left; (simp only [Act.put, sA, sB, sC, i64_w, i32_w]; rfl)
             refine pure_ (i := 11) (N := some 62) (v := ?_) (a' := ?_) (bA 13 4095) rfl rfl (any_of HT_.out (by kernel_rfl)) (fun _ _ _ h => h) (Or.inl ⟨by rfl, ?_⟩) ?_ ?_
             rotate_left; (intro w'; go_simp; with_reducible rfl); rotate_left; (simp only [Act.put, sA, sB, sC, i64_w, i32_w]; rfl)
             refine pure_ (i := 12) (N := some 63) (v := ?_) (a' := ?_) (bA 13 8191) rfl rfl (any_of HT_.out (by kernel_rfl)) (fun _ _ _ h => h) (Or.inl ⟨by rfl, ?_⟩) ?_ ?_
             rotate_left; (intro w'; go_simp; with_reducible rfl); rotate_left; (simp only [Act.put, sA, sB, sC, i64_w, i32_w]; rfl)
             refine done_ (done_of HT_.out (by kernel_rfl)) ?_
             try go_wp2
             have n0_ := Aa.mk (Kd.Cd al.out)
             have n1_ := Aa.mk (Kd.Cd ai.out)
             have n2_ := Aa.mk (Ar ag.out)
             have n3_ := Aa.mk (Ac HB.out)
             clear al
             clear ai
             clear ag
             clear HB
             have al := n0_
             have ai := n1_
             have ag := n2_
             have HB := n3_
             clear n0_ n1_ n2_ n3_
             have ct : 0 ≤ ((ak) : Int) := of_decide_eq_true (by with_reducible assumption)
             have cu : (ak) < (aj.length : Int) := of_decide_eq_true (by with_reducible assumption)
             obtain ⟨cO, e149, aI, aJ⟩ := at_T93 (Kd.At al.out).2.2 (ak) ct cu
             obtain rfl : aD = cO := (by injection e149)
             replace ct := eq_true ct
             replace cu := eq_true cu
             have p39 : 0 ≤ ((ak) : Int) := of_decide_eq_true (by with_reducible assumption)
             have q39 : ((ak) : Int) < ((aj.length : Int) : Int) := of_decide_eq_true (by with_reducible assumption)
             obtain ⟨go39, dJ, cP, cQ, gl39, cl39, HG39⟩ := Kd.R_form al.out (by omega)
             (first | cases cP | (injection cP with ea_ en_ ec_; (first | subst ea_ | (injection ea_ with ea_; subst ea_)); subst ec_; clear en_))
             have GB39 := Aa.mk cQ
             have GG39 := Aa.mk HG39
             clear cQ gl39 HG39
             (first | simp only [add_plain] at aw | skip)
             (first | simp only [add_plain] at ax | skip)
             (first | simp only [add_plain] at aI | skip)
             (first | simp only [add_plain] at aJ | skip)
             obtain ⟨ce39, hcl39, hM39, hcc39, hfr39⟩ := Kd.R_elem al.out z93 ((ak) : Int) p39 q39
             obtain rfl := k93_openM hM39
             have cv : World.cell? _ ⟨go39, ((ak) : Int).toNat * 2, none⟩ = some (.int .i64 ((rd_T93 aj (ak)).f0)) := hcc39 0 _ rfl
             have cw : World.cell? _ ⟨go39, ((ak) : Int).toNat * 2 + 1, none⟩ = some (.int .i64 ((rd_T93 aj (ak)).f1)) := hcc39 1 _ rfl
             have cx : World.frozen? _ ⟨go39, ((ak) : Int).toNat * 2, none⟩ = false := hfr39 0
             have cy : World.frozen? _ ⟨go39, ((ak) : Int).toNat * 2 + 1, none⟩ = false := hfr39 1
             clear hcl39 hcc39 hfr39 hM39
             replace p39 := eq_true p39
             replace q39 := eq_true q39
             obtain ⟨ce46, hcl46, hM46, hcc46, hfr46⟩ := Kd.R_elem al.out z93 ((ak) : Int) (of_decide_eq_true (by with_reducible assumption)) (by have h_ : ((ak) : Int) < ((aj.length : Int) : Int) := of_decide_eq_true (by with_reducible assumption); first | exact h_ | (have e_ := (Kd.At al.out).1; omega) | simpa using h_)
             obtain rfl := k93_openM hM46
             have cz := (Kd.R_seg al.out ((ak) : Int) (of_decide_eq_true (by with_reducible assumption)) (by have h_ : ((ak) : Int) < ((aj.length : Int) : Int) := of_decide_eq_true (by with_reducible assumption); first | exact h_ | (have e_ := (Kd.At al.out).1; omega) | simpa using h_) (seg := [.int .i64 aK]) (j := 1) hcl46 hcc46 (show 2 ≤ 2 from by decide) (x' := (⟨(rd_T93 aj (ak)).f0, aK⟩ : S93)) (k93_mkM _ _ _ (⟨(rd_T93 aj (ak)).f0, aK⟩ : S93) ) (fun _ hk => hk)).1
             rw [← cL.out] at cz
             have HQ46 := Aa.mk cz
             clear hcl46 hcc46 hfr46 hM46 cz
             refine start_ (n := 15) (S := fun w' => w'.cell? ⟨ae, 0, none⟩ = some (.int .i64 ((rd_T93 ab ac).f0)) ∧ w'.cell? ⟨ae, 1, none⟩ = some (.int .i64 ((rd_T93 ab ac).f1)) ∧ w'.cell? ⟨go39, ((ak) : Int).toNat * 2, none⟩ = some (.int .i64 ((rd_T93 aj (ak)).f0)) ∧ w'.cell? ⟨go39, ((ak) : Int).toNat * 2 + 1, none⟩ = some (.int .i64 ((rd_T93 aj (ak)).f1))) (ds := [14]) #[false, false, false, false, false, false, false, false, false, false, false, false, false, false, false] (by kernel_rfl) rfl rfl ⟨(Aj ag.out 0).trans rfl, (Aj ag.out 1).trans rfl, aI, aJ⟩ (fun hHeld => ?_); refine with_tabW Ba.tab15 Ba.bits15 (fun HT_ HW_ => ?_)
             generalize w44.drew = w45 at al ai ag HB GG39 HQ46 cx cy aw ax aI aJ cv cw hHeld ⊢
             refine pure_ (i := 0) (N := some 64) (v := ?_) (a' := ?_) (bA 15 1) rfl rfl (any_of HT_.out (by kernel_rfl)) (fun _ _ _ h => h) (Or.inl ⟨by rfl, ?_⟩) ?_ ?_
             rotate_left; (intro w'; go_simp; with_reducible rfl); rotate_left; (simp only [Act.put, sA, sB, sC, i64_w, i32_w]; rfl)
             refine pure_ (i := 1) (N := some 65) (v := ?_) (a' := ?_) (bA 15 3) rfl rfl (any_of HT_.out (by kernel_rfl)) (fun _ _ _ h => h) (Or.inl ⟨by rfl, ?_⟩) ?_ ?_
             rotate_left; (intro w'; go_simp; with_reducible rfl); rotate_left; (simp only [Act.put, sA, sB, sC, i64_w, i32_w]; rfl)
             refine pure_ (i := 2) (N := some 66) (v := ?_) (a' := ?_) (bA 15 7) rfl rfl (any_of HT_.out (by kernel_rfl)) (fun _ _ _ h => h) (Or.inl ⟨by rfl, ?_⟩) ?_ ?_
             rotate_left; (intro w'; go_simp; with_reducible rfl); rotate_left; (simp only [Act.put, sA, sB, sC, i64_w, i32_w]; rfl)
             refine pure_ (i := 3) (N := some 67) (v := ?_) (a' := ?_) (bA 15 15) rfl rfl (any_of HT_.out (by kernel_rfl)) (fun _ _ _ h => h) (Or.inl ⟨by rfl, ?_⟩) ?_ ?_
             rotate_left; (intro w'; go_simp; with_reducible rfl); rotate_left; (simp only [Act.put, sA, sB, sC, i64_w, i32_w]; rfl)
             refine pure_ (i := 4) (N := some 68) (v := ?_) (a' := ?_) (bA 15 31) rfl rfl (any_of HT_.out (by kernel_rfl)) (fun _ _ _ h => h) (Or.inl ⟨by rfl, ?_⟩) ?_ ?_
             rotate_left; (intro w'; go_simp; with_reducible rfl); rotate_left; (simp only [Act.put, sA, sB, sC, i64_w, i32_w]; rfl)
             refine pure_ (i := 5) (N := some 69) (v := ?_) (a' := ?_) (bA 15 63) rfl rfl (any_of HT_.out (by kernel_rfl)) (fun _ _ _ h => h) (Or.inl ⟨by rfl, ?_⟩) ?_ ?_
             rotate_left; (intro w'; go_simp; with_reducible rfl); rotate_left; (simp only [Act.put, sA, sB, sC, i64_w, i32_w]; rfl)
             refine pure_ (i := 6) (N := some 70) (v := ?_) (a' := ?_) (bA 15 127) rfl rfl (any_of HT_.out (by kernel_rfl)) (fun _ _ _ h => h) (Or.inl ⟨by rfl, ?_⟩) ?_ ?_
             rotate_left; (intro w'; go_simp; with_reducible rfl); rotate_left; (simp only [Act.put, sA, sB, sC, i64_w, i32_w]; rfl)
             refine pure_ (i := 7) (N := some 71) (v := ?_) (a' := ?_) (bA 15 255) rfl rfl (any_of HT_.out (by kernel_rfl)) (fun _ _ _ h => h) (Or.inl ⟨by rfl, ?_⟩) ?_ ?_
             rotate_left; (intro w'; go_simp; with_reducible rfl); rotate_left; (simp only [Act.put, sA, sB, sC, i64_w, i32_w]; rfl)
             refine pure_ (i := 9) (N := some 73) (v := ?_) (a' := ?_) (bA 15 767) rfl rfl (any_of HT_.out (by kernel_rfl)) (fun _ _ _ h => h) (Or.inl ⟨by rfl, ?_⟩) ?_ ?_
             rotate_left; (intro w'; go_simp; with_reducible rfl); rotate_left; (simp only [Act.put, sA, sB, sC, i64_w, i32_w]; rfl)
             refine take_ (i := 8) (N := some 72) (v := ?_) (a' := ?_) (bA 15 1023) rfl rfl (take_ofW HT_.out HW_.out (by kernel_rfl)) (fun _ _ _ h => h) (Or.inl ⟨by rfl, ?_⟩) hHeld ?_ ?_
             rotate_left; (rintro w' ⟨s0, s1, s2, s3⟩; go_simp; with_reducible rfl); rotate_left; (simp only [Act.put, sA, sB, sC, i64_w, i32_w]; rfl)
             refine take_ (i := 10) (N := some 74) (v := ?_) (a' := ?_) (bA 15 2047) rfl rfl (take_ofW HT_.out HW_.out (by kernel_rfl)) (fun _ _ _ h => h) (Or.inl ⟨by rfl, ?_⟩) hHeld ?_ ?_
             rotate_left; (rintro w' ⟨s0, s1, s2, s3⟩; go_simp; with_reducible rfl); rotate_left; (simp only [Act.put, sA, sB, sC, i64_w, i32_w]; rfl)
             refine pure_ (i := 11) (N := some 75) (v := ?_) (a' := ?_) (bA 15 4095) rfl rfl (any_of HT_.out (by kernel_rfl)) (fun _ _ _ h => h) (Or.inl ⟨by rfl, ?_⟩) ?_ ?_
             rotate_left; (intro w'; go_simp; with_reducible rfl); rotate_left; (simp only [Act.put, sA, sB, sC, i64_w, i32_w]; rfl)
             refine pure_ (i := 12) (N := some 76) (v := ?_) (a' := ?_) (bA 15 8191) rfl rfl (any_of HT_.out (by kernel_rfl)) (fun _ _ _ h => h) (Or.inl ⟨by rfl, ?_⟩) ?_ ?_
             rotate_left; (intro w'; go_simp; with_reducible rfl); rotate_left; (simp only [Act.put, sA, sB, sC, i64_w, i32_w]; rfl)
             refine pure_ (i := 13) (N := some 77) (v := ?_) (a' := ?_) (bA 15 16383) rfl rfl (any_of HT_.out (by kernel_rfl)) (fun _ _ _ h => h) (Or.inl ⟨by rfl, ?_⟩) ?_ ?_
             rotate_left; (intro w'; go_simp; with_reducible rfl); rotate_left; (simp only [Act.put, sA, sB, sC, i64_w, i32_w]; rfl)
             refine last_ (i := 14) (N := none) (bA 15 32767) rfl rfl (one_of HT_.out (by kernel_rfl)) (by decide) (fun K hK => ?_)
             refine skip_ (w1 := ?_) (by rfl) rfl ?_ ?_
             rotate_left
             ·go_simp
              rfl
             refine hK.out _ _ ?_
             clear hK K
             refine done_ (done_of HT_.out (by kernel_rfl)) ?_
             try go_wp2
             (try simp only [← ar])
             go_roundg k2
             case measure => have := HK1.out; have := HK2.out; omega
             case rel => exact ⟨(dz), (ab), (wrap64 (ac + 1)), (by first | rfl | (simp; done) | (simp [*]; done)), H', ⟨by have := HK1.out; have := HK2.out; omega⟩, ⟨by (try simp only [ar]); exact Kd.Bs HQ46.out (fun _ hk => hk.1)⟩, ⟨by (try simp only [ar]); exact rU <| Kd.Bs (Kd.B8 (p := ⟨go39, ((ak) : Int).toNat * 2 + 1, none⟩) (Kd.Bs ai.out (fun k_ hk => (⟨hk, fun e_ => hk.1 (by rw [e_]; rfl)⟩ : _ ∧ k_ ≠ go39))) (fun _ hk => hk.2) (.int .i64 aK)) (fun _ hk => hk.1.1)⟩, ⟨by repeat (first | (with_reducible first | exact HB.out | apply Ad | apply Ab | apply Ac | refine Ai ?_ GB39.out | refine Ai ?_ ay.out) | exact HB.out)⟩⟩
            ·rw [if_neg c37] at H
             have cK : decide (((rd_T93 ab ac).f0) ≤ ((rd_T93 aj (ak)).f1)) = false := decide_eq_false c37
             clear c37
             by_cases c47 : aj.length < 8796093022208
             ·rw [if_pos c47] at H
              have LMc47 := Aa.mk c47
              clear c47
              obtain ⟨dB, a9⟩ : ∃ y_ : List (S93), y_ = (aj ++ [(⟨(rd_T93 ab ac).f0, (rd_T93 ab ac).f1⟩ : S93)]) := ⟨_, rfl⟩
              (try rw [Option.bind_some] at H); try rw [← a9] at H
              have cR := Aa.mk a9
              clear a9
              have H' := Aa.mk H
              clear H
              have aG : 0 ≤ (ac : Int) := of_decide_eq_true (by with_reducible assumption)
              have aH : ac < (ab.length : Int) := of_decide_eq_true (by with_reducible assumption)
              obtain ⟨aC, e146, aQ, aT⟩ := at_T93 (Kd.At ai.out).2.2 ac aG aH
              cases e146
              replace aG := eq_true aG
              replace aH := eq_true aH
              try go_wp2_with (first | ((with_reducible refine Bj (N := 10) rfl ?_); refine B0 ?hg (N := 10) ?hd (cs := #[.int .i64 0, .int .i64 0]) (t := 93) ?hr ?_; (case hd => rfl); (case hg => rfl); (case hr => first | (go_simp; done) | (go_simp; rfl)); intro ae hg w48 hbox hb; have n0_ := Aa.mk (Kd.Be (Kd.C0 (by exact rU <| al.out) ae (Nat.le_of_eq hg.symm)) hb); have n1_ := Aa.mk (Kd.Be (Kd.C0 (by exact rU <| ai.out) ae (Nat.le_of_eq hg.symm)) hb); have n2_ := Aa.mk (Ak (lU HB.out) hb); have n3_ := Aa.mk (hbox); have n4_ := Aa.mk ((by rw [hg]; exact (Ag (lU HB.out)) : w.heap.size ≤ ae)); have n5_ := Aa.mk ((by rw [hg]; exact (Ag (lU HB.out)) : w.heap.size ≤ ae)); clear al; clear ai; clear HB; have al := n0_; have ai := n1_; have HB := n2_; have ag := n3_; have cp := n4_; have ay := n5_; clear n0_ n1_ n2_ n3_ n4_ n5_; clear hb hbox hg; have da : w48.cell? ⟨ae, 0, none⟩ = some (.int .i64 0) := (Aj ag.out 0).trans rfl; have dc : w48.cell? ⟨ae, 1, none⟩ = some (.int .i64 0) := (Aj ag.out 1).trans rfl; have dd := Af ag.out 0; have de := Af ag.out 1; obtain ⟨cS, cA, dC⟩ := Kd.Bn al.out; subst dC))
              have n0_ : Aa (Kd.R k93 93 ((w48.setCell ⟨ae, 0, none⟩ (.int .i64 ((rd_T93 ab ac).f0))).setCell ⟨ae, 1, none⟩ (.int .i64 ((rd_T93 ab ac).f1))) w.heap.size (fun k_ => some k_ ≠ (.slice (some aC) ab.length aE : Value).ownBlock ∧ k_ ≠ ae) (.slice cS aj.length cA) aj) := ⟨by exact rU <| Kd.Bs (Kd.B8 (p := ⟨ae, 1, none⟩) (Kd.B8 (p := ⟨ae, 0, none⟩) (Kd.Bs al.out (fun k_ hk => (⟨hk, hk.2⟩ : _ ∧ k_ ≠ ae))) (fun _ hk => hk.2) (.int .i64 ((rd_T93 ab ac).f0))) (fun _ hk => hk.2) (.int .i64 ((rd_T93 ab ac).f1))) (fun _ hk => ⟨hk.1.1, hk.1.2⟩)⟩
              have n1_ : Aa (Kd.R k93 93 ((w48.setCell ⟨ae, 0, none⟩ (.int .i64 ((rd_T93 ab ac).f0))).setCell ⟨ae, 1, none⟩ (.int .i64 ((rd_T93 ab ac).f1))) w.heap.size (fun k_ => some k_ ≠ (.slice cS aj.length cA : Value).ownBlock ∧ k_ ≠ ae) (.slice (some aC) ab.length aE) ab) := ⟨by exact rU <| Kd.Bs (Kd.B8 (p := ⟨ae, 1, none⟩) (Kd.B8 (p := ⟨ae, 0, none⟩) (Kd.Bs ai.out (fun k_ hk => (⟨hk, hk.2⟩ : _ ∧ k_ ≠ ae))) (fun _ hk => hk.2) (.int .i64 ((rd_T93 ab ac).f0))) (fun _ hk => hk.2) (.int .i64 ((rd_T93 ab ac).f1))) (fun _ hk => ⟨hk.1.1, hk.1.2⟩)⟩
              have n2_ : Aa (((w48.setCell ⟨ae, 0, none⟩ (.int .i64 ((rd_T93 ab ac).f0))).setCell ⟨ae, 1, none⟩ (.int .i64 ((rd_T93 ab ac).f1))).heap[ae]? = some (.cells #[.int .i64 ((rd_T93 ab ac).f0), .int .i64 ((rd_T93 ab ac).f1)] 93 (0, 0))) := ⟨by (with_reducible repeat (first | refine Am ?_ _ | refine Ar ?_ | refine An ?_ _)); refine Bb (cs := #[.int .i64 ((rd_T93 ab ac).f0), .int .i64 0]) ?_ 1 _ rfl; (with_reducible repeat (first | refine Am ?_ _ | refine Ar ?_ | refine An ?_ _)); refine Bb (cs := #[.int .i64 0, .int .i64 0]) ?_ 0 _ rfl; exact bU <| ag.out⟩
              have n3_ : Aa (Below w.heap.size w ((w48.setCell ⟨ae, 0, none⟩ (.int .i64 ((rd_T93 ab ac).f0))).setCell ⟨ae, 1, none⟩ (.int .i64 ((rd_T93 ab ac).f1)))) := ⟨by repeat (first | (with_reducible first | exact HB.out | apply Ad | apply Ab | apply Ac | refine Ai ?_ ay.out) | exact HB.out)⟩
              (try clear al)
              (try clear ai)
              (try clear ag)
              (try clear HB)
              generalize ((w48.setCell ⟨ae, 0, none⟩ (.int .i64 ((rd_T93 ab ac).f0))).setCell ⟨ae, 1, none⟩ (.int .i64 ((rd_T93 ab ac).f1))) = w51 at n0_ n1_ n2_ n3_ ⊢
              have al := n0_
              have ai := n1_
              have ag := n2_
              have HB := n3_
              clear n0_ n1_ n2_ n3_
              have n0_ := Aa.mk (Kd.Cd al.out)
              have n1_ := Aa.mk (Kd.Cd ai.out)
              have n2_ := Aa.mk (Ar ag.out)
              have n3_ := Aa.mk (Ac HB.out)
              clear al
              clear ai
              clear ag
              clear HB
              have al := n0_
              have ai := n1_
              have ag := n2_
              have HB := n3_
              clear n0_ n1_ n2_ n3_
              have aM : 0 ≤ ((ak) : Int) := of_decide_eq_true (by with_reducible assumption)
              have aN : (ak) < (aj.length : Int) := of_decide_eq_true (by with_reducible assumption)
              obtain ⟨aD, e148, aw, ax⟩ := at_T93 (Kd.At al.out).2.2 (ak) aM aN
              cases e148
              replace aM := eq_true aM
              replace aN := eq_true aN
              refine start_ (n := 13) (S := fun w' => w'.cell? ⟨ae, 0, none⟩ = some (.int .i64 ((rd_T93 ab ac).f0)) ∧ w'.cell? ⟨ae, 1, none⟩ = some (.int .i64 ((rd_T93 ab ac).f1)) ∧ w'.cell? (aD.add (((ak)).toNat * 2)) = some (.int .i64 ((rd_T93 aj (ak)).f0)) ∧ w'.cell? ⟨(aD.add (((ak)).toNat * 2)).block, (aD.add (((ak)).toNat * 2)).off + 1, none⟩ = some (.int .i64 ((rd_T93 aj (ak)).f1))) (ds := []) #[false, false, false, false, false, false, false, false, false, false, false, false, false] (by kernel_rfl) rfl rfl ⟨(Aj ag.out 0).trans rfl, (Aj ag.out 1).trans rfl, aw, ax⟩ (fun hHeld => ?_); refine with_tabW Ba.tab14 Ba.bits14 (fun HT_ HW_ => ?_)
              generalize w51.drew = w52 at al ai ag HB aw ax hHeld ⊢
              refine pure_ (i := 0) (N := some 51) (v := ?_) (a' := ?_) (bA 13 1) rfl rfl (any_of HT_.out (by kernel_rfl)) (fun _ _ _ h => h) (Or.inl ⟨by rfl, ?_⟩) ?_ ?_
              rotate_left; (intro w'; go_simp; with_reducible rfl); rotate_left; (simp only [Act.put, sA, sB, sC, i64_w, i32_w]; rfl)
              refine pure_ (i := 1) (N := some 52) (v := ?_) (a' := ?_) (bA 13 3) rfl rfl (any_of HT_.out (by kernel_rfl)) (fun _ _ _ h => h) (Or.inl ⟨by rfl, ?_⟩) ?_ ?_
              rotate_left; (intro w'; go_simp; with_reducible rfl); rotate_left; (simp only [Act.put, sA, sB, sC, i64_w, i32_w]; rfl)
              refine pure_ (i := 2) (N := some 53) (v := ?_) (a' := ?_) (bA 13 7) rfl rfl (any_of HT_.out (by kernel_rfl)) (fun _ _ _ h => h) (Or.inl ⟨by rfl, ?_⟩) ?_ ?_
              rotate_left; (intro w'; go_simp; with_reducible rfl); rotate_left; (simp only [Act.put, sA, sB, sC, i64_w, i32_w]; rfl)
              refine pure_ (i := 3) (N := some 54) (v := ?_) (a' := ?_) (bA 13 15) rfl rfl (any_of HT_.out (by kernel_rfl)) (fun _ _ _ h => h) (Or.inl ⟨by rfl, ?_⟩) ?_ ?_
              rotate_left; (intro w'; go_simp; with_reducible rfl); rotate_left; (simp only [Act.put, sA, sB, sC, i64_w, i32_w]; rfl)
              refine pure_ (i := 5) (N := some 56) (v := ?_) (a' := ?_) (bA 13 47) rfl rfl (any_of HT_.out (by kernel_rfl)) (fun _ _ _ h => h) (Or.inl ⟨by rfl, ?_⟩) ?_ ?_
              rotate_left; (intro w'; go_simp; with_reducible rfl); rotate_left; (simp only [Act.put, sA, sB, sC, i64_w, i32_w]; rfl)
              refine pure_ (i := 6) (N := some 57) (v := ?_) (a' := ?_) (bA 13 111) rfl rfl (any_of HT_.out (by kernel_rfl)) (fun _ _ _ h => h) (Or.inl ⟨by rfl, ?_⟩) ?_ ?_
              rotate_left; (intro w'; go_simp; with_reducible rfl); rotate_left; (simp only [Act.put, sA, sB, sC, i64_w, i32_w]; rfl)
              refine pure_ (i := 7) (N := some 58) (v := ?_) (a' := ?_) (bA 13 239) rfl rfl (any_of HT_.out (by kernel_rfl)) (fun _ _ _ h => h) (Or.inl ⟨by rfl, ?_⟩) ?_ ?_
              rotate_left; (intro w'; go_simp; with_reducible rfl); rotate_left; (simp only [Act.put, sA, sB, sC, i64_w, i32_w]; rfl)
              refine pure_ (i := 8) (N := some 59) (v := ?_) (a' := ?_) (bA 13 495) rfl rfl (any_of HT_.out (by kernel_rfl)) (fun _ _ _ h => h) (Or.inl ⟨by rfl, ?_⟩) ?_ ?_
              rotate_left; (intro w'; go_simp; with_reducible rfl); rotate_left; (simp only [Act.put, sA, sB, sC, i64_w, i32_w]; rfl)
              refine pure_ (i := 9) (N := some 60) (v := ?_) (a' := ?_) (bA 13 1007) rfl rfl (any_of HT_.out (by kernel_rfl)) (fun _ _ _ h => h) (Or.inl ⟨by rfl, ?_⟩) ?_ ?_
              rotate_left; (intro w'; go_simp; with_reducible rfl); rotate_left; (simp only [Act.put, sA, sB, sC, i64_w, i32_w]; rfl)
              refine take_ (i := 4) (N := some 55) (v := ?_) (a' := ?_) (bA 13 1023) rfl rfl (take_ofW HT_.out HW_.out (by kernel_rfl)) (fun _ _ _ h => h) (Or.inl ⟨by rfl, ?_⟩) hHeld ?_ ?_
              rotate_left; (rintro w' ⟨s0, s1, s2, s3⟩; go_simp; with_reducible rfl); rotate_left; (simp only [Act.put, sA, sB, sC, i64_w, i32_w]; rfl)
              refine take_ (i := 10) (N := some 61) (v := ?_) (a' := ?_) (bA 13 2047) rfl rfl (take_ofW HT_.out HW_.out (by kernel_rfl)) (fun _ _ _ h => h) (Or.inl ⟨by rfl, ?_⟩) hHeld ?_ ?_
              rotate_left; (rintro w' ⟨s0, s1, s2, s3⟩; go_simp; with_reducible rfl); rotate_left; (simp only [Act.put, sA, sB, sC, i64_w, i32_w]; rfl)
              refine pure_ (i := 11) (N := some 62) (v := ?_) (a' := ?_) (bA 13 4095) rfl rfl (any_of HT_.out (by kernel_rfl)) (fun _ _ _ h => h) (Or.inl ⟨by rfl, ?_⟩) ?_ ?_
              rotate_left; (intro w'; go_simp; with_reducible rfl); rotate_left; (simp only [Act.put, sA, sB, sC, i64_w, i32_w]; rfl)
              refine pure_ (i := 12) (N := some 63) (v := ?_) (a' := ?_) (bA 13 8191) rfl rfl (any_of HT_.out (by kernel_rfl)) (fun _ _ _ h => h) (Or.inl ⟨by rfl, ?_⟩) ?_ ?_
              rotate_left; (intro w'; go_simp; with_reducible rfl); rotate_left; (simp only [Act.put, sA, sB, sC, i64_w, i32_w]; rfl)
              refine done_ (done_of HT_.out (by kernel_rfl)) ?_
              have df : w52.cell? ⟨ae, 0, none⟩ = some (.int .i64 ((rd_T93 ab ac).f0)) := (Aj ag.out 0).trans rfl
              have dg : w52.cell? ⟨ae, 1, none⟩ = some (.int .i64 ((rd_T93 ab ac).f1)) := (Aj ag.out 1).trans rfl
              have dh := Af ag.out 0
              have di := Af ag.out 1
              try go_wp2_with (first | ((with_reducible refine Cn (b := .append) (xs := #[.tmp 78, .tmp 80]) rfl ?_); at_builtin; refine Kd.R_append k93 (w0 := w) w.heap.size rfl (.tmp 78) (.tmp 80) 89 93 (.agg #[(.int .i64 0), (.int .i64 0)]) 16 rfl Try.underlying89 info93 rfl (by decide) (by omega) (.slice (some aD) aj.length cA) aj (⟨(rd_T93 ab ac).f0, (rd_T93 ab ac).f1⟩ : S93) [.int .i64 ((rd_T93 ab ac).f0), .int .i64 ((rd_T93 ab ac).f1)] (fun k_ => some k_ ≠ (.slice (some aC) ab.length aE : Value).ownBlock ∧ k_ ≠ ae) (fun _ => False) rfl rfl ?aP (fun _ hk => hk.elim) ?aF ?aO ?aB ?aS ?aL ?_; (case aP => exact k93_mkM _ _ _ (⟨(rd_T93 ab ac).f0, (rd_T93 ab ac).f1⟩ : S93)); (case aB => exact (by repeat (first | (with_reducible first | exact HB.out | apply Ad | apply Ab | apply Ac | refine Ai ?_ ay.out) | exact HB.out))); (case aF => exact (fun k_ hk => ⟨Kd.fresh' (Kd.Bq (by exact rU <| ai.out)) k_ hk, Kd.freshB (g := ae) (o := .cells #[.int .i64 ((rd_T93 ab ac).f0), .int .i64 ((rd_T93 ab ac).f1)] 93 (0, 0)) (by exact bU <| ag.out) k_ hk⟩)); (case aO => exact (by exact rU <| al.out)); (case aS => exact (Ag (by repeat (first | (with_reducible first | exact HB.out | apply Ad | apply Ab | apply Ac | refine Ai ?_ ay.out) | exact HB.out)))); (case aL => have := LMc47.out; omega); intro v152 w54 ho hb hg hat; rw [← cR.out] at ho; have n0_ := Aa.mk (Kd.R_after (ok := (fun k_ => k_ ≠ ae)) (by exact rU <| Kd.Bs ai.out (fun _ hk => ⟨hk.2, hk.1⟩)) hg hat); have n1_ := Aa.mk (C4 (g := ae) (o := .cells #[.int .i64 ((rd_T93 ab ac).f0), .int .i64 ((rd_T93 ab ac).f1)] 93 (0, 0)) (by exact bU <| ag.out) hg (Kd.R_away al.out (fun _ hk => hk.2))); have n2_ := Aa.mk (hb); have n3_ := Aa.mk (ho); clear ai; clear ag; clear HB; clear al; have ai := n0_; have ag := n1_; have HB := n2_; have cT := n3_; clear n0_ n1_ n2_ n3_; clear ho hb hg hat))
              (try simp only [← ar])
              go_roundg k2
              case measure => have := HK1.out; have := HK2.out; omega
              case rel => exact ⟨(dB), (ab), (wrap64 (ac + 1)), (by first | rfl | (simp; done) | (simp [*]; done)), H', ⟨by have := HK1.out; have := HK2.out; omega⟩, ⟨by (try simp only [ar]); exact rU <| Kd.Bs cT.out (fun _ hk => hk.1)⟩, ⟨by (try simp only [ar]); exact rU <| Kd.Bs ai.out (fun _ hk => hk.2)⟩, ⟨by repeat (first | (with_reducible first | exact HB.out | apply Ad | apply Ab | apply Ac | refine Ai ?_ ay.out) | exact HB.out)⟩⟩
             ·rw [if_neg c47] at H
              exact absurd H (by simp)
           ·rw [if_neg c36] at H
            exact absurd H (by simp)
          ·rw [if_neg c35] at H
           exact absurd H (by simp)
         ·rw [if_neg c33] at H
          have cI : decide (0 < (aj.length : Int)) = false := decide_eq_false c33
          have cJ : decide (0 < aj.length) = false := decide_eq_false (by omega)
          clear c33
          by_cases c55 : aj.length < 8796093022208
          ·rw [if_pos c55] at H
           have LMc55 := Aa.mk c55
           clear c55
           obtain ⟨dD, bc⟩ : ∃ y_ : List (S93), y_ = (aj ++ [(⟨(rd_T93 ab ac).f0, (rd_T93 ab ac).f1⟩ : S93)]) := ⟨_, rfl⟩
           (try rw [Option.bind_some] at H); try rw [← bc] at H
           have cU := Aa.mk bc
           clear bc
           have H' := Aa.mk H
           clear H
           have aG : 0 ≤ (ac : Int) := of_decide_eq_true (by with_reducible assumption)
           have aH : ac < (ab.length : Int) := of_decide_eq_true (by with_reducible assumption)
           obtain ⟨aC, e146, aQ, aT⟩ := at_T93 (Kd.At ai.out).2.2 ac aG aH
           cases e146
           replace aG := eq_true aG
           replace aH := eq_true aH
           try go_wp2_with (first | ((with_reducible refine Bj (N := 10) rfl ?_); refine B0 ?hg (N := 10) ?hd (cs := #[.int .i64 0, .int .i64 0]) (t := 93) ?hr ?_; (case hd => rfl); (case hg => rfl); (case hr => first | (go_simp; done) | (go_simp; rfl)); intro ae hg w56 hbox hb; have n0_ := Aa.mk (Kd.Be (Kd.C0 (by exact rU <| al.out) ae (Nat.le_of_eq hg.symm)) hb); have n1_ := Aa.mk (Kd.Be (Kd.C0 (by exact rU <| ai.out) ae (Nat.le_of_eq hg.symm)) hb); have n2_ := Aa.mk (Ak (lU HB.out) hb); have n3_ := Aa.mk (hbox); have n4_ := Aa.mk ((by rw [hg]; exact (Ag (lU HB.out)) : w.heap.size ≤ ae)); have n5_ := Aa.mk ((by rw [hg]; exact (Ag (lU HB.out)) : w.heap.size ≤ ae)); clear al; clear ai; clear HB; have al := n0_; have ai := n1_; have HB := n2_; have ag := n3_; have cp := n4_; have ay := n5_; clear n0_ n1_ n2_ n3_ n4_ n5_; clear hb hbox hg; have dj : w56.cell? ⟨ae, 0, none⟩ = some (.int .i64 0) := (Aj ag.out 0).trans rfl; have dk : w56.cell? ⟨ae, 1, none⟩ = some (.int .i64 0) := (Aj ag.out 1).trans rfl; have dl := Af ag.out 0; have dm := Af ag.out 1; obtain ⟨cB, cC, dE⟩ := Kd.Bn al.out; subst dE))
           have n0_ : Aa (Kd.R k93 93 ((w56.setCell ⟨ae, 0, none⟩ (.int .i64 ((rd_T93 ab ac).f0))).setCell ⟨ae, 1, none⟩ (.int .i64 ((rd_T93 ab ac).f1))) w.heap.size (fun k_ => some k_ ≠ (.slice (some aC) ab.length aE : Value).ownBlock ∧ k_ ≠ ae) (.slice cB aj.length cC) aj) := ⟨by exact rU <| Kd.Bs (Kd.B8 (p := ⟨ae, 1, none⟩) (Kd.B8 (p := ⟨ae, 0, none⟩) (Kd.Bs al.out (fun k_ hk => (⟨hk, hk.2⟩ : _ ∧ k_ ≠ ae))) (fun _ hk => hk.2) (.int .i64 ((rd_T93 ab ac).f0))) (fun _ hk => hk.2) (.int .i64 ((rd_T93 ab ac).f1))) (fun _ hk => ⟨hk.1.1, hk.1.2⟩)⟩
           have n1_ : Aa (Kd.R k93 93 ((w56.setCell ⟨ae, 0, none⟩ (.int .i64 ((rd_T93 ab ac).f0))).setCell ⟨ae, 1, none⟩ (.int .i64 ((rd_T93 ab ac).f1))) w.heap.size (fun k_ => some k_ ≠ (.slice cB aj.length cC : Value).ownBlock ∧ k_ ≠ ae) (.slice (some aC) ab.length aE) ab) := ⟨by exact rU <| Kd.Bs (Kd.B8 (p := ⟨ae, 1, none⟩) (Kd.B8 (p := ⟨ae, 0, none⟩) (Kd.Bs ai.out (fun k_ hk => (⟨hk, hk.2⟩ : _ ∧ k_ ≠ ae))) (fun _ hk => hk.2) (.int .i64 ((rd_T93 ab ac).f0))) (fun _ hk => hk.2) (.int .i64 ((rd_T93 ab ac).f1))) (fun _ hk => ⟨hk.1.1, hk.1.2⟩)⟩
           have n2_ : Aa (((w56.setCell ⟨ae, 0, none⟩ (.int .i64 ((rd_T93 ab ac).f0))).setCell ⟨ae, 1, none⟩ (.int .i64 ((rd_T93 ab ac).f1))).heap[ae]? = some (.cells #[.int .i64 ((rd_T93 ab ac).f0), .int .i64 ((rd_T93 ab ac).f1)] 93 (0, 0))) := ⟨by (with_reducible repeat (first | refine Am ?_ _ | refine Ar ?_ | refine An ?_ _)); refine Bb (cs := #[.int .i64 ((rd_T93 ab ac).f0), .int .i64 0]) ?_ 1 _ rfl; (with_reducible repeat (first | refine Am ?_ _ | refine Ar ?_ | refine An ?_ _)); refine Bb (cs := #[.int .i64 0, .int .i64 0]) ?_ 0 _ rfl; exact bU <| ag.out⟩
           have n3_ : Aa (Below w.heap.size w ((w56.setCell ⟨ae, 0, none⟩ (.int .i64 ((rd_T93 ab ac).f0))).setCell ⟨ae, 1, none⟩ (.int .i64 ((rd_T93 ab ac).f1)))) := ⟨by repeat (first | (with_reducible first | exact HB.out | apply Ad | apply Ab | apply Ac | refine Ai ?_ ay.out) | exact HB.out)⟩
           (try clear al)
           (try clear ai)
           (try clear ag)
           (try clear HB)
           generalize ((w56.setCell ⟨ae, 0, none⟩ (.int .i64 ((rd_T93 ab ac).f0))).setCell ⟨ae, 1, none⟩ (.int .i64 ((rd_T93 ab ac).f1))) = w59 at n0_ n1_ n2_ n3_ ⊢
           have al := n0_
           have ai := n1_
           have ag := n2_
           have HB := n3_
           clear n0_ n1_ n2_ n3_
           have n0_ := Aa.mk (Kd.Cd al.out)
           have n1_ := Aa.mk (Kd.Cd ai.out)
           have n2_ := Aa.mk (Ar ag.out)
           have n3_ := Aa.mk (Ac HB.out)
           clear al
           clear ai
           clear ag
           clear HB
           have al := n0_
           have ai := n1_
           have ag := n2_
           have HB := n3_
           clear n0_ n1_ n2_ n3_
           refine start_ (n := 13) (S := fun w' => True) (ds := []) #[false, false, false, false, false, false, false, false, false, false, false, false, false] (by kernel_rfl) rfl rfl trivial (fun hHeld => ?_); refine with_tabW Ba.tab14 Ba.bits14 (fun HT_ HW_ => ?_)
           generalize w59.drew = w60 at al ai ag HB hHeld ⊢
           refine pure_ (i := 0) (N := some 51) (v := ?_) (a' := ?_) (bA 13 1) rfl rfl (any_of HT_.out (by kernel_rfl)) (fun _ _ _ h => h) (Or.inl ⟨by rfl, ?_⟩) ?_ ?_
           rotate_left; (intro w'; go_simp; with_reducible rfl); rotate_left; (simp only [Act.put, sA, sB, sC, i64_w, i32_w]; rfl)
           refine pure_ (i := 1) (N := some 52) (v := ?_) (a' := ?_) (bA 13 3) rfl rfl (any_of HT_.out (by kernel_rfl)) (fun _ _ _ h => h) (Or.inl ⟨by rfl, ?_⟩) ?_ ?_
           rotate_left; (intro w'; go_simp; with_reducible rfl); rotate_left; (simp only [Act.put, sA, sB, sC, i64_w, i32_w]; rfl)
           refine pure_ (i := 2) (N := some 53) (v := ?_) (a' := ?_) (bA 13 7) rfl rfl (any_of HT_.out (by kernel_rfl)) (fun _ _ _ h => h) (Or.inl ⟨by rfl, ?_⟩) ?_ ?_
           rotate_left; (intro w'; go_simp; with_reducible rfl); rotate_left; (simp only [Act.put, sA, sB, sC, i64_w, i32_w]; rfl)
           refine pure_ (i := 3) (N := some 54) (v := undef) (a' := ?_) (bA 13 15) rfl rfl (any_of HT_.out (by kernel_rfl)) (fun _ _ _ h => h) (Or.inr ⟨by rfl, rfl⟩) ?_ ?_
           rotate_left
           ·simp only [Act.put, sA, sB, sC, i64_w, i32_w]
            rfl
           refine pure_ (i := 4) (N := some 55) (v := undef) (a' := ?_) (bA 13 31) rfl rfl (any_of HT_.out (by kernel_rfl)) (fun _ _ _ h => h) (Or.inr ⟨by rfl, rfl⟩) ?_ ?_
           rotate_left
           ·simp only [Act.put, sA, sB, sC, i64_w, i32_w]
            rfl
           refine pure_ (i := 5) (N := some 56) (v := undef) (a' := ?_) (bA 13 63) rfl rfl (any_of HT_.out (by kernel_rfl)) (fun _ _ _ h => h) (Or.inr ⟨by rfl, rfl⟩) ?_ ?_
           rotate_left
           ·simp only [Act.put, sA, sB, sC, i64_w, i32_w]
            rfl
           refine pure_ (i := 6) (N := some 57) (v := undef) (a' := ?_) (bA 13 127) rfl rfl (any_of HT_.out (by kernel_rfl)) (fun _ _ _ h => h) (Or.inr ⟨by rfl, rfl⟩) ?_ ?_
           rotate_left
           ·simp only [Act.put, sA, sB, sC, i64_w, i32_w]
            rfl
           refine pure_ (i := 7) (N := some 58) (v := undef) (a' := ?_) (bA 13 255) rfl rfl (any_of HT_.out (by kernel_rfl)) (fun _ _ _ h => h) (Or.inr ⟨by rfl, rfl⟩) ?_ ?_
           rotate_left
           ·simp only [Act.put, sA, sB, sC, i64_w, i32_w]
            rfl
           refine pure_ (i := 8) (N := some 59) (v := undef) (a' := ?_) (bA 13 511) rfl rfl (any_of HT_.out (by kernel_rfl)) (fun _ _ _ h => h) (Or.inr ⟨by rfl, rfl⟩) ?_ ?_
           rotate_left
           ·simp only [Act.put, sA, sB, sC, i64_w, i32_w]
            rfl
           refine pure_ (i := 9) (N := some 60) (v := undef) (a' := ?_) (bA 13 1023) rfl rfl (any_of HT_.out (by kernel_rfl)) (fun _ _ _ h => h) (Or.inr ⟨by rfl, rfl⟩) ?_ ?_
           rotate_left
           ·simp only [Act.put, sA, sB, sC, i64_w, i32_w]
            rfl
           refine pure_ (i := 10) (N := some 61) (v := undef) (a' := ?_) (bA 13 2047) rfl rfl (any_of HT_.out (by kernel_rfl)) (fun _ _ _ h => h) (Or.inr ⟨by rfl, rfl⟩) ?_ ?_
           rotate_left
           ·simp only [Act.put, sA, sB, sC, i64_w, i32_w]
            rfl
           refine pure_ (i := 11) (N := some 62) (v := undef) (a' := ?_) (bA 13 4095) rfl rfl (any_of HT_.out (by kernel_rfl)) (fun _ _ _ h => h) (Or.inr ⟨by rfl, rfl⟩) ?_ ?_
           rotate_left
           ·simp only [Act.put, sA, sB, sC, i64_w, i32_w]
            rfl
           refine pure_ (i := 12) (N := some 63) (v := ?_) (a' := ?_) (bA 13 8191) rfl rfl (any_of HT_.out (by kernel_rfl)) (fun _ _ _ h => h) (Or.inl ⟨by rfl, ?_⟩) ?_ ?_
           rotate_left; (intro w'; go_simp; with_reducible rfl); rotate_left; (simp only [Act.put, sA, sB, sC, i64_w, i32_w]; rfl)
           refine done_ (done_of HT_.out (by kernel_rfl)) ?_
           have dn : w60.cell? ⟨ae, 0, none⟩ = some (.int .i64 ((rd_T93 ab ac).f0)) := (Aj ag.out 0).trans rfl
           have dp : w60.cell? ⟨ae, 1, none⟩ = some (.int .i64 ((rd_T93 ab ac).f1)) := (Aj ag.out 1).trans rfl
           have dq := Af ag.out 0
           have dr := Af ag.out 1
           try go_wp2_with (first | ((with_reducible refine Cn (b := .append) (xs := #[.tmp 78, .tmp 80]) rfl ?_); at_builtin; refine Kd.R_append k93 (w0 := w) w.heap.size rfl (.tmp 78) (.tmp 80) 89 93 (.agg #[(.int .i64 0), (.int .i64 0)]) 16 rfl Try.underlying89 info93 rfl (by decide) (by omega) (.slice cB aj.length cC) aj (⟨(rd_T93 ab ac).f0, (rd_T93 ab ac).f1⟩ : S93) [.int .i64 ((rd_T93 ab ac).f0), .int .i64 ((rd_T93 ab ac).f1)] (fun k_ => some k_ ≠ (.slice (some aC) ab.length aE : Value).ownBlock ∧ k_ ≠ ae) (fun _ => False) rfl rfl ?aP (fun _ hk => hk.elim) ?aF ?aO ?aB ?aS ?aL ?_; (case aP => exact k93_mkM _ _ _ (⟨(rd_T93 ab ac).f0, (rd_T93 ab ac).f1⟩ : S93)); (case aB => exact (by repeat (first | (with_reducible first | exact HB.out | apply Ad | apply Ab | apply Ac | refine Ai ?_ ay.out) | exact HB.out))); (case aF => exact (fun k_ hk => ⟨Kd.fresh' (Kd.Bq (by exact rU <| ai.out)) k_ hk, Kd.freshB (g := ae) (o := .cells #[.int .i64 ((rd_T93 ab ac).f0), .int .i64 ((rd_T93 ab ac).f1)] 93 (0, 0)) (by exact bU <| ag.out) k_ hk⟩)); (case aO => exact (by exact rU <| al.out)); (case aS => exact (Ag (by repeat (first | (with_reducible first | exact HB.out | apply Ad | apply Ab | apply Ac | refine Ai ?_ ay.out) | exact HB.out)))); (case aL => have := LMc55.out; omega); intro v155 w62 ho hb hg hat; rw [← cU.out] at ho; have n0_ := Aa.mk (Kd.R_after (ok := (fun k_ => k_ ≠ ae)) (by exact rU <| Kd.Bs ai.out (fun _ hk => ⟨hk.2, hk.1⟩)) hg hat); have n1_ := Aa.mk (C4 (g := ae) (o := .cells #[.int .i64 ((rd_T93 ab ac).f0), .int .i64 ((rd_T93 ab ac).f1)] 93 (0, 0)) (by exact bU <| ag.out) hg (Kd.R_away al.out (fun _ hk => hk.2))); have n2_ := Aa.mk (hb); have n3_ := Aa.mk (ho); clear ai; clear ag; clear HB; clear al; have ai := n0_; have ag := n1_; have HB := n2_; have cV := n3_; clear n0_ n1_ n2_ n3_; clear ho hb hg hat))
           (try simp only [← ar])
           go_roundg k2
           case measure => have := HK1.out; have := HK2.out; omega
           case rel => exact ⟨(dD), (ab), (wrap64 (ac + 1)), (by first | rfl | (simp; done) | (simp [*]; done)), H', ⟨by have := HK1.out; have := HK2.out; omega⟩, ⟨by (try simp only [ar]); exact rU <| Kd.Bs cV.out (fun _ hk => hk.1)⟩, ⟨by (try simp only [ar]); exact rU <| Kd.Bs ai.out (fun _ hk => hk.2)⟩, ⟨by repeat (first | (with_reducible first | exact HB.out | apply Ad | apply Ab | apply Ac | refine Ai ?_ ay.out) | exact HB.out)⟩⟩
          ·rw [if_neg c55] at H
           exact absurd H (by simp)
        ·rw [if_neg c32] at H
         exact absurd H (by simp)
       ·rw [if_neg c31] at H
        exact absurd H (by simp)
      ·rw [if_neg c30] at H
       have co : decide (ac < (au.length : Int)) = false := decide_eq_false c30
       rw [ar] at co
       clear c30
       obtain rfl := Option.some.inj H
       go_wp2
       go_ret
       exact ⟨_, by first | rfl | (simp [Ax, Aw] <;> rfl) | (simp [*, Ax, Aw] <;> rfl), by exact rU <| Kd.Bs al.out (fun _ hk => trivial), by repeat (first | (with_reducible first | exact HB.out | apply Ad | apply Ab | apply Ac) | exact HB.out)⟩

end Go.Proofs.Ytobdfiglgdbecaa.PGA

