import Derived.Test.YteamphcehoaleaaXPFPx0
import Derived.Test.YteamphcehoaleaaXPFPx1
import Derived.Test.YteamphcehoaleaaXPFAx6
namespace Go.Proofs.Yteamphcehoaleaa.PFP
open Go.Proofs.Yteamphcehoaleaa.PFA Go.Proofs.Yteamphcehoaleaa.PFK
open Go.RowKit Go.Proofs.YteamphcehoaleaaW.PrintWords Go.Proofs.YteamphcehoaleaaW.PrintLast Go.Proofs.YteamphcehoaleaaW.PrintMore
attribute [local go_sem] max2_int min2_int max_two min_two max_three min_three max_four min_four
set_option linter.unusedVariables false
set_option linter.unusedSimpArgs false

mutual
def Ay.l0 : Nat → Int → Int → Int → Int → List Bool → Int → Int → List Bool → Option (Int × Int × List Bool × Int)
 | 0, _, _, _, _, _, _, _, _ => none
 | k + 1, x1, x8, aH, aI, au, aJ, aK, ay => if x8 < (au.length : Int) then ((As.f k aH aI x8 x1).bind fun aw => (Ay.l1 k x1 x8 aw 0 0 aH aI au aJ aK ay)) else (some (aJ, aK, ay, 0))
def Ay.l1 : Nat → Int → Int → List Int → Int → Int → Int → Int → List Bool → Int → Int → List Bool → Option (Int × Int × List Bool × Int)
 | 0, _, _, _, _, _, _, _, _, _, _, _ => none
 | k + 1, x1, x8, x9, x10, x11, aH, aI, au, aJ, aK, ay => if x11 < (x9.length : Int) then (if 0 ≤ x11 then (if 0 ≤ (rd x9 x11) then (if (rd x9 x11) < (au.length : Int) then (if rdOf false au (rd x9 x11) = true then (Ay.l1 k x1 x8 x9 (wrap64 (x10 + 1)) (wrap64 (x11 + 1)) aH aI au aJ aK ay) else (Ay.l1 k x1 x8 x9 x10 (wrap64 (x11 + 1)) aH aI au aJ aK ay)) else (none)) else (none)) else (none)) else (if 0 ≤ x8 then (if x8 < (au.length : Int) then (if rdOf false au x8 = true then (if x8 < (ay.length : Int) then (Ay.l0 k x1 (wrap64 (x8 + 1)) aH aI au aJ aK (ay.set (x8 : Int).toNat (decide (x10 < x1)))) else (none)) else (if x8 < (ay.length : Int) then (Ay.l0 k x1 (wrap64 (x8 + 1)) aH aI au aJ aK (ay.set (x8 : Int).toNat false)) else (none))) else (none)) else (none))
end
def Ay.f (k : Nat) (aj : Int) (ak : Int) (ah : List Bool) (a1 : Int) : Option (Int × Int × List Bool × Int) := (Ci.f aj ak ah a1).bind fun aW => (if aW = 0 then ((B0.f aj ak).bind fun aY => (Ay.l0 k a1 0 aj ak ah aY.1 aY.2.1 aY.2.2)) else (some (0, 0, ([] : List Bool), aW)))
def Ay.T13 : Bool × List (List Nat × List Nat) := (true, [([], []), ([0], [0]), ([], []), ([], []), ([2, 3], [2, 3]), ([4], [4]), ([1, 5], [1, 5]), ([6], [6])])
def Ay.B13 : List Nat := [0, 1, 0, 0, 12, 28, 63, 127]
theorem Ay.tab13 : rtab .any (opsOf Try.f24 13) = Ay.T13 := by kernel_rfl
theorem Ay.bits13 : waitsOk Ay.T13.2 Ay.B13 = true := by kernel_rfl
def Ay.T15 : Bool × List (List Nat × List Nat) := (true, [([], []), ([0], [0]), ([], []), ([], []), ([3], [3]), ([], []), ([4, 5], [4, 5]), ([6], [6]), ([7], [7]), ([8], [8]), ([8], [8]), ([9, 10, 8], [8, 9, 10]), ([8, 11], [8, 11]), ([1, 2, 0, 1, 2, 3, 4, 5, 6, 7, 8, 9, 10, 11, 12], [1, 2]), ([13, 12, 8, 0, 1, 2, 3, 4, 5, 6, 7, 8, 9, 10, 11, 12], [12, 13])])
def Ay.B15 : List Nat := [0, 1, 0, 0, 8, 0, 56, 120, 248, 504, 504, 2040, 4088, 8191, 16383]
theorem Ay.tab15 : rtab .any (opsOf Try.f24 15) = Ay.T15 := by kernel_rfl
theorem Ay.bits15 : waitsOk Ay.T15.2 Ay.B15 = true := by kernel_rfl
set_option maxHeartbeats 8000000 in
set_option maxRecDepth 100000 in
theorem Ay.calls (k : Nat) (aj : Int) (ak : Int) (ax : Option Addr) (ar : Nat) (ah : List Bool) (a1 : Int) (r1 : Int) (r2 : Int) (r3 : List Bool) (r4 : Int) (w : World) (bW : Kd.C Kd.bool w ax ah.length ah) (bX : ah.length ≤ ar) (h : Ay.f k aj ak ah a1 = some (r1, r2, r3, r4)) :
  Calls Try.prog 24 #[.agg #[.int .i64 aj, .int .i64 ak, .slice ax ah.length ar], .int .i64 a1] w fun e w' => ∃ v2_ : Value, e = .returned (.tuple #[.agg #[.int .i64 r1, .int .i64 r2, v2_], .int .i64 r4]) ∧ Kd.R Kd.bool 4 w' w.heap.size (fun _ => True) v2_ r3 ∧ Below w.heap.size w w' := by
 have hu50 := Try.underlying50
 have aZ := Aa.mk bW
 have bY := Aa.mk bX
 clear bW bX
 have HB := Aa.mk (Below.refl w.heap.size w)
 have H : ((Ci.f aj ak ah a1).bind fun aW => (if aW = 0 then ((B0.f aj ak).bind fun aY => (Ay.l0 k a1 0 aj ak ah aY.1 aY.2.1 aY.2.2)) else (some (0, 0, ([] : List Bool), aW)))) = some (r1, r2, r3, r4) := h
 clear h
 replace H := Option.bind_eq_some_iff.mp H
 obtain ⟨aW, A30, H⟩ := H
 try dsimp only at H
 have A3 := Aa.mk A30
 clear A30
 by_cases c4 : aW = 0
 ·rw [if_pos c4] at H
  have b3 : (aW == 0) = true := beq_iff_eq.mpr c4
  have b4 : (aW != 0) = false := bne_eq_false_iff_eq.mpr c4
  clear c4
  replace H := Option.bind_eq_some_iff.mp H
  obtain ⟨⟨aC, aQ, bO⟩, A50, H⟩ := H
  try dsimp only at H
  have A5 := Aa.mk A50
  clear A50
  have H' := Aa.mk H
  clear H
  go_enter Try.func24, Try.ntmps24
  go_wp2_with (first | ((with_reducible refine Br (N := 2) rfl ?_); refine Bt ?hg (N := 2) ?hd (cs := #[.int .i64 aj, .int .i64 ak, .slice ax ah.length ar]) (t := 50) ?hr ?_; (case hd => rfl); (case hg => rfl); (case hr => first | (go_simp; done) | (go_simp; rfl)); intro af hg w6 hbox hb; have n0_ := Aa.mk (At (lU HB.out) hb); have n1_ := Aa.mk (hbox); have n2_ := Aa.mk ((by rw [hg]; exact (An (lU HB.out)) : w.heap.size ≤ af)); have n3_ := Aa.mk ((by rw [hg]; exact (An (lU HB.out)) : w.heap.size ≤ af)); clear HB; have HB := n0_; have aa := n1_; have cg := n2_; have an := n3_; clear n0_ n1_ n2_ n3_; clear hb hbox hg) | ((with_reducible refine Br (N := 4) rfl ?_); refine Bt ?hg (N := 4) ?hd (cs := #[.int .i64 0, .int .i64 0, .slice none 0 0]) (t := 50) ?hr ?_; (case hd => rfl); (case hg => rfl); (case hr => first | (go_simp; done) | (go_simp; rfl)); intro al hg w7 hbox hb; have n0_ := Aa.mk (Ap (g := af) (o := .cells #[.int .i64 aj, .int .i64 ak, .slice ax ah.length ar] 50 (0, 0)) (by exact bU <| aa.out) hb); have n1_ := Aa.mk (At (by repeat (first | (with_reducible first | exact HB.out | apply Af | apply Ac | apply Ai | refine Ag ?_ an.out) | exact HB.out)) hb); have n2_ := Aa.mk (hbox); have n3_ := Aa.mk ((by rw [hg]; exact (An (by repeat (first | (with_reducible first | exact HB.out | apply Af | apply Ac | apply Ai | refine Ag ?_ an.out) | exact HB.out))) : w.heap.size ≤ al)); have n4_ := Aa.mk ((by rw [hg]; exact (An (by repeat (first | (with_reducible first | exact HB.out | apply Af | apply Ac | apply Ai | refine Ag ?_ an.out) | exact HB.out))) : w.heap.size ≤ al)); have n5_ := Aa.mk ((by rw [hg]; exact Nat.ne_of_lt (Bv (g := af) (o := .cells #[.int .i64 aj, .int .i64 ak, .slice ax ah.length ar] 50 (0, 0)) (by exact bU <| aa.out)) : af ≠ al)); have n6_ := Aa.mk ((by rw [hg]; exact Nat.ne_of_gt (Bv (g := af) (o := .cells #[.int .i64 aj, .int .i64 ak, .slice ax ah.length ar] 50 (0, 0)) (by exact bU <| aa.out)) : al ≠ af)); clear aa; clear HB; have aa := n0_; have HB := n1_; have ae := n2_; have ck := n3_; have av := n4_; have aD := n5_; have aE := n6_; clear n0_ n1_ n2_ n3_ n4_ n5_ n6_; clear hb hbox hg; have dZ := aD.out; have d3 := aE.out; have bD : w7.cell? ⟨af, 0, none⟩ = some (.int .i64 aj) := (Ad aa.out 0).trans rfl; have bE : w7.cell? ⟨af, 1, none⟩ = some (.int .i64 ak) := (Ad aa.out 1).trans rfl; have bF : w7.cell? ⟨af, 2, none⟩ = some (.slice ax ah.length ar) := (Ad aa.out 2).trans rfl; have bG := Ah aa.out 0; have bH := Ah aa.out 1; have bI := Ah aa.out 2) | ((with_reducible refine Bo (f := 70) rfl ?_); refine Cd (some 14) rfl rfl Try.func70 (by kernel_rfl) rfl #[.agg #[.int .i64 aj, .int .i64 ak, .slice ax ah.length ar], .int .i64 a1] rfl (by (try simp only [List.map_toArray, List.map_cons, List.map_nil]); first | done | rfl | (simp only [List.length_drop, List.length_take]; rfl)) ?_; (with_reducible refine (Ci.calls aj ak _ _ ah a1 aW _ ?side1 ?side2 A3.out).mono ?_); (case side1 => repeat (first | exact (Kd.B8 aZ.out HB.out) | (with_reducible refine Kd.Bu ?_ _) | (with_reducible refine Kd.B4 ?_ _) | (with_reducible refine Kd.Cb ?_))); (case side2 => exact bY.out); rintro e w10 ⟨rfl, hb⟩; refine ⟨_, rfl, ?_⟩; have n0_ := Aa.mk (Ap (g := af) (o := .cells #[.int .i64 aj, .int .i64 ak, .slice ax ah.length ar] 50 (0, 0)) (by exact bU <| aa.out) hb); have n1_ := Aa.mk (Ap (g := al) (o := .cells #[.int .i64 0, .int .i64 0, .slice none 0 0] 50 (0, 0)) (by exact bU <| ae.out) hb); have n2_ := Aa.mk (At (by repeat (first | (with_reducible first | exact HB.out | apply Af | apply Ac | apply Ai | refine Ag ?_ an.out | refine Ag ?_ av.out) | exact HB.out)) hb); clear aa; clear ae; clear HB; have aa := n0_; have ae := n1_; have HB := n2_; clear n0_ n1_ n2_; (try clear hb); (try clear hb2); (try clear hk); (try clear hi); have bl : w10.cell? ⟨af, 0, none⟩ = some (.int .i64 aj) := (Ad aa.out 0).trans rfl; have bm : w10.cell? ⟨af, 1, none⟩ = some (.int .i64 ak) := (Ad aa.out 1).trans rfl; have bo : w10.cell? ⟨af, 2, none⟩ = some (.slice ax ah.length ar) := (Ad aa.out 2).trans rfl; have bp := Ah aa.out 0; have bq := Ah aa.out 1; have br := Ah aa.out 2) | ((with_reducible refine Bo (f := 58) rfl ?_); refine Cd (some 23) rfl rfl Try.func58 (by kernel_rfl) rfl #[.int .i64 aj, .int .i64 ak] rfl (by (try simp only [List.map_toArray, List.map_cons, List.map_nil]); first | done | rfl | (simp only [List.length_drop, List.length_take]; rfl)) ?_; (with_reducible refine (B0.calls aj ak aC aQ bO _ A5.out).mono ?_); rintro e w12 ⟨v149, rfl, ho0, hb⟩; refine ⟨_, rfl, ?_⟩; have n0_ := Aa.mk (Kd.Ca ho0 (An (by repeat (first | (with_reducible first | exact HB.out | apply Af | apply Ac | apply Ai | refine Ag ?_ an.out | refine Ag ?_ av.out) | exact HB.out)))); have n1_ := Aa.mk (Ap (g := af) (o := .cells #[.int .i64 aj, .int .i64 ak, .slice ax ah.length ar] 50 (0, 0)) (by exact bU <| aa.out) hb); have n2_ := Aa.mk (Ap (g := al) (o := .cells #[.int .i64 0, .int .i64 0, .slice none 0 0] 50 (0, 0)) (by exact bU <| ae.out) hb); have n3_ := Aa.mk (At (by repeat (first | (with_reducible first | exact HB.out | apply Af | apply Ac | apply Ai | refine Ag ?_ an.out | refine Ag ?_ av.out) | exact HB.out)) hb); clear aa; clear ae; clear HB; have bb := n0_; have aa := n1_; have ae := n2_; have HB := n3_; clear n0_ n1_ n2_ n3_; (try clear hb); (try clear hb2); (try clear hk); (try clear hi); (try clear ho0)) | ((with_reducible refine Br (N := 7) rfl ?_); refine Bt ?hg (N := 7) ?hd (cs := #[.int .i64 0, .int .i64 0, .slice none 0 0]) (t := 50) ?hr ?_; (case hd => rfl); (case hg => rfl); (case hr => first | (go_simp; done) | (go_simp; rfl)); intro ao hg w13 hbox hb; have n0_ := Aa.mk (Kd.Ba (by exact rU <| bb.out) hb); have n1_ := Aa.mk (Ap (g := af) (o := .cells #[.int .i64 aj, .int .i64 ak, .slice ax ah.length ar] 50 (0, 0)) (by exact bU <| aa.out) hb); have n2_ := Aa.mk (Ap (g := al) (o := .cells #[.int .i64 0, .int .i64 0, .slice none 0 0] 50 (0, 0)) (by exact bU <| ae.out) hb); have n3_ := Aa.mk (At (by repeat (first | (with_reducible first | exact HB.out | apply Af | apply Ac | apply Ai | refine Ag ?_ an.out | refine Ag ?_ av.out) | exact HB.out)) hb); have n4_ := Aa.mk (hbox); have n5_ := Aa.mk ((by rw [hg]; exact (An (by repeat (first | (with_reducible first | exact HB.out | apply Af | apply Ac | apply Ai | refine Ag ?_ an.out | refine Ag ?_ av.out) | exact HB.out))) : w.heap.size ≤ ao)); have n6_ := Aa.mk ((by rw [hg]; exact (An (by repeat (first | (with_reducible first | exact HB.out | apply Af | apply Ac | apply Ai | refine Ag ?_ an.out | refine Ag ?_ av.out) | exact HB.out))) : w.heap.size ≤ ao)); have n7_ := Aa.mk ((by rw [hg]; exact Nat.ne_of_lt (Bv (g := af) (o := .cells #[.int .i64 aj, .int .i64 ak, .slice ax ah.length ar] 50 (0, 0)) (by exact bU <| aa.out)) : af ≠ ao)); have n8_ := Aa.mk ((by rw [hg]; exact Nat.ne_of_gt (Bv (g := af) (o := .cells #[.int .i64 aj, .int .i64 ak, .slice ax ah.length ar] 50 (0, 0)) (by exact bU <| aa.out)) : ao ≠ af)); have n9_ := Aa.mk ((by rw [hg]; exact Nat.ne_of_lt (Bv (g := al) (o := .cells #[.int .i64 0, .int .i64 0, .slice none 0 0] 50 (0, 0)) (by exact bU <| ae.out)) : al ≠ ao)); have cp := Aa.mk ((by rw [hg]; exact Nat.ne_of_gt (Bv (g := al) (o := .cells #[.int .i64 0, .int .i64 0, .slice none 0 0] 50 (0, 0)) (by exact bU <| ae.out)) : ao ≠ al)); clear bb; clear aa; clear ae; clear HB; have bb := n0_; have aa := n1_; have ae := n2_; have HB := n3_; have ag := n4_; have dB := n5_; have aU := n6_; have aA := n7_; have aX := n8_; have aG := n9_; have ba := cp; clear n0_ n1_ n2_ n3_ n4_ n5_ n6_ n7_ n8_ n9_ cp; clear hb hbox hg; have dC := aX.out; have dD := aA.out; have dE := ba.out; have dF := aG.out; have bs : w13.cell? ⟨ao, 0, none⟩ = some (.int .i64 0) := (Ad ag.out 0).trans rfl; have bt : w13.cell? ⟨ao, 1, none⟩ = some (.int .i64 0) := (Ad ag.out 1).trans rfl; have bu : w13.cell? ⟨ao, 2, none⟩ = some (.slice none 0 0) := (Ad ag.out 2).trans rfl; have bv := Ah ag.out 0; have bw := Ah ag.out 1; have bz := Ah ag.out 2; obtain ⟨cr, ct, dq⟩ := Kd.B2 bb.out; subst dq))
  go_loopg [8] k (fun kq v8 w' => ∃ (am : Int) (ac : List Bool) (u152002 : Value), v8 = .int .i64 am ∧ Aa (Ay.l0 kq a1 am aj ak ah aC aQ ac = some (r1, r2, r3, r4)) ∧ Aa (kq ≤ k) ∧ Aa (Kd.R Kd.bool 4 w' w.heap.size (fun _ => True) u152002 ac) ∧ Aa (w'.heap[af]? = some (.cells #[.int .i64 aj, .int .i64 ak, (.slice ax ah.length ar)] 50 (0, 0))) ∧ Aa (w'.heap[al]? = some (.cells #[.int .i64 0, .int .i64 0, (.slice none 0 0)] 50 (0, 0))) ∧ Aa (w'.heap[ao]? = some (.cells #[.int .i64 aC, .int .i64 aQ, u152002] 50 (0, 0))) ∧ Aa (Below w.heap.size w w'))
  case atStart => exact ⟨(0), (bO), (.slice cr bO.length ct), (by first | rfl | (simp; done) | (simp [*]; done)), H', ⟨Nat.le_refl _⟩, ⟨by exact rU <| Kd.Bs (Kd.Bk (p := ⟨ao, 2, none⟩) (Kd.Bk (p := ⟨ao, 1, none⟩) (Kd.Bk (p := ⟨ao, 0, none⟩) (Kd.B7 bb.out ag.out (by decide)) (fun _ hk => hk.2) (.int .i64 aC)) (fun _ hk => hk.2) (.int .i64 aQ)) (fun _ hk => hk.2) (.slice cr bO.length ct)) (fun _ hk => trivial)⟩, ⟨by (with_reducible repeat (first | refine Ax ?_ _ | refine Au ?_ | refine Ak ?_ _)); refine Bh ?_ aA.out _; (with_reducible repeat (first | refine Ax ?_ _ | refine Au ?_ | refine Ak ?_ _)); refine Bh ?_ aA.out _; (with_reducible repeat (first | refine Ax ?_ _ | refine Au ?_ | refine Ak ?_ _)); refine Bh ?_ aA.out _; exact bU <| aa.out⟩, ⟨by (with_reducible repeat (first | refine Ax ?_ _ | refine Au ?_ | refine Ak ?_ _)); refine Bh ?_ aG.out _; (with_reducible repeat (first | refine Ax ?_ _ | refine Au ?_ | refine Ak ?_ _)); refine Bh ?_ aG.out _; (with_reducible repeat (first | refine Ax ?_ _ | refine Au ?_ | refine Ak ?_ _)); refine Bh ?_ aG.out _; exact bU <| ae.out⟩, ⟨by (with_reducible repeat (first | refine Ax ?_ _ | refine Au ?_ | refine Ak ?_ _)); refine Bj (cs := #[.int .i64 aC, .int .i64 aQ, .slice none 0 0]) ?_ 2 _ rfl; (with_reducible repeat (first | refine Ax ?_ _ | refine Au ?_ | refine Ak ?_ _)); refine Bj (cs := #[.int .i64 aC, .int .i64 0, .slice none 0 0]) ?_ 1 _ rfl; (with_reducible repeat (first | refine Ax ?_ _ | refine Au ?_ | refine Ak ?_ _)); refine Bj (cs := #[.int .i64 0, .int .i64 0, .slice none 0 0]) ?_ 0 _ rfl; exact bU <| ag.out⟩, ⟨by repeat (first | (with_reducible first | exact HB.out | apply Af | apply Ac | apply Ai | refine Ag ?_ an.out | refine Ag ?_ av.out | refine Ag ?_ aU.out) | exact HB.out)⟩⟩
  case round =>
   clear H'
   try clear c1
   try clear c2
   try clear p2
   try clear c4
   try clear b3
   try clear b4
   try clear c5
   try clear c7
   try clear c8
   try clear c14
   try clear c15
   try clear bl
   try clear bm
   try clear bo
   try clear bs
   try clear bt
   try clear bu
   try clear bD
   try clear bE
   try clear bF
   try clear bp
   try clear bq
   try clear br
   try clear bv
   try clear bw
   try clear bz
   try clear bG
   try clear bH
   try clear bI
   obtain ⟨am, ac, u152002, rfl, HA, HK1, ab, aa, ae, ag, HB⟩ := hrel
   cases gk with
   | zero => exact absurd HA.out (by simp [Ay.l0])
   | succ k1 =>
    have H := HA.out
    clear HA
    simp only [Ay.l0] at H
    by_cases c18 : am < (ah.length : Int)
    ·rw [if_pos c18] at H
     have bZ : decide (am < (ah.length : Int)) = true := decide_eq_true c18
     clear c18
     replace H := Option.bind_eq_some_iff.mp H
     obtain ⟨aw, A190, H⟩ := H
     try dsimp only at H
     have A19 := Aa.mk A190
     clear A190
     have H' := Aa.mk H
     clear H
     have dG := aD.out
     have dH := aE.out
     have dI := aA.out
     have dJ := aX.out
     have bP : wr.cell? ⟨af, 0, none⟩ = some (.int .i64 aj) := (Ad aa.out 0).trans rfl
     have bQ : wr.cell? ⟨af, 1, none⟩ = some (.int .i64 ak) := (Ad aa.out 1).trans rfl
     have bR : wr.cell? ⟨af, 2, none⟩ = some (.slice ax ah.length ar) := (Ad aa.out 2).trans rfl
     have bS := Ah aa.out 0
     have bT := Ah aa.out 1
     have bV := Ah aa.out 2
     go_wp2_with (first | ((with_reducible refine Bo (f := 35) rfl ?_); refine Cd (some 37) rfl rfl Try.func35 (by kernel_rfl) rfl #[.int .i64 aj, .int .i64 ak, .int .i64 am, .int .i64 a1] rfl (by (try simp only [List.map_toArray, List.map_cons, List.map_nil]); first | done | rfl | (simp only [List.length_drop, List.length_take]; rfl)) ?_; (with_reducible refine (As.calls k1 aj ak am a1 aw _ A19.out).mono ?_); rintro e w23 ⟨v153, rfl, ho0, hb⟩; refine ⟨_, rfl, ?_⟩; have n0_ := Aa.mk (Kd.Ba (by exact rU <| ab.out) hb); have n1_ := Aa.mk (Kd.Ca ho0 (An (by repeat (first | (with_reducible first | exact HB.out | apply Af | apply Ac | apply Ai | refine Ag ?_ an.out | refine Ag ?_ av.out | refine Ag ?_ aU.out) | exact HB.out)))); have n2_ := Aa.mk (Ap (g := af) (o := .cells #[.int .i64 aj, .int .i64 ak, .slice ax ah.length ar] 50 (0, 0)) (by exact bU <| aa.out) hb); have n3_ := Aa.mk (Ap (g := al) (o := .cells #[.int .i64 0, .int .i64 0, .slice none 0 0] 50 (0, 0)) (by exact bU <| ae.out) hb); have n4_ := Aa.mk (Ap (g := ao) (o := .cells #[.int .i64 aC, .int .i64 aQ, u152002] 50 (0, 0)) (by exact bU <| ag.out) hb); have n5_ := Aa.mk (At (by repeat (first | (with_reducible first | exact HB.out | apply Af | apply Ac | apply Ai | refine Ag ?_ an.out | refine Ag ?_ av.out | refine Ag ?_ aU.out) | exact HB.out)) hb); clear ab; clear aa; clear ae; clear ag; clear HB; have ab := n0_; have cu := n1_; have aa := n2_; have ae := n3_; have ag := n4_; have HB := n5_; clear n0_ n1_ n2_ n3_ n4_ n5_; (try clear hb); (try clear hb2); (try clear hk); (try clear hi); (try clear ho0)))
     go_loopg [10, 11] k1 (fun kq v10 v11 w' => ∃ (aT : Int) (ai : Int), v10 = .int .i64 aT ∧ v11 = .int .i64 ai ∧ Aa (Ay.l1 kq a1 am aw aT ai aj ak ah aC aQ ac = some (r1, r2, r3, r4)) ∧ Aa (kq ≤ k1) ∧ Aa (Kd.R (Kd.int .i64) 3 w' w.heap.size (fun _ => True) v153 aw) ∧ Aa (Kd.R Kd.bool 4 w' w.heap.size (fun _ => True) u152002 ac) ∧ Aa (w'.heap[af]? = some (.cells #[.int .i64 aj, .int .i64 ak, (.slice ax ah.length ar)] 50 (0, 0))) ∧ Aa (w'.heap[al]? = some (.cells #[.int .i64 0, .int .i64 0, (.slice none 0 0)] 50 (0, 0))) ∧ Aa (w'.heap[ao]? = some (.cells #[.int .i64 aC, .int .i64 aQ, u152002] 50 (0, 0))) ∧ Aa (Below w.heap.size w w'))
     case atStart => exact ⟨(0), (0), (by first | rfl | (simp; done) | (simp [*]; done)), (by first | rfl | (simp; done) | (simp [*]; done)), H', ⟨Nat.le_refl _⟩, ⟨by exact rU <| cu.out⟩, ⟨by exact rU <| ab.out⟩, ⟨by exact bU <| aa.out⟩, ⟨by exact bU <| ae.out⟩, ⟨by exact bU <| ag.out⟩, ⟨by repeat (first | (with_reducible first | exact HB.out | apply Af | apply Ac | apply Ai | refine Ag ?_ an.out | refine Ag ?_ av.out | refine Ag ?_ aU.out) | exact HB.out)⟩⟩
     case round =>
      clear H'
      try clear c1
      try clear c2
      try clear p2
      try clear c3
      try clear c4
      try clear b3
      try clear b4
      try clear c5
      try clear c7
      try clear c8
      try clear c14
      try clear c15
      try clear c18
      try clear bZ
      try clear c20
      try clear c21
      try clear bl
      try clear bm
      try clear bo
      try clear bs
      try clear bt
      try clear bu
      try clear bP
      try clear bQ
      try clear bR
      try clear bD
      try clear bE
      try clear bF
      try clear bp
      try clear bq
      try clear br
      try clear bv
      try clear bw
      try clear bz
      try clear bS
      try clear bT
      try clear bV
      try clear bG
      try clear bH
      try clear bI
      try clear p2
      obtain ⟨aT, ai, rfl, rfl, HA, HK2, az, ab, aa, ae, ag, HB⟩ := hrel
      cases gk with
      | zero => exact absurd HA.out (by simp [Ay.l1])
      | succ k2 =>
       have H := HA.out
       clear HA
       simp only [Ay.l1] at H
       by_cases c24 : ai < (aw.length : Int)
       ·rw [if_pos c24] at H
        have cx : decide (ai < (aw.length : Int)) = true := decide_eq_true c24
        clear c24
        by_cases c25 : 0 ≤ ai
        ·rw [if_pos c25] at H
         have dK : decide (0 ≤ ai) = true := decide_eq_true c25
         clear c25
         by_cases c26 : 0 ≤ (rd aw ai)
         ·rw [if_pos c26] at H
          have dL : decide (0 ≤ (rd aw ai)) = true := decide_eq_true c26
          clear c26
          by_cases c27 : (rd aw ai) < (ah.length : Int)
          ·rw [if_pos c27] at H
           have dM : decide ((rd aw ai) < (ah.length : Int)) = true := decide_eq_true c27
           clear c27
           obtain ⟨bq28, bJ⟩ : ∃ b_ : Bool, b_ = (rdOf false ah (rd aw ai)) := ⟨_, rfl⟩
           replace H : (if bq28 = true then (Ay.l1 k2 a1 am aw (wrap64 (aT + 1)) (wrap64 (ai + 1)) aj ak ah aC aQ ac) else (Ay.l1 k2 a1 am aw aT (wrap64 (ai + 1)) aj ak ah aC aQ ac)) = some (r1, r2, r3, r4) := by rw [← bJ] at H; exact H
           have bB := Aa.mk bJ
           clear bJ
           by_cases c29 : bq28 = true
           ·subst c29
            have H1 := H
            rw [if_pos rfl] at H1
            clear H
            have H := H1
            clear H1
            have H' := Aa.mk H
            clear H
            obtain ⟨d4, d5, dr⟩ := Kd.B2 az.out
            subst dr
            try go_wp2
            have n0_ := Aa.mk (Kd.Db az.out)
            have n1_ := Aa.mk (Kd.Db ab.out)
            have n2_ := Aa.mk (Au aa.out)
            have n3_ := Aa.mk (Au ae.out)
            have n4_ := Aa.mk (Au ag.out)
            have n5_ := Aa.mk (Ai HB.out)
            clear az
            clear ab
            clear aa
            clear ae
            clear ag
            clear HB
            have az := n0_
            have ab := n1_
            have aa := n2_
            have ae := n3_
            have ag := n4_
            have HB := n5_
            clear n0_ n1_ n2_ n3_ n4_ n5_
            have be : 0 ≤ (ai : Int) := of_decide_eq_true (by with_reducible assumption)
            have bf : ai < (aw.length : Int) := of_decide_eq_true (by with_reducible assumption)
            obtain ⟨bK, e155, aV⟩ := Kd.at_int (Kd.Bb az.out).2.2 ai be bf
            cases e155
            replace be := eq_true be
            replace bf := eq_true bf
            have bg : 0 ≤ ((rd aw ai) : Int) := of_decide_eq_true (by with_reducible assumption)
            have bh : (rd aw ai) < (ah.length : Int) := of_decide_eq_true (by with_reducible assumption)
            obtain ⟨bc, e156, ap⟩ := Kd.at_bool aZ.out (rd aw ai) bg bh
            have aM := ap
            (try rw [← bB.out] at ap)
            (try rw [← bB.out] at aM)
            cases e156
            replace ap := (HB.out.cell (World.block_lt_of_cell? w _ ap)).trans ap
            replace bg := eq_true bg
            replace bh := eq_true bh
            refine start_ (n := 8) (S := fun w' => w'.cell? ⟨af, 0, none⟩ = some (.int .i64 aj) ∧ w'.cell? ⟨af, 1, none⟩ = some (.int .i64 ak) ∧ w'.cell? ⟨af, 2, none⟩ = some (.slice (some bc) ah.length ar) ∧ w'.cell? (bK.add (ai).toNat) = some (.int .i64 (rd aw ai)) ∧ w'.cell? (bc.add ((rd aw ai)).toNat) = some (.bool true)) (ds := []) #[false, false, false, false, false, false, false, false] (by kernel_rfl) rfl rfl ⟨(Ad aa.out 0).trans rfl, (Ad aa.out 1).trans rfl, (Ad aa.out 2).trans rfl, aV, ((HB.out.cell (World.block_lt_of_cell? w _ aM)).trans aM)⟩ (fun hHeld => ?_); refine with_tabW Ay.tab13 Ay.bits13 (fun HT_ HW_ => ?_)
            generalize wr.drew = w31 at az ab aa ae ag HB aV ap hHeld ⊢
            refine pure_ (i := 0) (N := some 44) (v := ?_) (a' := ?_) (bA 8 1) rfl rfl (any_of HT_.out (by kernel_rfl)) (fun _ _ _ h => h) (Or.inl ⟨by rfl, ?_⟩) ?_ ?_
            rotate_left; (intro w'; go_simp; with_reducible rfl); rotate_left; (simp only [Act.put, sA, sB, sC, i64_w, i32_w]; rfl)
            refine pure_ (i := 2) (N := some 46) (v := ?_) (a' := ?_) (bA 8 5) rfl rfl (any_of HT_.out (by kernel_rfl)) (fun _ _ _ h => h) (Or.inl ⟨by rfl, ?_⟩) ?_ ?_
            rotate_left; (intro w'; go_simp; with_reducible rfl); rotate_left; (simp only [Act.put, sA, sB, sC, i64_w, i32_w]; rfl)
            refine pure_ (i := 3) (N := some 47) (v := ?_) (a' := ?_) (bA 8 13) rfl rfl (any_of HT_.out (by kernel_rfl)) (fun _ _ _ h => h) (Or.inl ⟨by rfl, ?_⟩) ?_ ?_
            rotate_left; (intro w'; go_simp; with_reducible rfl); rotate_left; (simp only [Act.put, sA, sB, sC, i64_w, i32_w]; rfl)
            refine pure_ (i := 4) (N := some 48) (v := ?_) (a' := ?_) (bA 8 29) rfl rfl (any_of HT_.out (by kernel_rfl)) (fun _ _ _ h => h) (Or.inl ⟨by rfl, ?_⟩) ?_ ?_
            rotate_left; (intro w'; go_simp; with_reducible rfl); rotate_left; (simp only [Act.put, sA, sB, sC, i64_w, i32_w]; rfl)
            refine take_ (i := 1) (N := some 45) (v := ?_) (a' := ?_) (bA 8 31) rfl rfl (take_ofW HT_.out HW_.out (by kernel_rfl)) (fun _ _ _ h => h) (Or.inl ⟨by rfl, ?_⟩) hHeld ?_ ?_
            rotate_left; (rintro w' ⟨s0, s1, s2, s3, s4⟩; go_simp; with_reducible rfl); rotate_left; (simp only [Act.put, sA, sB, sC, i64_w, i32_w]; rfl)
            refine take_ (i := 5) (N := some 49) (v := ?_) (a' := ?_) (bA 8 63) rfl rfl (take_ofW HT_.out HW_.out (by kernel_rfl)) (fun _ _ _ h => h) (Or.inl ⟨by rfl, ?_⟩) hHeld ?_ ?_
            rotate_left; (rintro w' ⟨s0, s1, s2, s3, s4⟩; go_simp; with_reducible rfl); rotate_left; (simp only [Act.put, sA, sB, sC, i64_w, i32_w]; rfl)
            refine pure_ (i := 6) (N := some 50) (v := ?_) (a' := ?_) (bA 8 127) rfl rfl (any_of HT_.out (by kernel_rfl)) (fun _ _ _ h => h) (Or.inl ⟨by rfl, ?_⟩) ?_ ?_
            rotate_left; (intro w'; go_simp; with_reducible rfl); rotate_left; (simp only [Act.put, sA, sB, sC, i64_w, i32_w]; rfl)
            refine take_ (i := 7) (N := some 51) (v := ?_) (a' := ?_) (bA 8 255) rfl rfl (take_ofW HT_.out HW_.out (by kernel_rfl)) (fun _ _ _ h => h) (Or.inl ⟨by rfl, ?_⟩) hHeld ?_ ?_
            rotate_left; (rintro w' ⟨s0, s1, s2, s3, s4⟩; go_simp; with_reducible rfl); rotate_left; (simp only [Act.put, sA, sB, sC, i64_w, i32_w]; rfl)
            refine done_ (done_of HT_.out (by kernel_rfl)) ?_
            try go_wp2
            go_roundg k2
            case measure => have := HK1.out; have := HK2.out; omega
            case rel => exact ⟨(wrap64 (aT + 1)), (wrap64 (ai + 1)), (by first | rfl | (simp; done) | (simp [*]; done)), (by first | rfl | (simp; done) | (simp [*]; done)), H', ⟨by have := HK1.out; have := HK2.out; omega⟩, ⟨by exact rU <| az.out⟩, ⟨by exact rU <| ab.out⟩, ⟨by exact bU <| aa.out⟩, ⟨by exact bU <| ae.out⟩, ⟨by exact bU <| ag.out⟩, ⟨by repeat (first | (with_reducible first | exact HB.out | apply Af | apply Ac | apply Ai | refine Ag ?_ an.out | refine Ag ?_ av.out | refine Ag ?_ aU.out) | exact HB.out)⟩⟩
           ·replace c29 := Bool.eq_false_iff.mpr c29
            subst c29
            have H1 := H
            rw [if_neg (show ¬ (false = true) by decide)] at H1
            clear H
            have H := H1
            clear H1
            have H' := Aa.mk H
            clear H
            obtain ⟨d6, d7, dt⟩ := Kd.B2 az.out
            subst dt
            try go_wp2
            have n0_ := Aa.mk (Kd.Db az.out)
            have n1_ := Aa.mk (Kd.Db ab.out)
            have n2_ := Aa.mk (Au aa.out)
            have n3_ := Aa.mk (Au ae.out)
            have n4_ := Aa.mk (Au ag.out)
            have n5_ := Aa.mk (Ai HB.out)
            clear az
            clear ab
            clear aa
            clear ae
            clear ag
            clear HB
            have az := n0_
            have ab := n1_
            have aa := n2_
            have ae := n3_
            have ag := n4_
            have HB := n5_
            clear n0_ n1_ n2_ n3_ n4_ n5_
            have be : 0 ≤ (ai : Int) := of_decide_eq_true (by with_reducible assumption)
            have bf : ai < (aw.length : Int) := of_decide_eq_true (by with_reducible assumption)
            obtain ⟨bK, e155, aV⟩ := Kd.at_int (Kd.Bb az.out).2.2 ai be bf
            cases e155
            replace be := eq_true be
            replace bf := eq_true bf
            have bg : 0 ≤ ((rd aw ai) : Int) := of_decide_eq_true (by with_reducible assumption)
            have bh : (rd aw ai) < (ah.length : Int) := of_decide_eq_true (by with_reducible assumption)
            obtain ⟨bc, e156, ap⟩ := Kd.at_bool aZ.out (rd aw ai) bg bh
            have aM := ap
            (try rw [← bB.out] at ap)
            (try rw [← bB.out] at aM)
            cases e156
            replace ap := (HB.out.cell (World.block_lt_of_cell? w _ ap)).trans ap
            replace bg := eq_true bg
            replace bh := eq_true bh
            refine start_ (n := 8) (S := fun w' => w'.cell? ⟨af, 0, none⟩ = some (.int .i64 aj) ∧ w'.cell? ⟨af, 1, none⟩ = some (.int .i64 ak) ∧ w'.cell? ⟨af, 2, none⟩ = some (.slice (some bc) ah.length ar) ∧ w'.cell? (bK.add (ai).toNat) = some (.int .i64 (rd aw ai)) ∧ w'.cell? (bc.add ((rd aw ai)).toNat) = some (.bool false)) (ds := []) #[false, false, false, false, false, false, false, false] (by kernel_rfl) rfl rfl ⟨(Ad aa.out 0).trans rfl, (Ad aa.out 1).trans rfl, (Ad aa.out 2).trans rfl, aV, ((HB.out.cell (World.block_lt_of_cell? w _ aM)).trans aM)⟩ (fun hHeld => ?_); refine with_tabW Ay.tab13 Ay.bits13 (fun HT_ HW_ => ?_)
            generalize wr.drew = w33 at az ab aa ae ag HB aV ap hHeld ⊢
            refine pure_ (i := 0) (N := some 44) (v := ?_) (a' := ?_) (bA 8 1) rfl rfl (any_of HT_.out (by kernel_rfl)) (fun _ _ _ h => h) (Or.inl ⟨by rfl, ?_⟩) ?_ ?_
            rotate_left; (intro w'; go_simp; with_reducible rfl); rotate_left; (simp only [Act.put, sA, sB, sC, i64_w, i32_w]; rfl)
            refine pure_ (i := 2) (N := some 46) (v := ?_) (a' := ?_) (bA 8 5) rfl rfl (any_of HT_.out (by kernel_rfl)) (fun _ _ _ h => h) (Or.inl ⟨by rfl, ?_⟩) ?_ ?_
            rotate_left; (intro w'; go_simp; with_reducible rfl); rotate_left; (simp only [Act.put, sA, sB, sC, i64_w, i32_w]; rfl)
            refine pure_ (i := 3) (N := some 47) (v := ?_) (a' := ?_) (bA 8 13) rfl rfl (any_of HT_.out (by kernel_rfl)) (fun _ _ _ h => h) (Or.inl ⟨by rfl, ?_⟩) ?_ ?_
            rotate_left; (intro w'; go_simp; with_reducible rfl); rotate_left; (simp only [Act.put, sA, sB, sC, i64_w, i32_w]; rfl)
            refine pure_ (i := 4) (N := some 48) (v := ?_) (a' := ?_) (bA 8 29) rfl rfl (any_of HT_.out (by kernel_rfl)) (fun _ _ _ h => h) (Or.inl ⟨by rfl, ?_⟩) ?_ ?_
            rotate_left; (intro w'; go_simp; with_reducible rfl); rotate_left; (simp only [Act.put, sA, sB, sC, i64_w, i32_w]; rfl)
            refine take_ (i := 1) (N := some 45) (v := ?_) (a' := ?_) (bA 8 31) rfl rfl (take_ofW HT_.out HW_.out (by kernel_rfl)) (fun _ _ _ h => h) (Or.inl ⟨by rfl, ?_⟩) hHeld ?_ ?_
            rotate_left; (rintro w' ⟨s0, s1, s2, s3, s4⟩; go_simp; with_reducible rfl); rotate_left; (simp only [Act.put, sA, sB, sC, i64_w, i32_w]; rfl)
            refine take_ (i := 5) (N := some 49) (v := ?_) (a' := ?_) (bA 8 63) rfl rfl (take_ofW HT_.out HW_.out (by kernel_rfl)) (fun _ _ _ h => h) (Or.inl ⟨by rfl, ?_⟩) hHeld ?_ ?_
            rotate_left; (rintro w' ⟨s0, s1, s2, s3, s4⟩; go_simp; with_reducible rfl); rotate_left; (simp only [Act.put, sA, sB, sC, i64_w, i32_w]; rfl)
            refine pure_ (i := 6) (N := some 50) (v := ?_) (a' := ?_) (bA 8 127) rfl rfl (any_of HT_.out (by kernel_rfl)) (fun _ _ _ h => h) (Or.inl ⟨by rfl, ?_⟩) ?_ ?_
            rotate_left; (intro w'; go_simp; with_reducible rfl); rotate_left; (simp only [Act.put, sA, sB, sC, i64_w, i32_w]; rfl)
            refine take_ (i := 7) (N := some 51) (v := ?_) (a' := ?_) (bA 8 255) rfl rfl (take_ofW HT_.out HW_.out (by kernel_rfl)) (fun _ _ _ h => h) (Or.inl ⟨by rfl, ?_⟩) hHeld ?_ ?_
            rotate_left; (rintro w' ⟨s0, s1, s2, s3, s4⟩; go_simp; with_reducible rfl); rotate_left; (simp only [Act.put, sA, sB, sC, i64_w, i32_w]; rfl)
            refine done_ (done_of HT_.out (by kernel_rfl)) ?_
            try go_wp2
            go_roundg k2
            case measure => have := HK1.out; have := HK2.out; omega
            case rel => exact ⟨(aT), (wrap64 (ai + 1)), (by first | rfl | (simp; done) | (simp [*]; done)), (by first | rfl | (simp; done) | (simp [*]; done)), H', ⟨by have := HK1.out; have := HK2.out; omega⟩, ⟨by exact rU <| az.out⟩, ⟨by exact rU <| ab.out⟩, ⟨by exact bU <| aa.out⟩, ⟨by exact bU <| ae.out⟩, ⟨by exact bU <| ag.out⟩, ⟨by repeat (first | (with_reducible first | exact HB.out | apply Af | apply Ac | apply Ai | refine Ag ?_ an.out | refine Ag ?_ av.out | refine Ag ?_ aU.out) | exact HB.out)⟩⟩
          ·rw [if_neg c27] at H
           exact absurd H (by simp)
         ·rw [if_neg c26] at H
          exact absurd H (by simp)
        ·rw [if_neg c25] at H
         exact absurd H (by simp)
       ·rw [if_neg c24] at H
        have cx : decide (ai < (aw.length : Int)) = false := decide_eq_false c24
        clear c24
        by_cases c34 : 0 ≤ am
        ·rw [if_pos c34] at H
         have dN : decide (0 ≤ am) = true := decide_eq_true c34
         clear c34
         by_cases c35 : am < (ah.length : Int)
         ·rw [if_pos c35] at H
          have dO : decide (am < (ah.length : Int)) = true := decide_eq_true c35
          clear c35
          obtain ⟨bq36, bL⟩ : ∃ b_ : Bool, b_ = (rdOf false ah am) := ⟨_, rfl⟩
          replace H : (if bq36 = true then (if am < (ac.length : Int) then (Ay.l0 k2 a1 (wrap64 (am + 1)) aj ak ah aC aQ (ac.set (am : Int).toNat (decide (aT < a1)))) else (none)) else (if am < (ac.length : Int) then (Ay.l0 k2 a1 (wrap64 (am + 1)) aj ak ah aC aQ (ac.set (am : Int).toNat false)) else (none))) = some (r1, r2, r3, r4) := by rw [← bL] at H; exact H
          have bC := Aa.mk bL
          clear bL
          by_cases c37 : bq36 = true
          ·subst c37
           have H1 := H
           rw [if_pos rfl] at H1
           clear H
           have H := H1
           clear H1
           by_cases c38 : am < (ac.length : Int)
           ·rw [if_pos c38] at H
            have dP : decide (am < (ac.length : Int)) = true := decide_eq_true c38
            clear c38
            obtain ⟨du, bM⟩ : ∃ y_ : List Bool, y_ = (ac.set (am : Int).toNat (decide (aT < a1))) := ⟨_, rfl⟩
            (try rw [Option.bind_some] at H); try rw [← bM] at H
            have cy := Aa.mk bM
            clear bM
            have H' := Aa.mk H
            clear H
            obtain ⟨d8, d9, dv⟩ := Kd.B2 az.out
            subst dv
            try go_wp2
            have n0_ := Aa.mk (Kd.Db az.out)
            have n1_ := Aa.mk (Kd.Db ab.out)
            have n2_ := Aa.mk (Au aa.out)
            have n3_ := Aa.mk (Au ae.out)
            have n4_ := Aa.mk (Au ag.out)
            have n5_ := Aa.mk (Ai HB.out)
            clear az
            clear ab
            clear aa
            clear ae
            clear ag
            clear HB
            have az := n0_
            have ab := n1_
            have aa := n2_
            have ae := n3_
            have ag := n4_
            have HB := n5_
            clear n0_ n1_ n2_ n3_ n4_ n5_
            have bj : 0 ≤ (am : Int) := of_decide_eq_true (by with_reducible assumption)
            have bk : am < (ah.length : Int) := of_decide_eq_true (by with_reducible assumption)
            obtain ⟨bd, e157, aq⟩ := Kd.at_bool aZ.out am bj bk
            have aN := aq
            (try rw [← bC.out] at aq)
            (try rw [← bC.out] at aN)
            cases e157
            replace aq := (HB.out.cell (World.block_lt_of_cell? w _ aq)).trans aq
            replace bj := eq_true bj
            replace bk := eq_true bk
            have p39 : 0 ≤ (am : Int) := of_decide_eq_true (by with_reducible assumption)
            have q39 : (am : Int) < ((ac.length : Int) : Int) := of_decide_eq_true (by with_reducible assumption)
            obtain ⟨go39, cz, cA, cB, gl39, cl39, HG39⟩ := Kd.Di ab.out (by omega)
            (first | cases cA | (injection cA with ea_ en_ ec_; (first | subst ea_ | (injection ea_ with ea_; subst ea_)); subst ec_; clear en_))
            have GB39 := Aa.mk cB
            have GG39 := Aa.mk HG39
            clear cB gl39 HG39
            obtain ⟨b5, b6⟩ := Kd.C8 false ab.out (am : Int) p39 q39
            replace p39 := eq_true p39
            replace q39 := eq_true q39
            have b7 := Kd.R_putn ab.out (am : Int) (decide (aT < a1))
            rw [← cy.out] at b7
            have HQ42 := Aa.mk b7
            clear b7
            refine start_ (n := 15) (S := fun w' => w'.cell? ⟨ao, 0, none⟩ = some (.int .i64 aC) ∧ w'.cell? ⟨ao, 1, none⟩ = some (.int .i64 aQ) ∧ w'.cell? ⟨ao, 2, none⟩ = some (.slice (some ⟨go39, 0, none⟩) ac.length cz) ∧ w'.cell? ⟨af, 0, none⟩ = some (.int .i64 aj) ∧ w'.cell? ⟨af, 1, none⟩ = some (.int .i64 ak) ∧ w'.cell? ⟨af, 2, none⟩ = some (.slice (some bd) ah.length ar) ∧ w'.cell? (bd.add (am).toNat) = some (.bool true)) (ds := [14]) #[false, false, false, false, false, false, false, false, false, false, false, false, false, false, false] (by kernel_rfl) rfl rfl ⟨(Ad ag.out 0).trans rfl, (Ad ag.out 1).trans rfl, (Ad ag.out 2).trans rfl, (Ad aa.out 0).trans rfl, (Ad aa.out 1).trans rfl, (Ad aa.out 2).trans rfl, ((HB.out.cell (World.block_lt_of_cell? w _ aN)).trans aN)⟩ (fun hHeld => ?_); refine with_tabW Ay.tab15 Ay.bits15 (fun HT_ HW_ => ?_)
            generalize wr.drew = w41 at az ab aa ae ag HB GG39 HQ42 b6 aq b5 hHeld ⊢
            refine pure_ (i := 0) (N := some 54) (v := ?_) (a' := ?_) (bA 15 1) rfl rfl (any_of HT_.out (by kernel_rfl)) (fun _ _ _ h => h) (Or.inl ⟨by rfl, ?_⟩) ?_ ?_
            rotate_left; (intro w'; go_simp; with_reducible rfl); rotate_left; (simp only [Act.put, sA, sB, sC, i64_w, i32_w]; rfl)
            refine pure_ (i := 2) (N := some 56) (v := ?_) (a' := ?_) (bA 15 5) rfl rfl (any_of HT_.out (by kernel_rfl)) (fun _ _ _ h => h) (Or.inl ⟨by rfl, ?_⟩) ?_ ?_
            rotate_left; (intro w'; go_simp; with_reducible rfl); rotate_left; (simp only [Act.put, sA, sB, sC, i64_w, i32_w]; rfl)
            refine pure_ (i := 3) (N := some 57) (v := ?_) (a' := ?_) (bA 15 13) rfl rfl (any_of HT_.out (by kernel_rfl)) (fun _ _ _ h => h) (Or.inl ⟨by rfl, ?_⟩) ?_ ?_
            rotate_left; (intro w'; go_simp; with_reducible rfl); rotate_left; (simp only [Act.put, sA, sB, sC, i64_w, i32_w]; rfl)
            refine pure_ (i := 5) (N := some 59) (v := ?_) (a' := ?_) (bA 15 45) rfl rfl (any_of HT_.out (by kernel_rfl)) (fun _ _ _ h => h) (Or.inl ⟨by rfl, ?_⟩) ?_ ?_
            rotate_left; (intro w'; go_simp; with_reducible rfl); rotate_left; (simp only [Act.put, sA, sB, sC, i64_w, i32_w]; rfl)
            refine take_ (i := 1) (N := some 55) (v := ?_) (a' := ?_) (bA 15 47) rfl rfl (take_ofW HT_.out HW_.out (by kernel_rfl)) (fun _ _ _ h => h) (Or.inl ⟨by rfl, ?_⟩) hHeld ?_ ?_
            rotate_left; (rintro w' ⟨s0, s1, s2, s3, s4, s5, s6⟩; go_simp; with_reducible rfl); rotate_left; (simp only [Act.put, sA, sB, sC, i64_w, i32_w]; rfl)
            refine take_ (i := 4) (N := some 58) (v := ?_) (a' := ?_) (bA 15 63) rfl rfl (take_ofW HT_.out HW_.out (by kernel_rfl)) (fun _ _ _ h => h) (Or.inl ⟨by rfl, ?_⟩) hHeld ?_ ?_
            rotate_left; (rintro w' ⟨s0, s1, s2, s3, s4, s5, s6⟩; go_simp; with_reducible rfl); rotate_left; (simp only [Act.put, sA, sB, sC, i64_w, i32_w]; rfl)
            refine pure_ (i := 6) (N := some 60) (v := ?_) (a' := ?_) (bA 15 127) rfl rfl (any_of HT_.out (by kernel_rfl)) (fun _ _ _ h => h) (Or.inl ⟨by rfl, ?_⟩) ?_ ?_
            rotate_left; (intro w'; go_simp; with_reducible rfl); rotate_left; (simp only [Act.put, sA, sB, sC, i64_w, i32_w]; rfl)
            refine take_ (i := 7) (N := some 61) (v := ?_) (a' := ?_) (bA 15 255) rfl rfl (take_ofW HT_.out HW_.out (by kernel_rfl)) (fun _ _ _ h => h) (Or.inl ⟨by rfl, ?_⟩) hHeld ?_ ?_
            rotate_left; (rintro w' ⟨s0, s1, s2, s3, s4, s5, s6⟩; go_simp; with_reducible rfl); rotate_left; (simp only [Act.put, sA, sB, sC, i64_w, i32_w]; rfl)
            refine pure_ (i := 8) (N := some 62) (v := ?_) (a' := ?_) (bA 15 511) rfl rfl (any_of HT_.out (by kernel_rfl)) (fun _ _ _ h => h) (Or.inl ⟨by rfl, ?_⟩) ?_ ?_
            rotate_left; (intro w'; go_simp; with_reducible rfl); rotate_left; (simp only [Act.put, sA, sB, sC, i64_w, i32_w]; rfl)
            refine pure_ (i := 9) (N := some 63) (v := ?_) (a' := ?_) (bA 15 1023) rfl rfl (any_of HT_.out (by kernel_rfl)) (fun _ _ _ h => h) (Or.inl ⟨by rfl, ?_⟩) ?_ ?_
            rotate_left; (intro w'; go_simp; with_reducible rfl); rotate_left; (simp only [Act.put, sA, sB, sC, i64_w, i32_w]; rfl)
            refine pure_ (i := 10) (N := some 64) (v := ?_) (a' := ?_) (bA 15 2047) rfl rfl (any_of HT_.out (by kernel_rfl)) (fun _ _ _ h => h) (Or.inl ⟨by rfl, ?_⟩) ?_ ?_
            rotate_left; (intro w'; go_simp; with_reducible rfl); rotate_left; (simp only [Act.put, sA, sB, sC, i64_w, i32_w]; rfl)
            refine pure_ (i := 11) (N := some 65) (v := ?_) (a' := ?_) (bA 15 4095) rfl rfl (any_of HT_.out (by kernel_rfl)) (fun _ _ _ h => h) (Or.inl ⟨by rfl, ?_⟩) ?_ ?_
            rotate_left; (intro w'; go_simp; with_reducible rfl); rotate_left; (simp only [Act.put, sA, sB, sC, i64_w, i32_w]; rfl)
            refine pure_ (i := 12) (N := some 66) (v := ?_) (a' := ?_) (bA 15 8191) rfl rfl (any_of HT_.out (by kernel_rfl)) (fun _ _ _ h => h) (Or.inl ⟨by rfl, ?_⟩) ?_ ?_
            rotate_left; (intro w'; go_simp; with_reducible rfl); rotate_left; (simp only [Act.put, sA, sB, sC, i64_w, i32_w]; rfl)
            refine pure_ (i := 13) (N := some 67) (v := ?_) (a' := ?_) (bA 15 16383) rfl rfl (any_of HT_.out (by kernel_rfl)) (fun _ _ _ h => h) (Or.inl ⟨by rfl, ?_⟩) ?_ ?_
            rotate_left; (intro w'; go_simp; with_reducible rfl); rotate_left; (simp only [Act.put, sA, sB, sC, i64_w, i32_w]; rfl)
            refine last_ (i := 14) (N := none) (bA 15 32767) rfl rfl (one_of HT_.out (by kernel_rfl)) (by decide) (fun K hK => ?_)
            refine skip_ (w1 := ?_) (by rfl) rfl ?_ ?_
            rotate_left
            ·go_simp
             rfl
            refine hK.out _ _ ?_
            clear hK K
            refine done_ (done_of HT_.out (by kernel_rfl)) ?_
            try go_wp2
            go_roundg k2
            case measure => have := HK1.out; have := HK2.out; omega
            case rel => exact ⟨(wrap64 (am + 1)), (du), (.slice (some ⟨go39, 0, none⟩) ac.length cz), (by first | rfl | (simp; done) | (simp [*]; done)), H', ⟨by have := HK1.out; have := HK2.out; omega⟩, ⟨by exact rU <| HQ42.out⟩, ⟨by (with_reducible repeat (first | refine Ax ?_ _ | refine Au ?_ | refine Ak ?_ _)); refine Bh ?_ (by have h_ := Kd.Dd ab.out aa.out (by decide); intro e_; exact h_ (by rw [e_]; rfl)) _; exact bU <| aa.out⟩, ⟨by (with_reducible repeat (first | refine Ax ?_ _ | refine Au ?_ | refine Ak ?_ _)); refine Bh ?_ (by have h_ := Kd.Dd ab.out ae.out (by decide); intro e_; exact h_ (by rw [e_]; rfl)) _; exact bU <| ae.out⟩, ⟨by (with_reducible repeat (first | refine Ax ?_ _ | refine Au ?_ | refine Ak ?_ _)); refine Bh ?_ (by have h_ := Kd.Dd ab.out ag.out (by decide); intro e_; exact h_ (by rw [e_]; rfl)) _; exact bU <| ag.out⟩, ⟨by repeat (first | (with_reducible first | exact HB.out | apply Af | apply Ac | apply Ai | refine Ag ?_ GB39.out | refine Ag ?_ an.out | refine Ag ?_ av.out | refine Ag ?_ aU.out) | exact HB.out)⟩⟩
           ·rw [if_neg c38] at H
            exact absurd H (by simp)
          ·replace c37 := Bool.eq_false_iff.mpr c37
           subst c37
           have H1 := H
           rw [if_neg (show ¬ (false = true) by decide)] at H1
           clear H
           have H := H1
           clear H1
           by_cases c43 : am < (ac.length : Int)
           ·rw [if_pos c43] at H
            have dQ : decide (am < (ac.length : Int)) = true := decide_eq_true c43
            clear c43
            obtain ⟨dw, bN⟩ : ∃ y_ : List Bool, y_ = (ac.set (am : Int).toNat false) := ⟨_, rfl⟩
            (try rw [Option.bind_some] at H); try rw [← bN] at H
            have cC := Aa.mk bN
            clear bN
            have H' := Aa.mk H
            clear H
            obtain ⟨ec, ed, dz⟩ := Kd.B2 az.out
            subst dz
            try go_wp2
            have n0_ := Aa.mk (Kd.Db az.out)
            have n1_ := Aa.mk (Kd.Db ab.out)
            have n2_ := Aa.mk (Au aa.out)
            have n3_ := Aa.mk (Au ae.out)
            have n4_ := Aa.mk (Au ag.out)
            have n5_ := Aa.mk (Ai HB.out)
            clear az
            clear ab
            clear aa
            clear ae
            clear ag
            clear HB
            have az := n0_
            have ab := n1_
            have aa := n2_
            have ae := n3_
            have ag := n4_
            have HB := n5_
            clear n0_ n1_ n2_ n3_ n4_ n5_
            have bj : 0 ≤ (am : Int) := of_decide_eq_true (by with_reducible assumption)
            have bk : am < (ah.length : Int) := of_decide_eq_true (by with_reducible assumption)
            obtain ⟨bd, e157, aq⟩ := Kd.at_bool aZ.out am bj bk
            have aN := aq
            (try rw [← bC.out] at aq)
            (try rw [← bC.out] at aN)
            cases e157
            replace aq := (HB.out.cell (World.block_lt_of_cell? w _ aq)).trans aq
            replace bj := eq_true bj
            replace bk := eq_true bk
            have p44 : 0 ≤ (am : Int) := of_decide_eq_true (by with_reducible assumption)
            have q44 : (am : Int) < ((ac.length : Int) : Int) := of_decide_eq_true (by with_reducible assumption)
            obtain ⟨go44, cD, cE, cF, gl44, cl44, HG44⟩ := Kd.Di ab.out (by omega)
            (first | cases cE | (injection cE with ea_ en_ ec_; (first | subst ea_ | (injection ea_ with ea_; subst ea_)); subst ec_; clear en_))
            have GB44 := Aa.mk cF
            have GG44 := Aa.mk HG44
            clear cF gl44 HG44
            obtain ⟨b8, b9⟩ := Kd.C8 false ab.out (am : Int) p44 q44
            replace p44 := eq_true p44
            replace q44 := eq_true q44
            have cd := Kd.R_putn ab.out (am : Int) false
            rw [← cC.out] at cd
            have HQ47 := Aa.mk cd
            clear cd
            refine start_ (n := 15) (S := fun w' => w'.cell? ⟨ao, 0, none⟩ = some (.int .i64 aC) ∧ w'.cell? ⟨ao, 1, none⟩ = some (.int .i64 aQ) ∧ w'.cell? ⟨ao, 2, none⟩ = some (.slice (some ⟨go44, 0, none⟩) ac.length cD) ∧ w'.cell? ⟨af, 0, none⟩ = some (.int .i64 aj) ∧ w'.cell? ⟨af, 1, none⟩ = some (.int .i64 ak) ∧ w'.cell? ⟨af, 2, none⟩ = some (.slice (some bd) ah.length ar) ∧ w'.cell? (bd.add (am).toNat) = some (.bool false)) (ds := [14]) #[false, false, false, false, false, false, false, false, false, false, false, false, false, false, false] (by kernel_rfl) rfl rfl ⟨(Ad ag.out 0).trans rfl, (Ad ag.out 1).trans rfl, (Ad ag.out 2).trans rfl, (Ad aa.out 0).trans rfl, (Ad aa.out 1).trans rfl, (Ad aa.out 2).trans rfl, ((HB.out.cell (World.block_lt_of_cell? w _ aN)).trans aN)⟩ (fun hHeld => ?_); refine with_tabW Ay.tab15 Ay.bits15 (fun HT_ HW_ => ?_)
            generalize wr.drew = w46 at az ab aa ae ag HB GG44 HQ47 b9 aq b8 hHeld ⊢
            refine pure_ (i := 0) (N := some 54) (v := ?_) (a' := ?_) (bA 15 1) rfl rfl (any_of HT_.out (by kernel_rfl)) (fun _ _ _ h => h) (Or.inl ⟨by rfl, ?_⟩) ?_ ?_
            rotate_left; (intro w'; go_simp; with_reducible rfl); rotate_left; (simp only [Act.put, sA, sB, sC, i64_w, i32_w]; rfl)
            refine pure_ (i := 2) (N := some 56) (v := ?_) (a' := ?_) (bA 15 5) rfl rfl (any_of HT_.out (by kernel_rfl)) (fun _ _ _ h => h) (Or.inl ⟨by rfl, ?_⟩) ?_ ?_
            rotate_left; (intro w'; go_simp; with_reducible rfl); rotate_left; (simp only [Act.put, sA, sB, sC, i64_w, i32_w]; rfl)
            refine pure_ (i := 3) (N := some 57) (v := ?_) (a' := ?_) (bA 15 13) rfl rfl (any_of HT_.out (by kernel_rfl)) (fun _ _ _ h => h) (Or.inl ⟨by rfl, ?_⟩) ?_ ?_
            rotate_left; (intro w'; go_simp; with_reducible rfl); rotate_left; (simp only [Act.put, sA, sB, sC, i64_w, i32_w]; rfl)
            refine pure_ (i := 5) (N := some 59) (v := ?_) (a' := ?_) (bA 15 45) rfl rfl (any_of HT_.out (by kernel_rfl)) (fun _ _ _ h => h) (Or.inl ⟨by rfl, ?_⟩) ?_ ?_
            rotate_left; (intro w'; go_simp; with_reducible rfl); rotate_left; (simp only [Act.put, sA, sB, sC, i64_w, i32_w]; rfl)
            refine take_ (i := 1) (N := some 55) (v := ?_) (a' := ?_) (bA 15 47) rfl rfl (take_ofW HT_.out HW_.out (by kernel_rfl)) (fun _ _ _ h => h) (Or.inl ⟨by rfl, ?_⟩) hHeld ?_ ?_
            rotate_left; (rintro w' ⟨s0, s1, s2, s3, s4, s5, s6⟩; go_simp; with_reducible rfl); rotate_left; (simp only [Act.put, sA, sB, sC, i64_w, i32_w]; rfl)
            refine take_ (i := 4) (N := some 58) (v := ?_) (a' := ?_) (bA 15 63) rfl rfl (take_ofW HT_.out HW_.out (by kernel_rfl)) (fun _ _ _ h => h) (Or.inl ⟨by rfl, ?_⟩) hHeld ?_ ?_
            rotate_left; (rintro w' ⟨s0, s1, s2, s3, s4, s5, s6⟩; go_simp; with_reducible rfl); rotate_left; (simp only [Act.put, sA, sB, sC, i64_w, i32_w]; rfl)
            refine pure_ (i := 6) (N := some 60) (v := ?_) (a' := ?_) (bA 15 127) rfl rfl (any_of HT_.out (by kernel_rfl)) (fun _ _ _ h => h) (Or.inl ⟨by rfl, ?_⟩) ?_ ?_
            rotate_left; (intro w'; go_simp; with_reducible rfl); rotate_left; (simp only [Act.put, sA, sB, sC, i64_w, i32_w]; rfl)
            refine take_ (i := 7) (N := some 61) (v := ?_) (a' := ?_) (bA 15 255) rfl rfl (take_ofW HT_.out HW_.out (by kernel_rfl)) (fun _ _ _ h => h) (Or.inl ⟨by rfl, ?_⟩) hHeld ?_ ?_
            rotate_left; (rintro w' ⟨s0, s1, s2, s3, s4, s5, s6⟩; go_simp; with_reducible rfl); rotate_left; (simp only [Act.put, sA, sB, sC, i64_w, i32_w]; rfl)
            refine pure_ (i := 8) (N := some 62) (v := ?_) (a' := ?_) (bA 15 511) rfl rfl (any_of HT_.out (by kernel_rfl)) (fun _ _ _ h => h) (Or.inl ⟨by rfl, ?_⟩) ?_ ?_
            rotate_left; (intro w'; go_simp; with_reducible rfl); rotate_left; (simp only [Act.put, sA, sB, sC, i64_w, i32_w]; rfl)
            refine pure_ (i := 9) (N := some 63) (v := undef) (a' := ?_) (bA 15 1023) rfl rfl (any_of HT_.out (by kernel_rfl)) (fun _ _ _ h => h) (Or.inr ⟨by rfl, rfl⟩) ?_ ?_
            rotate_left
            ·simp only [Act.put, sA, sB, sC, i64_w, i32_w]
             rfl
            refine pure_ (i := 10) (N := some 64) (v := undef) (a' := ?_) (bA 15 2047) rfl rfl (any_of HT_.out (by kernel_rfl)) (fun _ _ _ h => h) (Or.inr ⟨by rfl, rfl⟩) ?_ ?_
            rotate_left
            ·simp only [Act.put, sA, sB, sC, i64_w, i32_w]
             rfl
            refine pure_ (i := 11) (N := some 65) (v := undef) (a' := ?_) (bA 15 4095) rfl rfl (any_of HT_.out (by kernel_rfl)) (fun _ _ _ h => h) (Or.inr ⟨by rfl, rfl⟩) ?_ ?_
            rotate_left
            ·simp only [Act.put, sA, sB, sC, i64_w, i32_w]
             rfl
            refine pure_ (i := 12) (N := some 66) (v := ?_) (a' := ?_) (bA 15 8191) rfl rfl (any_of HT_.out (by kernel_rfl)) (fun _ _ _ h => h) (Or.inl ⟨by rfl, ?_⟩) ?_ ?_
            rotate_left; (intro w'; go_simp; with_reducible rfl); rotate_left; (simp only [Act.put, sA, sB, sC, i64_w, i32_w]; rfl)
            refine pure_ (i := 13) (N := some 67) (v := ?_) (a' := ?_) (bA 15 16383) rfl rfl (any_of HT_.out (by kernel_rfl)) (fun _ _ _ h => h) (Or.inl ⟨by rfl, ?_⟩) ?_ ?_
            rotate_left; (intro w'; go_simp; with_reducible rfl); rotate_left; (simp only [Act.put, sA, sB, sC, i64_w, i32_w]; rfl)
            refine last_ (i := 14) (N := none) (bA 15 32767) rfl rfl (one_of HT_.out (by kernel_rfl)) (by decide) (fun K hK => ?_)
            refine skip_ (w1 := ?_) (by rfl) rfl ?_ ?_
            rotate_left
            ·go_simp
             rfl
            refine hK.out _ _ ?_
            clear hK K
            refine done_ (done_of HT_.out (by kernel_rfl)) ?_
            try go_wp2
            go_roundg k2
            case measure => have := HK1.out; have := HK2.out; omega
            case rel => exact ⟨(wrap64 (am + 1)), (dw), (.slice (some ⟨go44, 0, none⟩) ac.length cD), (by first | rfl | (simp; done) | (simp [*]; done)), H', ⟨by have := HK1.out; have := HK2.out; omega⟩, ⟨by exact rU <| HQ47.out⟩, ⟨by (with_reducible repeat (first | refine Ax ?_ _ | refine Au ?_ | refine Ak ?_ _)); refine Bh ?_ (by have h_ := Kd.Dd ab.out aa.out (by decide); intro e_; exact h_ (by rw [e_]; rfl)) _; exact bU <| aa.out⟩, ⟨by (with_reducible repeat (first | refine Ax ?_ _ | refine Au ?_ | refine Ak ?_ _)); refine Bh ?_ (by have h_ := Kd.Dd ab.out ae.out (by decide); intro e_; exact h_ (by rw [e_]; rfl)) _; exact bU <| ae.out⟩, ⟨by (with_reducible repeat (first | refine Ax ?_ _ | refine Au ?_ | refine Ak ?_ _)); refine Bh ?_ (by have h_ := Kd.Dd ab.out ag.out (by decide); intro e_; exact h_ (by rw [e_]; rfl)) _; exact bU <| ag.out⟩, ⟨by repeat (first | (with_reducible first | exact HB.out | apply Af | apply Ac | apply Ai | refine Ag ?_ GB44.out | refine Ag ?_ an.out | refine Ag ?_ av.out | refine Ag ?_ aU.out) | exact HB.out)⟩⟩
           ·rw [if_neg c43] at H
            exact absurd H (by simp)
         ·rw [if_neg c35] at H
          exact absurd H (by simp)
        ·rw [if_neg c34] at H
         exact absurd H (by simp)
    ·rw [if_neg c18] at H
     have bZ : decide (am < (ah.length : Int)) = false := decide_eq_false c18
     clear c18
     simp only [Option.some.injEq, Prod.mk.injEq] at H
     obtain ⟨rfl, rfl, rfl, rfl⟩ := H
     have dR := aD.out
     have dS := aE.out
     have dT := aA.out
     have dU := aX.out
     have cI : wr.cell? ⟨af, 0, none⟩ = some (.int .i64 aj) := (Ad aa.out 0).trans rfl
     have cJ : wr.cell? ⟨af, 1, none⟩ = some (.int .i64 ak) := (Ad aa.out 1).trans rfl
     have cK : wr.cell? ⟨af, 2, none⟩ = some (.slice ax ah.length ar) := (Ad aa.out 2).trans rfl
     have cL := Ah aa.out 0
     have cM := Ah aa.out 1
     have cO := Ah aa.out 2
     have dV := ba.out
     have dW := aG.out
     have cP : wr.cell? ⟨ao, 0, none⟩ = some (.int .i64 aC) := (Ad ag.out 0).trans rfl
     have cQ : wr.cell? ⟨ao, 1, none⟩ = some (.int .i64 aQ) := (Ad ag.out 1).trans rfl
     have cR : wr.cell? ⟨ao, 2, none⟩ = some (u152002) := (Ad ag.out 2).trans rfl
     have cS := Ah ag.out 0
     have cU := Ah ag.out 1
     have cV := Ah ag.out 2
     have cW : wr.cell? ⟨al, 0, none⟩ = some (.int .i64 0) := (Ad ae.out 0).trans rfl
     have cX : wr.cell? ⟨al, 1, none⟩ = some (.int .i64 0) := (Ad ae.out 1).trans rfl
     have cY : wr.cell? ⟨al, 2, none⟩ = some (.slice none 0 0) := (Ad ae.out 2).trans rfl
     have cZ := Ah ae.out 0
     have da := Ah ae.out 1
     have db := Ah ae.out 2
     obtain ⟨cG, cH, dA⟩ := Kd.B2 ab.out
     subst dA
     go_wp2
     refine bodyPost_ret (results_ct rfl _ _ al 50 #[.int .i64 aC, .int .i64 aQ, .slice cG ac.length cH] (0, 0) _ rfl (by (with_reducible repeat (first | refine Ax ?_ _ | refine Au ?_ | refine Ak ?_ _)); refine Bj (cs := #[.int .i64 aC, .int .i64 aQ, .slice none 0 0]) ?_ 2 _ rfl; (with_reducible repeat (first | refine Ax ?_ _ | refine Au ?_ | refine Ak ?_ _)); refine Bj (cs := #[.int .i64 aC, .int .i64 0, .slice none 0 0]) ?_ 1 _ rfl; (with_reducible repeat (first | refine Ax ?_ _ | refine Au ?_ | refine Ak ?_ _)); refine Bj (cs := #[.int .i64 0, .int .i64 0, .slice none 0 0]) ?_ 0 _ rfl; exact bU <| ae.out) Try.underlying50 rfl (by kernel_rfl)) rfl ?_
     exact ⟨_, by first | rfl | (simp [Bd, Bc] <;> rfl) | (simp [*, Bd, Bc] <;> rfl), by exact rU <| Kd.Bs (Kd.Bk (p := ⟨al, 2, none⟩) (Kd.Bk (p := ⟨al, 1, none⟩) (Kd.Bk (p := ⟨al, 0, none⟩) (Kd.B7 ab.out ae.out (by decide)) (fun _ hk => hk.2) (.int .i64 aC)) (fun _ hk => hk.2) (.int .i64 aQ)) (fun _ hk => hk.2) (.slice cG ac.length cH)) (fun _ hk => trivial), by repeat (first | (with_reducible first | exact HB.out | apply Af | apply Ac | apply Ai | refine Ag ?_ an.out | refine Ag ?_ av.out | refine Ag ?_ aU.out) | exact HB.out)⟩
 ·rw [if_neg c4] at H
  have b3 : (aW == 0) = false := beq_eq_false_iff_ne.mpr c4
  have b4 : (aW != 0) = true := bne_iff_ne.mpr c4
  simp only [Option.some.injEq, Prod.mk.injEq] at H
  obtain ⟨rfl, rfl, rfl, rfl⟩ := H
  go_enter Try.func24, Try.ntmps24
  go_wp2_with (first | ((with_reducible refine Br (N := 2) rfl ?_); refine Bt ?hg (N := 2) ?hd (cs := #[.int .i64 aj, .int .i64 ak, .slice ax ah.length ar]) (t := 50) ?hr ?_; (case hd => rfl); (case hg => rfl); (case hr => first | (go_simp; done) | (go_simp; rfl)); intro af hg w55 hbox hb; have n0_ := Aa.mk (At (lU HB.out) hb); have n1_ := Aa.mk (hbox); have n2_ := Aa.mk ((by rw [hg]; exact (An (lU HB.out)) : w.heap.size ≤ af)); have n3_ := Aa.mk ((by rw [hg]; exact (An (lU HB.out)) : w.heap.size ≤ af)); clear HB; have HB := n0_; have aa := n1_; have cg := n2_; have an := n3_; clear n0_ n1_ n2_ n3_; clear hb hbox hg) | ((with_reducible refine Br (N := 4) rfl ?_); refine Bt ?hg (N := 4) ?hd (cs := #[.int .i64 0, .int .i64 0, .slice none 0 0]) (t := 50) ?hr ?_; (case hd => rfl); (case hg => rfl); (case hr => first | (go_simp; done) | (go_simp; rfl)); intro al hg w56 hbox hb; have n0_ := Aa.mk (Ap (g := af) (o := .cells #[.int .i64 aj, .int .i64 ak, .slice ax ah.length ar] 50 (0, 0)) (by exact bU <| aa.out) hb); have n1_ := Aa.mk (At (by repeat (first | (with_reducible first | exact HB.out | apply Af | apply Ac | apply Ai | refine Ag ?_ an.out) | exact HB.out)) hb); have n2_ := Aa.mk (hbox); have n3_ := Aa.mk ((by rw [hg]; exact (An (by repeat (first | (with_reducible first | exact HB.out | apply Af | apply Ac | apply Ai | refine Ag ?_ an.out) | exact HB.out))) : w.heap.size ≤ al)); have n4_ := Aa.mk ((by rw [hg]; exact (An (by repeat (first | (with_reducible first | exact HB.out | apply Af | apply Ac | apply Ai | refine Ag ?_ an.out) | exact HB.out))) : w.heap.size ≤ al)); have n5_ := Aa.mk ((by rw [hg]; exact Nat.ne_of_lt (Bv (g := af) (o := .cells #[.int .i64 aj, .int .i64 ak, .slice ax ah.length ar] 50 (0, 0)) (by exact bU <| aa.out)) : af ≠ al)); have n6_ := Aa.mk ((by rw [hg]; exact Nat.ne_of_gt (Bv (g := af) (o := .cells #[.int .i64 aj, .int .i64 ak, .slice ax ah.length ar] 50 (0, 0)) (by exact bU <| aa.out)) : al ≠ af)); clear aa; clear HB; have aa := n0_; have HB := n1_; have ae := n2_; have ck := n3_; have av := n4_; have aD := n5_; have aE := n6_; clear n0_ n1_ n2_ n3_ n4_ n5_ n6_; clear hb hbox hg; have dX := aD.out; have dY := aE.out; have dc : w56.cell? ⟨af, 0, none⟩ = some (.int .i64 aj) := (Ad aa.out 0).trans rfl; have dd : w56.cell? ⟨af, 1, none⟩ = some (.int .i64 ak) := (Ad aa.out 1).trans rfl; have de : w56.cell? ⟨af, 2, none⟩ = some (.slice ax ah.length ar) := (Ad aa.out 2).trans rfl; have df := Ah aa.out 0; have dg := Ah aa.out 1; have dh := Ah aa.out 2) | ((with_reducible refine Bo (f := 70) rfl ?_); refine Cd (some 14) rfl rfl Try.func70 (by kernel_rfl) rfl #[.agg #[.int .i64 aj, .int .i64 ak, .slice ax ah.length ar], .int .i64 a1] rfl (by (try simp only [List.map_toArray, List.map_cons, List.map_nil]); first | done | rfl | (simp only [List.length_drop, List.length_take]; rfl)) ?_; (with_reducible refine (Ci.calls aj ak _ _ ah a1 aW _ ?side1 ?side2 A3.out).mono ?_); (case side1 => repeat (first | exact (Kd.B8 aZ.out HB.out) | (with_reducible refine Kd.Bu ?_ _) | (with_reducible refine Kd.B4 ?_ _) | (with_reducible refine Kd.Cb ?_))); (case side2 => exact bY.out); rintro e w59 ⟨rfl, hb⟩; refine ⟨_, rfl, ?_⟩; have n0_ := Aa.mk (Ap (g := af) (o := .cells #[.int .i64 aj, .int .i64 ak, .slice ax ah.length ar] 50 (0, 0)) (by exact bU <| aa.out) hb); have n1_ := Aa.mk (Ap (g := al) (o := .cells #[.int .i64 0, .int .i64 0, .slice none 0 0] 50 (0, 0)) (by exact bU <| ae.out) hb); have n2_ := Aa.mk (At (by repeat (first | (with_reducible first | exact HB.out | apply Af | apply Ac | apply Ai | refine Ag ?_ an.out | refine Ag ?_ av.out) | exact HB.out)) hb); clear aa; clear ae; clear HB; have aa := n0_; have ae := n1_; have HB := n2_; clear n0_ n1_ n2_; (try clear hb); (try clear hb2); (try clear hk); (try clear hi); have di : w59.cell? ⟨al, 0, none⟩ = some (.int .i64 0) := (Ad ae.out 0).trans rfl; have dj : w59.cell? ⟨al, 1, none⟩ = some (.int .i64 0) := (Ad ae.out 1).trans rfl; have dk : w59.cell? ⟨al, 2, none⟩ = some (.slice none 0 0) := (Ad ae.out 2).trans rfl; have dl := Ah ae.out 0; have dn := Ah ae.out 1; have dp := Ah ae.out 2))
  refine bodyPost_ret (results_ct rfl _ _ al 50 #[.int .i64 0, .int .i64 0, .slice none 0 0] (0, 0) _ rfl (by (with_reducible repeat (first | refine Ax ?_ _ | refine Au ?_ | refine Ak ?_ _)); refine Bj (cs := #[.int .i64 0, .int .i64 0, .slice none 0 0]) ?_ 2 _ rfl; (with_reducible repeat (first | refine Ax ?_ _ | refine Au ?_ | refine Ak ?_ _)); refine Bj (cs := #[.int .i64 0, .int .i64 0, .slice none 0 0]) ?_ 1 _ rfl; (with_reducible repeat (first | refine Ax ?_ _ | refine Au ?_ | refine Ak ?_ _)); refine Bj (cs := #[.int .i64 0, .int .i64 0, .slice none 0 0]) ?_ 0 _ rfl; exact bU <| ae.out) Try.underlying50 rfl (by kernel_rfl)) rfl ?_
  exact ⟨_, by first | rfl | (simp [Bd, Bc] <;> rfl) | (simp [*, Bd, Bc] <;> rfl), by first | exact Kd.C5 _ _ _ _ _ | exact Kd.N_nil _ _ _ _ _ | exact Kd.V_nil _ _ _ _ _ | exact Kd.Q_nil _ _ _ _ _ | exact Kd.S_nil _ _ _ _ _, by repeat (first | (with_reducible first | exact HB.out | apply Af | apply Ac | apply Ai | refine Ag ?_ an.out | refine Ag ?_ av.out) | exact HB.out)⟩

end Go.Proofs.Yteamphcehoaleaa.PFP

