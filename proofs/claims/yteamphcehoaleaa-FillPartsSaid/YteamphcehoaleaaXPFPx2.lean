import Derived.Test.YteamphcehoaleaaXPFPx0
import Derived.Test.YteamphcehoaleaaXPFPx1
namespace Go.Proofs.Yteamphcehoaleaa.PFP
open Go.Proofs.Yteamphcehoaleaa.PFA Go.Proofs.Yteamphcehoaleaa.PFK
open Go.RowKit Go.Proofs.YteamphcehoaleaaW.PrintWords Go.Proofs.YteamphcehoaleaaW.PrintLast Go.Proofs.YteamphcehoaleaaW.PrintMore
attribute [local go_sem] max2_int min2_int max_two min_two max_three min_three max_four min_four
set_option linter.unusedVariables false
set_option linter.unusedSimpArgs false

mutual
def Ao.l0 : Nat → Int → List Int → Int → Int → Int → Int → List Bool → Option (List Int × Int × Int)
 | 0, _, _, _, _, _, _, _ => none
 | k + 1, x1, x8, x9, x10, ap, aq, an => if x10 < (an.length : Int) then (if 0 ≤ x10 then (if rdOf false an x10 = true then (if x10 < (x8.length : Int) then (Ao.j1 k x1 x8 x9 x10 (decide ((rd x8 x10) > 0)) ap aq an) else (none)) else (Ao.j1 k x1 x8 x9 x10 true ap aq an)) else (none)) else (some (x8, x9, 0))
def Ao.j1 : Nat → Int → List Int → Int → Int → Bool → Int → Int → List Bool → Option (List Int × Int × Int)
 | 0, _, _, _, _, _, _, _, _ => none
 | k + 1, x1, x8, x9, x10, x44, ap, aq, an => if x44 = true then (Ao.l0 k x1 x8 x9 (wrap64 (x10 + 1)) ap aq an) else (if 0 ≤ x10 then (if x10 < (x8.length : Int) then (Ao.l1 k x1 (x8.set (x10 : Int).toNat (wrap64 (x9 + 1))) (wrap64 (x9 + 1)) x10 (([x10] : List Int)) 0 ap aq an) else (none)) else (none))
def Ao.l1 : Nat → Int → List Int → Int → Int → List Int → Int → Int → Int → List Bool → Option (List Int × Int × Int)
 | 0, _, _, _, _, _, _, _, _, _ => none
 | k + 1, x1, x8, x9, x10, x11, x12, ap, aq, an => if x12 < (x11.length : Int) then (if 0 ≤ x12 then ((As.f k ap aq (rd x11 x12) x1).bind fun ae => (Ao.l2 k x1 x8 x9 x10 x11 x12 ae 0 ap aq an)) else (none)) else (Ao.l0 k x1 x8 x9 (wrap64 (x10 + 1)) ap aq an)
def Ao.l2 : Nat → Int → List Int → Int → Int → List Int → Int → List Int → Int → Int → Int → List Bool → Option (List Int × Int × Int)
 | 0, _, _, _, _, _, _, _, _, _, _, _ => none
 | k + 1, x1, x8, x9, x10, x11, x12, x13, x14, ap, aq, an => if x14 < (x13.length : Int) then (if 0 ≤ x14 then (if 0 ≤ (rd x13 x14) then (if (rd x13 x14) < (an.length : Int) then (if rdOf false an (rd x13 x14) = true then (if (rd x13 x14) < (x8.length : Int) then (if (rd x8 (rd x13 x14)) = 0 then (if x11.length < 17592186044416 then (Ao.l2 k x1 (x8.set ((rd x13 x14) : Int).toNat x9) x9 x10 (x11 ++ [rd x13 x14]) x12 x13 (wrap64 (x14 + 1)) ap aq an) else (none)) else (Ao.l2 k x1 x8 x9 x10 x11 x12 x13 (wrap64 (x14 + 1)) ap aq an)) else (none)) else (Ao.l2 k x1 x8 x9 x10 x11 x12 x13 (wrap64 (x14 + 1)) ap aq an)) else (none)) else (none)) else (none)) else (Ao.l1 k x1 x8 x9 x10 x11 (wrap64 (x12 + 1)) ap aq an)
end
def Ao.f (k : Nat) (al : Int) (am : Int) (ag : List Bool) (a1 : Int) : Option (List Int × Int × Int) := (Ci.f al am ag a1).bind fun aQ => (if aQ = 0 then (if 0 ≤ (ag.length : Int) then (if ((ag.length : Int) : Int).toNat ≤ 35184372088832 then (Ao.l0 k a1 (List.replicate ((ag.length : Int) : Int).toNat 0) 0 0 al am ag) else (none)) else (none)) else (some (([] : List Int), 0, aQ)))
def Ao.T16 : Bool × List (List Nat × List Nat) := (true, [([], []), ([0], [0]), ([], []), ([2], [2]), ([], []), ([], []), ([4, 5], [4, 5]), ([6], [6]), ([], []), ([1, 3, 7, 8], [1, 3, 7, 8]), ([9, 9, 0, 1, 2, 3, 4, 5, 6, 7, 8, 9], [9])])
def Ao.B16 : List Nat := [0, 1, 0, 4, 0, 0, 48, 112, 0, 511, 1023]
theorem Ao.tab16 : rtab .any (opsOf Try.f23 16) = Ao.T16 := by kernel_rfl
theorem Ao.bits16 : waitsOk Ao.T16.2 Ao.B16 = true := by kernel_rfl
def Ao.T20 : Bool × List (List Nat × List Nat) := (true, [([], []), ([0], [0]), ([], []), ([], []), ([2, 3], [2, 3]), ([4], [4]), ([1, 5], [1, 5]), ([6], [6]), ([7], [7]), ([8], [8]), ([8], [8]), ([8], [8]), ([10, 11, 8], [8, 10, 11]), ([12, 8], [8, 12]), ([9, 13, 8], [8, 9, 13]), ([14, 8], [8, 14]), ([15, 8], [8, 15]), ([8, 16], [8, 16])])
def Ao.B20 : List Nat := [0, 1, 0, 0, 12, 28, 63, 127, 255, 511, 511, 511, 3583, 7679, 16383, 32767, 65535, 131071]
theorem Ao.tab20 : rtab .any (opsOf Try.f23 20) = Ao.T20 := by kernel_rfl
theorem Ao.bits20 : waitsOk Ao.T20.2 Ao.B20 = true := by kernel_rfl
set_option maxHeartbeats 8000000 in
set_option maxRecDepth 100000 in
theorem Ao.calls (k : Nat) (al : Int) (am : Int) (aC : Option Addr) (ay : Nat) (ag : List Bool) (a1 : Int) (r1 : List Int) (r2 : Int) (r3 : Int) (w : World) (cB : Kd.C Kd.bool w aC ag.length ag) (cC : ag.length ≤ ay) (h : Ao.f k al am ag a1 = some (r1, r2, r3)) :
  Calls Try.prog 23 #[.agg #[.int .i64 al, .int .i64 am, .slice aC ag.length ay], .int .i64 a1] w fun e w' => ∃ v0_ : Value, e = .returned (.tuple #[v0_, .int .i64 r2, .int .i64 r3]) ∧ Kd.R (Kd.int .i64) 3 w' w.heap.size (fun _ => True) v0_ r1 ∧ Below w.heap.size w w' := by
 have hu50 := Try.underlying50
 have aZ := Aa.mk cB
 have cD := Aa.mk cC
 clear cB cC
 have HB := Aa.mk (Below.refl w.heap.size w)
 have H : ((Ci.f al am ag a1).bind fun aQ => (if aQ = 0 then (if 0 ≤ (ag.length : Int) then (if ((ag.length : Int) : Int).toNat ≤ 35184372088832 then (Ao.l0 k a1 (List.replicate ((ag.length : Int) : Int).toNat 0) 0 0 al am ag) else (none)) else (none)) else (some (([] : List Int), 0, aQ)))) = some (r1, r2, r3) := h
 clear h
 replace H := Option.bind_eq_some_iff.mp H
 obtain ⟨aQ, A30, H⟩ := H
 try dsimp only at H
 have A3 := Aa.mk A30
 clear A30
 by_cases c4 : aQ = 0
 ·rw [if_pos c4] at H
  have bY : (aQ == 0) = true := beq_iff_eq.mpr c4
  have bZ : (aQ != 0) = false := bne_eq_false_iff_eq.mpr c4
  clear c4
  by_cases c5 : 0 ≤ (ag.length : Int)
  ·rw [if_pos c5] at H
   have cr := eq_true c5
   have ct : decide (0 ≤ (ag.length : Int)) = true := decide_eq_true c5
   clear c5
   by_cases c6 : ((ag.length : Int) : Int).toNat ≤ 35184372088832
   ·rw [if_pos c6] at H
    have cu := eq_true c6
    have cx : decide (((ag.length : Int) : Int).toNat ≤ 35184372088832) = true := decide_eq_true c6
    clear c6
    obtain ⟨dE, b3⟩ : ∃ y_ : List Int, y_ = (List.replicate ((ag.length : Int) : Int).toNat 0) := ⟨_, rfl⟩
    (try rw [Option.bind_some] at H); try rw [← b3] at H
    have cE := Aa.mk b3
    clear b3
    have H' := Aa.mk H
    clear H
    go_enter Try.func23, Try.ntmps23
    go_wp2_with (first | ((with_reducible refine Br (N := 2) rfl ?_); refine Bt ?hg (N := 2) ?hd (cs := #[.int .i64 al, .int .i64 am, .slice aC ag.length ay]) (t := 50) ?hr ?_; (case hd => rfl); (case hg => rfl); (case hr => first | (go_simp; done) | (go_simp; rfl)); intro ac hg w7 hbox hb; have n0_ := Aa.mk (At (lU HB.out) hb); have n1_ := Aa.mk (hbox); have n2_ := Aa.mk ((by rw [hg]; exact (An (lU HB.out)) : w.heap.size ≤ ac)); have n3_ := Aa.mk ((by rw [hg]; exact (An (lU HB.out)) : w.heap.size ≤ ac)); clear HB; have HB := n0_; have aa := n1_; have cR := n2_; have ar := n3_; clear n0_ n1_ n2_ n3_; clear hb hbox hg; have bh : w7.cell? ⟨ac, 0, none⟩ = some (.int .i64 al) := (Ad aa.out 0).trans rfl; have bj : w7.cell? ⟨ac, 1, none⟩ = some (.int .i64 am) := (Ad aa.out 1).trans rfl; have bk : w7.cell? ⟨ac, 2, none⟩ = some (.slice aC ag.length ay) := (Ad aa.out 2).trans rfl; have bl := Ah aa.out 0; have bm := Ah aa.out 1; have bo := Ah aa.out 2) | ((with_reducible refine Bo (f := 70) rfl ?_); refine Cd (some 17) rfl rfl Try.func70 (by kernel_rfl) rfl #[.agg #[.int .i64 al, .int .i64 am, .slice aC ag.length ay], .int .i64 a1] rfl (by (try simp only [List.map_toArray, List.map_cons, List.map_nil]); first | done | rfl | (simp only [List.length_drop, List.length_take]; rfl)) ?_; (with_reducible refine (Ci.calls al am _ _ ag a1 aQ _ ?side1 ?side2 A3.out).mono ?_); (case side1 => repeat (first | exact (Kd.B8 aZ.out HB.out) | (with_reducible refine Kd.Bu ?_ _) | (with_reducible refine Kd.B4 ?_ _) | (with_reducible refine Kd.Cb ?_))); (case side2 => exact cD.out); rintro e w9 ⟨rfl, hb⟩; refine ⟨_, rfl, ?_⟩; have n0_ := Aa.mk (Ap (g := ac) (o := .cells #[.int .i64 al, .int .i64 am, .slice aC ag.length ay] 50 (0, 0)) (by exact bU <| aa.out) hb); have n1_ := Aa.mk (At (by repeat (first | (with_reducible first | exact HB.out | apply Af | apply Ac | apply Ai | refine Ag ?_ ar.out) | exact HB.out)) hb); clear aa; clear HB; have aa := n0_; have HB := n1_; clear n0_ n1_; (try clear hb); (try clear hb2); (try clear hk); (try clear hi); have aT : w9.cell? ⟨ac, 0, none⟩ = some (.int .i64 al) := (Ad aa.out 0).trans rfl; have aU : w9.cell? ⟨ac, 1, none⟩ = some (.int .i64 am) := (Ad aa.out 1).trans rfl; have aV : w9.cell? ⟨ac, 2, none⟩ = some (.slice aC ag.length ay) := (Ad aa.out 2).trans rfl; have aW := Ah aa.out 0; have aX := Ah aa.out 1; have aY := Ah aa.out 2) | ((with_reducible refine Br (N := 24) rfl ?_); refine Kd.R_make (Kd.int .i64) _ 3 rfl (N := 24) rfl 31 _ _ rfl (ag.length : Int) rfl rfl Try.underlying31 (.int .i64 0) 8 info3 rfl (by decide) (by omega) 0 (ok := fun _ => True) (okp := fun _ => True) rfl (fun _ hk => hk) trivial (of_decide_eq_true (by with_reducible assumption)) (Nat.le_trans (Nat.mul_le_mul_right _ (of_decide_eq_true (by with_reducible assumption) : (ag.length : Int).toNat ≤ 35184372088832)) (by omega)) (Below.refl _ _) (Nat.le_refl _) ?_; intro v121 w11 ho12 hb hg_ hnew_; clear hg_ hnew_; (first | rw [← cE.out] at ho12 | (simp only [Int.reduceToNat] at ho12; rw [← cE.out] at ho12)); have n0_ := Aa.mk (Kd.Ca ho12 (An (by repeat (first | (with_reducible first | exact HB.out | apply Af | apply Ac | apply Ai | refine Ag ?_ ar.out) | exact HB.out)))); have n1_ := Aa.mk (Ap (g := ac) (o := .cells #[.int .i64 al, .int .i64 am, .slice aC ag.length ay] 50 (0, 0)) (by exact bU <| aa.out) hb); have n2_ := Aa.mk (At (by repeat (first | (with_reducible first | exact HB.out | apply Af | apply Ac | apply Ai | refine Ag ?_ ar.out) | exact HB.out)) hb); clear aa; clear HB; have cS := n0_; have aa := n1_; have HB := n2_; clear n0_ n1_ n2_; clear hb ho12))
    go_loopg [9, 10] k (fun kq v9 v10 w' => ∃ (aD : List Int) (aH : Int) (af : Int), v9 = .int .i64 aH ∧ v10 = .int .i64 af ∧ Aa (Ao.l0 kq a1 aD aH af al am ag = some (r1, r2, r3)) ∧ Aa (kq ≤ k) ∧ Aa (Kd.R (Kd.int .i64) 3 w' w.heap.size (fun _ => True) v121 aD) ∧ Aa (w'.heap[ac]? = some (.cells #[.int .i64 al, .int .i64 am, (.slice aC ag.length ay)] 50 (0, 0))) ∧ Aa (Below w.heap.size w w'))
    case atStart => exact ⟨(dE), (0), (0), (by first | rfl | (simp; done) | (simp [*]; done)), (by first | rfl | (simp; done) | (simp [*]; done)), H', ⟨Nat.le_refl _⟩, ⟨by exact rU <| cS.out⟩, ⟨by exact bU <| aa.out⟩, ⟨by repeat (first | (with_reducible first | exact HB.out | apply Af | apply Ac | apply Ai | refine Ag ?_ ar.out) | exact HB.out)⟩⟩
    case round =>
     clear H'
     try clear c2
     try clear p2
     try clear c4
     try clear bY
     try clear bZ
     try clear c5
     try clear cr
     try clear ct
     try clear c6
     try clear cu
     try clear cx
     try clear c7
     try clear aT
     try clear aU
     try clear aV
     try clear bh
     try clear bj
     try clear bk
     try clear aW
     try clear aX
     try clear aY
     try clear bl
     try clear bm
     try clear bo
     obtain ⟨aD, aH, af, rfl, rfl, HA, HK1, ah, aa, HB⟩ := hrel
     cases gk with
     | zero => exact absurd HA.out (by simp [Ao.l0])
     | succ k1 =>
      have H := HA.out
      clear HA
      simp only [Ao.l0] at H
      by_cases c13 : af < (ag.length : Int)
      ·rw [if_pos c13] at H
       have bT : decide (af < (ag.length : Int)) = true := decide_eq_true c13
       clear c13
       have HC14 := Aa.mk H
       clear H
       have bp : wr.cell? ⟨ac, 0, none⟩ = some (.int .i64 al) := (Ad aa.out 0).trans rfl
       have bq : wr.cell? ⟨ac, 1, none⟩ = some (.int .i64 am) := (Ad aa.out 1).trans rfl
       have br : wr.cell? ⟨ac, 2, none⟩ = some (.slice aC ag.length ay) := (Ad aa.out 2).trans rfl
       have bs := Ah aa.out 0
       have bt := Ah aa.out 1
       have bu := Ah aa.out 2
       go_upto_region 9 with (fail)
       go_cut [44] (fun v44 wc => ∃ (kq : Nat) (bv : Bool), v44 = .bool bv ∧ Aa (Ao.j1 kq a1 aD aH af bv al am ag = some (r1, r2, r3)) ∧ Aa (kq ≤ k1) ∧ Aa (Kd.R (Kd.int .i64) 3 wc w.heap.size (fun _ => True) v121 aD) ∧ Aa (wc.heap[ac]? = some (.cells #[.int .i64 al, .int .i64 am, (.slice aC ag.length ay)] 50 (0, 0))) ∧ Aa (Below w.heap.size w wc))
       case first =>
        have H := HC14.out
        clear HC14
        by_cases c16 : 0 ≤ af
        ·rw [if_pos c16] at H
         have bN : decide (0 ≤ af) = true := decide_eq_true c16
         clear c16
         (first | rw [bN] | (simp only [i64_w, i32_w]; rw [bN]) | skip)
         obtain ⟨bq17, b4⟩ : ∃ b_ : Bool, b_ = (rdOf false ag af) := ⟨_, rfl⟩
         replace H : (if bq17 = true then (if af < (aD.length : Int) then (Ao.j1 k1 a1 aD aH af (decide ((rd aD af) > 0)) al am ag) else (none)) else (Ao.j1 k1 a1 aD aH af true al am ag)) = some (r1, r2, r3) := by rw [← b4] at H; exact H
         have cF := Aa.mk b4
         clear b4
         by_cases c18 : bq17 = true
         ·subst c18
          have H1 := H
          rw [if_pos rfl] at H1
          clear H
          have H := H1
          clear H1
          by_cases c19 : af < (aD.length : Int)
          ·rw [if_pos c19] at H
           have b5 : decide (af < (aD.length : Int)) = true := decide_eq_true c19
           clear c19
           have H' := Aa.mk H
           clear H
           have bw : wr.cell? ⟨ac, 0, none⟩ = some (.int .i64 al) := (Ad aa.out 0).trans rfl
           have bz : wr.cell? ⟨ac, 1, none⟩ = some (.int .i64 am) := (Ad aa.out 1).trans rfl
           have bB : wr.cell? ⟨ac, 2, none⟩ = some (.slice aC ag.length ay) := (Ad aa.out 2).trans rfl
           have bC := Ah aa.out 0
           have bD := Ah aa.out 1
           have bE := Ah aa.out 2
           have be : 0 ≤ (af : Int) := of_decide_eq_true (by with_reducible assumption)
           have bf : af < (ag.length : Int) := of_decide_eq_true (by with_reducible assumption)
           obtain ⟨cU, e123, av⟩ := Kd.at_bool aZ.out af be bf
           (try rw [← cF.out] at av)
           cases e123
           replace av := (HB.out.cell (World.block_lt_of_cell? w _ av)).trans av
           replace be := eq_true be
           replace bf := eq_true bf
           obtain ⟨dW, dX, dF⟩ := Kd.B2 ah.out
           subst dF
           have bW : 0 ≤ (af : Int) := of_decide_eq_true (by with_reducible assumption)
           have bX : af < (aD.length : Int) := of_decide_eq_true (by with_reducible assumption)
           obtain ⟨dR, e124, bF⟩ := Kd.at_int (Kd.Bb ah.out).2.2 af bW bX
           cases e124
           replace bW := eq_true bW
           replace bX := eq_true bX
           go_wp2
           go_meet
           case rel => exact ⟨_, (decide ((rd aD af) > 0)), (by first | rfl | (simp; done) | (simp [*]; done)), H', ⟨by have := HK1.out; first | omega | exact Nat.le_refl _⟩, ⟨by exact rU <| ah.out⟩, ⟨by exact bU <| aa.out⟩, ⟨by repeat (first | (with_reducible first | exact HB.out | apply Af | apply Ac | apply Ai | refine Ag ?_ ar.out) | exact HB.out)⟩⟩
          ·rw [if_neg c19] at H
           exact absurd H (by simp)
         ·replace c18 := Bool.eq_false_iff.mpr c18
          subst c18
          have H1 := H
          rw [if_neg (show ¬ (false = true) by decide)] at H1
          clear H
          have H := H1
          clear H1
          have H' := Aa.mk H
          clear H
          have bG : wr.cell? ⟨ac, 0, none⟩ = some (.int .i64 al) := (Ad aa.out 0).trans rfl
          have bH : wr.cell? ⟨ac, 1, none⟩ = some (.int .i64 am) := (Ad aa.out 1).trans rfl
          have bI : wr.cell? ⟨ac, 2, none⟩ = some (.slice aC ag.length ay) := (Ad aa.out 2).trans rfl
          have bJ := Ah aa.out 0
          have bK := Ah aa.out 1
          have bL := Ah aa.out 2
          have be : 0 ≤ (af : Int) := of_decide_eq_true (by with_reducible assumption)
          have bf : af < (ag.length : Int) := of_decide_eq_true (by with_reducible assumption)
          obtain ⟨cU, e123, av⟩ := Kd.at_bool aZ.out af be bf
          (try rw [← cF.out] at av)
          cases e123
          replace av := (HB.out.cell (World.block_lt_of_cell? w _ av)).trans av
          replace be := eq_true be
          replace bf := eq_true bf
          go_wp2
          go_meet
          case rel => exact ⟨_, (true), (by first | rfl | (simp; done) | (simp [*]; done)), H', ⟨by have := HK1.out; first | omega | exact Nat.le_refl _⟩, ⟨by exact rU <| ah.out⟩, ⟨by exact bU <| aa.out⟩, ⟨by repeat (first | (with_reducible first | exact HB.out | apply Af | apply Ac | apply Ai | refine Ag ?_ ar.out) | exact HB.out)⟩⟩
        ·rw [if_neg c16] at H
         exact absurd H (by simp)
       case rest =>
        clear HC14
        try clear c1
        try clear p1
        try clear q1
        try clear hx1
        try clear c2
        try clear p2
        try clear c4
        try clear bY
        try clear bZ
        try clear c5
        try clear cr
        try clear ct
        try clear c6
        try clear cu
        try clear cx
        try clear c7
        try clear p12
        try clear q12
        try clear hx12
        try clear c13
        try clear bT
        try clear c16
        try clear bN
        try clear q17
        try clear c18
        try clear c19
        try clear b5
        try clear aT
        try clear aU
        try clear aV
        try clear bp
        try clear bq
        try clear br
        try clear bw
        try clear bz
        try clear bB
        try clear bG
        try clear bH
        try clear bI
        try clear bh
        try clear bj
        try clear bk
        try clear aW
        try clear aX
        try clear aY
        try clear bs
        try clear bt
        try clear bu
        try clear bC
        try clear bD
        try clear bE
        try clear bJ
        try clear bK
        try clear bL
        try clear bl
        try clear bm
        try clear bo
        try clear av
        try clear bF
        try clear be
        try clear bW
        try clear p2
        try clear bf
        try clear bX
        obtain ⟨kq, bv, rfl, HA, HJ13, ah, aa, HB⟩ := hcut
        cases kq with
        | zero => exact absurd HA.out (by simp [Ao.j1])
        | succ kj13 =>
         have H := HA.out
         clear HA
         simp only [Ao.j1] at H
         by_cases c23 : bv = true
         ·subst c23
          have H1 := H
          rw [if_pos rfl] at H1
          clear H
          have H := H1
          clear H1
          have H' := Aa.mk H
          clear H
          go_wp2
          go_roundg kj13
          case measure => have := HK1.out; have := HJ13.out; omega
          case rel => exact ⟨(aD), (aH), (wrap64 (af + 1)), (by first | rfl | (simp; done) | (simp [*]; done)), (by first | rfl | (simp; done) | (simp [*]; done)), H', ⟨by have := HK1.out; have := HJ13.out; omega⟩, ⟨by exact rU <| ah.out⟩, ⟨by exact bU <| aa.out⟩, ⟨by repeat (first | (with_reducible first | exact HB.out | apply Af | apply Ac | apply Ai | refine Ag ?_ ar.out) | exact HB.out)⟩⟩
         ·replace c23 := Bool.eq_false_iff.mpr c23
          subst c23
          have H1 := H
          rw [if_neg (show ¬ (false = true) by decide)] at H1
          clear H
          have H := H1
          clear H1
          obtain ⟨dG, b6⟩ : ∃ y_ : List Int, y_ = (([af] : List Int)) := ⟨_, rfl⟩
          (try rw [Option.bind_some] at H); try rw [← b6] at H
          have cG := Aa.mk b6
          clear b6
          by_cases c24 : 0 ≤ af
          ·rw [if_pos c24] at H
           have cH : decide (0 ≤ af) = true := decide_eq_true c24
           clear c24
           by_cases c25 : af < (aD.length : Int)
           ·rw [if_pos c25] at H
            have cI : decide (af < (aD.length : Int)) = true := decide_eq_true c25
            clear c25
            obtain ⟨cV, b7⟩ : ∃ y_ : List Int, y_ = (aD.set (af : Int).toNat (wrap64 (aH + 1))) := ⟨_, rfl⟩
            (try rw [Option.bind_some] at H); try rw [← b7] at H
            have cW := Aa.mk b7
            clear b7
            have H' := Aa.mk H
            clear H
            go_wp2_with (first | ((with_reducible refine Br (N := 48) rfl ?_); refine Kd.R_lit (Kd.int .i64) _ 3 ?hg (N := 48) ?hd (xs := ([af] : List Int)) (inner := [.int .i64 af]) (ok := fun _ => True) (okp := fun _ => True) ?hr ?hp (fun _ hk => hk) trivial (Below.refl _ _) (Nat.le_refl _) (by simp) ?_; (case hd => rfl); (case hg => rfl); (case hr => first | (go_simp; done) | (go_simp; rfl)); (case hp => exact (Reps.one (show Kd.M (Kd.int .i64) _ _ _ af [.int .i64 af] from rfl) (Reps.none _ _))); intro v126 w27 ho28 hb hg_ hnew_; clear hg_ hnew_; (first | rw [← cG.out] at ho28 | (simp only [Int.reduceToNat] at ho28; rw [← cG.out] at ho28)); have n0_ := Aa.mk (Kd.B3 (by exact rU <| ah.out) (Kd.Cf ho28) hb); have n1_ := Aa.mk (Kd.Ca (Kd.Cg ho28 (Kd.Cv (by exact rU <| ah.out))) (An (by repeat (first | (with_reducible first | exact HB.out | apply Af | apply Ac | apply Ai | refine Ag ?_ ar.out) | exact HB.out)))); have n2_ := Aa.mk (Ap (g := ac) (o := .cells #[.int .i64 al, .int .i64 am, .slice aC ag.length ay] 50 (0, 0)) (by exact bU <| aa.out) hb); have n3_ := Aa.mk (At (by repeat (first | (with_reducible first | exact HB.out | apply Af | apply Ac | apply Ai | refine Ag ?_ ar.out) | exact HB.out)) hb); clear ah; clear aa; clear HB; have ah := n0_; have bV := n1_; have aa := n2_; have HB := n3_; clear n0_ n1_ n2_ n3_; clear hb ho28; have p26 : 0 ≤ (af : Int) := of_decide_eq_true (by with_reducible assumption); have q26 : (af : Int) < ((aD.length : Int) : Int) := of_decide_eq_true (by with_reducible assumption); obtain ⟨go26, aM, cX, cY, gl26, cl26, HG26⟩ := Kd.Di ah.out (by omega); (first | cases cX | (injection cX with ea_ en_ ec_; (first | subst ea_ | (injection ea_ with ea_; subst ea_)); subst ec_; clear en_)); have GB26 := Aa.mk cY; have GG26 := Aa.mk HG26; clear cY gl26 HG26; obtain ⟨b8, dH⟩ := Kd.C8 0 ah.out (af : Int) p26 q26; replace p26 := eq_true p26; replace q26 := eq_true q26; have n_ := Aa.mk (Kd.Bs (ok' := (fun k_ => some k_ ≠ (v126 : Value).ownBlock)) ah.out (fun k_ hk => hk.2)); clear ah; have ah := n_; clear n_; obtain ⟨hy29_, hz29_⟩ := Kd.C8 0 ah.out (af : Int) (of_decide_eq_true (by with_reducible assumption)) (of_decide_eq_true (by with_reducible assumption)); have cK := Kd.R_putg ah.out (af : Int) (wrap64 (aH + 1))) | ((with_reducible refine C3 (t := 3) (p := 52) rfl ?_); refine store_event (t := 3) (p := 52) (v := ?vo_w30) (w1 := (w27.setCell ⟨go26, (af : Int).toNat, none⟩ (.int .i64 (wrap64 (aH + 1))))) ?hg ?ho ?hn ?hr ?_; (case ho => rfl); (case hg => rfl); (case hn => rfl); (case hr => first | (go_simp; done) | (go_simp; rfl)); intro w30 hw; have hg : w27.grownBy w30 (some go26) := (by rw [hw]; exact cK.2); have hp_ : Kd.R (Kd.int .i64) 3 w30 w.heap.size (fun k_ => some k_ ≠ (v126 : Value).ownBlock) (.slice (some ⟨go26, 0, none⟩) aD.length aM) cV := (by rw [hw, cW.out]; exact cK.1); clear cK; have n0_ := Aa.mk (hp_); have n1_ := Aa.mk (Bz (g := ac) (o := .cells #[.int .i64 al, .int .i64 am, .slice aC ag.length ay] 50 (0, 0)) (by exact bU <| aa.out) hg (Kd.Dd ah.out aa.out (by decide))); have n2_ := Aa.mk (Kd.C9 (v := (.slice (some ⟨go26, 0, none⟩) aD.length aM)) (v1 := (.slice (some ⟨go26, 0, none⟩) aD.length aM)) (ok := (fun _ => True)) (by exact rU <| bV.out) hg (.inl rfl)); have n3_ := Aa.mk ((by rw [hw]; exact Ag (HB.out) GB26.out : Below w.heap.size w w30)); clear ah; clear aa; clear bV; clear HB; have ah := n0_; have aa := n1_; have bV := n2_; have HB := n3_; clear n0_ n1_ n2_ n3_; clear hg hw hp_))
            go_loopg [11, 12] kj13 (fun kq v11 v12 w' => ∃ (bO : List Int) (aJ : List Int) (ax : Int), v12 = .int .i64 ax ∧ Aa (Ao.l1 kq a1 bO (wrap64 (aH + 1)) af aJ ax al am ag = some (r1, r2, r3)) ∧ Aa (kq ≤ kj13) ∧ Aa (Kd.R (Kd.int .i64) 3 w' w.heap.size (fun k_ => some k_ ≠ (v11 : Value).ownBlock) (.slice (some ⟨go26, 0, none⟩) aD.length aM) bO) ∧ Aa (Kd.R (Kd.int .i64) 3 w' w.heap.size (fun k_ => some k_ ≠ ((.slice (some ⟨go26, 0, none⟩) aD.length aM) : Value).ownBlock) v11 aJ) ∧ Aa (w'.heap[ac]? = some (.cells #[.int .i64 al, .int .i64 am, (.slice aC ag.length ay)] 50 (0, 0))) ∧ Aa (Below w.heap.size w w'))
            case atStart => exact ⟨(cV), (dG), (0), (by first | rfl | (simp; done) | (simp [*]; done)), H', ⟨Nat.le_refl _⟩, ⟨by exact rU <| ah.out⟩, ⟨by exact rU <| Kd.Bs bV.out (fun _ hk => hk.2)⟩, ⟨by exact bU <| aa.out⟩, ⟨by repeat (first | (with_reducible first | exact HB.out | apply Af | apply Ac | apply Ai | refine Ag ?_ ar.out) | exact HB.out)⟩⟩
            case round =>
             clear H'
             try clear c1
             try clear p1
             try clear q1
             try clear hx1
             try clear c2
             try clear p2
             try clear q2
             try clear hx2
             try clear hf2
             try clear c4
             try clear bY
             try clear bZ
             try clear c5
             try clear cr
             try clear ct
             try clear c6
             try clear cu
             try clear cx
             try clear p6
             try clear c7
             try clear p12
             try clear q12
             try clear hx12
             try clear c13
             try clear bT
             try clear c16
             try clear bN
             try clear q17
             try clear c18
             try clear c19
             try clear b5
             try clear c23
             try clear c24
             try clear cH
             try clear c25
             try clear cI
             try clear p26
             try clear q26
             try clear hx26
             try clear hf26
             try clear aT
             try clear aU
             try clear aV
             try clear bp
             try clear bq
             try clear br
             try clear bw
             try clear bz
             try clear bB
             try clear bG
             try clear bH
             try clear bI
             try clear bh
             try clear bj
             try clear bk
             try clear aW
             try clear aX
             try clear aY
             try clear bs
             try clear bt
             try clear bu
             try clear bC
             try clear bD
             try clear bE
             try clear bJ
             try clear bK
             try clear bL
             try clear bl
             try clear bm
             try clear bo
             try clear av
             try clear bF
             try clear b8
             try clear p1
             try clear p12
             try clear be
             try clear bW
             try clear p2
             try clear p26
             try clear q1
             try clear q12
             try clear bf
             try clear bX
             try clear q17
             try clear q26
             obtain ⟨bO, aJ, ax, rfl, HA, HK3, ah, ai, aa, HB⟩ := hrel
             have ao := (Kd.Bb ah.out).1
             rw [ao] at ah
             (try simp only [ao])
             (try simp only [ao] at aa)
             (try simp only [ao] at ai)
             cases gk with
             | zero => exact absurd HA.out (by simp [Ao.l1])
             | succ k3 =>
              have H := HA.out
              clear HA
              simp only [Ao.l1] at H
              by_cases c31 : ax < (aJ.length : Int)
              ·rw [if_pos c31] at H
               have cJ : decide (ax < (aJ.length : Int)) = true := decide_eq_true c31
               clear c31
               by_cases c32 : 0 ≤ ax
               ·rw [if_pos c32] at H
                have cZ : decide (0 ≤ ax) = true := decide_eq_true c32
                clear c32
                replace H := Option.bind_eq_some_iff.mp H
                obtain ⟨ae, A330, H⟩ := H
                try dsimp only at H
                have A33 := Aa.mk A330
                clear A330
                have H' := Aa.mk H
                clear H
                obtain ⟨dY, dZ, dI⟩ := Kd.B2 ai.out
                subst dI
                try go_wp2
                have n0_ := Aa.mk (Kd.Db ah.out)
                have n1_ := Aa.mk (Kd.Db ai.out)
                have n2_ := Aa.mk (Au aa.out)
                have n3_ := Aa.mk (Ai HB.out)
                clear ah
                clear ai
                clear aa
                clear HB
                have ah := n0_
                have ai := n1_
                have aa := n2_
                have HB := n3_
                clear n0_ n1_ n2_ n3_
                have cy : 0 ≤ (ax : Int) := of_decide_eq_true (by with_reducible assumption)
                have cz : ax < (aJ.length : Int) := of_decide_eq_true (by with_reducible assumption)
                obtain ⟨da, e129, bM⟩ := Kd.at_int (Kd.Bb ai.out).2.2 ax cy cz
                cases e129
                replace cy := eq_true cy
                replace cz := eq_true cz
                refine start_ (n := 11) (S := fun w' => w'.cell? ⟨ac, 0, none⟩ = some (.int .i64 al) ∧ w'.cell? ⟨ac, 1, none⟩ = some (.int .i64 am) ∧ w'.cell? ⟨ac, 2, none⟩ = some (.slice aC ag.length ay) ∧ w'.cell? (da.add (ax).toNat) = some (.int .i64 (rd aJ ax))) (ds := []) #[false, false, false, false, false, false, false, false, false, false, false] (by kernel_rfl) rfl rfl ⟨(Ad aa.out 0).trans rfl, (Ad aa.out 1).trans rfl, (Ad aa.out 2).trans rfl, bM⟩ (fun hHeld => ?_); refine with_tabW Ao.tab16 Ao.bits16 (fun HT_ HW_ => ?_)
                generalize wr.drew = w35 at ah ai aa HB bM hHeld ⊢
                refine pure_ (i := 0) (N := some 59) (v := ?_) (a' := ?_) (bA 11 1) rfl rfl (any_of HT_.out (by kernel_rfl)) (fun _ _ _ h => h) (Or.inl ⟨by rfl, ?_⟩) ?_ ?_
                rotate_left; (intro w'; go_simp; with_reducible rfl); rotate_left; (simp only [Act.put, sA, sB, sC, i64_w, i32_w]; rfl)
                refine pure_ (i := 2) (N := some 61) (v := ?_) (a' := ?_) (bA 11 5) rfl rfl (any_of HT_.out (by kernel_rfl)) (fun _ _ _ h => h) (Or.inl ⟨by rfl, ?_⟩) ?_ ?_
                rotate_left; (intro w'; go_simp; with_reducible rfl); rotate_left; (simp only [Act.put, sA, sB, sC, i64_w, i32_w]; rfl)
                refine pure_ (i := 4) (N := some 63) (v := ?_) (a' := ?_) (bA 11 21) rfl rfl (any_of HT_.out (by kernel_rfl)) (fun _ _ _ h => h) (Or.inl ⟨by rfl, ?_⟩) ?_ ?_
                rotate_left; (intro w'; go_simp; with_reducible rfl); rotate_left; (simp only [Act.put, sA, sB, sC, i64_w, i32_w]; rfl)
                refine pure_ (i := 5) (N := some 64) (v := ?_) (a' := ?_) (bA 11 53) rfl rfl (any_of HT_.out (by kernel_rfl)) (fun _ _ _ h => h) (Or.inl ⟨by rfl, ?_⟩) ?_ ?_
                rotate_left; (intro w'; go_simp; with_reducible rfl); rotate_left; (simp only [Act.put, sA, sB, sC, i64_w, i32_w]; rfl)
                refine pure_ (i := 6) (N := some 65) (v := ?_) (a' := ?_) (bA 11 117) rfl rfl (any_of HT_.out (by kernel_rfl)) (fun _ _ _ h => h) (Or.inl ⟨by rfl, ?_⟩) ?_ ?_
                rotate_left; (intro w'; go_simp; with_reducible rfl); rotate_left; (simp only [Act.put, sA, sB, sC, i64_w, i32_w]; rfl)
                refine pure_ (i := 8) (N := some 67) (v := ?_) (a' := ?_) (bA 11 373) rfl rfl (any_of HT_.out (by kernel_rfl)) (fun _ _ _ h => h) (Or.inl ⟨by rfl, ?_⟩) ?_ ?_
                rotate_left; (intro w'; go_simp; with_reducible rfl); rotate_left; (simp only [Act.put, sA, sB, sC, i64_w, i32_w]; rfl)
                refine take_ (i := 1) (N := some 60) (v := ?_) (a' := ?_) (bA 11 375) rfl rfl (take_ofW HT_.out HW_.out (by kernel_rfl)) (fun _ _ _ h => h) (Or.inl ⟨by rfl, ?_⟩) hHeld ?_ ?_
                rotate_left; (rintro w' ⟨s0, s1, s2, s3⟩; go_simp; with_reducible rfl); rotate_left; (simp only [Act.put, sA, sB, sC, i64_w, i32_w]; rfl)
                refine take_ (i := 3) (N := some 62) (v := ?_) (a' := ?_) (bA 11 383) rfl rfl (take_ofW HT_.out HW_.out (by kernel_rfl)) (fun _ _ _ h => h) (Or.inl ⟨by rfl, ?_⟩) hHeld ?_ ?_
                rotate_left; (rintro w' ⟨s0, s1, s2, s3⟩; go_simp; with_reducible rfl); rotate_left; (simp only [Act.put, sA, sB, sC, i64_w, i32_w]; rfl)
                refine take_ (i := 7) (N := some 66) (v := ?_) (a' := ?_) (bA 11 511) rfl rfl (take_ofW HT_.out HW_.out (by kernel_rfl)) (fun _ _ _ h => h) (Or.inl ⟨by rfl, ?_⟩) hHeld ?_ ?_
                rotate_left; (rintro w' ⟨s0, s1, s2, s3⟩; go_simp; with_reducible rfl); rotate_left; (simp only [Act.put, sA, sB, sC, i64_w, i32_w]; rfl)
                refine one_ (i := 9) (N := some 68) (bA 11 1023) rfl rfl (one_of HT_.out (by kernel_rfl)) (by decide) (fun K hK => ?_)
                refine goes_ Try.func35 (by kernel_rfl) rfl #[.int .i64 al, .int .i64 am, .int .i64 (rd aJ ax), .int .i64 a1] (by rfl) rfl rfl (by (try simp only [List.map_toArray, List.map_cons, List.map_nil]); first | done | rfl | (simp only [List.length_drop, List.length_take]; rfl)) ?_
                with_reducible refine (As.calls k3 al am (rd aJ ax) a1 ae _ A33.out).mono ?_
                rintro e w36 ⟨v131, rfl, ho0, hb⟩
                have HS3_ := (hb.cell (World.block_lt_of_cell? _ _ (hHeld.2.2.2))).trans (hHeld.2.2.2)
                refine ⟨_, rfl, ?_⟩
                have n0_ := Aa.mk (Kd.B3 (by exact rU <| ah.out) (Kd.Cf ho0) hb)
                have n1_ := Aa.mk (Kd.B3 (by exact rU <| ai.out) (Kd.Cf ho0) hb)
                have n2_ := Aa.mk (Kd.Ca (Kd.Cg (Kd.Cg ho0 (Kd.Cv (by exact rU <| ah.out))) (Kd.Cv (by exact rU <| ai.out))) (An (by repeat (first | (with_reducible first | exact HB.out | apply Af | apply Ac | apply Ai | refine Ag ?_ ar.out) | exact HB.out))))
                have n3_ := Aa.mk (Ap (g := ac) (o := .cells #[.int .i64 al, .int .i64 am, .slice aC ag.length ay] 50 (0, 0)) (by exact bU <| aa.out) hb)
                have n4_ := Aa.mk (At (by repeat (first | (with_reducible first | exact HB.out | apply Af | apply Ac | apply Ai | refine Ag ?_ ar.out) | exact HB.out)) hb)
                clear ah
                clear ai
                clear aa
                clear HB
                have ah := n0_
                have ai := n1_
                have db := n2_
                have aa := n3_
                have HB := n4_
                clear n0_ n1_ n2_ n3_ n4_
                (try clear hb)
                (try clear hb2)
                (try clear hk)
                (try clear hi)
                (try clear ho0)
                refine hK.out _ _ ⟨(Ad aa.out 0).trans rfl, (Ad aa.out 1).trans rfl, (Ad aa.out 2).trans rfl, HS3_⟩ (fun hHeld => ?_)
                clear hK K
                refine norm_ (a' := ?_) ?_ ?_
                rotate_left
                ·show Act.put _ (some 68) _ = _
                 simp only [Act.put, sA, sB, sC, i64_w, i32_w]
                 rfl
                refine pure_ (i := 10) (N := some 13) (v := ?_) (a' := ?_) (bA 11 2047) rfl rfl (any_of HT_.out (by kernel_rfl)) (fun _ _ _ h => h) (Or.inl ⟨by rfl, ?_⟩) ?_ ?_
                rotate_left; (intro w'; go_simp; with_reducible rfl); rotate_left; (simp only [Act.put, sA, sB, sC, i64_w, i32_w]; rfl)
                refine done_ (done_of HT_.out (by kernel_rfl)) ?_
                try go_wp2
                go_loopg [11, 14] k3 (fun kq v11 v14 w' => ∃ (aw : List Int) (aI : List Int) (ab : Int), v14 = .int .i64 ab ∧ Aa (Ao.l2 kq a1 aw (wrap64 (aH + 1)) af aI ax ae ab al am ag = some (r1, r2, r3)) ∧ Aa (kq ≤ k3) ∧ Aa (Kd.R (Kd.int .i64) 3 w' w.heap.size (fun k_ => some k_ ≠ (v11 : Value).ownBlock ∧ some k_ ≠ (v131 : Value).ownBlock) (.slice (some ⟨go26, 0, none⟩) bO.length aM) aw) ∧ Aa (Kd.R (Kd.int .i64) 3 w' w.heap.size (fun k_ => some k_ ≠ ((.slice (some ⟨go26, 0, none⟩) bO.length aM) : Value).ownBlock ∧ some k_ ≠ (v131 : Value).ownBlock) v11 aI) ∧ Aa (Kd.R (Kd.int .i64) 3 w' w.heap.size (fun k_ => some k_ ≠ ((.slice (some ⟨go26, 0, none⟩) bO.length aM) : Value).ownBlock ∧ some k_ ≠ (v11 : Value).ownBlock) v131 ae) ∧ Aa (w'.heap[ac]? = some (.cells #[.int .i64 al, .int .i64 am, (.slice aC ag.length ay)] 50 (0, 0))) ∧ Aa (Below w.heap.size w w'))
                case atStart => exact ⟨(bO), (aJ), (0), (by first | rfl | (simp; done) | (simp [*]; done)), H', ⟨Nat.le_refl _⟩, ⟨by (try simp only [ao]); exact rU <| ah.out⟩, ⟨by (try simp only [ao]); exact rU <| ai.out⟩, ⟨by (try simp only [ao]); exact rU <| Kd.Bs db.out (fun _ hk => ⟨hk.1.2, hk.2⟩)⟩, ⟨by (try simp only [ao]); exact bU <| aa.out⟩, ⟨by repeat (first | (with_reducible first | exact HB.out | apply Af | apply Ac | apply Ai | refine Ag ?_ ar.out) | exact HB.out)⟩⟩
                case round =>
                 clear H'
                 try clear c1
                 try clear p1
                 try clear q1
                 try clear hx1
                 try clear c2
                 try clear p2
                 try clear q2
                 try clear hx2
                 try clear hf2
                 try clear c3
                 try clear c4
                 try clear bY
                 try clear bZ
                 try clear c5
                 try clear cr
                 try clear ct
                 try clear c6
                 try clear cu
                 try clear cx
                 try clear p6
                 try clear c7
                 try clear p12
                 try clear q12
                 try clear hx12
                 try clear c13
                 try clear bT
                 try clear c16
                 try clear bN
                 try clear q17
                 try clear c18
                 try clear c19
                 try clear b5
                 try clear c23
                 try clear c24
                 try clear cH
                 try clear c25
                 try clear cI
                 try clear p26
                 try clear q26
                 try clear hx26
                 try clear hf26
                 try clear c31
                 try clear cJ
                 try clear c32
                 try clear cZ
                 try clear c35
                 try clear aT
                 try clear aU
                 try clear aV
                 try clear bp
                 try clear bq
                 try clear br
                 try clear bw
                 try clear bz
                 try clear bB
                 try clear bG
                 try clear bH
                 try clear bI
                 try clear bh
                 try clear bj
                 try clear bk
                 try clear aW
                 try clear aX
                 try clear aY
                 try clear bs
                 try clear bt
                 try clear bu
                 try clear bC
                 try clear bD
                 try clear bE
                 try clear bJ
                 try clear bK
                 try clear bL
                 try clear bl
                 try clear bm
                 try clear bo
                 try clear av
                 try clear bF
                 try clear bM
                 try clear b8
                 try clear p1
                 try clear p12
                 try clear be
                 try clear bW
                 try clear cy
                 try clear p2
                 try clear p26
                 try clear p6
                 try clear q1
                 try clear q12
                 try clear bf
                 try clear bX
                 try clear cz
                 try clear q17
                 try clear q2
                 try clear q26
                 obtain ⟨aw, aI, ab, rfl, HA, HK4, ah, ai, aj, aa, HB⟩ := hrel
                 have au := (Kd.Bb ah.out).1
                 rw [au] at ah
                 (try simp only [au])
                 (try simp only [au] at aa)
                 (try simp only [au] at ai)
                 (try simp only [au] at aj)
                 cases gk with
                 | zero => exact absurd HA.out (by simp [Ao.l2])
                 | succ k4 =>
                  have H := HA.out
                  clear HA
                  simp only [Ao.l2] at H
                  by_cases c37 : ab < (ae.length : Int)
                  ·rw [if_pos c37] at H
                   have dc : decide (ab < (ae.length : Int)) = true := decide_eq_true c37
                   clear c37
                   by_cases c38 : 0 ≤ ab
                   ·rw [if_pos c38] at H
                    have dS : decide (0 ≤ ab) = true := decide_eq_true c38
                    clear c38
                    by_cases c39 : 0 ≤ (rd ae ab)
                    ·rw [if_pos c39] at H
                     have dT : decide (0 ≤ (rd ae ab)) = true := decide_eq_true c39
                     clear c39
                     by_cases c40 : (rd ae ab) < (ag.length : Int)
                     ·rw [if_pos c40] at H
                      have dU : decide ((rd ae ab) < (ag.length : Int)) = true := decide_eq_true c40
                      clear c40
                      obtain ⟨bq41, b9⟩ : ∃ b_ : Bool, b_ = (rdOf false ag (rd ae ab)) := ⟨_, rfl⟩
                      replace H : (if bq41 = true then (if (rd ae ab) < (aw.length : Int) then (if (rd aw (rd ae ab)) = 0 then (if aI.length < 17592186044416 then (Ao.l2 k4 a1 (aw.set ((rd ae ab) : Int).toNat (wrap64 (aH + 1))) (wrap64 (aH + 1)) af (aI ++ [rd ae ab]) ax ae (wrap64 (ab + 1)) al am ag) else (none)) else (Ao.l2 k4 a1 aw (wrap64 (aH + 1)) af aI ax ae (wrap64 (ab + 1)) al am ag)) else (none)) else (Ao.l2 k4 a1 aw (wrap64 (aH + 1)) af aI ax ae (wrap64 (ab + 1)) al am ag)) = some (r1, r2, r3) := by rw [← b9] at H; exact H
                      have bg := Aa.mk b9
                      clear b9
                      by_cases c42 : bq41 = true
                      ·subst c42
                       have H1 := H
                       rw [if_pos rfl] at H1
                       clear H
                       have H := H1
                       clear H1
                       by_cases c43 : (rd ae ab) < (aw.length : Int)
                       ·rw [if_pos c43] at H
                        have dV : decide ((rd ae ab) < (aw.length : Int)) = true := decide_eq_true c43
                        clear c43
                        by_cases c44 : (rd aw (rd ae ab)) = 0
                        ·rw [if_pos c44] at H
                         have dd : ((rd aw (rd ae ab)) == 0) = true := beq_iff_eq.mpr c44
                         have de : ((rd aw (rd ae ab)) != 0) = false := bne_eq_false_iff_eq.mpr c44
                         clear c44
                         obtain ⟨df, cd⟩ : ∃ y_ : List Int, y_ = (aw.set ((rd ae ab) : Int).toNat (wrap64 (aH + 1))) := ⟨_, rfl⟩
                         (try rw [Option.bind_some] at H); try rw [← cd] at H
                         have dg := Aa.mk cd
                         clear cd
                         by_cases c46 : aI.length < 17592186044416
                         ·rw [if_pos c46] at H
                          have LMc46 := Aa.mk c46
                          clear c46
                          obtain ⟨dJ, cg⟩ : ∃ y_ : List Int, y_ = (aI ++ [rd ae ab]) := ⟨_, rfl⟩
                          (try rw [Option.bind_some] at H); try rw [← cg] at H
                          have dh := Aa.mk cg
                          clear cg
                          have H' := Aa.mk H
                          clear H
                          obtain ⟨d3, cA, dK⟩ := Kd.B2 aj.out
                          subst dK
                          try go_wp2
                          have n0_ := Aa.mk (Kd.Db ah.out)
                          have n1_ := Aa.mk (Kd.Db ai.out)
                          have n2_ := Aa.mk (Kd.Db aj.out)
                          have n3_ := Aa.mk (Au aa.out)
                          have n4_ := Aa.mk (Ai HB.out)
                          clear ah
                          clear ai
                          clear aj
                          clear aa
                          clear HB
                          have ah := n0_
                          have ai := n1_
                          have aj := n2_
                          have aa := n3_
                          have HB := n4_
                          clear n0_ n1_ n2_ n3_ n4_
                          have ba : 0 ≤ (ab : Int) := of_decide_eq_true (by with_reducible assumption)
                          have bb : ab < (ae.length : Int) := of_decide_eq_true (by with_reducible assumption)
                          obtain ⟨aE, e133, aG⟩ := Kd.at_int (Kd.Bb aj.out).2.2 ab ba bb
                          cases e133
                          replace ba := eq_true ba
                          replace bb := eq_true bb
                          have bc : 0 ≤ ((rd ae ab) : Int) := of_decide_eq_true (by with_reducible assumption)
                          have bd : (rd ae ab) < (ag.length : Int) := of_decide_eq_true (by with_reducible assumption)
                          obtain ⟨aK, e134, ak⟩ := Kd.at_bool aZ.out (rd ae ab) bc bd
                          have az := ak
                          (try rw [← bg.out] at ak)
                          (try rw [← bg.out] at az)
                          cases e134
                          replace ak := (HB.out.cell (World.block_lt_of_cell? w _ ak)).trans ak
                          replace bc := eq_true bc
                          replace bd := eq_true bd
                          have bP : 0 ≤ (ab : Int) := of_decide_eq_true (by with_reducible assumption)
                          have bQ : ab < (ae.length : Int) := of_decide_eq_true (by with_reducible assumption)
                          obtain ⟨ck, e135, aN⟩ := Kd.at_int (Kd.Bb aj.out).2.2 ab bP bQ
                          obtain rfl : aE = ck := (by injection e135)
                          replace bP := eq_true bP
                          replace bQ := eq_true bQ
                          have bR : 0 ≤ ((rd ae ab) : Int) := of_decide_eq_true (by with_reducible assumption)
                          have bS : (rd ae ab) < (aw.length : Int) := of_decide_eq_true (by with_reducible assumption)
                          obtain ⟨cp, e136, aA⟩ := Kd.at_int (Kd.Bb ah.out).2.2 (rd ae ab) bR bS
                          obtain rfl : (⟨go26, 0, none⟩ : Addr) = cp := (by injection e136)
                          (first | simp only [add_plain] at aA | simp only [add_at] at aA | simp only [Addr.add, Nat.zero_add] at aA | skip)
                          replace bR := eq_true bR
                          replace bS := eq_true bS
                          refine start_ (n := 18) (S := fun w' => w'.cell? ⟨ac, 0, none⟩ = some (.int .i64 al) ∧ w'.cell? ⟨ac, 1, none⟩ = some (.int .i64 am) ∧ w'.cell? ⟨ac, 2, none⟩ = some (.slice (some aK) ag.length ay) ∧ w'.cell? (aE.add (ab).toNat) = some (.int .i64 (rd ae ab)) ∧ w'.cell? (aK.add ((rd ae ab)).toNat) = some (.bool true) ∧ w'.cell? (aE.add (ab).toNat) = some (.int .i64 (rd ae ab)) ∧ w'.cell? ⟨go26, ((rd ae ab)).toNat, none⟩ = some (.int .i64 (rd aw (rd ae ab)))) (ds := []) #[false, false, false, false, false, false, false, false, false, false, false, false, false, false, false, false, false, false] (by kernel_rfl) rfl rfl ⟨(Ad aa.out 0).trans rfl, (Ad aa.out 1).trans rfl, (Ad aa.out 2).trans rfl, aG, ((HB.out.cell (World.block_lt_of_cell? w _ az)).trans az), aN, aA⟩ (fun hHeld => ?_); refine with_tabW Ao.tab20 Ao.bits20 (fun HT_ HW_ => ?_)
                          generalize wr.drew = w48 at ah ai aj aa HB aG ak aN aA hHeld ⊢
                          refine pure_ (i := 0) (N := some 75) (v := ?_) (a' := ?_) (bA 18 1) rfl rfl (any_of HT_.out (by kernel_rfl)) (fun _ _ _ h => h) (Or.inl ⟨by rfl, ?_⟩) ?_ ?_
                          rotate_left; (intro w'; go_simp; with_reducible rfl); rotate_left; (simp only [Act.put, sA, sB, sC, i64_w, i32_w]; rfl)
                          refine pure_ (i := 2) (N := some 77) (v := ?_) (a' := ?_) (bA 18 5) rfl rfl (any_of HT_.out (by kernel_rfl)) (fun _ _ _ h => h) (Or.inl ⟨by rfl, ?_⟩) ?_ ?_
                          rotate_left; (intro w'; go_simp; with_reducible rfl); rotate_left; (simp only [Act.put, sA, sB, sC, i64_w, i32_w]; rfl)
                          refine pure_ (i := 3) (N := some 78) (v := ?_) (a' := ?_) (bA 18 13) rfl rfl (any_of HT_.out (by kernel_rfl)) (fun _ _ _ h => h) (Or.inl ⟨by rfl, ?_⟩) ?_ ?_
                          rotate_left; (intro w'; go_simp; with_reducible rfl); rotate_left; (simp only [Act.put, sA, sB, sC, i64_w, i32_w]; rfl)
                          refine pure_ (i := 4) (N := some 79) (v := ?_) (a' := ?_) (bA 18 29) rfl rfl (any_of HT_.out (by kernel_rfl)) (fun _ _ _ h => h) (Or.inl ⟨by rfl, ?_⟩) ?_ ?_
                          rotate_left; (intro w'; go_simp; with_reducible rfl); rotate_left; (simp only [Act.put, sA, sB, sC, i64_w, i32_w]; rfl)
                          refine take_ (i := 1) (N := some 76) (v := ?_) (a' := ?_) (bA 18 31) rfl rfl (take_ofW HT_.out HW_.out (by kernel_rfl)) (fun _ _ _ h => h) (Or.inl ⟨by rfl, ?_⟩) hHeld ?_ ?_
                          rotate_left; (rintro w' ⟨s0, s1, s2, s3, s4, s5, s6⟩; go_simp; with_reducible rfl); rotate_left; (simp only [Act.put, sA, sB, sC, i64_w, i32_w]; rfl)
                          refine take_ (i := 5) (N := some 80) (v := ?_) (a' := ?_) (bA 18 63) rfl rfl (take_ofW HT_.out HW_.out (by kernel_rfl)) (fun _ _ _ h => h) (Or.inl ⟨by rfl, ?_⟩) hHeld ?_ ?_
                          rotate_left; (rintro w' ⟨s0, s1, s2, s3, s4, s5, s6⟩; go_simp; with_reducible rfl); rotate_left; (simp only [Act.put, sA, sB, sC, i64_w, i32_w]; rfl)
                          refine pure_ (i := 6) (N := some 81) (v := ?_) (a' := ?_) (bA 18 127) rfl rfl (any_of HT_.out (by kernel_rfl)) (fun _ _ _ h => h) (Or.inl ⟨by rfl, ?_⟩) ?_ ?_
                          rotate_left; (intro w'; go_simp; with_reducible rfl); rotate_left; (simp only [Act.put, sA, sB, sC, i64_w, i32_w]; rfl)
                          refine take_ (i := 7) (N := some 82) (v := ?_) (a' := ?_) (bA 18 255) rfl rfl (take_ofW HT_.out HW_.out (by kernel_rfl)) (fun _ _ _ h => h) (Or.inl ⟨by rfl, ?_⟩) hHeld ?_ ?_
                          rotate_left; (rintro w' ⟨s0, s1, s2, s3, s4, s5, s6⟩; go_simp; with_reducible rfl); rotate_left; (simp only [Act.put, sA, sB, sC, i64_w, i32_w]; rfl)
                          refine pure_ (i := 8) (N := some 83) (v := ?_) (a' := ?_) (bA 18 511) rfl rfl (any_of HT_.out (by kernel_rfl)) (fun _ _ _ h => h) (Or.inl ⟨by rfl, ?_⟩) ?_ ?_
                          rotate_left; (intro w'; go_simp; with_reducible rfl); rotate_left; (simp only [Act.put, sA, sB, sC, i64_w, i32_w]; rfl)
                          refine pure_ (i := 9) (N := some 84) (v := ?_) (a' := ?_) (bA 18 1023) rfl rfl (any_of HT_.out (by kernel_rfl)) (fun _ _ _ h => h) (Or.inl ⟨by rfl, ?_⟩) ?_ ?_
                          rotate_left; (intro w'; go_simp; with_reducible rfl); rotate_left; (simp only [Act.put, sA, sB, sC, i64_w, i32_w]; rfl)
                          refine pure_ (i := 10) (N := some 85) (v := ?_) (a' := ?_) (bA 18 2047) rfl rfl (any_of HT_.out (by kernel_rfl)) (fun _ _ _ h => h) (Or.inl ⟨by rfl, ?_⟩) ?_ ?_
                          rotate_left; (intro w'; go_simp; with_reducible rfl); rotate_left; (simp only [Act.put, sA, sB, sC, i64_w, i32_w]; rfl)
                          refine pure_ (i := 11) (N := some 86) (v := ?_) (a' := ?_) (bA 18 4095) rfl rfl (any_of HT_.out (by kernel_rfl)) (fun _ _ _ h => h) (Or.inl ⟨by rfl, ?_⟩) ?_ ?_
                          rotate_left; (intro w'; go_simp; with_reducible rfl); rotate_left; (simp only [Act.put, sA, sB, sC, i64_w, i32_w]; rfl)
                          refine pure_ (i := 12) (N := some 87) (v := ?_) (a' := ?_) (bA 18 8191) rfl rfl (any_of HT_.out (by kernel_rfl)) (fun _ _ _ h => h) (Or.inl ⟨by rfl, ?_⟩) ?_ ?_
                          rotate_left; (intro w'; go_simp; with_reducible rfl); rotate_left; (simp only [Act.put, sA, sB, sC, i64_w, i32_w]; rfl)
                          refine take_ (i := 13) (N := some 88) (v := ?_) (a' := ?_) (bA 18 16383) rfl rfl (take_ofW HT_.out HW_.out (by kernel_rfl)) (fun _ _ _ h => h) (Or.inl ⟨by rfl, ?_⟩) hHeld ?_ ?_
                          rotate_left; (rintro w' ⟨s0, s1, s2, s3, s4, s5, s6⟩; go_simp; with_reducible rfl); rotate_left; (simp only [Act.put, sA, sB, sC, i64_w, i32_w]; rfl)
                          refine pure_ (i := 14) (N := some 89) (v := ?_) (a' := ?_) (bA 18 32767) rfl rfl (any_of HT_.out (by kernel_rfl)) (fun _ _ _ h => h) (Or.inl ⟨by rfl, ?_⟩) ?_ ?_
                          rotate_left; (intro w'; go_simp; with_reducible rfl); rotate_left; (simp only [Act.put, sA, sB, sC, i64_w, i32_w]; rfl)
                          refine take_ (i := 15) (N := some 90) (v := ?_) (a' := ?_) (bA 18 65535) rfl rfl (take_ofW HT_.out HW_.out (by kernel_rfl)) (fun _ _ _ h => h) (Or.inl ⟨by rfl, ?_⟩) hHeld ?_ ?_
                          rotate_left; (rintro w' ⟨s0, s1, s2, s3, s4, s5, s6⟩; go_simp; with_reducible rfl); rotate_left; (simp only [Act.put, sA, sB, sC, i64_w, i32_w]; rfl)
                          refine pure_ (i := 16) (N := some 91) (v := ?_) (a' := ?_) (bA 18 131071) rfl rfl (any_of HT_.out (by kernel_rfl)) (fun _ _ _ h => h) (Or.inl ⟨by rfl, ?_⟩) ?_ ?_
                          rotate_left; (intro w'; go_simp; with_reducible rfl); rotate_left; (simp only [Act.put, sA, sB, sC, i64_w, i32_w]; rfl)
                          refine pure_ (i := 17) (N := some 92) (v := ?_) (a' := ?_) (bA 18 262143) rfl rfl (any_of HT_.out (by kernel_rfl)) (fun _ _ _ h => h) (Or.inl ⟨by rfl, ?_⟩) ?_ ?_
                          rotate_left; (intro w'; go_simp; with_reducible rfl); rotate_left; (simp only [Act.put, sA, sB, sC, i64_w, i32_w]; rfl)
                          refine done_ (done_of HT_.out (by kernel_rfl)) ?_
                          have cL : 0 ≤ (ab : Int) := of_decide_eq_true (by with_reducible assumption)
                          have cM : ab < (ae.length : Int) := of_decide_eq_true (by with_reducible assumption)
                          obtain ⟨di, e137, dl⟩ := Kd.at_int (Kd.Bb aj.out).2.2 ab cL cM
                          obtain rfl : aE = di := (by injection e137)
                          replace cL := eq_true cL
                          replace cM := eq_true cM
                          have p45 : 0 ≤ ((rd ae ab) : Int) := of_decide_eq_true (by with_reducible assumption)
                          have q45 : ((rd ae ab) : Int) < ((aw.length : Int) : Int) := of_decide_eq_true (by with_reducible assumption)
                          obtain ⟨dL, dM⟩ := Kd.C8 0 ah.out ((rd ae ab) : Int) p45 q45
                          replace p45 := eq_true p45
                          replace q45 := eq_true q45
                          obtain ⟨hy49_, hz49_⟩ := Kd.C8 0 ah.out ((rd ae ab) : Int) (of_decide_eq_true (by with_reducible assumption)) (of_decide_eq_true (by with_reducible assumption))
                          have cO := Kd.R_putg ah.out ((rd ae ab) : Int) (wrap64 (aH + 1))
                          try go_wp2_with (first | ((with_reducible refine C3 (t := 3) (p := 99) rfl ?_); refine store_event (t := 3) (p := 99) (v := ?vo_w50) (w1 := (w48.setCell ⟨go26, ((rd ae ab) : Int).toNat, none⟩ (.int .i64 (wrap64 (aH + 1))))) ?hg ?ho ?hn ?hr ?_; (case ho => rfl); (case hg => rfl); (case hn => rfl); (case hr => first | (go_simp; done) | (go_simp; rfl)); intro w50 hw; have hg : w48.grownBy w50 (some go26) := (by rw [hw]; exact cO.2); have hp_ : Kd.R (Kd.int .i64) 3 w50 w.heap.size (fun k_ => some k_ ≠ (u11 : Value).ownBlock ∧ some k_ ≠ (.slice (some aE) ae.length cA : Value).ownBlock) (.slice (some ⟨go26, 0, none⟩) aw.length aM) df := (by rw [hw, dg.out]; exact cO.1); clear cO; have n0_ := Aa.mk (hp_); have n1_ := Aa.mk (Kd.C9 (v := (.slice (some ⟨go26, 0, none⟩) aw.length aM)) (v1 := (.slice (some ⟨go26, 0, none⟩) aw.length aM)) (ok := (fun k_ => some k_ ≠ (.slice (some aE) ae.length cA : Value).ownBlock)) (by exact rU <| Kd.Bs ai.out (fun _ hk => ⟨hk.2, hk.1⟩)) hg (.inl rfl)); have n2_ := Aa.mk (Kd.C9 (v := (.slice (some ⟨go26, 0, none⟩) aw.length aM)) (v1 := (.slice (some ⟨go26, 0, none⟩) aw.length aM)) (ok := (fun k_ => some k_ ≠ (u11 : Value).ownBlock)) (by exact rU <| Kd.Bs aj.out (fun _ hk => ⟨hk.2, hk.1⟩)) hg (.inl rfl)); have n3_ := Aa.mk (Bz (g := ac) (o := .cells #[.int .i64 al, .int .i64 am, .slice (some aK) ag.length ay] 50 (0, 0)) (by exact bU <| aa.out) hg (Kd.Dd ah.out aa.out (by decide))); have n4_ := Aa.mk ((by rw [hw]; exact Ag (HB.out) GB26.out : Below w.heap.size w w50)); clear ah; clear ai; clear aj; clear aa; clear HB; have ah := n0_; have ai := n1_; have aj := n2_; have aa := n3_; have HB := n4_; clear n0_ n1_ n2_ n3_ n4_; clear hg hw hp_; have cP : 0 ≤ (ab : Int) := of_decide_eq_true (by with_reducible assumption); have cQ : ab < (ae.length : Int) := of_decide_eq_true (by with_reducible assumption); obtain ⟨dj, e139, dn⟩ := Kd.at_int (Kd.Bb aj.out).2.2 ab cP cQ; obtain rfl : aE = dj := (by injection e139); replace cP := eq_true cP; replace cQ := eq_true cQ) | ((with_reducible refine Ck (b := .append) (xs := #[.tmp 100, .tmp 105]) rfl ?_); at_builtin; refine Kd.Cz (Kd.int .i64) (w0 := w) w.heap.size rfl (.tmp 100) (.tmp 105) 31 3 (.int .i64 0) 8 rfl Try.underlying31 info3 rfl (by decide) (by omega) u11 aI (rd ae ab) [.int .i64 (rd ae ab)] (fun k_ => some k_ ≠ (.slice (some ⟨go26, 0, none⟩) aw.length aM : Value).ownBlock ∧ some k_ ≠ (.slice (some aE) ae.length cA : Value).ownBlock) (fun _ => False) rfl rfl ?aP (fun _ hk => hk.elim) ?aF ?aO ?aB ?aS ?aL ?_; (case aP => exact rfl); (case aB => exact (by repeat (first | (with_reducible first | exact HB.out | apply Af | apply Ac | apply Ai | refine Ag ?_ ar.out) | exact HB.out))); (case aF => exact (fun k_ hk => ⟨Kd.fresh' (Kd.Cv (by exact rU <| ah.out)) k_ hk, Kd.fresh' (Kd.Cv (by exact rU <| aj.out)) k_ hk⟩)); (case aO => exact (by exact rU <| Kd.Bs ai.out (fun _ hk => ⟨hk.2, hk.1⟩))); (case aS => exact (An (by repeat (first | (with_reducible first | exact HB.out | apply Af | apply Ac | apply Ai | refine Ag ?_ ar.out) | exact HB.out)))); (case aL => have := LMc46.out; omega); intro v141 w51 ho hb hg hat; rw [← dh.out] at ho; have n0_ := Aa.mk (Kd.C9 (ok := (fun k_ => some k_ ≠ (.slice (some aE) ae.length cA : Value).ownBlock)) (by exact rU <| Kd.Bs ah.out (fun _ hk => ⟨hk.2, hk.1⟩)) hg hat); have n1_ := Aa.mk (Kd.C9 (ok := (fun k_ => some k_ ≠ (.slice (some ⟨go26, 0, none⟩) aw.length aM : Value).ownBlock)) (by exact rU <| Kd.Bs aj.out (fun _ hk => ⟨hk.2, hk.1⟩)) hg hat); have n2_ := Aa.mk (Bz (g := ac) (o := .cells #[.int .i64 al, .int .i64 am, .slice (some aK) ag.length ay] 50 (0, 0)) (by exact bU <| aa.out) hg (Kd.Dd ai.out aa.out (by decide))); have n3_ := Aa.mk (hb); have n4_ := Aa.mk (ho); clear ah; clear aj; clear aa; clear HB; clear ai; have ah := n0_; have aj := n1_; have aa := n2_; have HB := n3_; have dk := n4_; clear n0_ n1_ n2_ n3_ n4_; clear ho hb hg hat))
                          (try simp only [← au])
                          go_roundg k4
                          case measure => have := HK1.out; have := HJ13.out; have := HK3.out; have := HK4.out; omega
                          case rel => exact ⟨(df), (dJ), (wrap64 (ab + 1)), (by first | rfl | (simp; done) | (simp [*]; done)), H', ⟨by have := HK1.out; have := HJ13.out; have := HK3.out; have := HK4.out; omega⟩, ⟨by (try simp only [ao]); (try simp only [au]); exact rU <| Kd.Bs ah.out (fun _ hk => ⟨hk.2, hk.1⟩)⟩, ⟨by (try simp only [ao]); (try simp only [au]); exact rU <| dk.out⟩, ⟨by (try simp only [ao]); (try simp only [au]); exact rU <| aj.out⟩, ⟨by (try simp only [ao]); (try simp only [au]); exact bU <| aa.out⟩, ⟨by repeat (first | (with_reducible first | exact HB.out | apply Af | apply Ac | apply Ai | refine Ag ?_ ar.out) | exact HB.out)⟩⟩
                         ·rw [if_neg c46] at H
                          exact absurd H (by simp)
                        ·rw [if_neg c44] at H
                         have dd : ((rd aw (rd ae ab)) == 0) = false := beq_eq_false_iff_ne.mpr c44
                         have de : ((rd aw (rd ae ab)) != 0) = true := bne_iff_ne.mpr c44
                         have H' := Aa.mk H
                         clear H
                         obtain ⟨d4, d5, dN⟩ := Kd.B2 aj.out
                         subst dN
                         try go_wp2
                         have n0_ := Aa.mk (Kd.Db ah.out)
                         have n1_ := Aa.mk (Kd.Db ai.out)
                         have n2_ := Aa.mk (Kd.Db aj.out)
                         have n3_ := Aa.mk (Au aa.out)
                         have n4_ := Aa.mk (Ai HB.out)
                         clear ah
                         clear ai
                         clear aj
                         clear aa
                         clear HB
                         have ah := n0_
                         have ai := n1_
                         have aj := n2_
                         have aa := n3_
                         have HB := n4_
                         clear n0_ n1_ n2_ n3_ n4_
                         have ba : 0 ≤ (ab : Int) := of_decide_eq_true (by with_reducible assumption)
                         have bb : ab < (ae.length : Int) := of_decide_eq_true (by with_reducible assumption)
                         obtain ⟨aE, e133, aG⟩ := Kd.at_int (Kd.Bb aj.out).2.2 ab ba bb
                         cases e133
                         replace ba := eq_true ba
                         replace bb := eq_true bb
                         have bc : 0 ≤ ((rd ae ab) : Int) := of_decide_eq_true (by with_reducible assumption)
                         have bd : (rd ae ab) < (ag.length : Int) := of_decide_eq_true (by with_reducible assumption)
                         obtain ⟨aK, e134, ak⟩ := Kd.at_bool aZ.out (rd ae ab) bc bd
                         have az := ak
                         (try rw [← bg.out] at ak)
                         (try rw [← bg.out] at az)
                         cases e134
                         replace ak := (HB.out.cell (World.block_lt_of_cell? w _ ak)).trans ak
                         replace bc := eq_true bc
                         replace bd := eq_true bd
                         have bP : 0 ≤ (ab : Int) := of_decide_eq_true (by with_reducible assumption)
                         have bQ : ab < (ae.length : Int) := of_decide_eq_true (by with_reducible assumption)
                         obtain ⟨ck, e135, aN⟩ := Kd.at_int (Kd.Bb aj.out).2.2 ab bP bQ
                         obtain rfl : aE = ck := (by injection e135)
                         replace bP := eq_true bP
                         replace bQ := eq_true bQ
                         have bR : 0 ≤ ((rd ae ab) : Int) := of_decide_eq_true (by with_reducible assumption)
                         have bS : (rd ae ab) < (aw.length : Int) := of_decide_eq_true (by with_reducible assumption)
                         obtain ⟨cp, e136, aA⟩ := Kd.at_int (Kd.Bb ah.out).2.2 (rd ae ab) bR bS
                         obtain rfl : (⟨go26, 0, none⟩ : Addr) = cp := (by injection e136)
                         (first | simp only [add_plain] at aA | simp only [add_at] at aA | simp only [Addr.add, Nat.zero_add] at aA | skip)
                         replace bR := eq_true bR
                         replace bS := eq_true bS
                         refine start_ (n := 18) (S := fun w' => w'.cell? ⟨ac, 0, none⟩ = some (.int .i64 al) ∧ w'.cell? ⟨ac, 1, none⟩ = some (.int .i64 am) ∧ w'.cell? ⟨ac, 2, none⟩ = some (.slice (some aK) ag.length ay) ∧ w'.cell? (aE.add (ab).toNat) = some (.int .i64 (rd ae ab)) ∧ w'.cell? (aK.add ((rd ae ab)).toNat) = some (.bool true) ∧ w'.cell? (aE.add (ab).toNat) = some (.int .i64 (rd ae ab)) ∧ w'.cell? ⟨go26, ((rd ae ab)).toNat, none⟩ = some (.int .i64 (rd aw (rd ae ab)))) (ds := []) #[false, false, false, false, false, false, false, false, false, false, false, false, false, false, false, false, false, false] (by kernel_rfl) rfl rfl ⟨(Ad aa.out 0).trans rfl, (Ad aa.out 1).trans rfl, (Ad aa.out 2).trans rfl, aG, ((HB.out.cell (World.block_lt_of_cell? w _ az)).trans az), aN, aA⟩ (fun hHeld => ?_); refine with_tabW Ao.tab20 Ao.bits20 (fun HT_ HW_ => ?_)
                         generalize wr.drew = w53 at ah ai aj aa HB aG ak aN aA hHeld ⊢
                         refine pure_ (i := 0) (N := some 75) (v := ?_) (a' := ?_) (bA 18 1) rfl rfl (any_of HT_.out (by kernel_rfl)) (fun _ _ _ h => h) (Or.inl ⟨by rfl, ?_⟩) ?_ ?_
                         rotate_left; (intro w'; go_simp; with_reducible rfl); rotate_left; (simp only [Act.put, sA, sB, sC, i64_w, i32_w]; rfl)
                         refine pure_ (i := 2) (N := some 77) (v := ?_) (a' := ?_) (bA 18 5) rfl rfl (any_of HT_.out (by kernel_rfl)) (fun _ _ _ h => h) (Or.inl ⟨by rfl, ?_⟩) ?_ ?_
                         rotate_left; (intro w'; go_simp; with_reducible rfl); rotate_left; (simp only [Act.put, sA, sB, sC, i64_w, i32_w]; rfl)
                         refine pure_ (i := 3) (N := some 78) (v := ?_) (a' := ?_) (bA 18 13) rfl rfl (any_of HT_.out (by kernel_rfl)) (fun _ _ _ h => h) (Or.inl ⟨by rfl, ?_⟩) ?_ ?_
                         rotate_left; (intro w'; go_simp; with_reducible rfl); rotate_left; (simp only [Act.put, sA, sB, sC, i64_w, i32_w]; rfl)
                         refine pure_ (i := 4) (N := some 79) (v := ?_) (a' := ?_) (bA 18 29) rfl rfl (any_of HT_.out (by kernel_rfl)) (fun _ _ _ h => h) (Or.inl ⟨by rfl, ?_⟩) ?_ ?_
                         rotate_left; (intro w'; go_simp; with_reducible rfl); rotate_left; (simp only [Act.put, sA, sB, sC, i64_w, i32_w]; rfl)
                         refine take_ (i := 1) (N := some 76) (v := ?_) (a' := ?_) (bA 18 31) rfl rfl (take_ofW HT_.out HW_.out (by kernel_rfl)) (fun _ _ _ h => h) (Or.inl ⟨by rfl, ?_⟩) hHeld ?_ ?_
                         rotate_left; (rintro w' ⟨s0, s1, s2, s3, s4, s5, s6⟩; go_simp; with_reducible rfl); rotate_left; (simp only [Act.put, sA, sB, sC, i64_w, i32_w]; rfl)
                         refine take_ (i := 5) (N := some 80) (v := ?_) (a' := ?_) (bA 18 63) rfl rfl (take_ofW HT_.out HW_.out (by kernel_rfl)) (fun _ _ _ h => h) (Or.inl ⟨by rfl, ?_⟩) hHeld ?_ ?_
                         rotate_left; (rintro w' ⟨s0, s1, s2, s3, s4, s5, s6⟩; go_simp; with_reducible rfl); rotate_left; (simp only [Act.put, sA, sB, sC, i64_w, i32_w]; rfl)
                         refine pure_ (i := 6) (N := some 81) (v := ?_) (a' := ?_) (bA 18 127) rfl rfl (any_of HT_.out (by kernel_rfl)) (fun _ _ _ h => h) (Or.inl ⟨by rfl, ?_⟩) ?_ ?_
                         rotate_left; (intro w'; go_simp; with_reducible rfl); rotate_left; (simp only [Act.put, sA, sB, sC, i64_w, i32_w]; rfl)
                         refine take_ (i := 7) (N := some 82) (v := ?_) (a' := ?_) (bA 18 255) rfl rfl (take_ofW HT_.out HW_.out (by kernel_rfl)) (fun _ _ _ h => h) (Or.inl ⟨by rfl, ?_⟩) hHeld ?_ ?_
                         rotate_left; (rintro w' ⟨s0, s1, s2, s3, s4, s5, s6⟩; go_simp; with_reducible rfl); rotate_left; (simp only [Act.put, sA, sB, sC, i64_w, i32_w]; rfl)
                         refine pure_ (i := 8) (N := some 83) (v := ?_) (a' := ?_) (bA 18 511) rfl rfl (any_of HT_.out (by kernel_rfl)) (fun _ _ _ h => h) (Or.inl ⟨by rfl, ?_⟩) ?_ ?_
                         rotate_left; (intro w'; go_simp; with_reducible rfl); rotate_left; (simp only [Act.put, sA, sB, sC, i64_w, i32_w]; rfl)
                         refine pure_ (i := 9) (N := some 84) (v := ?_) (a' := ?_) (bA 18 1023) rfl rfl (any_of HT_.out (by kernel_rfl)) (fun _ _ _ h => h) (Or.inl ⟨by rfl, ?_⟩) ?_ ?_
                         rotate_left; (intro w'; go_simp; with_reducible rfl); rotate_left; (simp only [Act.put, sA, sB, sC, i64_w, i32_w]; rfl)
                         refine pure_ (i := 10) (N := some 85) (v := ?_) (a' := ?_) (bA 18 2047) rfl rfl (any_of HT_.out (by kernel_rfl)) (fun _ _ _ h => h) (Or.inl ⟨by rfl, ?_⟩) ?_ ?_
                         rotate_left; (intro w'; go_simp; with_reducible rfl); rotate_left; (simp only [Act.put, sA, sB, sC, i64_w, i32_w]; rfl)
                         refine pure_ (i := 11) (N := some 86) (v := ?_) (a' := ?_) (bA 18 4095) rfl rfl (any_of HT_.out (by kernel_rfl)) (fun _ _ _ h => h) (Or.inl ⟨by rfl, ?_⟩) ?_ ?_
                         rotate_left; (intro w'; go_simp; with_reducible rfl); rotate_left; (simp only [Act.put, sA, sB, sC, i64_w, i32_w]; rfl)
                         refine pure_ (i := 12) (N := some 87) (v := ?_) (a' := ?_) (bA 18 8191) rfl rfl (any_of HT_.out (by kernel_rfl)) (fun _ _ _ h => h) (Or.inl ⟨by rfl, ?_⟩) ?_ ?_
                         rotate_left; (intro w'; go_simp; with_reducible rfl); rotate_left; (simp only [Act.put, sA, sB, sC, i64_w, i32_w]; rfl)
                         refine take_ (i := 13) (N := some 88) (v := ?_) (a' := ?_) (bA 18 16383) rfl rfl (take_ofW HT_.out HW_.out (by kernel_rfl)) (fun _ _ _ h => h) (Or.inl ⟨by rfl, ?_⟩) hHeld ?_ ?_
                         rotate_left; (rintro w' ⟨s0, s1, s2, s3, s4, s5, s6⟩; go_simp; with_reducible rfl); rotate_left; (simp only [Act.put, sA, sB, sC, i64_w, i32_w]; rfl)
                         refine pure_ (i := 14) (N := some 89) (v := ?_) (a' := ?_) (bA 18 32767) rfl rfl (any_of HT_.out (by kernel_rfl)) (fun _ _ _ h => h) (Or.inl ⟨by rfl, ?_⟩) ?_ ?_
                         rotate_left; (intro w'; go_simp; with_reducible rfl); rotate_left; (simp only [Act.put, sA, sB, sC, i64_w, i32_w]; rfl)
                         refine take_ (i := 15) (N := some 90) (v := ?_) (a' := ?_) (bA 18 65535) rfl rfl (take_ofW HT_.out HW_.out (by kernel_rfl)) (fun _ _ _ h => h) (Or.inl ⟨by rfl, ?_⟩) hHeld ?_ ?_
                         rotate_left; (rintro w' ⟨s0, s1, s2, s3, s4, s5, s6⟩; go_simp; with_reducible rfl); rotate_left; (simp only [Act.put, sA, sB, sC, i64_w, i32_w]; rfl)
                         refine pure_ (i := 16) (N := some 91) (v := ?_) (a' := ?_) (bA 18 131071) rfl rfl (any_of HT_.out (by kernel_rfl)) (fun _ _ _ h => h) (Or.inl ⟨by rfl, ?_⟩) ?_ ?_
                         rotate_left; (intro w'; go_simp; with_reducible rfl); rotate_left; (simp only [Act.put, sA, sB, sC, i64_w, i32_w]; rfl)
                         refine pure_ (i := 17) (N := some 92) (v := ?_) (a' := ?_) (bA 18 262143) rfl rfl (any_of HT_.out (by kernel_rfl)) (fun _ _ _ h => h) (Or.inl ⟨by rfl, ?_⟩) ?_ ?_
                         rotate_left; (intro w'; go_simp; with_reducible rfl); rotate_left; (simp only [Act.put, sA, sB, sC, i64_w, i32_w]; rfl)
                         refine done_ (done_of HT_.out (by kernel_rfl)) ?_
                         try go_wp2
                         (try simp only [← au])
                         go_roundg k4
                         case measure => have := HK1.out; have := HJ13.out; have := HK3.out; have := HK4.out; omega
                         case rel => exact ⟨(aw), (aI), (wrap64 (ab + 1)), (by first | rfl | (simp; done) | (simp [*]; done)), H', ⟨by have := HK1.out; have := HJ13.out; have := HK3.out; have := HK4.out; omega⟩, ⟨by (try simp only [ao]); (try simp only [au]); exact rU <| ah.out⟩, ⟨by (try simp only [ao]); (try simp only [au]); exact rU <| ai.out⟩, ⟨by (try simp only [ao]); (try simp only [au]); exact rU <| aj.out⟩, ⟨by (try simp only [ao]); (try simp only [au]); exact bU <| aa.out⟩, ⟨by repeat (first | (with_reducible first | exact HB.out | apply Af | apply Ac | apply Ai | refine Ag ?_ ar.out) | exact HB.out)⟩⟩
                       ·rw [if_neg c43] at H
                        exact absurd H (by simp)
                      ·replace c42 := Bool.eq_false_iff.mpr c42
                       subst c42
                       have H1 := H
                       rw [if_neg (show ¬ (false = true) by decide)] at H1
                       clear H
                       have H := H1
                       clear H1
                       have H' := Aa.mk H
                       clear H
                       obtain ⟨d6, d7, dO⟩ := Kd.B2 aj.out
                       subst dO
                       try go_wp2
                       have n0_ := Aa.mk (Kd.Db ah.out)
                       have n1_ := Aa.mk (Kd.Db ai.out)
                       have n2_ := Aa.mk (Kd.Db aj.out)
                       have n3_ := Aa.mk (Au aa.out)
                       have n4_ := Aa.mk (Ai HB.out)
                       clear ah
                       clear ai
                       clear aj
                       clear aa
                       clear HB
                       have ah := n0_
                       have ai := n1_
                       have aj := n2_
                       have aa := n3_
                       have HB := n4_
                       clear n0_ n1_ n2_ n3_ n4_
                       have ba : 0 ≤ (ab : Int) := of_decide_eq_true (by with_reducible assumption)
                       have bb : ab < (ae.length : Int) := of_decide_eq_true (by with_reducible assumption)
                       obtain ⟨aE, e133, aG⟩ := Kd.at_int (Kd.Bb aj.out).2.2 ab ba bb
                       cases e133
                       replace ba := eq_true ba
                       replace bb := eq_true bb
                       have bc : 0 ≤ ((rd ae ab) : Int) := of_decide_eq_true (by with_reducible assumption)
                       have bd : (rd ae ab) < (ag.length : Int) := of_decide_eq_true (by with_reducible assumption)
                       obtain ⟨aK, e134, ak⟩ := Kd.at_bool aZ.out (rd ae ab) bc bd
                       have az := ak
                       (try rw [← bg.out] at ak)
                       (try rw [← bg.out] at az)
                       cases e134
                       replace ak := (HB.out.cell (World.block_lt_of_cell? w _ ak)).trans ak
                       replace bc := eq_true bc
                       replace bd := eq_true bd
                       refine start_ (n := 18) (S := fun w' => w'.cell? ⟨ac, 0, none⟩ = some (.int .i64 al) ∧ w'.cell? ⟨ac, 1, none⟩ = some (.int .i64 am) ∧ w'.cell? ⟨ac, 2, none⟩ = some (.slice (some aK) ag.length ay) ∧ w'.cell? (aE.add (ab).toNat) = some (.int .i64 (rd ae ab)) ∧ w'.cell? (aK.add ((rd ae ab)).toNat) = some (.bool false)) (ds := []) #[false, false, false, false, false, false, false, false, false, false, false, false, false, false, false, false, false, false] (by kernel_rfl) rfl rfl ⟨(Ad aa.out 0).trans rfl, (Ad aa.out 1).trans rfl, (Ad aa.out 2).trans rfl, aG, ((HB.out.cell (World.block_lt_of_cell? w _ az)).trans az)⟩ (fun hHeld => ?_); refine with_tabW Ao.tab20 Ao.bits20 (fun HT_ HW_ => ?_)
                       generalize wr.drew = w55 at ah ai aj aa HB aG ak hHeld ⊢
                       refine pure_ (i := 0) (N := some 75) (v := ?_) (a' := ?_) (bA 18 1) rfl rfl (any_of HT_.out (by kernel_rfl)) (fun _ _ _ h => h) (Or.inl ⟨by rfl, ?_⟩) ?_ ?_
                       rotate_left; (intro w'; go_simp; with_reducible rfl); rotate_left; (simp only [Act.put, sA, sB, sC, i64_w, i32_w]; rfl)
                       refine pure_ (i := 2) (N := some 77) (v := ?_) (a' := ?_) (bA 18 5) rfl rfl (any_of HT_.out (by kernel_rfl)) (fun _ _ _ h => h) (Or.inl ⟨by rfl, ?_⟩) ?_ ?_
                       rotate_left; (intro w'; go_simp; with_reducible rfl); rotate_left; (simp only [Act.put, sA, sB, sC, i64_w, i32_w]; rfl)
                       refine pure_ (i := 3) (N := some 78) (v := ?_) (a' := ?_) (bA 18 13) rfl rfl (any_of HT_.out (by kernel_rfl)) (fun _ _ _ h => h) (Or.inl ⟨by rfl, ?_⟩) ?_ ?_
                       rotate_left; (intro w'; go_simp; with_reducible rfl); rotate_left; (simp only [Act.put, sA, sB, sC, i64_w, i32_w]; rfl)
                       refine pure_ (i := 4) (N := some 79) (v := ?_) (a' := ?_) (bA 18 29) rfl rfl (any_of HT_.out (by kernel_rfl)) (fun _ _ _ h => h) (Or.inl ⟨by rfl, ?_⟩) ?_ ?_
                       rotate_left; (intro w'; go_simp; with_reducible rfl); rotate_left; (simp only [Act.put, sA, sB, sC, i64_w, i32_w]; rfl)
                       refine take_ (i := 1) (N := some 76) (v := ?_) (a' := ?_) (bA 18 31) rfl rfl (take_ofW HT_.out HW_.out (by kernel_rfl)) (fun _ _ _ h => h) (Or.inl ⟨by rfl, ?_⟩) hHeld ?_ ?_
                       rotate_left; (rintro w' ⟨s0, s1, s2, s3, s4⟩; go_simp; with_reducible rfl); rotate_left; (simp only [Act.put, sA, sB, sC, i64_w, i32_w]; rfl)
                       refine take_ (i := 5) (N := some 80) (v := ?_) (a' := ?_) (bA 18 63) rfl rfl (take_ofW HT_.out HW_.out (by kernel_rfl)) (fun _ _ _ h => h) (Or.inl ⟨by rfl, ?_⟩) hHeld ?_ ?_
                       rotate_left; (rintro w' ⟨s0, s1, s2, s3, s4⟩; go_simp; with_reducible rfl); rotate_left; (simp only [Act.put, sA, sB, sC, i64_w, i32_w]; rfl)
                       refine pure_ (i := 6) (N := some 81) (v := ?_) (a' := ?_) (bA 18 127) rfl rfl (any_of HT_.out (by kernel_rfl)) (fun _ _ _ h => h) (Or.inl ⟨by rfl, ?_⟩) ?_ ?_
                       rotate_left; (intro w'; go_simp; with_reducible rfl); rotate_left; (simp only [Act.put, sA, sB, sC, i64_w, i32_w]; rfl)
                       refine take_ (i := 7) (N := some 82) (v := ?_) (a' := ?_) (bA 18 255) rfl rfl (take_ofW HT_.out HW_.out (by kernel_rfl)) (fun _ _ _ h => h) (Or.inl ⟨by rfl, ?_⟩) hHeld ?_ ?_
                       rotate_left; (rintro w' ⟨s0, s1, s2, s3, s4⟩; go_simp; with_reducible rfl); rotate_left; (simp only [Act.put, sA, sB, sC, i64_w, i32_w]; rfl)
                       refine pure_ (i := 8) (N := some 83) (v := ?_) (a' := ?_) (bA 18 511) rfl rfl (any_of HT_.out (by kernel_rfl)) (fun _ _ _ h => h) (Or.inl ⟨by rfl, ?_⟩) ?_ ?_
                       rotate_left; (intro w'; go_simp; with_reducible rfl); rotate_left; (simp only [Act.put, sA, sB, sC, i64_w, i32_w]; rfl)
                       refine pure_ (i := 9) (N := some 84) (v := undef) (a' := ?_) (bA 18 1023) rfl rfl (any_of HT_.out (by kernel_rfl)) (fun _ _ _ h => h) (Or.inr ⟨by rfl, rfl⟩) ?_ ?_
                       rotate_left
                       ·simp only [Act.put, sA, sB, sC, i64_w, i32_w]
                        rfl
                       refine pure_ (i := 10) (N := some 85) (v := undef) (a' := ?_) (bA 18 2047) rfl rfl (any_of HT_.out (by kernel_rfl)) (fun _ _ _ h => h) (Or.inr ⟨by rfl, rfl⟩) ?_ ?_
                       rotate_left
                       ·simp only [Act.put, sA, sB, sC, i64_w, i32_w]
                        rfl
                       refine pure_ (i := 11) (N := some 86) (v := undef) (a' := ?_) (bA 18 4095) rfl rfl (any_of HT_.out (by kernel_rfl)) (fun _ _ _ h => h) (Or.inr ⟨by rfl, rfl⟩) ?_ ?_
                       rotate_left
                       ·simp only [Act.put, sA, sB, sC, i64_w, i32_w]
                        rfl
                       refine pure_ (i := 12) (N := some 87) (v := undef) (a' := ?_) (bA 18 8191) rfl rfl (any_of HT_.out (by kernel_rfl)) (fun _ _ _ h => h) (Or.inr ⟨by rfl, rfl⟩) ?_ ?_
                       rotate_left
                       ·simp only [Act.put, sA, sB, sC, i64_w, i32_w]
                        rfl
                       refine pure_ (i := 13) (N := some 88) (v := undef) (a' := ?_) (bA 18 16383) rfl rfl (any_of HT_.out (by kernel_rfl)) (fun _ _ _ h => h) (Or.inr ⟨by rfl, rfl⟩) ?_ ?_
                       rotate_left
                       ·simp only [Act.put, sA, sB, sC, i64_w, i32_w]
                        rfl
                       refine pure_ (i := 14) (N := some 89) (v := undef) (a' := ?_) (bA 18 32767) rfl rfl (any_of HT_.out (by kernel_rfl)) (fun _ _ _ h => h) (Or.inr ⟨by rfl, rfl⟩) ?_ ?_
                       rotate_left
                       ·simp only [Act.put, sA, sB, sC, i64_w, i32_w]
                        rfl
                       refine pure_ (i := 15) (N := some 90) (v := undef) (a' := ?_) (bA 18 65535) rfl rfl (any_of HT_.out (by kernel_rfl)) (fun _ _ _ h => h) (Or.inr ⟨by rfl, rfl⟩) ?_ ?_
                       rotate_left
                       ·simp only [Act.put, sA, sB, sC, i64_w, i32_w]
                        rfl
                       refine pure_ (i := 16) (N := some 91) (v := undef) (a' := ?_) (bA 18 131071) rfl rfl (any_of HT_.out (by kernel_rfl)) (fun _ _ _ h => h) (Or.inr ⟨by rfl, rfl⟩) ?_ ?_
                       rotate_left
                       ·simp only [Act.put, sA, sB, sC, i64_w, i32_w]
                        rfl
                       refine pure_ (i := 17) (N := some 92) (v := ?_) (a' := ?_) (bA 18 262143) rfl rfl (any_of HT_.out (by kernel_rfl)) (fun _ _ _ h => h) (Or.inl ⟨by rfl, ?_⟩) ?_ ?_
                       rotate_left; (intro w'; go_simp; with_reducible rfl); rotate_left; (simp only [Act.put, sA, sB, sC, i64_w, i32_w]; rfl)
                       refine done_ (done_of HT_.out (by kernel_rfl)) ?_
                       try go_wp2
                       (try simp only [← au])
                       go_roundg k4
                       case measure => have := HK1.out; have := HJ13.out; have := HK3.out; have := HK4.out; omega
                       case rel => exact ⟨(aw), (aI), (wrap64 (ab + 1)), (by first | rfl | (simp; done) | (simp [*]; done)), H', ⟨by have := HK1.out; have := HJ13.out; have := HK3.out; have := HK4.out; omega⟩, ⟨by (try simp only [ao]); (try simp only [au]); exact rU <| ah.out⟩, ⟨by (try simp only [ao]); (try simp only [au]); exact rU <| ai.out⟩, ⟨by (try simp only [ao]); (try simp only [au]); exact rU <| aj.out⟩, ⟨by (try simp only [ao]); (try simp only [au]); exact bU <| aa.out⟩, ⟨by repeat (first | (with_reducible first | exact HB.out | apply Af | apply Ac | apply Ai | refine Ag ?_ ar.out) | exact HB.out)⟩⟩
                     ·rw [if_neg c40] at H
                      exact absurd H (by simp)
                    ·rw [if_neg c39] at H
                     exact absurd H (by simp)
                   ·rw [if_neg c38] at H
                    exact absurd H (by simp)
                  ·rw [if_neg c37] at H
                   have dc : decide (ab < (ae.length : Int)) = false := decide_eq_false c37
                   clear c37
                   have H' := Aa.mk H
                   clear H
                   obtain ⟨d8, d9, dP⟩ := Kd.B2 aj.out
                   subst dP
                   go_wp2
                   (try simp only [← ao, ← au])
                   go_roundg k4
                   case measure => have := HK1.out; have := HJ13.out; have := HK3.out; have := HK4.out; omega
                   case rel => exact ⟨(aw), (aI), (wrap64 (ax + 1)), (by first | rfl | (simp; done) | (simp [*]; done)), H', ⟨by have := HK1.out; have := HJ13.out; have := HK3.out; have := HK4.out; omega⟩, ⟨by (try simp only [ao]); (try simp only [au]); exact rU <| Kd.Bs ah.out (fun _ hk => hk.1)⟩, ⟨by (try simp only [ao]); (try simp only [au]); exact rU <| Kd.Bs ai.out (fun _ hk => hk.1)⟩, ⟨by (try simp only [ao]); (try simp only [au]); exact bU <| aa.out⟩, ⟨by repeat (first | (with_reducible first | exact HB.out | apply Af | apply Ac | apply Ai | refine Ag ?_ ar.out) | exact HB.out)⟩⟩
               ·rw [if_neg c32] at H
                exact absurd H (by simp)
              ·rw [if_neg c31] at H
               have cJ : decide (ax < (aJ.length : Int)) = false := decide_eq_false c31
               clear c31
               have H' := Aa.mk H
               clear H
               obtain ⟨ec, ed, dQ⟩ := Kd.B2 ai.out
               subst dQ
               go_wp2
               (try simp only [← ao])
               go_roundg k3
               case measure => have := HK1.out; have := HJ13.out; have := HK3.out; omega
               case rel => exact ⟨(bO), ((wrap64 (aH + 1))), (wrap64 (af + 1)), (by first | rfl | (simp; done) | (simp [*]; done)), (by first | rfl | (simp; done) | (simp [*]; done)), H', ⟨by have := HK1.out; have := HJ13.out; have := HK3.out; omega⟩, ⟨by (try simp only [ao]); exact rU <| Kd.Bs ah.out (fun _ hk => trivial)⟩, ⟨by (try simp only [ao]); exact bU <| aa.out⟩, ⟨by repeat (first | (with_reducible first | exact HB.out | apply Af | apply Ac | apply Ai | refine Ag ?_ ar.out) | exact HB.out)⟩⟩
           ·rw [if_neg c25] at H
            exact absurd H (by simp)
          ·rw [if_neg c24] at H
           exact absurd H (by simp)
      ·rw [if_neg c13] at H
       have bT : decide (af < (ag.length : Int)) = false := decide_eq_false c13
       clear c13
       simp only [Option.some.injEq, Prod.mk.injEq] at H
       obtain ⟨rfl, rfl, rfl⟩ := H
       have dp : wr.cell? ⟨ac, 0, none⟩ = some (.int .i64 al) := (Ad aa.out 0).trans rfl
       have dq : wr.cell? ⟨ac, 1, none⟩ = some (.int .i64 am) := (Ad aa.out 1).trans rfl
       have dr : wr.cell? ⟨ac, 2, none⟩ = some (.slice aC ag.length ay) := (Ad aa.out 2).trans rfl
       have dt := Ah aa.out 0
       have du := Ah aa.out 1
       have dv := Ah aa.out 2
       go_wp2
       go_ret3
       exact ⟨_, by first | rfl | (simp [Bd, Bc] <;> rfl) | (simp [*, Bd, Bc] <;> rfl), by exact rU <| ah.out, by repeat (first | (with_reducible first | exact HB.out | apply Af | apply Ac | apply Ai | refine Ag ?_ ar.out) | exact HB.out)⟩
   ·rw [if_neg c6] at H
    exact absurd H (by simp)
  ·rw [if_neg c5] at H
   exact absurd H (by simp)
 ·rw [if_neg c4] at H
  have bY : (aQ == 0) = false := beq_eq_false_iff_ne.mpr c4
  have bZ : (aQ != 0) = true := bne_iff_ne.mpr c4
  simp only [Option.some.injEq, Prod.mk.injEq] at H
  obtain ⟨rfl, rfl, rfl⟩ := H
  go_enter Try.func23, Try.ntmps23
  go_wp2_with (first | ((with_reducible refine Br (N := 2) rfl ?_); refine Bt ?hg (N := 2) ?hd (cs := #[.int .i64 al, .int .i64 am, .slice aC ag.length ay]) (t := 50) ?hr ?_; (case hd => rfl); (case hg => rfl); (case hr => first | (go_simp; done) | (go_simp; rfl)); intro ac hg w59 hbox hb; have n0_ := Aa.mk (At (lU HB.out) hb); have n1_ := Aa.mk (hbox); have n2_ := Aa.mk ((by rw [hg]; exact (An (lU HB.out)) : w.heap.size ≤ ac)); have n3_ := Aa.mk ((by rw [hg]; exact (An (lU HB.out)) : w.heap.size ≤ ac)); clear HB; have HB := n0_; have aa := n1_; have cR := n2_; have ar := n3_; clear n0_ n1_ n2_ n3_; clear hb hbox hg; have dw : w59.cell? ⟨ac, 0, none⟩ = some (.int .i64 al) := (Ad aa.out 0).trans rfl; have dz : w59.cell? ⟨ac, 1, none⟩ = some (.int .i64 am) := (Ad aa.out 1).trans rfl; have dA : w59.cell? ⟨ac, 2, none⟩ = some (.slice aC ag.length ay) := (Ad aa.out 2).trans rfl; have dB := Ah aa.out 0; have dC := Ah aa.out 1; have dD := Ah aa.out 2) | ((with_reducible refine Bo (f := 70) rfl ?_); refine Cd (some 17) rfl rfl Try.func70 (by kernel_rfl) rfl #[.agg #[.int .i64 al, .int .i64 am, .slice aC ag.length ay], .int .i64 a1] rfl (by (try simp only [List.map_toArray, List.map_cons, List.map_nil]); first | done | rfl | (simp only [List.length_drop, List.length_take]; rfl)) ?_; (with_reducible refine (Ci.calls al am _ _ ag a1 aQ _ ?side1 ?side2 A3.out).mono ?_); (case side1 => repeat (first | exact (Kd.B8 aZ.out HB.out) | (with_reducible refine Kd.Bu ?_ _) | (with_reducible refine Kd.B4 ?_ _) | (with_reducible refine Kd.Cb ?_))); (case side2 => exact cD.out); rintro e w61 ⟨rfl, hb⟩; refine ⟨_, rfl, ?_⟩; have n0_ := Aa.mk (Ap (g := ac) (o := .cells #[.int .i64 al, .int .i64 am, .slice aC ag.length ay] 50 (0, 0)) (by exact bU <| aa.out) hb); have n1_ := Aa.mk (At (by repeat (first | (with_reducible first | exact HB.out | apply Af | apply Ac | apply Ai | refine Ag ?_ ar.out) | exact HB.out)) hb); clear aa; clear HB; have aa := n0_; have HB := n1_; clear n0_ n1_; (try clear hb); (try clear hb2); (try clear hk); (try clear hi)))
  go_ret3
  exact ⟨_, by first | rfl | (simp [Bd, Bc] <;> rfl) | (simp [*, Bd, Bc] <;> rfl), by first | exact Kd.C5 _ _ _ _ _ | exact Kd.N_nil _ _ _ _ _ | exact Kd.V_nil _ _ _ _ _ | exact Kd.Q_nil _ _ _ _ _ | exact Kd.S_nil _ _ _ _ _, by repeat (first | (with_reducible first | exact HB.out | apply Af | apply Ac | apply Ai | refine Ag ?_ ar.out) | exact HB.out)⟩

end Go.Proofs.Yteamphcehoaleaa.PFP

