import Derived.Test.YtobdfiglgdbecaaXPGHx0
namespace Go.Proofs.Ytobdfiglgdbecaa.PGH
open Go.Proofs.Ytobdfiglgdbecaa.PGA Go.Proofs.Ytobdfiglgdbecaa.PGB
open Go.RowKit Go.Proofs.YtobdfiglgdbecaaW.PrintWords Go.Proofs.YtobdfiglgdbecaaW.PrintLast Go.Proofs.YtobdfiglgdbecaaW.PrintMore
attribute [local go_sem] max2_int min2_int max_two min_two max_three min_three max_four min_four
set_option linter.unusedVariables false
set_option linter.unusedSimpArgs false

mutual
def Aw.l0 : Nat → List (List (S58)) → List Int → List Int → Int → Option (List Int × List Int)
 | 0, _, _, _, _ => none
 | k + 1, x0, x4, x5, x6 => if x6 < (x0.length : Int) then (Aw.l1 k x0 x4 x5 x6 0) else (some (x4, x5))
def Aw.l1 : Nat → List (List (S58)) → List Int → List Int → Int → Int → Option (List Int × List Int)
 | 0, _, _, _, _, _ => none
 | k + 1, x0, x4, x5, x6, x7 => if 0 ≤ x6 then (if x6 < (x0.length : Int) then (if x7 < ((rd_L2 x0 x6).length : Int) then (if 0 ≤ x7 then ((some (([(rd_T58 (rd_L2 x0 x6) x7).f0, wrap64 (((rd_T58 (rd_L2 x0 x6) x7).f0) - 1), (rd_T58 (rd_L2 x0 x6) x7).f2, wrap64 (((rd_T58 (rd_L2 x0 x6) x7).f2) - 1)] : List Int) : List Int)).bind fun bX => (if x4.length + bX.length < 17592186044416 then ((some (([(rd_T58 (rd_L2 x0 x6) x7).f1, wrap64 (((rd_T58 (rd_L2 x0 x6) x7).f1) - 1), (rd_T58 (rd_L2 x0 x6) x7).f3, wrap64 (((rd_T58 (rd_L2 x0 x6) x7).f3) - 1)] : List Int) : List Int)).bind fun bZ => (if x5.length + bZ.length < 17592186044416 then (Aw.l1 k x0 (x4 ++ bX) (x5 ++ bZ) x6 (wrap64 (x7 + 1))) else (none))) else (none))) else (none)) else (Aw.l0 k x0 x4 x5 (wrap64 (x6 + 1)))) else (none)) else (none)
end
def Aw.f (k : Nat) (l0 : List (List (S58))) : Option (List Int × List Int) := Aw.l0 k l0 ([] : List Int) ([] : List Int) 0
def Aw.T8 : Bool × List (List Nat × List Nat) := (true, [([], []), ([], []), ([], []), ([1, 2], [1, 2]), ([3], [3]), ([], []), ([4, 5], [4, 5]), ([6], [6]), ([7], [7]), ([], []), ([], []), ([9, 10], [9, 10]), ([11], [11]), ([], []), ([12, 13], [12, 13]), ([14], [14]), ([15], [15]), ([16], [16]), ([], []), ([], []), ([18, 19], [18, 19]), ([20], [20]), ([], []), ([21, 22], [21, 22]), ([23], [23]), ([24], [24]), ([], []), ([], []), ([26, 27], [26, 27]), ([28], [28]), ([], []), ([29, 30], [29, 30]), ([31], [31]), ([32], [32]), ([33], [33]), ([8, 17, 25, 34], [8, 17, 25, 34]), ([0, 35], [0, 35]), ([36, 36, 0, 1, 2, 3, 4, 5, 6, 7, 8, 9, 10, 11, 12, 13, 14, 15, 16, 17, 18, 19, 20, 21, 22, 23, 24, 25, 26, 27, 28, 29, 30, 31, 32, 33, 34, 35, 36], [0, 36])])
def Aw.B8 : List Nat := [0, 0, 0, 6, 14, 0, 62, 126, 254, 0, 0, 1536, 3584, 0, 15872, 32256, 65024, 130560, 0, 0, 786432, 1835008, 0, 8126464, 16515072, 33292288, 0, 0, 201326592, 469762048, 0, 2080374784, 4227858432, 8522825728, 17112760320, 34359738366, 68719476735, 137438953471]
theorem Aw.tab8 : rtab .any (opsOf Try.f31 8) = Aw.T8 := by kernel_rfl
theorem Aw.bits8 : waitsOk Aw.T8.2 Aw.B8 = true := by kernel_rfl
def Aw.T9 : Bool × List (List Nat × List Nat) := (true, [([], []), ([], []), ([], []), ([1, 2], [1, 2]), ([3], [3]), ([], []), ([4, 5], [4, 5]), ([6], [6]), ([7], [7]), ([], []), ([], []), ([9, 10], [9, 10]), ([11], [11]), ([], []), ([12, 13], [12, 13]), ([14], [14]), ([15], [15]), ([16], [16]), ([], []), ([], []), ([18, 19], [18, 19]), ([20], [20]), ([], []), ([21, 22], [21, 22]), ([23], [23]), ([24], [24]), ([], []), ([], []), ([26, 27], [26, 27]), ([28], [28]), ([], []), ([29, 30], [29, 30]), ([31], [31]), ([32], [32]), ([33], [33]), ([8, 17, 25, 34], [8, 17, 25, 34]), ([0, 35], [0, 35]), ([36, 36, 0, 1, 2, 3, 4, 5, 6, 7, 8, 9, 10, 11, 12, 13, 14, 15, 16, 17, 18, 19, 20, 21, 22, 23, 24, 25, 26, 27, 28, 29, 30, 31, 32, 33, 34, 35, 36], [0, 36])])
def Aw.B9 : List Nat := [0, 0, 0, 6, 14, 0, 62, 126, 254, 0, 0, 1536, 3584, 0, 15872, 32256, 65024, 130560, 0, 0, 786432, 1835008, 0, 8126464, 16515072, 33292288, 0, 0, 201326592, 469762048, 0, 2080374784, 4227858432, 8522825728, 17112760320, 34359738366, 68719476735, 137438953471]
theorem Aw.tab9 : rtab .any (opsOf Try.f31 9) = Aw.T9 := by kernel_rfl
theorem Aw.bits9 : waitsOk Aw.T9.2 Aw.B9 = true := by kernel_rfl
set_option maxHeartbeats 8000000 in
set_option maxRecDepth 100000 in
theorem Aw.calls (k : Nat) (A0 : Option Addr) (c0 : Nat) (l0 : List (List (S58))) (r1 : List Int) (r2 : List Int) (w : World) (hr0 : Kd.C (Kd.slice 58 k58) w A0 l0.length l0) (hc0 : l0.length ≤ c0) (h : Aw.f k l0 = some (r1, r2)) :
  Calls Try.prog 31 #[.slice A0 l0.length c0] w fun e w' => ∃ v0_ v1_ : Value, e = .returned (.tuple #[v0_, v1_]) ∧ Kd.R (Kd.int .i64) 3 w' w.heap.size (fun k_ => some k_ ≠ (v1_ : Value).ownBlock) v0_ r1 ∧ Kd.R (Kd.int .i64) 3 w' w.heap.size (fun k_ => some k_ ≠ (v0_ : Value).ownBlock) v1_ r2 ∧ Below w.heap.size w w' := by
 have HR0 := Aa.mk hr0
 have HC0 := Aa.mk hc0
 clear hr0 hc0
 have HB := Aa.mk (Below.refl w.heap.size w)
 have H : (Aw.l0 k l0 ([] : List Int) ([] : List Int) 0) = some (r1, r2) := h
 clear h
 have H' := Aa.mk H
 clear H
 go_enter Try.func31, Try.ntmps31
 go_wp2
 go_loopg [4, 5, 6] k (fun kq v4 v5 v6 w' => ∃ (cE : List Int) (cF : List Int) (ab : Int), v6 = .int .i64 ab ∧ Aa (Aw.l0 kq l0 cE cF ab = some (r1, r2)) ∧ Aa (kq ≤ k) ∧ Aa (Kd.R (Kd.int .i64) 3 w' w.heap.size (fun k_ => some k_ ≠ (v5 : Value).ownBlock) v4 cE) ∧ Aa (Kd.R (Kd.int .i64) 3 w' w.heap.size (fun k_ => some k_ ≠ (v4 : Value).ownBlock) v5 cF) ∧ Aa (Below w.heap.size w w'))
 case atStart => exact ⟨(([] : List Int)), (([] : List Int)), (0), (by first | rfl | (simp; done) | (simp [*]; done)), H', ⟨Nat.le_refl _⟩, ⟨by first | exact Kd.C0 _ _ _ _ _ | exact Kd.N_nil _ _ _ _ _ | exact Kd.V_nil _ _ _ _ _ | exact Kd.Q_nil _ _ _ _ _ | exact Kd.S_nil _ _ _ _ _⟩, ⟨by first | exact Kd.C0 _ _ _ _ _ | exact Kd.N_nil _ _ _ _ _ | exact Kd.V_nil _ _ _ _ _ | exact Kd.Q_nil _ _ _ _ _ | exact Kd.S_nil _ _ _ _ _⟩, ⟨by repeat (first | (with_reducible first | exact HB.out | apply Ae | apply Ac | apply Ad) | exact HB.out)⟩⟩
 case round =>
  clear H'
  obtain ⟨cE, cF, ab, rfl, HA, HK1, bl, ag, HB⟩ := hrel
  cases gk with
  | zero => exact absurd HA.out (by simp [Aw.l0])
  | succ k1 =>
   have H := HA.out
   clear HA
   simp only [Aw.l0] at H
   by_cases c2 : ab < (l0.length : Int)
   ·rw [if_pos c2] at H
    have dz : decide (ab < (l0.length : Int)) = true := decide_eq_true c2
    clear c2
    have H' := Aa.mk H
    clear H
    go_wp2
    go_loopg [4, 5, 7] k1 (fun kq v4 v5 v7 w' => ∃ (b5 : List Int) (b6 : List Int) (aa : Int), v7 = .int .i64 aa ∧ Aa (Aw.l1 kq l0 b5 b6 ab aa = some (r1, r2)) ∧ Aa (kq ≤ k1) ∧ Aa (Kd.R (Kd.int .i64) 3 w' w.heap.size (fun k_ => some k_ ≠ (v5 : Value).ownBlock) v4 b5) ∧ Aa (Kd.R (Kd.int .i64) 3 w' w.heap.size (fun k_ => some k_ ≠ (v4 : Value).ownBlock) v5 b6) ∧ Aa (Below w.heap.size w w'))
    case atStart => exact ⟨(cE), (cF), (0), (by first | rfl | (simp; done) | (simp [*]; done)), H', ⟨Nat.le_refl _⟩, ⟨by exact rU <| bl.out⟩, ⟨by exact rU <| ag.out⟩, ⟨by repeat (first | (with_reducible first | exact HB.out | apply Ae | apply Ac | apply Ad) | exact HB.out)⟩⟩
    case round =>
     clear H'
     try clear c2
     try clear dz
     try clear p2
     obtain ⟨b5, b6, aa, rfl, HA, HK2, bl, ag, HB⟩ := hrel
     cases gk with
     | zero => exact absurd HA.out (by simp [Aw.l1])
     | succ k2 =>
      have H := HA.out
      clear HA
      simp only [Aw.l1] at H
      by_cases c3 : 0 ≤ ab
      ·rw [if_pos c3] at H
       have ep : decide (0 ≤ ab) = true := decide_eq_true c3
       clear c3
       by_cases c4 : ab < (l0.length : Int)
       ·rw [if_pos c4] at H
        have eq : decide (ab < (l0.length : Int)) = true := decide_eq_true c4
        clear c4
        by_cases c5 : aa < ((rd_L2 l0 ab).length : Int)
        ·rw [if_pos c5] at H
         have dV : decide (aa < ((rd_L2 l0 ab).length : Int)) = true := decide_eq_true c5
         clear c5
         by_cases c6 : 0 ≤ aa
         ·rw [if_pos c6] at H
          have er : decide (0 ≤ aa) = true := decide_eq_true c6
          clear c6
          obtain ⟨bX, cy⟩ : ∃ y_ : List Int, y_ = (([(rd_T58 (rd_L2 l0 ab) aa).f0, wrap64 (((rd_T58 (rd_L2 l0 ab) aa).f0) - 1), (rd_T58 (rd_L2 l0 ab) aa).f2, wrap64 (((rd_T58 (rd_L2 l0 ab) aa).f2) - 1)] : List Int)) := ⟨_, rfl⟩
          (try rw [Option.bind_some] at H); try rw [← cy] at H
          have cI := Aa.mk cy
          clear cy
          by_cases c7 : b5.length + bX.length < 17592186044416
          ·rw [if_pos c7] at H
           have LMc7 := Aa.mk c7
           clear c7
           obtain ⟨dW, cz⟩ : ∃ y_ : List Int, y_ = (b5 ++ bX) := ⟨_, rfl⟩
           (try rw [Option.bind_some] at H); try rw [← cz] at H
           have dA := Aa.mk cz
           clear cz
           obtain ⟨bZ, cA⟩ : ∃ y_ : List Int, y_ = (([(rd_T58 (rd_L2 l0 ab) aa).f1, wrap64 (((rd_T58 (rd_L2 l0 ab) aa).f1) - 1), (rd_T58 (rd_L2 l0 ab) aa).f3, wrap64 (((rd_T58 (rd_L2 l0 ab) aa).f3) - 1)] : List Int)) := ⟨_, rfl⟩
           (try rw [Option.bind_some] at H); try rw [← cA] at H
           have cJ := Aa.mk cA
           clear cA
           by_cases c8 : b6.length + bZ.length < 17592186044416
           ·rw [if_pos c8] at H
            have LMc8 := Aa.mk c8
            clear c8
            obtain ⟨dX, cB⟩ : ∃ y_ : List Int, y_ = (b6 ++ bZ) := ⟨_, rfl⟩
            (try rw [Option.bind_some] at H); try rw [← cB] at H
            have dB := Aa.mk cB
            clear cB
            have H' := Aa.mk H
            clear H
            have b7 : 0 ≤ (ab : Int) := of_decide_eq_true (by with_reducible assumption)
            have b8 : ab < (l0.length : Int) := of_decide_eq_true (by with_reducible assumption)
            obtain ⟨ah, cK, cL, e125, al, bm, hi125_0⟩ := at_L2 HR0.out ab b7 b8
            cases e125
            replace al := (HB.out.cell (World.block_lt_of_cell? w _ al)).trans al
            have cG := Aa.mk hi125_0
            have cH := Aa.mk bm
            clear hi125_0 bm
            replace b7 := eq_true b7
            replace b8 := eq_true b8
            try go_wp2
            have n0_ := Aa.mk (Kd.B1 bl.out)
            have n1_ := Aa.mk (Kd.B1 ag.out)
            have n2_ := Aa.mk (Ad HB.out)
            clear bl
            clear ag
            clear HB
            have bl := n0_
            have ag := n1_
            have HB := n2_
            clear n0_ n1_ n2_
            have cM : 0 ≤ (ab : Int) := of_decide_eq_true (by with_reducible assumption)
            have cN : ab < (l0.length : Int) := of_decide_eq_true (by with_reducible assumption)
            obtain ⟨dC, dY, b3, e126, ai, b9, hi126_0⟩ := at_L2 HR0.out ab cM cN
            have am := ai
            obtain rfl : ah = dC := (by injection e126)
            replace ai := (HB.out.cell (World.block_lt_of_cell? w _ ai)).trans ai
            have cd := Aa.mk hi126_0
            have dN := Aa.mk b9
            clear hi126_0 b9
            replace cM := eq_true cM
            replace cN := eq_true cN
            have cO : 0 ≤ (aa : Int) := of_decide_eq_true (by with_reducible assumption)
            have cP : aa < ((rd_L2 l0 ab).length : Int) := of_decide_eq_true (by with_reducible assumption)
            obtain ⟨ac, e127, bn, bo, bp, bq⟩ := at_T58 cd.out aa cO cP
            have an := bq
            have ao := bp
            have ap := bo
            have aq := bn
            cases e127
            replace bn := (HB.out.cell (World.block_lt_of_cell? w _ bn)).trans bn
            replace bo := (HB.out.cell (World.block_lt_of_cell? w _ bo)).trans bo
            replace bp := (HB.out.cell (World.block_lt_of_cell? w _ bp)).trans bp
            replace bq := (HB.out.cell (World.block_lt_of_cell? w _ bq)).trans bq
            replace cO := eq_true cO
            replace cP := eq_true cP
            have cQ : 0 ≤ (ab : Int) := of_decide_eq_true (by with_reducible assumption)
            have cR : ab < (l0.length : Int) := of_decide_eq_true (by with_reducible assumption)
            obtain ⟨dD, dZ, d5, e128, ar, cg, hi128_0⟩ := at_L2 HR0.out ab cQ cR
            have au := ar
            obtain rfl : ah = dD := (by injection e128)
            replace ar := (HB.out.cell (World.block_lt_of_cell? w _ ar)).trans ar
            have ch := Aa.mk hi128_0
            have dO := Aa.mk cg
            clear hi128_0 cg
            replace cQ := eq_true cQ
            replace cR := eq_true cR
            have ea_ := Option.some.inj (ai.symm.trans ar)
            injection ea_ with ea_ en_ ec_
            subst ea_
            subst ec_
            clear en_
            have cS : 0 ≤ (aa : Int) := of_decide_eq_true (by with_reducible assumption)
            have cT : aa < ((rd_L2 l0 ab).length : Int) := of_decide_eq_true (by with_reducible assumption)
            obtain ⟨ej, e129, br, bs, bu, bv⟩ := at_T58 ch.out aa cS cT
            have av := bv
            have aw := bu
            have ax := bs
            have ay := br
            cases e129
            replace br := (HB.out.cell (World.block_lt_of_cell? w _ br)).trans br
            replace bs := (HB.out.cell (World.block_lt_of_cell? w _ bs)).trans bs
            replace bu := (HB.out.cell (World.block_lt_of_cell? w _ bu)).trans bu
            replace bv := (HB.out.cell (World.block_lt_of_cell? w _ bv)).trans bv
            replace cS := eq_true cS
            replace cT := eq_true cT
            have cU : 0 ≤ (ab : Int) := of_decide_eq_true (by with_reducible assumption)
            have cV : ab < (l0.length : Int) := of_decide_eq_true (by with_reducible assumption)
            obtain ⟨dE, d6, d7, e130, az, ci, hi130_0⟩ := at_L2 HR0.out ab cU cV
            have aA := az
            obtain rfl : ah = dE := (by injection e130)
            replace az := (HB.out.cell (World.block_lt_of_cell? w _ az)).trans az
            have cj := Aa.mk hi130_0
            have dP := Aa.mk ci
            clear hi130_0 ci
            replace cU := eq_true cU
            replace cV := eq_true cV
            have ea_ := Option.some.inj (ai.symm.trans az)
            injection ea_ with ea_ en_ ec_
            subst ea_
            subst ec_
            clear en_
            have cW : 0 ≤ (aa : Int) := of_decide_eq_true (by with_reducible assumption)
            have cX : aa < ((rd_L2 l0 ab).length : Int) := of_decide_eq_true (by with_reducible assumption)
            obtain ⟨ek, e131, bw, bx, bz, bB⟩ := at_T58 cj.out aa cW cX
            have aC := bB
            have aD := bz
            have aE := bx
            have aG := bw
            cases e131
            replace bw := (HB.out.cell (World.block_lt_of_cell? w _ bw)).trans bw
            replace bx := (HB.out.cell (World.block_lt_of_cell? w _ bx)).trans bx
            replace bz := (HB.out.cell (World.block_lt_of_cell? w _ bz)).trans bz
            replace bB := (HB.out.cell (World.block_lt_of_cell? w _ bB)).trans bB
            replace cW := eq_true cW
            replace cX := eq_true cX
            have cY : 0 ≤ (ab : Int) := of_decide_eq_true (by with_reducible assumption)
            have cZ : ab < (l0.length : Int) := of_decide_eq_true (by with_reducible assumption)
            obtain ⟨dF, d8, d9, e132, aH, cl, hi132_0⟩ := at_L2 HR0.out ab cY cZ
            have aI := aH
            obtain rfl : ah = dF := (by injection e132)
            replace aH := (HB.out.cell (World.block_lt_of_cell? w _ aH)).trans aH
            have cn := Aa.mk hi132_0
            have dQ := Aa.mk cl
            clear hi132_0 cl
            replace cY := eq_true cY
            replace cZ := eq_true cZ
            have ea_ := Option.some.inj (ai.symm.trans aH)
            injection ea_ with ea_ en_ ec_
            subst ea_
            subst ec_
            clear en_
            have da : 0 ≤ (aa : Int) := of_decide_eq_true (by with_reducible assumption)
            have dc : aa < ((rd_L2 l0 ab).length : Int) := of_decide_eq_true (by with_reducible assumption)
            obtain ⟨el, e133, bC, bD, bE, bF⟩ := at_T58 cn.out aa da dc
            have aJ := bF
            have aK := bE
            have aM := bD
            have aN := bC
            cases e133
            replace bC := (HB.out.cell (World.block_lt_of_cell? w _ bC)).trans bC
            replace bD := (HB.out.cell (World.block_lt_of_cell? w _ bD)).trans bD
            replace bE := (HB.out.cell (World.block_lt_of_cell? w _ bE)).trans bE
            replace bF := (HB.out.cell (World.block_lt_of_cell? w _ bF)).trans bF
            replace da := eq_true da
            replace dc := eq_true dc
            refine start_ (n := 38) (S := fun w' => w'.cell? (ah.add (ab).toNat) = some (.slice (some ac) (rd_L2 l0 ab).length b3) ∧ w'.cell? (ac.add ((aa).toNat * 4)) = some (.int .i64 ((rd_T58 (rd_L2 l0 ab) aa).f0)) ∧ w'.cell? ⟨(ac.add ((aa).toNat * 4)).block, (ac.add ((aa).toNat * 4)).off + 1, none⟩ = some (.int .i64 ((rd_T58 (rd_L2 l0 ab) aa).f1)) ∧ w'.cell? ⟨(ac.add ((aa).toNat * 4)).block, (ac.add ((aa).toNat * 4)).off + 2, none⟩ = some (.int .i64 ((rd_T58 (rd_L2 l0 ab) aa).f2)) ∧ w'.cell? ⟨(ac.add ((aa).toNat * 4)).block, (ac.add ((aa).toNat * 4)).off + 3, none⟩ = some (.int .i64 ((rd_T58 (rd_L2 l0 ab) aa).f3)) ∧ w'.cell? (ah.add (ab).toNat) = some (.slice (some ac) (rd_L2 l0 ab).length b3) ∧ w'.cell? (ac.add ((aa).toNat * 4)) = some (.int .i64 ((rd_T58 (rd_L2 l0 ab) aa).f0)) ∧ w'.cell? ⟨(ac.add ((aa).toNat * 4)).block, (ac.add ((aa).toNat * 4)).off + 1, none⟩ = some (.int .i64 ((rd_T58 (rd_L2 l0 ab) aa).f1)) ∧ w'.cell? ⟨(ac.add ((aa).toNat * 4)).block, (ac.add ((aa).toNat * 4)).off + 2, none⟩ = some (.int .i64 ((rd_T58 (rd_L2 l0 ab) aa).f2)) ∧ w'.cell? ⟨(ac.add ((aa).toNat * 4)).block, (ac.add ((aa).toNat * 4)).off + 3, none⟩ = some (.int .i64 ((rd_T58 (rd_L2 l0 ab) aa).f3)) ∧ w'.cell? (ah.add (ab).toNat) = some (.slice (some ac) (rd_L2 l0 ab).length b3) ∧ w'.cell? (ac.add ((aa).toNat * 4)) = some (.int .i64 ((rd_T58 (rd_L2 l0 ab) aa).f0)) ∧ w'.cell? ⟨(ac.add ((aa).toNat * 4)).block, (ac.add ((aa).toNat * 4)).off + 1, none⟩ = some (.int .i64 ((rd_T58 (rd_L2 l0 ab) aa).f1)) ∧ w'.cell? ⟨(ac.add ((aa).toNat * 4)).block, (ac.add ((aa).toNat * 4)).off + 2, none⟩ = some (.int .i64 ((rd_T58 (rd_L2 l0 ab) aa).f2)) ∧ w'.cell? ⟨(ac.add ((aa).toNat * 4)).block, (ac.add ((aa).toNat * 4)).off + 3, none⟩ = some (.int .i64 ((rd_T58 (rd_L2 l0 ab) aa).f3)) ∧ w'.cell? (ah.add (ab).toNat) = some (.slice (some ac) (rd_L2 l0 ab).length b3) ∧ w'.cell? (ac.add ((aa).toNat * 4)) = some (.int .i64 ((rd_T58 (rd_L2 l0 ab) aa).f0)) ∧ w'.cell? ⟨(ac.add ((aa).toNat * 4)).block, (ac.add ((aa).toNat * 4)).off + 1, none⟩ = some (.int .i64 ((rd_T58 (rd_L2 l0 ab) aa).f1)) ∧ w'.cell? ⟨(ac.add ((aa).toNat * 4)).block, (ac.add ((aa).toNat * 4)).off + 2, none⟩ = some (.int .i64 ((rd_T58 (rd_L2 l0 ab) aa).f2)) ∧ w'.cell? ⟨(ac.add ((aa).toNat * 4)).block, (ac.add ((aa).toNat * 4)).off + 3, none⟩ = some (.int .i64 ((rd_T58 (rd_L2 l0 ab) aa).f3))) (ds := []) #[false, false, false, false, false, false, false, false, false, false, false, false, false, false, false, false, false, false, false, false, false, false, false, false, false, false, false, false, false, false, false, false, false, false, false, false, false, false] (by kernel_rfl) rfl rfl ⟨((HB.out.cell (World.block_lt_of_cell? w _ am)).trans am), ((HB.out.cell (World.block_lt_of_cell? w _ aq)).trans aq), ((HB.out.cell (World.block_lt_of_cell? w _ ap)).trans ap), ((HB.out.cell (World.block_lt_of_cell? w _ ao)).trans ao), ((HB.out.cell (World.block_lt_of_cell? w _ an)).trans an), ((HB.out.cell (World.block_lt_of_cell? w _ au)).trans au), ((HB.out.cell (World.block_lt_of_cell? w _ ay)).trans ay), ((HB.out.cell (World.block_lt_of_cell? w _ ax)).trans ax), ((HB.out.cell (World.block_lt_of_cell? w _ aw)).trans aw), ((HB.out.cell (World.block_lt_of_cell? w _ av)).trans av), ((HB.out.cell (World.block_lt_of_cell? w _ aA)).trans aA), ((HB.out.cell (World.block_lt_of_cell? w _ aG)).trans aG), ((HB.out.cell (World.block_lt_of_cell? w _ aE)).trans aE), ((HB.out.cell (World.block_lt_of_cell? w _ aD)).trans aD), ((HB.out.cell (World.block_lt_of_cell? w _ aC)).trans aC), ((HB.out.cell (World.block_lt_of_cell? w _ aI)).trans aI), ((HB.out.cell (World.block_lt_of_cell? w _ aN)).trans aN), ((HB.out.cell (World.block_lt_of_cell? w _ aM)).trans aM), ((HB.out.cell (World.block_lt_of_cell? w _ aK)).trans aK), ((HB.out.cell (World.block_lt_of_cell? w _ aJ)).trans aJ)⟩ (fun hHeld => ?_); refine with_tabW Aw.tab8 Aw.bits8 (fun HT_ HW_ => ?_)
            generalize wr.drew = w9 at bl ag HB cd ch cj cn ai bn bo bp bq ar br bs bu bv az bw bx bz bB aH bC bD bE bF hHeld ⊢
            refine pure_ (i := 0) (N := some 23) (v := ?_) (a' := ?_) (bA 38 1) rfl rfl (any_of HT_.out (by kernel_rfl)) (fun _ _ _ h => h) (Or.inl ⟨by rfl, ?_⟩) ?_ ?_
            rotate_left; (intro w'; go_simp; with_reducible rfl); rotate_left; (simp only [Act.put, sA, sB, sC, i64_w, i32_w]; rfl)
            refine pure_ (i := 1) (N := some 24) (v := ?_) (a' := ?_) (bA 38 3) rfl rfl (any_of HT_.out (by kernel_rfl)) (fun _ _ _ h => h) (Or.inl ⟨by rfl, ?_⟩) ?_ ?_
            rotate_left; (intro w'; go_simp; with_reducible rfl); rotate_left; (simp only [Act.put, sA, sB, sC, i64_w, i32_w]; rfl)
            refine pure_ (i := 2) (N := some 25) (v := ?_) (a' := ?_) (bA 38 7) rfl rfl (any_of HT_.out (by kernel_rfl)) (fun _ _ _ h => h) (Or.inl ⟨by rfl, ?_⟩) ?_ ?_
            rotate_left; (intro w'; go_simp; with_reducible rfl); rotate_left; (simp only [Act.put, sA, sB, sC, i64_w, i32_w]; rfl)
            refine pure_ (i := 3) (N := some 26) (v := ?_) (a' := ?_) (bA 38 15) rfl rfl (any_of HT_.out (by kernel_rfl)) (fun _ _ _ h => h) (Or.inl ⟨by rfl, ?_⟩) ?_ ?_
            rotate_left; (intro w'; go_simp; with_reducible rfl); rotate_left; (simp only [Act.put, sA, sB, sC, i64_w, i32_w]; rfl)
            refine pure_ (i := 5) (N := some 28) (v := ?_) (a' := ?_) (bA 38 47) rfl rfl (any_of HT_.out (by kernel_rfl)) (fun _ _ _ h => h) (Or.inl ⟨by rfl, ?_⟩) ?_ ?_
            rotate_left; (intro w'; go_simp; with_reducible rfl); rotate_left; (simp only [Act.put, sA, sB, sC, i64_w, i32_w]; rfl)
            refine pure_ (i := 9) (N := some 32) (v := ?_) (a' := ?_) (bA 38 559) rfl rfl (any_of HT_.out (by kernel_rfl)) (fun _ _ _ h => h) (Or.inl ⟨by rfl, ?_⟩) ?_ ?_
            rotate_left; (intro w'; go_simp; with_reducible rfl); rotate_left; (simp only [Act.put, sA, sB, sC, i64_w, i32_w]; rfl)
            refine pure_ (i := 10) (N := some 33) (v := ?_) (a' := ?_) (bA 38 1583) rfl rfl (any_of HT_.out (by kernel_rfl)) (fun _ _ _ h => h) (Or.inl ⟨by rfl, ?_⟩) ?_ ?_
            rotate_left; (intro w'; go_simp; with_reducible rfl); rotate_left; (simp only [Act.put, sA, sB, sC, i64_w, i32_w]; rfl)
            refine pure_ (i := 11) (N := some 34) (v := ?_) (a' := ?_) (bA 38 3631) rfl rfl (any_of HT_.out (by kernel_rfl)) (fun _ _ _ h => h) (Or.inl ⟨by rfl, ?_⟩) ?_ ?_
            rotate_left; (intro w'; go_simp; with_reducible rfl); rotate_left; (simp only [Act.put, sA, sB, sC, i64_w, i32_w]; rfl)
            refine pure_ (i := 13) (N := some 36) (v := ?_) (a' := ?_) (bA 38 11823) rfl rfl (any_of HT_.out (by kernel_rfl)) (fun _ _ _ h => h) (Or.inl ⟨by rfl, ?_⟩) ?_ ?_
            rotate_left; (intro w'; go_simp; with_reducible rfl); rotate_left; (simp only [Act.put, sA, sB, sC, i64_w, i32_w]; rfl)
            refine pure_ (i := 18) (N := some 41) (v := ?_) (a' := ?_) (bA 38 273967) rfl rfl (any_of HT_.out (by kernel_rfl)) (fun _ _ _ h => h) (Or.inl ⟨by rfl, ?_⟩) ?_ ?_
            rotate_left; (intro w'; go_simp; with_reducible rfl); rotate_left; (simp only [Act.put, sA, sB, sC, i64_w, i32_w]; rfl)
            refine pure_ (i := 19) (N := some 42) (v := ?_) (a' := ?_) (bA 38 798255) rfl rfl (any_of HT_.out (by kernel_rfl)) (fun _ _ _ h => h) (Or.inl ⟨by rfl, ?_⟩) ?_ ?_
            rotate_left; (intro w'; go_simp; with_reducible rfl); rotate_left; (simp only [Act.put, sA, sB, sC, i64_w, i32_w]; rfl)
            refine pure_ (i := 20) (N := some 43) (v := ?_) (a' := ?_) (bA 38 1846831) rfl rfl (any_of HT_.out (by kernel_rfl)) (fun _ _ _ h => h) (Or.inl ⟨by rfl, ?_⟩) ?_ ?_
            rotate_left; (intro w'; go_simp; with_reducible rfl); rotate_left; (simp only [Act.put, sA, sB, sC, i64_w, i32_w]; rfl)
            refine pure_ (i := 22) (N := some 45) (v := ?_) (a' := ?_) (bA 38 6041135) rfl rfl (any_of HT_.out (by kernel_rfl)) (fun _ _ _ h => h) (Or.inl ⟨by rfl, ?_⟩) ?_ ?_
            rotate_left; (intro w'; go_simp; with_reducible rfl); rotate_left; (simp only [Act.put, sA, sB, sC, i64_w, i32_w]; rfl)
            refine pure_ (i := 26) (N := some 49) (v := ?_) (a' := ?_) (bA 38 73149999) rfl rfl (any_of HT_.out (by kernel_rfl)) (fun _ _ _ h => h) (Or.inl ⟨by rfl, ?_⟩) ?_ ?_
            rotate_left; (intro w'; go_simp; with_reducible rfl); rotate_left; (simp only [Act.put, sA, sB, sC, i64_w, i32_w]; rfl)
            refine pure_ (i := 27) (N := some 50) (v := ?_) (a' := ?_) (bA 38 207367727) rfl rfl (any_of HT_.out (by kernel_rfl)) (fun _ _ _ h => h) (Or.inl ⟨by rfl, ?_⟩) ?_ ?_
            rotate_left; (intro w'; go_simp; with_reducible rfl); rotate_left; (simp only [Act.put, sA, sB, sC, i64_w, i32_w]; rfl)
            refine pure_ (i := 28) (N := some 51) (v := ?_) (a' := ?_) (bA 38 475803183) rfl rfl (any_of HT_.out (by kernel_rfl)) (fun _ _ _ h => h) (Or.inl ⟨by rfl, ?_⟩) ?_ ?_
            rotate_left; (intro w'; go_simp; with_reducible rfl); rotate_left; (simp only [Act.put, sA, sB, sC, i64_w, i32_w]; rfl)
            refine pure_ (i := 30) (N := some 53) (v := ?_) (a' := ?_) (bA 38 1549545007) rfl rfl (any_of HT_.out (by kernel_rfl)) (fun _ _ _ h => h) (Or.inl ⟨by rfl, ?_⟩) ?_ ?_
            rotate_left; (intro w'; go_simp; with_reducible rfl); rotate_left; (simp only [Act.put, sA, sB, sC, i64_w, i32_w]; rfl)
            refine take_ (i := 4) (N := some 27) (v := ?_) (a' := ?_) (bA 38 1549545023) rfl rfl (take_ofW HT_.out HW_.out (by kernel_rfl)) (fun _ _ _ h => h) (Or.inl ⟨by rfl, ?_⟩) hHeld ?_ ?_
            rotate_left; (rintro w' ⟨s0, s1, s2, s3, s4, s5, s6, s7, s8, s9, s10, s11, s12, s13, s14, s15, s16, s17, s18, s19⟩; go_simp; with_reducible rfl); rotate_left; (simp only [Act.put, sA, sB, sC, i64_w, i32_w]; rfl)
            refine pure_ (i := 6) (N := some 29) (v := ?_) (a' := ?_) (bA 38 1549545087) rfl rfl (any_of HT_.out (by kernel_rfl)) (fun _ _ _ h => h) (Or.inl ⟨by rfl, ?_⟩) ?_ ?_
            rotate_left; (intro w'; go_simp; with_reducible rfl); rotate_left; (simp only [Act.put, sA, sB, sC, i64_w, i32_w]; rfl)
            refine pure_ (i := 7) (N := some 30) (v := ?_) (a' := ?_) (bA 38 1549545215) rfl rfl (any_of HT_.out (by kernel_rfl)) (fun _ _ _ h => h) (Or.inl ⟨by rfl, ?_⟩) ?_ ?_
            rotate_left; (intro w'; go_simp; with_reducible rfl); rotate_left; (simp only [Act.put, sA, sB, sC, i64_w, i32_w]; rfl)
            refine take_ (i := 8) (N := some 31) (v := ?_) (a' := ?_) (bA 38 1549545471) rfl rfl (take_ofW HT_.out HW_.out (by kernel_rfl)) (fun _ _ _ h => h) (Or.inl ⟨by rfl, ?_⟩) hHeld ?_ ?_
            rotate_left; (rintro w' ⟨s0, s1, s2, s3, s4, s5, s6, s7, s8, s9, s10, s11, s12, s13, s14, s15, s16, s17, s18, s19⟩; go_simp; with_reducible rfl); rotate_left; (simp only [Act.put, sA, sB, sC, i64_w, i32_w]; rfl)
            refine take_ (i := 12) (N := some 35) (v := ?_) (a' := ?_) (bA 38 1549549567) rfl rfl (take_ofW HT_.out HW_.out (by kernel_rfl)) (fun _ _ _ h => h) (Or.inl ⟨by rfl, ?_⟩) hHeld ?_ ?_
            rotate_left; (rintro w' ⟨s0, s1, s2, s3, s4, s5, s6, s7, s8, s9, s10, s11, s12, s13, s14, s15, s16, s17, s18, s19⟩; go_simp; with_reducible rfl); rotate_left; (simp only [Act.put, sA, sB, sC, i64_w, i32_w]; rfl)
            refine pure_ (i := 14) (N := some 37) (v := ?_) (a' := ?_) (bA 38 1549565951) rfl rfl (any_of HT_.out (by kernel_rfl)) (fun _ _ _ h => h) (Or.inl ⟨by rfl, ?_⟩) ?_ ?_
            rotate_left; (intro w'; go_simp; with_reducible rfl); rotate_left; (simp only [Act.put, sA, sB, sC, i64_w, i32_w]; rfl)
            refine pure_ (i := 15) (N := some 38) (v := ?_) (a' := ?_) (bA 38 1549598719) rfl rfl (any_of HT_.out (by kernel_rfl)) (fun _ _ _ h => h) (Or.inl ⟨by rfl, ?_⟩) ?_ ?_
            rotate_left; (intro w'; go_simp; with_reducible rfl); rotate_left; (simp only [Act.put, sA, sB, sC, i64_w, i32_w]; rfl)
            refine take_ (i := 16) (N := some 39) (v := ?_) (a' := ?_) (bA 38 1549664255) rfl rfl (take_ofW HT_.out HW_.out (by kernel_rfl)) (fun _ _ _ h => h) (Or.inl ⟨by rfl, ?_⟩) hHeld ?_ ?_
            rotate_left; (rintro w' ⟨s0, s1, s2, s3, s4, s5, s6, s7, s8, s9, s10, s11, s12, s13, s14, s15, s16, s17, s18, s19⟩; go_simp; with_reducible rfl); rotate_left; (simp only [Act.put, sA, sB, sC, i64_w, i32_w]; rfl)
            refine pure_ (i := 17) (N := some 40) (v := ?_) (a' := ?_) (bA 38 1549795327) rfl rfl (any_of HT_.out (by kernel_rfl)) (fun _ _ _ h => h) (Or.inl ⟨by rfl, ?_⟩) ?_ ?_
            rotate_left; (intro w'; go_simp; with_reducible rfl); rotate_left; (simp only [Act.put, sA, sB, sC, i64_w, i32_w]; rfl)
            refine take_ (i := 21) (N := some 44) (v := ?_) (a' := ?_) (bA 38 1551892479) rfl rfl (take_ofW HT_.out HW_.out (by kernel_rfl)) (fun _ _ _ h => h) (Or.inl ⟨by rfl, ?_⟩) hHeld ?_ ?_
            rotate_left; (rintro w' ⟨s0, s1, s2, s3, s4, s5, s6, s7, s8, s9, s10, s11, s12, s13, s14, s15, s16, s17, s18, s19⟩; go_simp; with_reducible rfl); rotate_left; (simp only [Act.put, sA, sB, sC, i64_w, i32_w]; rfl)
            refine pure_ (i := 23) (N := some 46) (v := ?_) (a' := ?_) (bA 38 1560281087) rfl rfl (any_of HT_.out (by kernel_rfl)) (fun _ _ _ h => h) (Or.inl ⟨by rfl, ?_⟩) ?_ ?_
            rotate_left; (intro w'; go_simp; with_reducible rfl); rotate_left; (simp only [Act.put, sA, sB, sC, i64_w, i32_w]; rfl)
            refine pure_ (i := 24) (N := some 47) (v := ?_) (a' := ?_) (bA 38 1577058303) rfl rfl (any_of HT_.out (by kernel_rfl)) (fun _ _ _ h => h) (Or.inl ⟨by rfl, ?_⟩) ?_ ?_
            rotate_left; (intro w'; go_simp; with_reducible rfl); rotate_left; (simp only [Act.put, sA, sB, sC, i64_w, i32_w]; rfl)
            refine take_ (i := 25) (N := some 48) (v := ?_) (a' := ?_) (bA 38 1610612735) rfl rfl (take_ofW HT_.out HW_.out (by kernel_rfl)) (fun _ _ _ h => h) (Or.inl ⟨by rfl, ?_⟩) hHeld ?_ ?_
            rotate_left; (rintro w' ⟨s0, s1, s2, s3, s4, s5, s6, s7, s8, s9, s10, s11, s12, s13, s14, s15, s16, s17, s18, s19⟩; go_simp; with_reducible rfl); rotate_left; (simp only [Act.put, sA, sB, sC, i64_w, i32_w]; rfl)
            refine take_ (i := 29) (N := some 52) (v := ?_) (a' := ?_) (bA 38 2147483647) rfl rfl (take_ofW HT_.out HW_.out (by kernel_rfl)) (fun _ _ _ h => h) (Or.inl ⟨by rfl, ?_⟩) hHeld ?_ ?_
            rotate_left; (rintro w' ⟨s0, s1, s2, s3, s4, s5, s6, s7, s8, s9, s10, s11, s12, s13, s14, s15, s16, s17, s18, s19⟩; go_simp; with_reducible rfl); rotate_left; (simp only [Act.put, sA, sB, sC, i64_w, i32_w]; rfl)
            refine pure_ (i := 31) (N := some 54) (v := ?_) (a' := ?_) (bA 38 4294967295) rfl rfl (any_of HT_.out (by kernel_rfl)) (fun _ _ _ h => h) (Or.inl ⟨by rfl, ?_⟩) ?_ ?_
            rotate_left; (intro w'; go_simp; with_reducible rfl); rotate_left; (simp only [Act.put, sA, sB, sC, i64_w, i32_w]; rfl)
            refine pure_ (i := 32) (N := some 55) (v := ?_) (a' := ?_) (bA 38 8589934591) rfl rfl (any_of HT_.out (by kernel_rfl)) (fun _ _ _ h => h) (Or.inl ⟨by rfl, ?_⟩) ?_ ?_
            rotate_left; (intro w'; go_simp; with_reducible rfl); rotate_left; (simp only [Act.put, sA, sB, sC, i64_w, i32_w]; rfl)
            refine take_ (i := 33) (N := some 56) (v := ?_) (a' := ?_) (bA 38 17179869183) rfl rfl (take_ofW HT_.out HW_.out (by kernel_rfl)) (fun _ _ _ h => h) (Or.inl ⟨by rfl, ?_⟩) hHeld ?_ ?_
            rotate_left; (rintro w' ⟨s0, s1, s2, s3, s4, s5, s6, s7, s8, s9, s10, s11, s12, s13, s14, s15, s16, s17, s18, s19⟩; go_simp; with_reducible rfl); rotate_left; (simp only [Act.put, sA, sB, sC, i64_w, i32_w]; rfl)
            refine pure_ (i := 34) (N := some 57) (v := ?_) (a' := ?_) (bA 38 34359738367) rfl rfl (any_of HT_.out (by kernel_rfl)) (fun _ _ _ h => h) (Or.inl ⟨by rfl, ?_⟩) ?_ ?_
            rotate_left; (intro w'; go_simp; with_reducible rfl); rotate_left; (simp only [Act.put, sA, sB, sC, i64_w, i32_w]; rfl)
            refine one_ (i := 35) (N := some 58) (bA 38 68719476735) rfl rfl (one_of HT_.out (by kernel_rfl)) (by decide) (fun K hK => ?_)
            refine Kd.R_lit_step (Kd.int .i64) _ 3 ?hg (N := 58) ?hd (xs := ([(rd_T58 (rd_L2 l0 ab) aa).f0, wrap64 (((rd_T58 (rd_L2 l0 ab) aa).f0) - 1), (rd_T58 (rd_L2 l0 ab) aa).f2, wrap64 (((rd_T58 (rd_L2 l0 ab) aa).f2) - 1)] : List Int)) (inner := [.int .i64 ((rd_T58 (rd_L2 l0 ab) aa).f0), .int .i64 (wrap64 (((rd_T58 (rd_L2 l0 ab) aa).f0) - 1)), .int .i64 ((rd_T58 (rd_L2 l0 ab) aa).f2), .int .i64 (wrap64 (((rd_T58 (rd_L2 l0 ab) aa).f2) - 1))]) (ok := fun _ => True) (okp := fun _ => True) ?hr ?hp (fun _ hk => hk) trivial (Below.refl _ _) (Nat.le_refl _) (by simp) ?_; (case hd => rfl); (case hg => rfl); (case hr => first | (go_simp; done) | (go_simp; rfl)); (case hp => exact (Reps.one (show Kd.M (Kd.int .i64) _ _ _ ((rd_T58 (rd_L2 l0 ab) aa).f0) [.int .i64 ((rd_T58 (rd_L2 l0 ab) aa).f0)] from rfl) (Reps.one (show Kd.M (Kd.int .i64) _ _ _ (wrap64 (((rd_T58 (rd_L2 l0 ab) aa).f0) - 1)) [.int .i64 (wrap64 (((rd_T58 (rd_L2 l0 ab) aa).f0) - 1))] from rfl) (Reps.one (show Kd.M (Kd.int .i64) _ _ _ ((rd_T58 (rd_L2 l0 ab) aa).f2) [.int .i64 ((rd_T58 (rd_L2 l0 ab) aa).f2)] from rfl) (Reps.one (show Kd.M (Kd.int .i64) _ _ _ (wrap64 (((rd_T58 (rd_L2 l0 ab) aa).f2) - 1)) [.int .i64 (wrap64 (((rd_T58 (rd_L2 l0 ab) aa).f2) - 1))] from rfl) (Reps.none _ _))))))
            intro v135 w10 ho11 hb hg_ hnew_
            clear hg_ hnew_
            (first | rw [← cI.out] at ho11 | (simp only [Int.reduceToNat] at ho11; rw [← cI.out] at ho11))
            have n0_ := Aa.mk (Kd.As (by exact rU <| bl.out) (Kd.Ao ho11) hb)
            have n1_ := Aa.mk (Kd.As (by exact rU <| ag.out) (Kd.Ao ho11) hb)
            have n2_ := Aa.mk (Kd.Bv (Kd.Bf (Kd.Bf ho11 (Kd.Bw (by exact rU <| bl.out))) (Kd.Bw (by exact rU <| ag.out))) (Af (lU HB.out)))
            have n3_ := Aa.mk (Ai (lU HB.out) hb)
            clear bl
            clear ag
            clear HB
            have bl := n0_
            have ag := n1_
            have af := n2_
            have HB := n3_
            clear n0_ n1_ n2_ n3_
            clear hb ho11
            obtain ⟨cC, cD, dG⟩ := Kd.Bi af.out
            (first | subst dG | (injection dG with f1_ f2_ f3_; have f4_ := f1_.symm; have f5_ := f3_.symm; clear f1_ f2_ f3_; subst f4_; subst f5_))
            refine hK.out _ _ ⟨((HB.out.cell (World.block_lt_of_cell? w _ am)).trans am), ((HB.out.cell (World.block_lt_of_cell? w _ aq)).trans aq), ((HB.out.cell (World.block_lt_of_cell? w _ ap)).trans ap), ((HB.out.cell (World.block_lt_of_cell? w _ ao)).trans ao), ((HB.out.cell (World.block_lt_of_cell? w _ an)).trans an), ((HB.out.cell (World.block_lt_of_cell? w _ au)).trans au), ((HB.out.cell (World.block_lt_of_cell? w _ ay)).trans ay), ((HB.out.cell (World.block_lt_of_cell? w _ ax)).trans ax), ((HB.out.cell (World.block_lt_of_cell? w _ aw)).trans aw), ((HB.out.cell (World.block_lt_of_cell? w _ av)).trans av), ((HB.out.cell (World.block_lt_of_cell? w _ aA)).trans aA), ((HB.out.cell (World.block_lt_of_cell? w _ aG)).trans aG), ((HB.out.cell (World.block_lt_of_cell? w _ aE)).trans aE), ((HB.out.cell (World.block_lt_of_cell? w _ aD)).trans aD), ((HB.out.cell (World.block_lt_of_cell? w _ aC)).trans aC), ((HB.out.cell (World.block_lt_of_cell? w _ aI)).trans aI), ((HB.out.cell (World.block_lt_of_cell? w _ aN)).trans aN), ((HB.out.cell (World.block_lt_of_cell? w _ aM)).trans aM), ((HB.out.cell (World.block_lt_of_cell? w _ aK)).trans aK), ((HB.out.cell (World.block_lt_of_cell? w _ aJ)).trans aJ)⟩ (fun hHeld => ?_)
            clear hK K
            refine norm_ (a' := ?_) ?_ ?_
            rotate_left
            ·show Act.put _ (some 58) _ = _
             simp only [Act.put, sA, sB, sC, i64_w, i32_w]
             rfl
            refine one_ (i := 36) (N := some 59) (bA 38 137438953471) rfl rfl (one_of HT_.out (by kernel_rfl)) (by decide) (fun K hK => ?_)
            refine Kd.R_append_rows_step (Kd.int .i64) (w0 := w) w.heap.size (by rfl) (.tmp 23) (.tmp 58) 29 3 (.int .i64 0) 8 rfl Try.underlying29 info3 rfl (by decide) (by omega) u4 b5 bX _ _ _ (fun k_ => some k_ ≠ (u5 : Value).ownBlock ∧ some k_ ≠ (.slice cC bX.length cD : Value).ownBlock) (fun _ => False) rfl rfl ?aO ?aR (fun _ _ h => h) (fun _ h => h.elim) ?aF ?aB ?aS ?aL ?_
            (case aR => repeat (first | exact (Kd.Aq af.out).2.2 | (with_reducible refine Kd.Bh ?_ _) | (with_reducible refine Kd.Bg ?_ _) | (with_reducible refine Kd.Bp ?_)))
            (case aB => exact (lU HB.out))
            (case aF => exact (fun k_ hk => ⟨Kd.fresh' (Kd.Bw (by exact rU <| ag.out)) k_ hk, Kd.fresh' (Kd.Bw (by exact rU <| af.out)) k_ hk⟩))
            (case aO => exact (by exact rU <| bl.out))
            (case aS => exact (Af (lU HB.out)))
            (case aL => have := LMc7.out; omega)
            intro v138 w12 ho hb hg hat
            rw [← dA.out] at ho
            have n0_ := Aa.mk (Kd.R_after (ok := (fun k_ => some k_ ≠ (.slice cC bX.length cD : Value).ownBlock)) (by exact rU <| Kd.Bj ag.out (fun _ hk => ⟨hk.2, hk.1⟩)) hg hat)
            have n1_ := Aa.mk (Kd.R_after (ok := (fun k_ => some k_ ≠ (u5 : Value).ownBlock)) (by exact rU <| Kd.Bj af.out (fun _ hk => ⟨hk.2, hk.1.2⟩)) hg hat)
            have n2_ := Aa.mk (hb)
            have n3_ := Aa.mk (ho)
            clear ag
            clear af
            clear HB
            clear bl
            have ag := n0_
            have af := n1_
            have HB := n2_
            have ak := n3_
            clear n0_ n1_ n2_ n3_
            clear ho hb hg hat
            refine hK.out _ _ ⟨((HB.out.cell (World.block_lt_of_cell? w _ am)).trans am), ((HB.out.cell (World.block_lt_of_cell? w _ aq)).trans aq), ((HB.out.cell (World.block_lt_of_cell? w _ ap)).trans ap), ((HB.out.cell (World.block_lt_of_cell? w _ ao)).trans ao), ((HB.out.cell (World.block_lt_of_cell? w _ an)).trans an), ((HB.out.cell (World.block_lt_of_cell? w _ au)).trans au), ((HB.out.cell (World.block_lt_of_cell? w _ ay)).trans ay), ((HB.out.cell (World.block_lt_of_cell? w _ ax)).trans ax), ((HB.out.cell (World.block_lt_of_cell? w _ aw)).trans aw), ((HB.out.cell (World.block_lt_of_cell? w _ av)).trans av), ((HB.out.cell (World.block_lt_of_cell? w _ aA)).trans aA), ((HB.out.cell (World.block_lt_of_cell? w _ aG)).trans aG), ((HB.out.cell (World.block_lt_of_cell? w _ aE)).trans aE), ((HB.out.cell (World.block_lt_of_cell? w _ aD)).trans aD), ((HB.out.cell (World.block_lt_of_cell? w _ aC)).trans aC), ((HB.out.cell (World.block_lt_of_cell? w _ aI)).trans aI), ((HB.out.cell (World.block_lt_of_cell? w _ aN)).trans aN), ((HB.out.cell (World.block_lt_of_cell? w _ aM)).trans aM), ((HB.out.cell (World.block_lt_of_cell? w _ aK)).trans aK), ((HB.out.cell (World.block_lt_of_cell? w _ aJ)).trans aJ)⟩ (fun hHeld => ?_)
            clear hK K
            refine norm_ (a' := ?_) ?_ ?_
            rotate_left
            ·show Act.put _ (some 59) _ = _
             simp only [Act.put, sA, sB, sC, i64_w, i32_w]
             rfl
            refine pure_ (i := 37) (N := some 4) (v := ?_) (a' := ?_) (bA 38 274877906943) rfl rfl (any_of HT_.out (by kernel_rfl)) (fun _ _ _ h => h) (Or.inl ⟨by rfl, ?_⟩) ?_ ?_
            rotate_left; (intro w'; go_simp; with_reducible rfl); rotate_left; (simp only [Act.put, sA, sB, sC, i64_w, i32_w]; rfl)
            refine done_ (done_of HT_.out (by kernel_rfl)) ?_
            try go_wp2
            have n0_ := Aa.mk (Kd.B1 ag.out)
            have n1_ := Aa.mk (Kd.B1 af.out)
            have n2_ := Aa.mk (Kd.B1 ak.out)
            have n3_ := Aa.mk (Ad HB.out)
            clear ag
            clear af
            clear ak
            clear HB
            have ag := n0_
            have af := n1_
            have ak := n2_
            have HB := n3_
            clear n0_ n1_ n2_ n3_
            have dd : 0 ≤ (ab : Int) := of_decide_eq_true (by with_reducible assumption)
            have de : ab < (l0.length : Int) := of_decide_eq_true (by with_reducible assumption)
            obtain ⟨dH, ea, b4, e140, aj, co, hi140_0⟩ := at_L2 HR0.out ab dd de
            have aQ := aj
            obtain rfl : ah = dH := (by injection e140)
            replace aj := (HB.out.cell (World.block_lt_of_cell? w _ aj)).trans aj
            have cp := Aa.mk hi140_0
            have dR := Aa.mk co
            clear hi140_0 co
            replace dd := eq_true dd
            replace de := eq_true de
            have df : 0 ≤ (aa : Int) := of_decide_eq_true (by with_reducible assumption)
            have dg : aa < ((rd_L2 l0 ab).length : Int) := of_decide_eq_true (by with_reducible assumption)
            obtain ⟨ae, e141, bG, bH, bI, bJ⟩ := at_T58 cp.out aa df dg
            have aT := bJ
            have aU := bI
            have aV := bH
            have aW := bG
            cases e141
            replace bG := (HB.out.cell (World.block_lt_of_cell? w _ bG)).trans bG
            replace bH := (HB.out.cell (World.block_lt_of_cell? w _ bH)).trans bH
            replace bI := (HB.out.cell (World.block_lt_of_cell? w _ bI)).trans bI
            replace bJ := (HB.out.cell (World.block_lt_of_cell? w _ bJ)).trans bJ
            replace df := eq_true df
            replace dg := eq_true dg
            have dh : 0 ≤ (ab : Int) := of_decide_eq_true (by with_reducible assumption)
            have di : ab < (l0.length : Int) := of_decide_eq_true (by with_reducible assumption)
            obtain ⟨dI, eb, ec, e142, aX, cq, hi142_0⟩ := at_L2 HR0.out ab dh di
            have aY := aX
            obtain rfl : ah = dI := (by injection e142)
            replace aX := (HB.out.cell (World.block_lt_of_cell? w _ aX)).trans aX
            have ct := Aa.mk hi142_0
            have dS := Aa.mk cq
            clear hi142_0 cq
            replace dh := eq_true dh
            replace di := eq_true di
            have ea_ := Option.some.inj (aj.symm.trans aX)
            injection ea_ with ea_ en_ ec_
            subst ea_
            subst ec_
            clear en_
            have dj : 0 ≤ (aa : Int) := of_decide_eq_true (by with_reducible assumption)
            have dk : aa < ((rd_L2 l0 ab).length : Int) := of_decide_eq_true (by with_reducible assumption)
            obtain ⟨em, e143, bK, bL, bM, bN⟩ := at_T58 ct.out aa dj dk
            have aZ := bN
            have a5 := bM
            have a6 := bL
            have a7 := bK
            cases e143
            replace bK := (HB.out.cell (World.block_lt_of_cell? w _ bK)).trans bK
            replace bL := (HB.out.cell (World.block_lt_of_cell? w _ bL)).trans bL
            replace bM := (HB.out.cell (World.block_lt_of_cell? w _ bM)).trans bM
            replace bN := (HB.out.cell (World.block_lt_of_cell? w _ bN)).trans bN
            replace dj := eq_true dj
            replace dk := eq_true dk
            have dl : 0 ≤ (ab : Int) := of_decide_eq_true (by with_reducible assumption)
            have dm : ab < (l0.length : Int) := of_decide_eq_true (by with_reducible assumption)
            obtain ⟨dJ, ed, ef, e144, a8, cu, hi144_0⟩ := at_L2 HR0.out ab dl dm
            have a9 := a8
            obtain rfl : ah = dJ := (by injection e144)
            replace a8 := (HB.out.cell (World.block_lt_of_cell? w _ a8)).trans a8
            have cv := Aa.mk hi144_0
            have dT := Aa.mk cu
            clear hi144_0 cu
            replace dl := eq_true dl
            replace dm := eq_true dm
            have ea_ := Option.some.inj (aj.symm.trans a8)
            injection ea_ with ea_ en_ ec_
            subst ea_
            subst ec_
            clear en_
            have dn : 0 ≤ (aa : Int) := of_decide_eq_true (by with_reducible assumption)
            have dp : aa < ((rd_L2 l0 ab).length : Int) := of_decide_eq_true (by with_reducible assumption)
            obtain ⟨en, e145, bO, bP, bQ, bR⟩ := at_T58 cv.out aa dn dp
            have ba := bR
            have bb := bQ
            have bc := bP
            have be := bO
            cases e145
            replace bO := (HB.out.cell (World.block_lt_of_cell? w _ bO)).trans bO
            replace bP := (HB.out.cell (World.block_lt_of_cell? w _ bP)).trans bP
            replace bQ := (HB.out.cell (World.block_lt_of_cell? w _ bQ)).trans bQ
            replace bR := (HB.out.cell (World.block_lt_of_cell? w _ bR)).trans bR
            replace dn := eq_true dn
            replace dp := eq_true dp
            have dq : 0 ≤ (ab : Int) := of_decide_eq_true (by with_reducible assumption)
            have dr : ab < (l0.length : Int) := of_decide_eq_true (by with_reducible assumption)
            obtain ⟨dK, eh, ei, e146, bf, cw, hi146_0⟩ := at_L2 HR0.out ab dq dr
            have bg := bf
            obtain rfl : ah = dK := (by injection e146)
            replace bf := (HB.out.cell (World.block_lt_of_cell? w _ bf)).trans bf
            have cx := Aa.mk hi146_0
            have dU := Aa.mk cw
            clear hi146_0 cw
            replace dq := eq_true dq
            replace dr := eq_true dr
            have ea_ := Option.some.inj (aj.symm.trans bf)
            injection ea_ with ea_ en_ ec_
            subst ea_
            subst ec_
            clear en_
            have dt : 0 ≤ (aa : Int) := of_decide_eq_true (by with_reducible assumption)
            have du : aa < ((rd_L2 l0 ab).length : Int) := of_decide_eq_true (by with_reducible assumption)
            obtain ⟨eo, e147, bS, bT, bV, bW⟩ := at_T58 cx.out aa dt du
            have bh := bW
            have bi := bV
            have bj := bT
            have bk := bS
            cases e147
            replace bS := (HB.out.cell (World.block_lt_of_cell? w _ bS)).trans bS
            replace bT := (HB.out.cell (World.block_lt_of_cell? w _ bT)).trans bT
            replace bV := (HB.out.cell (World.block_lt_of_cell? w _ bV)).trans bV
            replace bW := (HB.out.cell (World.block_lt_of_cell? w _ bW)).trans bW
            replace dt := eq_true dt
            replace du := eq_true du
            refine start_ (n := 38) (S := fun w' => w'.cell? (ah.add (ab).toNat) = some (.slice (some ae) (rd_L2 l0 ab).length b4) ∧ w'.cell? (ae.add ((aa).toNat * 4)) = some (.int .i64 ((rd_T58 (rd_L2 l0 ab) aa).f0)) ∧ w'.cell? ⟨(ae.add ((aa).toNat * 4)).block, (ae.add ((aa).toNat * 4)).off + 1, none⟩ = some (.int .i64 ((rd_T58 (rd_L2 l0 ab) aa).f1)) ∧ w'.cell? ⟨(ae.add ((aa).toNat * 4)).block, (ae.add ((aa).toNat * 4)).off + 2, none⟩ = some (.int .i64 ((rd_T58 (rd_L2 l0 ab) aa).f2)) ∧ w'.cell? ⟨(ae.add ((aa).toNat * 4)).block, (ae.add ((aa).toNat * 4)).off + 3, none⟩ = some (.int .i64 ((rd_T58 (rd_L2 l0 ab) aa).f3)) ∧ w'.cell? (ah.add (ab).toNat) = some (.slice (some ae) (rd_L2 l0 ab).length b4) ∧ w'.cell? (ae.add ((aa).toNat * 4)) = some (.int .i64 ((rd_T58 (rd_L2 l0 ab) aa).f0)) ∧ w'.cell? ⟨(ae.add ((aa).toNat * 4)).block, (ae.add ((aa).toNat * 4)).off + 1, none⟩ = some (.int .i64 ((rd_T58 (rd_L2 l0 ab) aa).f1)) ∧ w'.cell? ⟨(ae.add ((aa).toNat * 4)).block, (ae.add ((aa).toNat * 4)).off + 2, none⟩ = some (.int .i64 ((rd_T58 (rd_L2 l0 ab) aa).f2)) ∧ w'.cell? ⟨(ae.add ((aa).toNat * 4)).block, (ae.add ((aa).toNat * 4)).off + 3, none⟩ = some (.int .i64 ((rd_T58 (rd_L2 l0 ab) aa).f3)) ∧ w'.cell? (ah.add (ab).toNat) = some (.slice (some ae) (rd_L2 l0 ab).length b4) ∧ w'.cell? (ae.add ((aa).toNat * 4)) = some (.int .i64 ((rd_T58 (rd_L2 l0 ab) aa).f0)) ∧ w'.cell? ⟨(ae.add ((aa).toNat * 4)).block, (ae.add ((aa).toNat * 4)).off + 1, none⟩ = some (.int .i64 ((rd_T58 (rd_L2 l0 ab) aa).f1)) ∧ w'.cell? ⟨(ae.add ((aa).toNat * 4)).block, (ae.add ((aa).toNat * 4)).off + 2, none⟩ = some (.int .i64 ((rd_T58 (rd_L2 l0 ab) aa).f2)) ∧ w'.cell? ⟨(ae.add ((aa).toNat * 4)).block, (ae.add ((aa).toNat * 4)).off + 3, none⟩ = some (.int .i64 ((rd_T58 (rd_L2 l0 ab) aa).f3)) ∧ w'.cell? (ah.add (ab).toNat) = some (.slice (some ae) (rd_L2 l0 ab).length b4) ∧ w'.cell? (ae.add ((aa).toNat * 4)) = some (.int .i64 ((rd_T58 (rd_L2 l0 ab) aa).f0)) ∧ w'.cell? ⟨(ae.add ((aa).toNat * 4)).block, (ae.add ((aa).toNat * 4)).off + 1, none⟩ = some (.int .i64 ((rd_T58 (rd_L2 l0 ab) aa).f1)) ∧ w'.cell? ⟨(ae.add ((aa).toNat * 4)).block, (ae.add ((aa).toNat * 4)).off + 2, none⟩ = some (.int .i64 ((rd_T58 (rd_L2 l0 ab) aa).f2)) ∧ w'.cell? ⟨(ae.add ((aa).toNat * 4)).block, (ae.add ((aa).toNat * 4)).off + 3, none⟩ = some (.int .i64 ((rd_T58 (rd_L2 l0 ab) aa).f3))) (ds := []) #[false, false, false, false, false, false, false, false, false, false, false, false, false, false, false, false, false, false, false, false, false, false, false, false, false, false, false, false, false, false, false, false, false, false, false, false, false, false] (by kernel_rfl) rfl rfl ⟨((HB.out.cell (World.block_lt_of_cell? w _ aQ)).trans aQ), ((HB.out.cell (World.block_lt_of_cell? w _ aW)).trans aW), ((HB.out.cell (World.block_lt_of_cell? w _ aV)).trans aV), ((HB.out.cell (World.block_lt_of_cell? w _ aU)).trans aU), ((HB.out.cell (World.block_lt_of_cell? w _ aT)).trans aT), ((HB.out.cell (World.block_lt_of_cell? w _ aY)).trans aY), ((HB.out.cell (World.block_lt_of_cell? w _ a7)).trans a7), ((HB.out.cell (World.block_lt_of_cell? w _ a6)).trans a6), ((HB.out.cell (World.block_lt_of_cell? w _ a5)).trans a5), ((HB.out.cell (World.block_lt_of_cell? w _ aZ)).trans aZ), ((HB.out.cell (World.block_lt_of_cell? w _ a9)).trans a9), ((HB.out.cell (World.block_lt_of_cell? w _ be)).trans be), ((HB.out.cell (World.block_lt_of_cell? w _ bc)).trans bc), ((HB.out.cell (World.block_lt_of_cell? w _ bb)).trans bb), ((HB.out.cell (World.block_lt_of_cell? w _ ba)).trans ba), ((HB.out.cell (World.block_lt_of_cell? w _ bg)).trans bg), ((HB.out.cell (World.block_lt_of_cell? w _ bk)).trans bk), ((HB.out.cell (World.block_lt_of_cell? w _ bj)).trans bj), ((HB.out.cell (World.block_lt_of_cell? w _ bi)).trans bi), ((HB.out.cell (World.block_lt_of_cell? w _ bh)).trans bh)⟩ (fun hHeld => ?_); refine with_tabW Aw.tab9 Aw.bits9 (fun HT_ HW_ => ?_)
            generalize w12.drew = w14 at ag af ak HB cp ct cv cx aj bG bH bI bJ aX bK bL bM bN a8 bO bP bQ bR bf bS bT bV bW hHeld ⊢
            refine pure_ (i := 0) (N := some 60) (v := ?_) (a' := ?_) (bA 38 1) rfl rfl (any_of HT_.out (by kernel_rfl)) (fun _ _ _ h => h) (Or.inl ⟨by rfl, ?_⟩) ?_ ?_
            rotate_left; (intro w'; go_simp; with_reducible rfl); rotate_left; (simp only [Act.put, sA, sB, sC, i64_w, i32_w]; rfl)
            refine pure_ (i := 1) (N := some 61) (v := ?_) (a' := ?_) (bA 38 3) rfl rfl (any_of HT_.out (by kernel_rfl)) (fun _ _ _ h => h) (Or.inl ⟨by rfl, ?_⟩) ?_ ?_
            rotate_left; (intro w'; go_simp; with_reducible rfl); rotate_left; (simp only [Act.put, sA, sB, sC, i64_w, i32_w]; rfl)
            refine pure_ (i := 2) (N := some 62) (v := ?_) (a' := ?_) (bA 38 7) rfl rfl (any_of HT_.out (by kernel_rfl)) (fun _ _ _ h => h) (Or.inl ⟨by rfl, ?_⟩) ?_ ?_
            rotate_left; (intro w'; go_simp; with_reducible rfl); rotate_left; (simp only [Act.put, sA, sB, sC, i64_w, i32_w]; rfl)
            refine pure_ (i := 3) (N := some 63) (v := ?_) (a' := ?_) (bA 38 15) rfl rfl (any_of HT_.out (by kernel_rfl)) (fun _ _ _ h => h) (Or.inl ⟨by rfl, ?_⟩) ?_ ?_
            rotate_left; (intro w'; go_simp; with_reducible rfl); rotate_left; (simp only [Act.put, sA, sB, sC, i64_w, i32_w]; rfl)
            refine pure_ (i := 5) (N := some 65) (v := ?_) (a' := ?_) (bA 38 47) rfl rfl (any_of HT_.out (by kernel_rfl)) (fun _ _ _ h => h) (Or.inl ⟨by rfl, ?_⟩) ?_ ?_
            rotate_left; (intro w'; go_simp; with_reducible rfl); rotate_left; (simp only [Act.put, sA, sB, sC, i64_w, i32_w]; rfl)
            refine pure_ (i := 9) (N := some 69) (v := ?_) (a' := ?_) (bA 38 559) rfl rfl (any_of HT_.out (by kernel_rfl)) (fun _ _ _ h => h) (Or.inl ⟨by rfl, ?_⟩) ?_ ?_
            rotate_left; (intro w'; go_simp; with_reducible rfl); rotate_left; (simp only [Act.put, sA, sB, sC, i64_w, i32_w]; rfl)
            refine pure_ (i := 10) (N := some 70) (v := ?_) (a' := ?_) (bA 38 1583) rfl rfl (any_of HT_.out (by kernel_rfl)) (fun _ _ _ h => h) (Or.inl ⟨by rfl, ?_⟩) ?_ ?_
            rotate_left; (intro w'; go_simp; with_reducible rfl); rotate_left; (simp only [Act.put, sA, sB, sC, i64_w, i32_w]; rfl)
            refine pure_ (i := 11) (N := some 71) (v := ?_) (a' := ?_) (bA 38 3631) rfl rfl (any_of HT_.out (by kernel_rfl)) (fun _ _ _ h => h) (Or.inl ⟨by rfl, ?_⟩) ?_ ?_
            rotate_left; (intro w'; go_simp; with_reducible rfl); rotate_left; (simp only [Act.put, sA, sB, sC, i64_w, i32_w]; rfl)
            refine pure_ (i := 13) (N := some 73) (v := ?_) (a' := ?_) (bA 38 11823) rfl rfl (any_of HT_.out (by kernel_rfl)) (fun _ _ _ h => h) (Or.inl ⟨by rfl, ?_⟩) ?_ ?_
            rotate_left; (intro w'; go_simp; with_reducible rfl); rotate_left; (simp only [Act.put, sA, sB, sC, i64_w, i32_w]; rfl)
            refine pure_ (i := 18) (N := some 78) (v := ?_) (a' := ?_) (bA 38 273967) rfl rfl (any_of HT_.out (by kernel_rfl)) (fun _ _ _ h => h) (Or.inl ⟨by rfl, ?_⟩) ?_ ?_
            rotate_left; (intro w'; go_simp; with_reducible rfl); rotate_left; (simp only [Act.put, sA, sB, sC, i64_w, i32_w]; rfl)
            refine pure_ (i := 19) (N := some 79) (v := ?_) (a' := ?_) (bA 38 798255) rfl rfl (any_of HT_.out (by kernel_rfl)) (fun _ _ _ h => h) (Or.inl ⟨by rfl, ?_⟩) ?_ ?_
            rotate_left; (intro w'; go_simp; with_reducible rfl); rotate_left; (simp only [Act.put, sA, sB, sC, i64_w, i32_w]; rfl)
            refine pure_ (i := 20) (N := some 80) (v := ?_) (a' := ?_) (bA 38 1846831) rfl rfl (any_of HT_.out (by kernel_rfl)) (fun _ _ _ h => h) (Or.inl ⟨by rfl, ?_⟩) ?_ ?_
            rotate_left; (intro w'; go_simp; with_reducible rfl); rotate_left; (simp only [Act.put, sA, sB, sC, i64_w, i32_w]; rfl)
            refine pure_ (i := 22) (N := some 82) (v := ?_) (a' := ?_) (bA 38 6041135) rfl rfl (any_of HT_.out (by kernel_rfl)) (fun _ _ _ h => h) (Or.inl ⟨by rfl, ?_⟩) ?_ ?_
            rotate_left; (intro w'; go_simp; with_reducible rfl); rotate_left; (simp only [Act.put, sA, sB, sC, i64_w, i32_w]; rfl)
            refine pure_ (i := 26) (N := some 86) (v := ?_) (a' := ?_) (bA 38 73149999) rfl rfl (any_of HT_.out (by kernel_rfl)) (fun _ _ _ h => h) (Or.inl ⟨by rfl, ?_⟩) ?_ ?_
            rotate_left; (intro w'; go_simp; with_reducible rfl); rotate_left; (simp only [Act.put, sA, sB, sC, i64_w, i32_w]; rfl)
            refine pure_ (i := 27) (N := some 87) (v := ?_) (a' := ?_) (bA 38 207367727) rfl rfl (any_of HT_.out (by kernel_rfl)) (fun _ _ _ h => h) (Or.inl ⟨by rfl, ?_⟩) ?_ ?_
            rotate_left; (intro w'; go_simp; with_reducible rfl); rotate_left; (simp only [Act.put, sA, sB, sC, i64_w, i32_w]; rfl)
            refine pure_ (i := 28) (N := some 88) (v := ?_) (a' := ?_) (bA 38 475803183) rfl rfl (any_of HT_.out (by kernel_rfl)) (fun _ _ _ h => h) (Or.inl ⟨by rfl, ?_⟩) ?_ ?_
            rotate_left; (intro w'; go_simp; with_reducible rfl); rotate_left; (simp only [Act.put, sA, sB, sC, i64_w, i32_w]; rfl)
            refine pure_ (i := 30) (N := some 90) (v := ?_) (a' := ?_) (bA 38 1549545007) rfl rfl (any_of HT_.out (by kernel_rfl)) (fun _ _ _ h => h) (Or.inl ⟨by rfl, ?_⟩) ?_ ?_
            rotate_left; (intro w'; go_simp; with_reducible rfl); rotate_left; (simp only [Act.put, sA, sB, sC, i64_w, i32_w]; rfl)
            refine take_ (i := 4) (N := some 64) (v := ?_) (a' := ?_) (bA 38 1549545023) rfl rfl (take_ofW HT_.out HW_.out (by kernel_rfl)) (fun _ _ _ h => h) (Or.inl ⟨by rfl, ?_⟩) hHeld ?_ ?_
            rotate_left; (rintro w' ⟨s0, s1, s2, s3, s4, s5, s6, s7, s8, s9, s10, s11, s12, s13, s14, s15, s16, s17, s18, s19⟩; go_simp; with_reducible rfl); rotate_left; (simp only [Act.put, sA, sB, sC, i64_w, i32_w]; rfl)
            refine pure_ (i := 6) (N := some 66) (v := ?_) (a' := ?_) (bA 38 1549545087) rfl rfl (any_of HT_.out (by kernel_rfl)) (fun _ _ _ h => h) (Or.inl ⟨by rfl, ?_⟩) ?_ ?_
            rotate_left; (intro w'; go_simp; with_reducible rfl); rotate_left; (simp only [Act.put, sA, sB, sC, i64_w, i32_w]; rfl)
            refine pure_ (i := 7) (N := some 67) (v := ?_) (a' := ?_) (bA 38 1549545215) rfl rfl (any_of HT_.out (by kernel_rfl)) (fun _ _ _ h => h) (Or.inl ⟨by rfl, ?_⟩) ?_ ?_
            rotate_left; (intro w'; go_simp; with_reducible rfl); rotate_left; (simp only [Act.put, sA, sB, sC, i64_w, i32_w]; rfl)
            refine take_ (i := 8) (N := some 68) (v := ?_) (a' := ?_) (bA 38 1549545471) rfl rfl (take_ofW HT_.out HW_.out (by kernel_rfl)) (fun _ _ _ h => h) (Or.inl ⟨by rfl, ?_⟩) hHeld ?_ ?_
            rotate_left; (rintro w' ⟨s0, s1, s2, s3, s4, s5, s6, s7, s8, s9, s10, s11, s12, s13, s14, s15, s16, s17, s18, s19⟩; go_simp; with_reducible rfl); rotate_left; (simp only [Act.put, sA, sB, sC, i64_w, i32_w]; rfl)
            refine take_ (i := 12) (N := some 72) (v := ?_) (a' := ?_) (bA 38 1549549567) rfl rfl (take_ofW HT_.out HW_.out (by kernel_rfl)) (fun _ _ _ h => h) (Or.inl ⟨by rfl, ?_⟩) hHeld ?_ ?_
            rotate_left; (rintro w' ⟨s0, s1, s2, s3, s4, s5, s6, s7, s8, s9, s10, s11, s12, s13, s14, s15, s16, s17, s18, s19⟩; go_simp; with_reducible rfl); rotate_left; (simp only [Act.put, sA, sB, sC, i64_w, i32_w]; rfl)
            refine pure_ (i := 14) (N := some 74) (v := ?_) (a' := ?_) (bA 38 1549565951) rfl rfl (any_of HT_.out (by kernel_rfl)) (fun _ _ _ h => h) (Or.inl ⟨by rfl, ?_⟩) ?_ ?_
            rotate_left; (intro w'; go_simp; with_reducible rfl); rotate_left; (simp only [Act.put, sA, sB, sC, i64_w, i32_w]; rfl)
            refine pure_ (i := 15) (N := some 75) (v := ?_) (a' := ?_) (bA 38 1549598719) rfl rfl (any_of HT_.out (by kernel_rfl)) (fun _ _ _ h => h) (Or.inl ⟨by rfl, ?_⟩) ?_ ?_
            rotate_left; (intro w'; go_simp; with_reducible rfl); rotate_left; (simp only [Act.put, sA, sB, sC, i64_w, i32_w]; rfl)
            refine take_ (i := 16) (N := some 76) (v := ?_) (a' := ?_) (bA 38 1549664255) rfl rfl (take_ofW HT_.out HW_.out (by kernel_rfl)) (fun _ _ _ h => h) (Or.inl ⟨by rfl, ?_⟩) hHeld ?_ ?_
            rotate_left; (rintro w' ⟨s0, s1, s2, s3, s4, s5, s6, s7, s8, s9, s10, s11, s12, s13, s14, s15, s16, s17, s18, s19⟩; go_simp; with_reducible rfl); rotate_left; (simp only [Act.put, sA, sB, sC, i64_w, i32_w]; rfl)
            refine pure_ (i := 17) (N := some 77) (v := ?_) (a' := ?_) (bA 38 1549795327) rfl rfl (any_of HT_.out (by kernel_rfl)) (fun _ _ _ h => h) (Or.inl ⟨by rfl, ?_⟩) ?_ ?_
            rotate_left; (intro w'; go_simp; with_reducible rfl); rotate_left; (simp only [Act.put, sA, sB, sC, i64_w, i32_w]; rfl)
            refine take_ (i := 21) (N := some 81) (v := ?_) (a' := ?_) (bA 38 1551892479) rfl rfl (take_ofW HT_.out HW_.out (by kernel_rfl)) (fun _ _ _ h => h) (Or.inl ⟨by rfl, ?_⟩) hHeld ?_ ?_
            rotate_left; (rintro w' ⟨s0, s1, s2, s3, s4, s5, s6, s7, s8, s9, s10, s11, s12, s13, s14, s15, s16, s17, s18, s19⟩; go_simp; with_reducible rfl); rotate_left; (simp only [Act.put, sA, sB, sC, i64_w, i32_w]; rfl)
            refine pure_ (i := 23) (N := some 83) (v := ?_) (a' := ?_) (bA 38 1560281087) rfl rfl (any_of HT_.out (by kernel_rfl)) (fun _ _ _ h => h) (Or.inl ⟨by rfl, ?_⟩) ?_ ?_
            rotate_left; (intro w'; go_simp; with_reducible rfl); rotate_left; (simp only [Act.put, sA, sB, sC, i64_w, i32_w]; rfl)
            refine pure_ (i := 24) (N := some 84) (v := ?_) (a' := ?_) (bA 38 1577058303) rfl rfl (any_of HT_.out (by kernel_rfl)) (fun _ _ _ h => h) (Or.inl ⟨by rfl, ?_⟩) ?_ ?_
            rotate_left; (intro w'; go_simp; with_reducible rfl); rotate_left; (simp only [Act.put, sA, sB, sC, i64_w, i32_w]; rfl)
            refine take_ (i := 25) (N := some 85) (v := ?_) (a' := ?_) (bA 38 1610612735) rfl rfl (take_ofW HT_.out HW_.out (by kernel_rfl)) (fun _ _ _ h => h) (Or.inl ⟨by rfl, ?_⟩) hHeld ?_ ?_
            rotate_left; (rintro w' ⟨s0, s1, s2, s3, s4, s5, s6, s7, s8, s9, s10, s11, s12, s13, s14, s15, s16, s17, s18, s19⟩; go_simp; with_reducible rfl); rotate_left; (simp only [Act.put, sA, sB, sC, i64_w, i32_w]; rfl)
            refine take_ (i := 29) (N := some 89) (v := ?_) (a' := ?_) (bA 38 2147483647) rfl rfl (take_ofW HT_.out HW_.out (by kernel_rfl)) (fun _ _ _ h => h) (Or.inl ⟨by rfl, ?_⟩) hHeld ?_ ?_
            rotate_left; (rintro w' ⟨s0, s1, s2, s3, s4, s5, s6, s7, s8, s9, s10, s11, s12, s13, s14, s15, s16, s17, s18, s19⟩; go_simp; with_reducible rfl); rotate_left; (simp only [Act.put, sA, sB, sC, i64_w, i32_w]; rfl)
            refine pure_ (i := 31) (N := some 91) (v := ?_) (a' := ?_) (bA 38 4294967295) rfl rfl (any_of HT_.out (by kernel_rfl)) (fun _ _ _ h => h) (Or.inl ⟨by rfl, ?_⟩) ?_ ?_
            rotate_left; (intro w'; go_simp; with_reducible rfl); rotate_left; (simp only [Act.put, sA, sB, sC, i64_w, i32_w]; rfl)
            refine pure_ (i := 32) (N := some 92) (v := ?_) (a' := ?_) (bA 38 8589934591) rfl rfl (any_of HT_.out (by kernel_rfl)) (fun _ _ _ h => h) (Or.inl ⟨by rfl, ?_⟩) ?_ ?_
            rotate_left; (intro w'; go_simp; with_reducible rfl); rotate_left; (simp only [Act.put, sA, sB, sC, i64_w, i32_w]; rfl)
            refine take_ (i := 33) (N := some 93) (v := ?_) (a' := ?_) (bA 38 17179869183) rfl rfl (take_ofW HT_.out HW_.out (by kernel_rfl)) (fun _ _ _ h => h) (Or.inl ⟨by rfl, ?_⟩) hHeld ?_ ?_
            rotate_left; (rintro w' ⟨s0, s1, s2, s3, s4, s5, s6, s7, s8, s9, s10, s11, s12, s13, s14, s15, s16, s17, s18, s19⟩; go_simp; with_reducible rfl); rotate_left; (simp only [Act.put, sA, sB, sC, i64_w, i32_w]; rfl)
            refine pure_ (i := 34) (N := some 94) (v := ?_) (a' := ?_) (bA 38 34359738367) rfl rfl (any_of HT_.out (by kernel_rfl)) (fun _ _ _ h => h) (Or.inl ⟨by rfl, ?_⟩) ?_ ?_
            rotate_left; (intro w'; go_simp; with_reducible rfl); rotate_left; (simp only [Act.put, sA, sB, sC, i64_w, i32_w]; rfl)
            refine one_ (i := 35) (N := some 95) (bA 38 68719476735) rfl rfl (one_of HT_.out (by kernel_rfl)) (by decide) (fun K hK => ?_)
            refine Kd.R_lit_step (Kd.int .i64) _ 3 ?hg (N := 95) ?hd (xs := ([(rd_T58 (rd_L2 l0 ab) aa).f1, wrap64 (((rd_T58 (rd_L2 l0 ab) aa).f1) - 1), (rd_T58 (rd_L2 l0 ab) aa).f3, wrap64 (((rd_T58 (rd_L2 l0 ab) aa).f3) - 1)] : List Int)) (inner := [.int .i64 ((rd_T58 (rd_L2 l0 ab) aa).f1), .int .i64 (wrap64 (((rd_T58 (rd_L2 l0 ab) aa).f1) - 1)), .int .i64 ((rd_T58 (rd_L2 l0 ab) aa).f3), .int .i64 (wrap64 (((rd_T58 (rd_L2 l0 ab) aa).f3) - 1))]) (ok := fun _ => True) (okp := fun _ => True) ?hr ?hp (fun _ hk => hk) trivial (Below.refl _ _) (Nat.le_refl _) (by simp) ?_; (case hd => rfl); (case hg => rfl); (case hr => first | (go_simp; done) | (go_simp; rfl)); (case hp => exact (Reps.one (show Kd.M (Kd.int .i64) _ _ _ ((rd_T58 (rd_L2 l0 ab) aa).f1) [.int .i64 ((rd_T58 (rd_L2 l0 ab) aa).f1)] from rfl) (Reps.one (show Kd.M (Kd.int .i64) _ _ _ (wrap64 (((rd_T58 (rd_L2 l0 ab) aa).f1) - 1)) [.int .i64 (wrap64 (((rd_T58 (rd_L2 l0 ab) aa).f1) - 1))] from rfl) (Reps.one (show Kd.M (Kd.int .i64) _ _ _ ((rd_T58 (rd_L2 l0 ab) aa).f3) [.int .i64 ((rd_T58 (rd_L2 l0 ab) aa).f3)] from rfl) (Reps.one (show Kd.M (Kd.int .i64) _ _ _ (wrap64 (((rd_T58 (rd_L2 l0 ab) aa).f3) - 1)) [.int .i64 (wrap64 (((rd_T58 (rd_L2 l0 ab) aa).f3) - 1))] from rfl) (Reps.none _ _))))))
            intro v149 w15 ho16 hb hg_ hnew_
            clear hg_ hnew_
            (first | rw [← cJ.out] at ho16 | (simp only [Int.reduceToNat] at ho16; rw [← cJ.out] at ho16))
            have n0_ := Aa.mk (Kd.As (by exact rU <| ag.out) (Kd.Ao ho16) hb)
            have n1_ := Aa.mk (Kd.As (by exact rU <| af.out) (Kd.Ao ho16) hb)
            have n2_ := Aa.mk (Kd.As (by exact rU <| ak.out) (Kd.Ao ho16) hb)
            have n3_ := Aa.mk (Kd.Bv (Kd.Bf (Kd.Bf (Kd.Bf ho16 (Kd.Bw (by exact rU <| ag.out))) (Kd.Bw (by exact rU <| af.out))) (Kd.Bw (by exact rU <| ak.out))) (Af (lU HB.out)))
            have n4_ := Aa.mk (Ai (lU HB.out) hb)
            clear ag
            clear af
            clear ak
            clear HB
            have ag := n0_
            have af := n1_
            have ak := n2_
            have bY := n3_
            have HB := n4_
            clear n0_ n1_ n2_ n3_ n4_
            clear hb ho16
            obtain ⟨dv, dw, dL⟩ := Kd.Bi bY.out
            (first | subst dL | (injection dL with f1_ f2_ f3_; have f4_ := f1_.symm; have f5_ := f3_.symm; clear f1_ f2_ f3_; subst f4_; subst f5_))
            refine hK.out _ _ ⟨((HB.out.cell (World.block_lt_of_cell? w _ aQ)).trans aQ), ((HB.out.cell (World.block_lt_of_cell? w _ aW)).trans aW), ((HB.out.cell (World.block_lt_of_cell? w _ aV)).trans aV), ((HB.out.cell (World.block_lt_of_cell? w _ aU)).trans aU), ((HB.out.cell (World.block_lt_of_cell? w _ aT)).trans aT), ((HB.out.cell (World.block_lt_of_cell? w _ aY)).trans aY), ((HB.out.cell (World.block_lt_of_cell? w _ a7)).trans a7), ((HB.out.cell (World.block_lt_of_cell? w _ a6)).trans a6), ((HB.out.cell (World.block_lt_of_cell? w _ a5)).trans a5), ((HB.out.cell (World.block_lt_of_cell? w _ aZ)).trans aZ), ((HB.out.cell (World.block_lt_of_cell? w _ a9)).trans a9), ((HB.out.cell (World.block_lt_of_cell? w _ be)).trans be), ((HB.out.cell (World.block_lt_of_cell? w _ bc)).trans bc), ((HB.out.cell (World.block_lt_of_cell? w _ bb)).trans bb), ((HB.out.cell (World.block_lt_of_cell? w _ ba)).trans ba), ((HB.out.cell (World.block_lt_of_cell? w _ bg)).trans bg), ((HB.out.cell (World.block_lt_of_cell? w _ bk)).trans bk), ((HB.out.cell (World.block_lt_of_cell? w _ bj)).trans bj), ((HB.out.cell (World.block_lt_of_cell? w _ bi)).trans bi), ((HB.out.cell (World.block_lt_of_cell? w _ bh)).trans bh)⟩ (fun hHeld => ?_)
            clear hK K
            refine norm_ (a' := ?_) ?_ ?_
            rotate_left
            ·show Act.put _ (some 95) _ = _
             simp only [Act.put, sA, sB, sC, i64_w, i32_w]
             rfl
            refine one_ (i := 36) (N := some 96) (bA 38 137438953471) rfl rfl (one_of HT_.out (by kernel_rfl)) (by decide) (fun K hK => ?_)
            refine Kd.R_append_rows_step (Kd.int .i64) (w0 := w) w.heap.size (by rfl) (.tmp 60) (.tmp 95) 29 3 (.int .i64 0) 8 rfl Try.underlying29 info3 rfl (by decide) (by omega) u5 b6 bZ _ _ _ (fun k_ => some k_ ≠ (.slice cC bX.length cD : Value).ownBlock ∧ some k_ ≠ (v138 : Value).ownBlock ∧ some k_ ≠ (.slice dv bZ.length dw : Value).ownBlock) (fun _ => False) rfl rfl ?aO ?aR (fun _ _ h => h) (fun _ h => h.elim) ?aF ?aB ?aS ?aL ?_
            (case aR => repeat (first | exact (Kd.Aq bY.out).2.2 | (with_reducible refine Kd.Bh ?_ _) | (with_reducible refine Kd.Bg ?_ _) | (with_reducible refine Kd.Bp ?_)))
            (case aB => exact (lU HB.out))
            (case aF => exact (fun k_ hk => ⟨Kd.fresh' (Kd.Bw (by exact rU <| af.out)) k_ hk, Kd.fresh' (Kd.Bw (by exact rU <| ak.out)) k_ hk, Kd.fresh' (Kd.Bw (by exact rU <| bY.out)) k_ hk⟩))
            (case aO => exact (by exact rU <| Kd.Bj ag.out (fun _ hk => ⟨hk.1.1, ⟨hk.1.2, hk.2⟩⟩)))
            (case aS => exact (Af (lU HB.out)))
            (case aL => have := LMc8.out; omega)
            intro v152 w17 ho hb hg hat
            rw [← dB.out] at ho
            have n0_ := Aa.mk (Kd.R_after (ok := (fun k_ => some k_ ≠ (v138 : Value).ownBlock ∧ some k_ ≠ (.slice dv bZ.length dw : Value).ownBlock)) (by exact rU <| Kd.Bj af.out (fun _ hk => ⟨⟨hk.1.2, hk.2⟩, hk.1.1⟩)) hg hat)
            have n1_ := Aa.mk (Kd.R_after (ok := (fun k_ => some k_ ≠ (.slice cC bX.length cD : Value).ownBlock ∧ some k_ ≠ (.slice dv bZ.length dw : Value).ownBlock)) (by exact rU <| Kd.Bj ak.out (fun _ hk => ⟨⟨hk.1.2, hk.2⟩, hk.1.1⟩)) hg hat)
            have n2_ := Aa.mk (Kd.R_after (ok := (fun k_ => some k_ ≠ (.slice cC bX.length cD : Value).ownBlock ∧ some k_ ≠ (v138 : Value).ownBlock)) (by exact rU <| Kd.Bj bY.out (fun _ hk => ⟨⟨hk.1.2, hk.2⟩, hk.1.1.2⟩)) hg hat)
            have n3_ := Aa.mk (hb)
            have n4_ := Aa.mk (ho)
            clear af
            clear ak
            clear bY
            clear HB
            clear ag
            have af := n0_
            have ak := n1_
            have bY := n2_
            have HB := n3_
            have dM := n4_
            clear n0_ n1_ n2_ n3_ n4_
            clear ho hb hg hat
            refine hK.out _ _ ⟨((HB.out.cell (World.block_lt_of_cell? w _ aQ)).trans aQ), ((HB.out.cell (World.block_lt_of_cell? w _ aW)).trans aW), ((HB.out.cell (World.block_lt_of_cell? w _ aV)).trans aV), ((HB.out.cell (World.block_lt_of_cell? w _ aU)).trans aU), ((HB.out.cell (World.block_lt_of_cell? w _ aT)).trans aT), ((HB.out.cell (World.block_lt_of_cell? w _ aY)).trans aY), ((HB.out.cell (World.block_lt_of_cell? w _ a7)).trans a7), ((HB.out.cell (World.block_lt_of_cell? w _ a6)).trans a6), ((HB.out.cell (World.block_lt_of_cell? w _ a5)).trans a5), ((HB.out.cell (World.block_lt_of_cell? w _ aZ)).trans aZ), ((HB.out.cell (World.block_lt_of_cell? w _ a9)).trans a9), ((HB.out.cell (World.block_lt_of_cell? w _ be)).trans be), ((HB.out.cell (World.block_lt_of_cell? w _ bc)).trans bc), ((HB.out.cell (World.block_lt_of_cell? w _ bb)).trans bb), ((HB.out.cell (World.block_lt_of_cell? w _ ba)).trans ba), ((HB.out.cell (World.block_lt_of_cell? w _ bg)).trans bg), ((HB.out.cell (World.block_lt_of_cell? w _ bk)).trans bk), ((HB.out.cell (World.block_lt_of_cell? w _ bj)).trans bj), ((HB.out.cell (World.block_lt_of_cell? w _ bi)).trans bi), ((HB.out.cell (World.block_lt_of_cell? w _ bh)).trans bh)⟩ (fun hHeld => ?_)
            clear hK K
            refine norm_ (a' := ?_) ?_ ?_
            rotate_left
            ·show Act.put _ (some 96) _ = _
             simp only [Act.put, sA, sB, sC, i64_w, i32_w]
             rfl
            refine pure_ (i := 37) (N := some 5) (v := ?_) (a' := ?_) (bA 38 274877906943) rfl rfl (any_of HT_.out (by kernel_rfl)) (fun _ _ _ h => h) (Or.inl ⟨by rfl, ?_⟩) ?_ ?_
            rotate_left; (intro w'; go_simp; with_reducible rfl); rotate_left; (simp only [Act.put, sA, sB, sC, i64_w, i32_w]; rfl)
            refine done_ (done_of HT_.out (by kernel_rfl)) ?_
            try go_wp2
            go_roundg k2
            case measure => have := HK1.out; have := HK2.out; omega
            case rel => exact ⟨(dW), (dX), (wrap64 (aa + 1)), (by first | rfl | (simp; done) | (simp [*]; done)), H', ⟨by have := HK1.out; have := HK2.out; omega⟩, ⟨by exact rU <| Kd.Bj ak.out (fun _ hk => hk.2)⟩, ⟨by exact rU <| Kd.Bj dM.out (fun _ hk => hk.2.1)⟩, ⟨by repeat (first | (with_reducible first | exact HB.out | apply Ae | apply Ac | apply Ad) | exact HB.out)⟩⟩
           ·rw [if_neg c8] at H
            exact absurd H (by simp)
          ·rw [if_neg c7] at H
           exact absurd H (by simp)
         ·rw [if_neg c6] at H
          exact absurd H (by simp)
        ·rw [if_neg c5] at H
         have dV : decide (aa < ((rd_L2 l0 ab).length : Int)) = false := decide_eq_false c5
         clear c5
         have H' := Aa.mk H
         clear H
         have b7 : 0 ≤ (ab : Int) := of_decide_eq_true (by with_reducible assumption)
         have b8 : ab < (l0.length : Int) := of_decide_eq_true (by with_reducible assumption)
         obtain ⟨ah, cK, cL, e125, al, bm, hi125_0⟩ := at_L2 HR0.out ab b7 b8
         cases e125
         replace al := (HB.out.cell (World.block_lt_of_cell? w _ al)).trans al
         have cG := Aa.mk hi125_0
         have cH := Aa.mk bm
         clear hi125_0 bm
         replace b7 := eq_true b7
         replace b8 := eq_true b8
         go_wp2
         go_roundg k2
         case measure => have := HK1.out; have := HK2.out; omega
         case rel => exact ⟨(b5), (b6), (wrap64 (ab + 1)), (by first | rfl | (simp; done) | (simp [*]; done)), H', ⟨by have := HK1.out; have := HK2.out; omega⟩, ⟨by exact rU <| bl.out⟩, ⟨by exact rU <| ag.out⟩, ⟨by repeat (first | (with_reducible first | exact HB.out | apply Ae | apply Ac | apply Ad) | exact HB.out)⟩⟩
       ·rw [if_neg c4] at H
        exact absurd H (by simp)
      ·rw [if_neg c3] at H
       exact absurd H (by simp)
   ·rw [if_neg c2] at H
    have dz : decide (ab < (l0.length : Int)) = false := decide_eq_false c2
    clear c2
    simp only [Option.some.injEq, Prod.mk.injEq] at H
    obtain ⟨rfl, rfl⟩ := H
    go_wp2
    go_ret2
    exact ⟨_, _, by first | rfl | (simp [Av, Au] <;> rfl) | (simp [*, Av, Au] <;> rfl), by exact rU <| bl.out, by exact rU <| ag.out, by repeat (first | (with_reducible first | exact HB.out | apply Ae | apply Ac | apply Ad) | exact HB.out)⟩

end Go.Proofs.Ytobdfiglgdbecaa.PGH

