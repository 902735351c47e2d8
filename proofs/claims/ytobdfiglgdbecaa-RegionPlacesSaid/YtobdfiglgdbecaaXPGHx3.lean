import Derived.Test.YtobdfiglgdbecaaXPGHx0
namespace Go.Proofs.Ytobdfiglgdbecaa.PGH
open Go.Proofs.Ytobdfiglgdbecaa.PGA Go.Proofs.Ytobdfiglgdbecaa.PGB
open Go.RowKit Go.Proofs.YtobdfiglgdbecaaW.PrintWords Go.Proofs.YtobdfiglgdbecaaW.PrintLast Go.Proofs.YtobdfiglgdbecaaW.PrintMore
attribute [local go_sem] max2_int min2_int max_two min_two max_three min_three max_four min_four
set_option linter.unusedVariables false
set_option linter.unusedSimpArgs false

mutual
def Aj.l0 : Nat → List (S58) → Int → Option (Bool)
 | 0, _, _ => none
 | k + 1, x0, x3 => if x3 < (x0.length : Int) then (if 0 ≤ x3 then (if ((rd_T58 x0 x3).f0) ≥ ((rd_T58 x0 x3).f2) then (Aj.j1 k x0 x3 true) else (Aj.j1 k x0 x3 (decide (((rd_T58 x0 x3).f1) ≥ ((rd_T58 x0 x3).f3))))) else (none)) else (some true)
def Aj.j1 : Nat → List (S58) → Int → Bool → Option (Bool)
 | 0, _, _, _ => none
 | k + 1, x0, x3, x34 => if x34 = true then (some false) else (Aj.l1 k x0 x3 0)
def Aj.l1 : Nat → List (S58) → Int → Int → Option (Bool)
 | 0, _, _, _ => none
 | k + 1, x0, x3, x4 => if x4 < x3 then (if 0 ≤ x3 then (if x3 < (x0.length : Int) then (if 0 ≤ x4 then (if x4 < (x0.length : Int) then (if (mx ((rd_T58 x0 x3).f0) ((rd_T58 x0 x4).f0)) < (mn ((rd_T58 x0 x3).f2) ((rd_T58 x0 x4).f2)) then (if (mx ((rd_T58 x0 x3).f1) ((rd_T58 x0 x4).f1)) < (mn ((rd_T58 x0 x3).f3) ((rd_T58 x0 x4).f3)) then (some false) else (Aj.l1 k x0 x3 (wrap64 (x4 + 1)))) else (Aj.l1 k x0 x3 (wrap64 (x4 + 1)))) else (none)) else (none)) else (none)) else (none)) else (Aj.l0 k x0 (wrap64 (x3 + 1)))
end
def Aj.f (k : Nat) (l0 : List (S58)) : Option (Bool) := Aj.l0 k l0 0
set_option maxHeartbeats 8000000 in
set_option maxRecDepth 100000 in
theorem Aj.calls (k : Nat) (A0 : Option Addr) (c0 : Nat) (l0 : List (S58)) (r : Bool) (w : World) (hr0 : Kd.C k58 w A0 l0.length l0) (hc0 : l0.length ≤ c0) (h : Aj.f k l0 = some r) :
  Calls Try.prog 30 #[.slice A0 l0.length c0] w fun e w' => e = .returned (.bool r) ∧ Below w.heap.size w w' := by
 have HR0 := Aa.mk hr0
 have HC0 := Aa.mk hc0
 clear hr0 hc0
 have HB := Aa.mk (Below.refl w.heap.size w)
 have H : (Aj.l0 k l0 0) = some r := h
 clear h
 have H' := Aa.mk H
 clear H
 go_enter Try.func30, Try.ntmps30
 go_wp2
 repeat (go_quiet (fail); try go_wp2)
 go_loopg [3] k (fun kq v3 w' => ∃ (aa : Int), v3 = .int .i64 aa ∧ Aa (Aj.l0 kq l0 aa = some r) ∧ Aa (kq ≤ k) ∧ Aa (Below w.heap.size w w'))
 case atStart => exact ⟨(0), (by first | rfl | (simp; done) | (simp [*]; done)), H', ⟨Nat.le_refl _⟩, ⟨by repeat (first | (with_reducible first | exact HB.out | apply Ae | apply Ac | apply Ad) | exact HB.out)⟩⟩
 case round =>
  clear H'
  obtain ⟨aa, rfl, HA, HK1, HB⟩ := hrel
  cases gk with
  | zero => exact absurd HA.out (by simp [Aj.l0])
  | succ k1 =>
   have H := HA.out
   clear HA
   simp only [Aj.l0] at H
   by_cases c2 : aa < (l0.length : Int)
   ·rw [if_pos c2] at H
    have b3 : decide (aa < (l0.length : Int)) = true := decide_eq_true c2
    clear c2
    have HC3 := Aa.mk H
    clear H
    go_upto_region 4 with (fail)
    repeat (go_quiet (fail); go_upto_region 4 with (fail))
    go_cut [34] (fun v34 wc => ∃ (kq : Nat) (bG : Bool), v34 = .bool bG ∧ Aa (Aj.j1 kq l0 aa bG = some r) ∧ Aa (kq ≤ k1) ∧ Aa (Below w.heap.size w wc))
    case first =>
     have H := HC3.out
     clear HC3
     by_cases c4 : 0 ≤ aa
     ·rw [if_pos c4] at H
      have bZ : decide (0 ≤ aa) = true := decide_eq_true c4
      clear c4
      (first | rw [bZ] | (simp only [i64_w, i32_w]; rw [bZ]) | skip)
      by_cases c5 : ((rd_T58 l0 aa).f0) ≥ ((rd_T58 l0 aa).f2)
      ·rw [if_pos c5] at H
       have b4 : decide (((rd_T58 l0 aa).f2) ≤ ((rd_T58 l0 aa).f0)) = true := decide_eq_true c5
       clear c5
       have H' := Aa.mk H
       clear H
       have bn : 0 ≤ (aa : Int) := of_decide_eq_true (by with_reducible assumption)
       have bo : aa < (l0.length : Int) := of_decide_eq_true (by with_reducible assumption)
       obtain ⟨br, e113, aw, ax, ay, az⟩ := at_T58 HR0.out aa bn bo
       cases e113
       replace aw := (HB.out.cell (World.block_lt_of_cell? w _ aw)).trans aw
       replace ax := (HB.out.cell (World.block_lt_of_cell? w _ ax)).trans ax
       replace ay := (HB.out.cell (World.block_lt_of_cell? w _ ay)).trans ay
       replace az := (HB.out.cell (World.block_lt_of_cell? w _ az)).trans az
       replace bn := eq_true bn
       replace bo := eq_true bo
       have bp : 0 ≤ (aa : Int) := of_decide_eq_true (by with_reducible assumption)
       have bq : aa < (l0.length : Int) := of_decide_eq_true (by with_reducible assumption)
       obtain ⟨bN, e114, aA, aC, aD, aE⟩ := at_T58 HR0.out aa bp bq
       obtain rfl : br = bN := (by injection e114)
       replace aA := (HB.out.cell (World.block_lt_of_cell? w _ aA)).trans aA
       replace aC := (HB.out.cell (World.block_lt_of_cell? w _ aC)).trans aC
       replace aD := (HB.out.cell (World.block_lt_of_cell? w _ aD)).trans aD
       replace aE := (HB.out.cell (World.block_lt_of_cell? w _ aE)).trans aE
       replace bp := eq_true bp
       replace bq := eq_true bq
       go_wp2
       repeat (go_quiet (fail); try go_wp2)
       go_meet
       case rel => exact ⟨_, (true), (by first | rfl | (simp; done) | (simp [*]; done)), H', ⟨by have := HK1.out; first | omega | exact Nat.le_refl _⟩, ⟨by repeat (first | (with_reducible first | exact HB.out | apply Ae | apply Ac | apply Ad) | exact HB.out)⟩⟩
      ·rw [if_neg c5] at H
       have b4 : decide (((rd_T58 l0 aa).f2) ≤ ((rd_T58 l0 aa).f0)) = false := decide_eq_false c5
       clear c5
       have H' := Aa.mk H
       clear H
       have bn : 0 ≤ (aa : Int) := of_decide_eq_true (by with_reducible assumption)
       have bo : aa < (l0.length : Int) := of_decide_eq_true (by with_reducible assumption)
       obtain ⟨br, e113, aw, ax, ay, az⟩ := at_T58 HR0.out aa bn bo
       cases e113
       replace aw := (HB.out.cell (World.block_lt_of_cell? w _ aw)).trans aw
       replace ax := (HB.out.cell (World.block_lt_of_cell? w _ ax)).trans ax
       replace ay := (HB.out.cell (World.block_lt_of_cell? w _ ay)).trans ay
       replace az := (HB.out.cell (World.block_lt_of_cell? w _ az)).trans az
       replace bn := eq_true bn
       replace bo := eq_true bo
       have bp : 0 ≤ (aa : Int) := of_decide_eq_true (by with_reducible assumption)
       have bq : aa < (l0.length : Int) := of_decide_eq_true (by with_reducible assumption)
       obtain ⟨bN, e114, aA, aC, aD, aE⟩ := at_T58 HR0.out aa bp bq
       obtain rfl : br = bN := (by injection e114)
       replace aA := (HB.out.cell (World.block_lt_of_cell? w _ aA)).trans aA
       replace aC := (HB.out.cell (World.block_lt_of_cell? w _ aC)).trans aC
       replace aD := (HB.out.cell (World.block_lt_of_cell? w _ aD)).trans aD
       replace aE := (HB.out.cell (World.block_lt_of_cell? w _ aE)).trans aE
       replace bp := eq_true bp
       replace bq := eq_true bq
       have bO : 0 ≤ (aa : Int) := of_decide_eq_true (by with_reducible assumption)
       have bP : aa < (l0.length : Int) := of_decide_eq_true (by with_reducible assumption)
       obtain ⟨b5, e115, a6, a7, a8, a9⟩ := at_T58 HR0.out aa bO bP
       obtain rfl : br = b5 := (by injection e115)
       replace a6 := (HB.out.cell (World.block_lt_of_cell? w _ a6)).trans a6
       replace a7 := (HB.out.cell (World.block_lt_of_cell? w _ a7)).trans a7
       replace a8 := (HB.out.cell (World.block_lt_of_cell? w _ a8)).trans a8
       replace a9 := (HB.out.cell (World.block_lt_of_cell? w _ a9)).trans a9
       replace bO := eq_true bO
       replace bP := eq_true bP
       have bQ : 0 ≤ (aa : Int) := of_decide_eq_true (by with_reducible assumption)
       have bR : aa < (l0.length : Int) := of_decide_eq_true (by with_reducible assumption)
       obtain ⟨b6, e116, ba, bb, bc, be⟩ := at_T58 HR0.out aa bQ bR
       obtain rfl : br = b6 := (by injection e116)
       replace ba := (HB.out.cell (World.block_lt_of_cell? w _ ba)).trans ba
       replace bb := (HB.out.cell (World.block_lt_of_cell? w _ bb)).trans bb
       replace bc := (HB.out.cell (World.block_lt_of_cell? w _ bc)).trans bc
       replace be := (HB.out.cell (World.block_lt_of_cell? w _ be)).trans be
       replace bQ := eq_true bQ
       replace bR := eq_true bR
       go_wp2
       repeat (go_quiet (fail); try go_wp2)
       go_meet
       case rel => exact ⟨_, (decide (((rd_T58 l0 aa).f1) ≥ ((rd_T58 l0 aa).f3))), (by first | rfl | (simp; done) | (simp [*]; done)), H', ⟨by have := HK1.out; first | omega | exact Nat.le_refl _⟩, ⟨by repeat (first | (with_reducible first | exact HB.out | apply Ae | apply Ac | apply Ad) | exact HB.out)⟩⟩
     ·rw [if_neg c4] at H
      exact absurd H (by simp)
    case rest =>
     clear HC3
     try clear p1
     try clear q1
     try clear hx1
     try clear c2
     try clear b3
     try clear p2
     try clear c3
     try clear c4
     try clear bZ
     try clear c5
     try clear b4
     try clear aw
     try clear ax
     try clear ay
     try clear az
     try clear aA
     try clear aC
     try clear aD
     try clear aE
     try clear a6
     try clear a7
     try clear a8
     try clear a9
     try clear ba
     try clear bb
     try clear bc
     try clear be
     try clear bn
     try clear bp
     try clear bO
     try clear bQ
     try clear bo
     try clear bq
     try clear bP
     try clear bR
     obtain ⟨kq, bG, rfl, HA, HJ2, HB⟩ := hcut
     cases kq with
     | zero => exact absurd HA.out (by simp [Aj.j1])
     | succ kj2 =>
      have H := HA.out
      clear HA
      simp only [Aj.j1] at H
      by_cases c6 : bG = true
      ·subst c6
       have H1 := H
       rw [if_pos rfl] at H1
       clear H
       have H := H1
       clear H1
       obtain rfl := Option.some.inj H
       go_wp2
       repeat (go_quiet (fail); try go_wp2)
       go_ret
       exact ⟨by first | rfl | (simp [Av, Au] <;> rfl) | (simp [*, Av, Au] <;> rfl), by repeat (first | (with_reducible first | exact HB.out | apply Ae | apply Ac | apply Ad) | exact HB.out)⟩
      ·replace c6 := Bool.eq_false_iff.mpr c6
       subst c6
       have H1 := H
       rw [if_neg (show ¬ (false = true) by decide)] at H1
       clear H
       have H := H1
       clear H1
       have H' := Aa.mk H
       clear H
       go_wp2
       repeat (go_quiet (fail); try go_wp2)
       go_loopg [4] kj2 (fun kq v4 w' => ∃ (ab : Int), v4 = .int .i64 ab ∧ Aa (Aj.l1 kq l0 aa ab = some r) ∧ Aa (kq ≤ kj2) ∧ Aa (Below w.heap.size w w'))
       case atStart => exact ⟨(0), (by first | rfl | (simp; done) | (simp [*]; done)), H', ⟨Nat.le_refl _⟩, ⟨by repeat (first | (with_reducible first | exact HB.out | apply Ae | apply Ac | apply Ad) | exact HB.out)⟩⟩
       case round =>
        clear H'
        try clear p1
        try clear q1
        try clear hx1
        try clear c2
        try clear b3
        try clear p2
        try clear c3
        try clear c4
        try clear bZ
        try clear c5
        try clear b4
        try clear c6
        try clear aw
        try clear ax
        try clear ay
        try clear az
        try clear aA
        try clear aC
        try clear aD
        try clear aE
        try clear a6
        try clear a7
        try clear a8
        try clear a9
        try clear ba
        try clear bb
        try clear bc
        try clear be
        try clear p1
        try clear bn
        try clear bp
        try clear bO
        try clear bQ
        try clear p2
        try clear q1
        try clear bo
        try clear bq
        try clear bP
        try clear bR
        obtain ⟨ab, rfl, HA, HK3, HB⟩ := hrel
        cases gk with
        | zero => exact absurd HA.out (by simp [Aj.l1])
        | succ k3 =>
         have H := HA.out
         clear HA
         simp only [Aj.l1] at H
         by_cases c7 : ab < aa
         ·rw [if_pos c7] at H
          have b9 : decide (ab < aa) = true := decide_eq_true c7
          clear c7
          by_cases c8 : 0 ≤ aa
          ·rw [if_pos c8] at H
           have ch : decide (0 ≤ aa) = true := decide_eq_true c8
           clear c8
           by_cases c9 : aa < (l0.length : Int)
           ·rw [if_pos c9] at H
            have ci : decide (aa < (l0.length : Int)) = true := decide_eq_true c9
            clear c9
            by_cases c10 : 0 ≤ ab
            ·rw [if_pos c10] at H
             have cd : decide (0 ≤ ab) = true := decide_eq_true c10
             clear c10
             by_cases c11 : ab < (l0.length : Int)
             ·rw [if_pos c11] at H
              have cg : decide (ab < (l0.length : Int)) = true := decide_eq_true c11
              clear c11
              obtain ⟨bL, bH⟩ : ∃ j_ : Int, (mx ((rd_T58 l0 aa).f0) ((rd_T58 l0 ab).f0)) = j_ := ⟨_, rfl⟩
              replace H : (if (bL) < (mn ((rd_T58 l0 aa).f2) ((rd_T58 l0 ab).f2)) then (if (mx ((rd_T58 l0 aa).f1) ((rd_T58 l0 ab).f1)) < (mn ((rd_T58 l0 aa).f3) ((rd_T58 l0 ab).f3)) then (some false) else (Aj.l1 k3 l0 aa (wrap64 (ab + 1)))) else (Aj.l1 k3 l0 aa (wrap64 (ab + 1)))) = some r := by first | (rw [bH] at H; exact H) | (simp only [bH] at H ⊢; exact H)
              have hji12_ : (if ((rd_T58 l0 aa).f0) < ((rd_T58 l0 ab).f0) then ((rd_T58 l0 ab).f0) else ((rd_T58 l0 aa).f0)) = bL := bH
              obtain ⟨bS, bI⟩ : ∃ j_ : Int, (mn ((rd_T58 l0 aa).f2) ((rd_T58 l0 ab).f2)) = j_ := ⟨_, rfl⟩
              replace H : (if (bL) < (bS) then (if (mx ((rd_T58 l0 aa).f1) ((rd_T58 l0 ab).f1)) < (mn ((rd_T58 l0 aa).f3) ((rd_T58 l0 ab).f3)) then (some false) else (Aj.l1 k3 l0 aa (wrap64 (ab + 1)))) else (Aj.l1 k3 l0 aa (wrap64 (ab + 1)))) = some r := by first | (rw [bI] at H; exact H) | (simp only [bI] at H ⊢; exact H)
              have hji13_ : (if ((rd_T58 l0 ab).f2) < ((rd_T58 l0 aa).f2) then ((rd_T58 l0 ab).f2) else ((rd_T58 l0 aa).f2)) = bS := bI
              by_cases c14 : (bL) < (bS)
              ·rw [if_pos c14] at H
               have b7 : decide ((bL) < (bS)) = true := decide_eq_true c14
               clear c14
               obtain ⟨bM, bJ⟩ : ∃ j_ : Int, (mx ((rd_T58 l0 aa).f1) ((rd_T58 l0 ab).f1)) = j_ := ⟨_, rfl⟩
               replace H : (if (bM) < (mn ((rd_T58 l0 aa).f3) ((rd_T58 l0 ab).f3)) then (some false) else (Aj.l1 k3 l0 aa (wrap64 (ab + 1)))) = some r := by first | (rw [bJ] at H; exact H) | (simp only [bJ] at H ⊢; exact H)
               have hji15_ : (if ((rd_T58 l0 aa).f1) < ((rd_T58 l0 ab).f1) then ((rd_T58 l0 ab).f1) else ((rd_T58 l0 aa).f1)) = bM := bJ
               obtain ⟨bT, bK⟩ : ∃ j_ : Int, (mn ((rd_T58 l0 aa).f3) ((rd_T58 l0 ab).f3)) = j_ := ⟨_, rfl⟩
               replace H : (if (bM) < (bT) then (some false) else (Aj.l1 k3 l0 aa (wrap64 (ab + 1)))) = some r := by first | (rw [bK] at H; exact H) | (simp only [bK] at H ⊢; exact H)
               have hji16_ : (if ((rd_T58 l0 ab).f3) < ((rd_T58 l0 aa).f3) then ((rd_T58 l0 ab).f3) else ((rd_T58 l0 aa).f3)) = bT := bK
               by_cases c17 : (bM) < (bT)
               ·rw [if_pos c17] at H
                have b8 : decide ((bM) < (bT)) = true := decide_eq_true c17
                clear c17
                obtain rfl := Option.some.inj H
                have bf : 0 ≤ (aa : Int) := of_decide_eq_true (by with_reducible assumption)
                have bg : aa < (l0.length : Int) := of_decide_eq_true (by with_reducible assumption)
                obtain ⟨ac, e117, ae, af, ag, ah⟩ := at_T58 HR0.out aa bf bg
                cases e117
                replace ae := (HB.out.cell (World.block_lt_of_cell? w _ ae)).trans ae
                replace af := (HB.out.cell (World.block_lt_of_cell? w _ af)).trans af
                replace ag := (HB.out.cell (World.block_lt_of_cell? w _ ag)).trans ag
                replace ah := (HB.out.cell (World.block_lt_of_cell? w _ ah)).trans ah
                replace bf := eq_true bf
                replace bg := eq_true bg
                have bh : 0 ≤ (ab : Int) := of_decide_eq_true (by with_reducible assumption)
                have bi : ab < (l0.length : Int) := of_decide_eq_true (by with_reducible assumption)
                obtain ⟨bs, e118, ai, aj, ak, al⟩ := at_T58 HR0.out ab bh bi
                obtain rfl : ac = bs := (by injection e118)
                replace ai := (HB.out.cell (World.block_lt_of_cell? w _ ai)).trans ai
                replace aj := (HB.out.cell (World.block_lt_of_cell? w _ aj)).trans aj
                replace ak := (HB.out.cell (World.block_lt_of_cell? w _ ak)).trans ak
                replace al := (HB.out.cell (World.block_lt_of_cell? w _ al)).trans al
                replace bh := eq_true bh
                replace bi := eq_true bi
                have bj : 0 ≤ (aa : Int) := of_decide_eq_true (by with_reducible assumption)
                have bk : aa < (l0.length : Int) := of_decide_eq_true (by with_reducible assumption)
                obtain ⟨bu, e119, am, an, ao, ap⟩ := at_T58 HR0.out aa bj bk
                obtain rfl : ac = bu := (by injection e119)
                replace am := (HB.out.cell (World.block_lt_of_cell? w _ am)).trans am
                replace an := (HB.out.cell (World.block_lt_of_cell? w _ an)).trans an
                replace ao := (HB.out.cell (World.block_lt_of_cell? w _ ao)).trans ao
                replace ap := (HB.out.cell (World.block_lt_of_cell? w _ ap)).trans ap
                replace bj := eq_true bj
                replace bk := eq_true bk
                have bl : 0 ≤ (ab : Int) := of_decide_eq_true (by with_reducible assumption)
                have bm : ab < (l0.length : Int) := of_decide_eq_true (by with_reducible assumption)
                obtain ⟨bv, e120, aq, ar, au, av⟩ := at_T58 HR0.out ab bl bm
                obtain rfl : ac = bv := (by injection e120)
                replace aq := (HB.out.cell (World.block_lt_of_cell? w _ aq)).trans aq
                replace ar := (HB.out.cell (World.block_lt_of_cell? w _ ar)).trans ar
                replace au := (HB.out.cell (World.block_lt_of_cell? w _ au)).trans au
                replace av := (HB.out.cell (World.block_lt_of_cell? w _ av)).trans av
                replace bl := eq_true bl
                replace bm := eq_true bm
                have bw : 0 ≤ (aa : Int) := of_decide_eq_true (by with_reducible assumption)
                have bx : aa < (l0.length : Int) := of_decide_eq_true (by with_reducible assumption)
                obtain ⟨bV, e121, aG, aH, aI, aJ⟩ := at_T58 HR0.out aa bw bx
                obtain rfl : ac = bV := (by injection e121)
                replace aG := (HB.out.cell (World.block_lt_of_cell? w _ aG)).trans aG
                replace aH := (HB.out.cell (World.block_lt_of_cell? w _ aH)).trans aH
                replace aI := (HB.out.cell (World.block_lt_of_cell? w _ aI)).trans aI
                replace aJ := (HB.out.cell (World.block_lt_of_cell? w _ aJ)).trans aJ
                replace bw := eq_true bw
                replace bx := eq_true bx
                have bz : 0 ≤ (ab : Int) := of_decide_eq_true (by with_reducible assumption)
                have bB : ab < (l0.length : Int) := of_decide_eq_true (by with_reducible assumption)
                obtain ⟨bW, e122, aK, aM, aN, aQ⟩ := at_T58 HR0.out ab bz bB
                obtain rfl : ac = bW := (by injection e122)
                replace aK := (HB.out.cell (World.block_lt_of_cell? w _ aK)).trans aK
                replace aM := (HB.out.cell (World.block_lt_of_cell? w _ aM)).trans aM
                replace aN := (HB.out.cell (World.block_lt_of_cell? w _ aN)).trans aN
                replace aQ := (HB.out.cell (World.block_lt_of_cell? w _ aQ)).trans aQ
                replace bz := eq_true bz
                replace bB := eq_true bB
                have bC : 0 ≤ (aa : Int) := of_decide_eq_true (by with_reducible assumption)
                have bD : aa < (l0.length : Int) := of_decide_eq_true (by with_reducible assumption)
                obtain ⟨bX, e123, aT, aU, aV, aW⟩ := at_T58 HR0.out aa bC bD
                obtain rfl : ac = bX := (by injection e123)
                replace aT := (HB.out.cell (World.block_lt_of_cell? w _ aT)).trans aT
                replace aU := (HB.out.cell (World.block_lt_of_cell? w _ aU)).trans aU
                replace aV := (HB.out.cell (World.block_lt_of_cell? w _ aV)).trans aV
                replace aW := (HB.out.cell (World.block_lt_of_cell? w _ aW)).trans aW
                replace bC := eq_true bC
                replace bD := eq_true bD
                have bE : 0 ≤ (ab : Int) := of_decide_eq_true (by with_reducible assumption)
                have bF : ab < (l0.length : Int) := of_decide_eq_true (by with_reducible assumption)
                obtain ⟨bY, e124, aX, aY, aZ, a5⟩ := at_T58 HR0.out ab bE bF
                obtain rfl : ac = bY := (by injection e124)
                replace aX := (HB.out.cell (World.block_lt_of_cell? w _ aX)).trans aX
                replace aY := (HB.out.cell (World.block_lt_of_cell? w _ aY)).trans aY
                replace aZ := (HB.out.cell (World.block_lt_of_cell? w _ aZ)).trans aZ
                replace a5 := (HB.out.cell (World.block_lt_of_cell? w _ a5)).trans a5
                replace bE := eq_true bE
                replace bF := eq_true bF
                go_wp2
                repeat (go_quiet (fail); try go_wp2)
                go_ret
                exact ⟨by first | rfl | (simp [Av, Au] <;> rfl) | (simp only [← bH, ← bI, ← bJ, ← bK]; first | rfl | (simp [Av, Au] <;> rfl)) | (simp [*, Av, Au] <;> rfl), by repeat (first | (with_reducible first | exact HB.out | apply Ae | apply Ac | apply Ad) | exact HB.out)⟩
               ·rw [if_neg c17] at H
                have b8 : decide ((bM) < (bT)) = false := decide_eq_false c17
                clear c17
                have H' := Aa.mk H
                clear H
                have bf : 0 ≤ (aa : Int) := of_decide_eq_true (by with_reducible assumption)
                have bg : aa < (l0.length : Int) := of_decide_eq_true (by with_reducible assumption)
                obtain ⟨ac, e117, ae, af, ag, ah⟩ := at_T58 HR0.out aa bf bg
                cases e117
                replace ae := (HB.out.cell (World.block_lt_of_cell? w _ ae)).trans ae
                replace af := (HB.out.cell (World.block_lt_of_cell? w _ af)).trans af
                replace ag := (HB.out.cell (World.block_lt_of_cell? w _ ag)).trans ag
                replace ah := (HB.out.cell (World.block_lt_of_cell? w _ ah)).trans ah
                replace bf := eq_true bf
                replace bg := eq_true bg
                have bh : 0 ≤ (ab : Int) := of_decide_eq_true (by with_reducible assumption)
                have bi : ab < (l0.length : Int) := of_decide_eq_true (by with_reducible assumption)
                obtain ⟨bs, e118, ai, aj, ak, al⟩ := at_T58 HR0.out ab bh bi
                obtain rfl : ac = bs := (by injection e118)
                replace ai := (HB.out.cell (World.block_lt_of_cell? w _ ai)).trans ai
                replace aj := (HB.out.cell (World.block_lt_of_cell? w _ aj)).trans aj
                replace ak := (HB.out.cell (World.block_lt_of_cell? w _ ak)).trans ak
                replace al := (HB.out.cell (World.block_lt_of_cell? w _ al)).trans al
                replace bh := eq_true bh
                replace bi := eq_true bi
                have bj : 0 ≤ (aa : Int) := of_decide_eq_true (by with_reducible assumption)
                have bk : aa < (l0.length : Int) := of_decide_eq_true (by with_reducible assumption)
                obtain ⟨bu, e119, am, an, ao, ap⟩ := at_T58 HR0.out aa bj bk
                obtain rfl : ac = bu := (by injection e119)
                replace am := (HB.out.cell (World.block_lt_of_cell? w _ am)).trans am
                replace an := (HB.out.cell (World.block_lt_of_cell? w _ an)).trans an
                replace ao := (HB.out.cell (World.block_lt_of_cell? w _ ao)).trans ao
                replace ap := (HB.out.cell (World.block_lt_of_cell? w _ ap)).trans ap
                replace bj := eq_true bj
                replace bk := eq_true bk
                have bl : 0 ≤ (ab : Int) := of_decide_eq_true (by with_reducible assumption)
                have bm : ab < (l0.length : Int) := of_decide_eq_true (by with_reducible assumption)
                obtain ⟨bv, e120, aq, ar, au, av⟩ := at_T58 HR0.out ab bl bm
                obtain rfl : ac = bv := (by injection e120)
                replace aq := (HB.out.cell (World.block_lt_of_cell? w _ aq)).trans aq
                replace ar := (HB.out.cell (World.block_lt_of_cell? w _ ar)).trans ar
                replace au := (HB.out.cell (World.block_lt_of_cell? w _ au)).trans au
                replace av := (HB.out.cell (World.block_lt_of_cell? w _ av)).trans av
                replace bl := eq_true bl
                replace bm := eq_true bm
                have bw : 0 ≤ (aa : Int) := of_decide_eq_true (by with_reducible assumption)
                have bx : aa < (l0.length : Int) := of_decide_eq_true (by with_reducible assumption)
                obtain ⟨bV, e121, aG, aH, aI, aJ⟩ := at_T58 HR0.out aa bw bx
                obtain rfl : ac = bV := (by injection e121)
                replace aG := (HB.out.cell (World.block_lt_of_cell? w _ aG)).trans aG
                replace aH := (HB.out.cell (World.block_lt_of_cell? w _ aH)).trans aH
                replace aI := (HB.out.cell (World.block_lt_of_cell? w _ aI)).trans aI
                replace aJ := (HB.out.cell (World.block_lt_of_cell? w _ aJ)).trans aJ
                replace bw := eq_true bw
                replace bx := eq_true bx
                have bz : 0 ≤ (ab : Int) := of_decide_eq_true (by with_reducible assumption)
                have bB : ab < (l0.length : Int) := of_decide_eq_true (by with_reducible assumption)
                obtain ⟨bW, e122, aK, aM, aN, aQ⟩ := at_T58 HR0.out ab bz bB
                obtain rfl : ac = bW := (by injection e122)
                replace aK := (HB.out.cell (World.block_lt_of_cell? w _ aK)).trans aK
                replace aM := (HB.out.cell (World.block_lt_of_cell? w _ aM)).trans aM
                replace aN := (HB.out.cell (World.block_lt_of_cell? w _ aN)).trans aN
                replace aQ := (HB.out.cell (World.block_lt_of_cell? w _ aQ)).trans aQ
                replace bz := eq_true bz
                replace bB := eq_true bB
                have bC : 0 ≤ (aa : Int) := of_decide_eq_true (by with_reducible assumption)
                have bD : aa < (l0.length : Int) := of_decide_eq_true (by with_reducible assumption)
                obtain ⟨bX, e123, aT, aU, aV, aW⟩ := at_T58 HR0.out aa bC bD
                obtain rfl : ac = bX := (by injection e123)
                replace aT := (HB.out.cell (World.block_lt_of_cell? w _ aT)).trans aT
                replace aU := (HB.out.cell (World.block_lt_of_cell? w _ aU)).trans aU
                replace aV := (HB.out.cell (World.block_lt_of_cell? w _ aV)).trans aV
                replace aW := (HB.out.cell (World.block_lt_of_cell? w _ aW)).trans aW
                replace bC := eq_true bC
                replace bD := eq_true bD
                have bE : 0 ≤ (ab : Int) := of_decide_eq_true (by with_reducible assumption)
                have bF : ab < (l0.length : Int) := of_decide_eq_true (by with_reducible assumption)
                obtain ⟨bY, e124, aX, aY, aZ, a5⟩ := at_T58 HR0.out ab bE bF
                obtain rfl : ac = bY := (by injection e124)
                replace aX := (HB.out.cell (World.block_lt_of_cell? w _ aX)).trans aX
                replace aY := (HB.out.cell (World.block_lt_of_cell? w _ aY)).trans aY
                replace aZ := (HB.out.cell (World.block_lt_of_cell? w _ aZ)).trans aZ
                replace a5 := (HB.out.cell (World.block_lt_of_cell? w _ a5)).trans a5
                replace bE := eq_true bE
                replace bF := eq_true bF
                go_wp2
                repeat (go_quiet (fail); try go_wp2)
                go_roundg k3
                case measure => have := HK1.out; have := HJ2.out; have := HK3.out; omega
                case rel => exact ⟨(wrap64 (ab + 1)), (by first | rfl | (simp; done) | (simp [*]; done)), H', ⟨by have := HK1.out; have := HJ2.out; have := HK3.out; omega⟩, ⟨by repeat (first | (with_reducible first | exact HB.out | apply Ae | apply Ac | apply Ad) | exact HB.out)⟩⟩
              ·rw [if_neg c14] at H
               have b7 : decide ((bL) < (bS)) = false := decide_eq_false c14
               clear c14
               have H' := Aa.mk H
               clear H
               have bf : 0 ≤ (aa : Int) := of_decide_eq_true (by with_reducible assumption)
               have bg : aa < (l0.length : Int) := of_decide_eq_true (by with_reducible assumption)
               obtain ⟨ac, e117, ae, af, ag, ah⟩ := at_T58 HR0.out aa bf bg
               cases e117
               replace ae := (HB.out.cell (World.block_lt_of_cell? w _ ae)).trans ae
               replace af := (HB.out.cell (World.block_lt_of_cell? w _ af)).trans af
               replace ag := (HB.out.cell (World.block_lt_of_cell? w _ ag)).trans ag
               replace ah := (HB.out.cell (World.block_lt_of_cell? w _ ah)).trans ah
               replace bf := eq_true bf
               replace bg := eq_true bg
               have bh : 0 ≤ (ab : Int) := of_decide_eq_true (by with_reducible assumption)
               have bi : ab < (l0.length : Int) := of_decide_eq_true (by with_reducible assumption)
               obtain ⟨bs, e118, ai, aj, ak, al⟩ := at_T58 HR0.out ab bh bi
               obtain rfl : ac = bs := (by injection e118)
               replace ai := (HB.out.cell (World.block_lt_of_cell? w _ ai)).trans ai
               replace aj := (HB.out.cell (World.block_lt_of_cell? w _ aj)).trans aj
               replace ak := (HB.out.cell (World.block_lt_of_cell? w _ ak)).trans ak
               replace al := (HB.out.cell (World.block_lt_of_cell? w _ al)).trans al
               replace bh := eq_true bh
               replace bi := eq_true bi
               have bj : 0 ≤ (aa : Int) := of_decide_eq_true (by with_reducible assumption)
               have bk : aa < (l0.length : Int) := of_decide_eq_true (by with_reducible assumption)
               obtain ⟨bu, e119, am, an, ao, ap⟩ := at_T58 HR0.out aa bj bk
               obtain rfl : ac = bu := (by injection e119)
               replace am := (HB.out.cell (World.block_lt_of_cell? w _ am)).trans am
               replace an := (HB.out.cell (World.block_lt_of_cell? w _ an)).trans an
               replace ao := (HB.out.cell (World.block_lt_of_cell? w _ ao)).trans ao
               replace ap := (HB.out.cell (World.block_lt_of_cell? w _ ap)).trans ap
               replace bj := eq_true bj
               replace bk := eq_true bk
               have bl : 0 ≤ (ab : Int) := of_decide_eq_true (by with_reducible assumption)
               have bm : ab < (l0.length : Int) := of_decide_eq_true (by with_reducible assumption)
               obtain ⟨bv, e120, aq, ar, au, av⟩ := at_T58 HR0.out ab bl bm
               obtain rfl : ac = bv := (by injection e120)
               replace aq := (HB.out.cell (World.block_lt_of_cell? w _ aq)).trans aq
               replace ar := (HB.out.cell (World.block_lt_of_cell? w _ ar)).trans ar
               replace au := (HB.out.cell (World.block_lt_of_cell? w _ au)).trans au
               replace av := (HB.out.cell (World.block_lt_of_cell? w _ av)).trans av
               replace bl := eq_true bl
               replace bm := eq_true bm
               go_wp2
               repeat (go_quiet (fail); try go_wp2)
               go_roundg k3
               case measure => have := HK1.out; have := HJ2.out; have := HK3.out; omega
               case rel => exact ⟨(wrap64 (ab + 1)), (by first | rfl | (simp; done) | (simp [*]; done)), H', ⟨by have := HK1.out; have := HJ2.out; have := HK3.out; omega⟩, ⟨by repeat (first | (with_reducible first | exact HB.out | apply Ae | apply Ac | apply Ad) | exact HB.out)⟩⟩
             ·rw [if_neg c11] at H
              exact absurd H (by simp)
            ·rw [if_neg c10] at H
             exact absurd H (by simp)
           ·rw [if_neg c9] at H
            exact absurd H (by simp)
          ·rw [if_neg c8] at H
           exact absurd H (by simp)
         ·rw [if_neg c7] at H
          have b9 : decide (ab < aa) = false := decide_eq_false c7
          clear c7
          have H' := Aa.mk H
          clear H
          go_wp2
          repeat (go_quiet (fail); try go_wp2)
          go_roundg k3
          case measure => have := HK1.out; have := HJ2.out; have := HK3.out; omega
          case rel => exact ⟨(wrap64 (aa + 1)), (by first | rfl | (simp; done) | (simp [*]; done)), H', ⟨by have := HK1.out; have := HJ2.out; have := HK3.out; omega⟩, ⟨by repeat (first | (with_reducible first | exact HB.out | apply Ae | apply Ac | apply Ad) | exact HB.out)⟩⟩
   ·rw [if_neg c2] at H
    have b3 : decide (aa < (l0.length : Int)) = false := decide_eq_false c2
    clear c2
    obtain rfl := Option.some.inj H
    go_wp2
    repeat (go_quiet (fail); try go_wp2)
    go_ret
    exact ⟨by first | rfl | (simp [Av, Au] <;> rfl) | (simp [*, Av, Au] <;> rfl), by repeat (first | (with_reducible first | exact HB.out | apply Ae | apply Ac | apply Ad) | exact HB.out)⟩

end Go.Proofs.Ytobdfiglgdbecaa.PGH

