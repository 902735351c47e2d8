import Derived.Test.YteamphcehoaleaaZPFYx0
import Derived.Test.YteamphcehoaleaaZPFYx1
namespace Go.Proofs.Yteamphcehoaleaa.PFY
open Go.Proofs.Yteamphcehoaleaa.PFA Go.Proofs.Yteamphcehoaleaa.PFE Go.Proofs.Yteamphcehoaleaa.PFK
open Go.RowKit Go.Proofs.YteamphcehoaleaaW.PrintWords Go.Proofs.YteamphcehoaleaaW.PrintLast Go.Proofs.YteamphcehoaleaaW.PrintMore
attribute [local go_sem] max2_int min2_int max_two min_two max_three min_three max_four min_four
set_option linter.unusedVariables false
set_option linter.unusedSimpArgs false

mutual
def Ai.l0 : Nat → List Int → Int → Int → Int → List Bool → Option (List Int × Int)
 | 0, _, _, _, _, _ => none
 | k + 1, x5, x6, ae, ao, aj => if x6 < ae then (Ai.l1 k x5 x6 1073741824 0 ae ao aj) else (if 0 ≤ (aj.length : Int) then (if ((aj.length : Int) : Int).toNat ≤ 35184372088832 then (Ai.l3 k x5 (List.replicate ((aj.length : Int) : Int).toNat 0) 0 ae ao aj) else (none)) else (none))
def Ai.l1 : Nat → List Int → Int → Int → Int → Int → Int → List Bool → Option (List Int × Int)
 | 0, _, _, _, _, _, _, _ => none
 | k + 1, x5, x6, x7, x8, ae, ao, aj => if x8 < ao then (if 0 ≤ (wrap64 ((wrap64 (x8 * ae)) + x6)) then (if (wrap64 ((wrap64 (x8 * ae)) + x6)) < (aj.length : Int) then (if rdOf false aj (wrap64 ((wrap64 (x8 * ae)) + x6)) = true then (if (wrap64 ((wrap64 (x8 * ae)) + x6)) < (x5.length : Int) then (Ai.l1 k (x5.set ((wrap64 ((wrap64 (x8 * ae)) + x6)) : Int).toNat 0) x6 0 (wrap64 (x8 + 1)) ae ao aj) else (none)) else (if (wrap64 ((wrap64 (x8 * ae)) + x6)) < (x5.length : Int) then (Ai.l1 k (x5.set ((wrap64 ((wrap64 (x8 * ae)) + x6)) : Int).toNat (mn (wrap64 (x7 + 1)) 1073741824)) x6 (mn (wrap64 (x7 + 1)) 1073741824) (wrap64 (x8 + 1)) ae ao aj) else (none))) else (none)) else (none)) else (Ai.l2 k x5 x6 1073741824 (wrap64 (ao - 1)) ae ao aj)
def Ai.l2 : Nat → List Int → Int → Int → Int → Int → Int → List Bool → Option (List Int × Int)
 | 0, _, _, _, _, _, _, _ => none
 | k + 1, x5, x6, x7, x9, ae, ao, aj => if x9 ≥ 0 then (if 0 ≤ (wrap64 ((wrap64 (x9 * ae)) + x6)) then (if (wrap64 ((wrap64 (x9 * ae)) + x6)) < (aj.length : Int) then (if rdOf false aj (wrap64 ((wrap64 (x9 * ae)) + x6)) = true then (if (wrap64 ((wrap64 (x9 * ae)) + x6)) < (x5.length : Int) then (Ai.l2 k (x5.set ((wrap64 ((wrap64 (x9 * ae)) + x6)) : Int).toNat (mn (rd x5 (wrap64 ((wrap64 (x9 * ae)) + x6))) 0)) x6 0 (wrap64 (x9 - 1)) ae ao aj) else (none)) else (if (wrap64 ((wrap64 (x9 * ae)) + x6)) < (x5.length : Int) then (Ai.l2 k (x5.set ((wrap64 ((wrap64 (x9 * ae)) + x6)) : Int).toNat (mn (rd x5 (wrap64 ((wrap64 (x9 * ae)) + x6))) (mn (wrap64 (x7 + 1)) 1073741824))) x6 (mn (wrap64 (x7 + 1)) 1073741824) (wrap64 (x9 - 1)) ae ao aj) else (none))) else (none)) else (none)) else (Ai.l0 k x5 (wrap64 (x6 + 1)) ae ao aj)
def Ai.l3 : Nat → List Int → List Int → Int → Int → Int → List Bool → Option (List Int × Int)
 | 0, _, _, _, _, _, _ => none
 | k + 1, x5, x10, x11, ae, ao, aj => if x11 < (aj.length : Int) then (if ae = 0 then (none) else (if 0 ≤ x11 then (if x11 < (x10.length : Int) then (Ai.l4 k x5 (x10.set (x11 : Int).toNat (-1)) x11 (Int.tmod x11 ae) (wrap64 (Int.tdiv x11 ae)) 0 ae ao aj) else (none)) else (none))) else (some (x10, 0))
def Ai.l4 : Nat → List Int → List Int → Int → Int → Int → Int → Int → Int → List Bool → Option (List Int × Int)
 | 0, _, _, _, _, _, _, _, _, _ => none
 | k + 1, x5, x10, x11, x12, x13, x14, ae, ao, aj => if x14 < ae then (if 0 ≤ (wrap64 ((wrap64 (x13 * ae)) + x14)) then (if (wrap64 ((wrap64 (x13 * ae)) + x14)) < (x5.length : Int) then (if (rd x5 (wrap64 ((wrap64 (x13 * ae)) + x14))) = 1073741824 then (Ai.l4 k x5 x10 x11 x12 x13 (wrap64 (x14 + 1)) ae ao aj) else (if 0 ≤ x11 then (if x11 < (x10.length : Int) then (if (rd x10 x11) < 0 then (Ai.l4 k x5 (x10.set (x11 : Int).toNat (wrap64 ((wrap64 ((wrap64 (x14 - x12)) * (wrap64 (x14 - x12)))) + (wrap64 ((rd x5 (wrap64 ((wrap64 (x13 * ae)) + x14))) * (rd x5 (wrap64 ((wrap64 (x13 * ae)) + x14)))))))) x11 x12 x13 (wrap64 (x14 + 1)) ae ao aj) else (if (wrap64 ((wrap64 ((wrap64 (x14 - x12)) * (wrap64 (x14 - x12)))) + (wrap64 ((rd x5 (wrap64 ((wrap64 (x13 * ae)) + x14))) * (rd x5 (wrap64 ((wrap64 (x13 * ae)) + x14))))))) < (rd x10 x11) then (Ai.l4 k x5 (x10.set (x11 : Int).toNat (wrap64 ((wrap64 ((wrap64 (x14 - x12)) * (wrap64 (x14 - x12)))) + (wrap64 ((rd x5 (wrap64 ((wrap64 (x13 * ae)) + x14))) * (rd x5 (wrap64 ((wrap64 (x13 * ae)) + x14)))))))) x11 x12 x13 (wrap64 (x14 + 1)) ae ao aj) else (Ai.l4 k x5 x10 x11 x12 x13 (wrap64 (x14 + 1)) ae ao aj))) else (none)) else (none))) else (none)) else (none)) else (Ai.l3 k x5 x10 (wrap64 (x11 + 1)) ae ao aj)
end
def Ai.f (k : Nat) (ac : Int) (ah : Int) (ag : List Bool) : Option (List Int × Int) := (Ca.f ac ah ag).bind fun aT => (if aT = 0 then (if 0 ≤ (ag.length : Int) then (if ((ag.length : Int) : Int).toNat ≤ 35184372088832 then (Ai.l0 k (List.replicate ((ag.length : Int) : Int).toNat 0) 0 ac ah ag) else (none)) else (none)) else (some (([] : List Int), aT)))
def Ai.T23 : Bool × List (List Nat × List Nat) := (true, [([], []), ([], []), ([], []), ([2], [2]), ([1, 3], [1, 3]), ([], []), ([4, 5], [4, 5]), ([], []), ([], []), ([], []), ([9], [9]), ([8, 10], [8, 10]), ([], []), ([11, 12], [11, 12]), ([7, 13], [7, 13]), ([14], [14]), ([], []), ([15, 16], [15, 16]), ([0, 6, 0, 1, 2, 3, 4, 5, 6, 7, 8, 9, 10, 11, 12, 13, 14, 15, 16, 17], [0, 6]), ([18, 17, 0, 1, 2, 3, 4, 5, 6, 7, 8, 9, 10, 11, 12, 13, 14, 15, 16, 17], [17, 18])])
def Ai.B23 : List Nat := [0, 0, 0, 4, 14, 0, 62, 0, 0, 0, 512, 1792, 0, 7936, 16256, 32640, 0, 130944, 262143, 524287]
theorem Ai.tab23 : rtab .any (opsOf Try.f30 23) = Ai.T23 := by kernel_rfl
theorem Ai.bits23 : waitsOk Ai.T23.2 Ai.B23 = true := by kernel_rfl
def Ai.T28 : Bool × List (List Nat × List Nat) := (true, [([], []), ([], []), ([1], [1]), ([0, 2], [0, 2]), ([], []), ([], []), ([5], [5]), ([4, 6], [4, 6]), ([3, 0, 1, 2, 3], [3]), ([7, 8, 0, 1, 2, 3, 4, 5, 6, 7, 8], [7])])
def Ai.B28 : List Nat := [0, 0, 2, 7, 0, 0, 32, 112, 15, 511]
theorem Ai.tab28 : rtab .any (opsOf Try.f30 28) = Ai.T28 := by kernel_rfl
theorem Ai.bits28 : waitsOk Ai.T28.2 Ai.B28 = true := by kernel_rfl
set_option maxHeartbeats 8000000 in
set_option maxRecDepth 100000 in
theorem Ai.calls (k : Nat) (ac : Int) (ah : Int) (az : Option Addr) (aw : Nat) (ag : List Bool) (r1 : List Int) (r2 : Int) (w : World) (dz : Kd.C Kd.bool w az ag.length ag) (dA : ag.length ≤ aw) (h : Ai.f k ac ah ag = some (r1, r2)) :
  Calls Try.prog 30 #[.agg #[.int .i64 ac, .int .i64 ah, .slice az ag.length aw]] w fun e w' => ∃ v0_ : Value, e = .returned (.tuple #[v0_, .int .i64 r2]) ∧ Kd.R (Kd.int .i64) 3 w' w.heap.size (fun _ => True) v0_ r1 ∧ Below w.heap.size w w' := by
 have hu50 := Try.underlying50
 have bv := Aa.mk dz
 have dB := Aa.mk dA
 clear dz dA
 have HB := Aa.mk (Below.refl w.heap.size w)
 have H : ((Ca.f ac ah ag).bind fun aT => (if aT = 0 then (if 0 ≤ (ag.length : Int) then (if ((ag.length : Int) : Int).toNat ≤ 35184372088832 then (Ai.l0 k (List.replicate ((ag.length : Int) : Int).toNat 0) 0 ac ah ag) else (none)) else (none)) else (some (([] : List Int), aT)))) = some (r1, r2) := h
 clear h
 replace H := Option.bind_eq_some_iff.mp H
 obtain ⟨aT, A20, H⟩ := H
 try dsimp only at H
 have A2 := Aa.mk A20
 clear A20
 by_cases c3 : aT = 0
 ·rw [if_pos c3] at H
  have dk : (aT == 0) = true := beq_iff_eq.mpr c3
  have dl : (aT != 0) = false := bne_eq_false_iff_eq.mpr c3
  clear c3
  by_cases c4 : 0 ≤ (ag.length : Int)
  ·rw [if_pos c4] at H
   have dQ := eq_true c4
   have dR : decide (0 ≤ (ag.length : Int)) = true := decide_eq_true c4
   clear c4
   by_cases c5 : ((ag.length : Int) : Int).toNat ≤ 35184372088832
   ·rw [if_pos c5] at H
    have dS := eq_true c5
    have dT : decide (((ag.length : Int) : Int).toNat ≤ 35184372088832) = true := decide_eq_true c5
    clear c5
    obtain ⟨fS, cI⟩ : ∃ y_ : List Int, y_ = (List.replicate ((ag.length : Int) : Int).toNat 0) := ⟨_, rfl⟩
    (try rw [Option.bind_some] at H); try rw [← cI] at H
    have dC := Aa.mk cI
    clear cI
    have H' := Aa.mk H
    clear H
    go_enter Try.func30, Try.ntmps30
    go_wp2_with (first | ((with_reducible refine Bq (N := 1) rfl ?_); refine Bt ?hg (N := 1) ?hd (cs := #[.int .i64 ac, .int .i64 ah, .slice az ag.length aw]) (t := 50) ?hr ?_; (case hd => rfl); (case hg => rfl); (case hr => first | (go_simp; done) | (go_simp; rfl)); intro af hg w6 hbox hb; have n0_ := Aa.mk (Au (lU HB.out) hb); have n1_ := Aa.mk (hbox); have n2_ := Aa.mk ((by rw [hg]; exact (An (lU HB.out)) : w.heap.size ≤ af)); have n3_ := Aa.mk ((by rw [hg]; exact (An (lU HB.out)) : w.heap.size ≤ af)); clear HB; have HB := n0_; have aa := n1_; have d9 := n2_; have ay := n3_; clear n0_ n1_ n2_ n3_; clear hb hbox hg; have bb : w6.cell? ⟨af, 0, none⟩ = some (.int .i64 ac) := (Ad aa.out 0).trans rfl; have bc : w6.cell? ⟨af, 1, none⟩ = some (.int .i64 ah) := (Ad aa.out 1).trans rfl; have bd : w6.cell? ⟨af, 2, none⟩ = some (.slice az ag.length aw) := (Ad aa.out 2).trans rfl; have be := Af aa.out 0; have bf := Af aa.out 1; have bg := Af aa.out 2) | ((with_reducible refine Br (f := 47) rfl ?_); refine Cm (some 18) rfl rfl Try.func47 (by kernel_rfl) rfl #[.agg #[.int .i64 ac, .int .i64 ah, .slice az ag.length aw]] rfl (by (try simp only [List.map_toArray, List.map_cons, List.map_nil]); first | done | rfl | (simp only [List.length_drop, List.length_take]; rfl)) ?_; (with_reducible refine (Ca.calls ac ah _ _ ag aT _ ?side1 ?side2 A2.out).mono ?_); (case side1 => repeat (first | exact (Kd.Ce bv.out HB.out) | (with_reducible refine Kd.Bw ?_ _) | (with_reducible refine Kd.B6 ?_ _) | (with_reducible refine Kd.Cf ?_))); (case side2 => exact dB.out); rintro e w8 ⟨rfl, hb⟩; refine ⟨_, rfl, ?_⟩; have n0_ := Aa.mk (Ao (g := af) (o := .cells #[.int .i64 ac, .int .i64 ah, .slice az ag.length aw] 50 (0, 0)) (by exact bU <| aa.out) hb); have n1_ := Aa.mk (Au (by repeat (first | (with_reducible first | exact HB.out | apply Ae | apply Ac | apply Ah | refine Ag ?_ ay.out) | exact HB.out)) hb); clear aa; clear HB; have aa := n0_; have HB := n1_; clear n0_ n1_; (try clear hb); (try clear hb2); (try clear hk); (try clear hi); have bh : w8.cell? ⟨af, 0, none⟩ = some (.int .i64 ac) := (Ad aa.out 0).trans rfl; have bj : w8.cell? ⟨af, 1, none⟩ = some (.int .i64 ah) := (Ad aa.out 1).trans rfl; have bk : w8.cell? ⟨af, 2, none⟩ = some (.slice az ag.length aw) := (Ad aa.out 2).trans rfl; have bl := Af aa.out 0; have bm := Af aa.out 1; have bo := Af aa.out 2) | ((with_reducible refine Bq (N := 25) rfl ?_); refine Kd.R_make (Kd.int .i64) _ 3 rfl (N := 25) rfl 31 _ _ rfl (ag.length : Int) rfl rfl Try.underlying31 (.int .i64 0) 8 info3 rfl (by decide) (by omega) 0 (ok := fun _ => True) (okp := fun _ => True) rfl (fun _ hk => hk) trivial (of_decide_eq_true (by with_reducible assumption)) (Nat.le_trans (Nat.mul_le_mul_right _ (of_decide_eq_true (by with_reducible assumption) : (ag.length : Int).toNat ≤ 35184372088832)) (by omega)) (Below.refl _ _) (Nat.le_refl _) ?_; intro v138 w10 ho11 hb hg_ hnew_; clear hg_ hnew_; (first | rw [← dC.out] at ho11 | (simp only [Int.reduceToNat] at ho11; rw [← dC.out] at ho11)); have n0_ := Aa.mk (Kd.Cc ho11 (An (by repeat (first | (with_reducible first | exact HB.out | apply Ae | apply Ac | apply Ah | refine Ag ?_ ay.out) | exact HB.out)))); have n1_ := Aa.mk (Ao (g := af) (o := .cells #[.int .i64 ac, .int .i64 ah, .slice az ag.length aw] 50 (0, 0)) (by exact bU <| aa.out) hb); have n2_ := Aa.mk (Au (by repeat (first | (with_reducible first | exact HB.out | apply Ae | apply Ac | apply Ah | refine Ag ?_ ay.out) | exact HB.out)) hb); clear aa; clear HB; have ec := n0_; have aa := n1_; have HB := n2_; clear n0_ n1_ n2_; clear hb ho11))
    go_loopg [6] k (fun kq v6 w' => ∃ (ap : List Int) (au : Int), v6 = .int .i64 au ∧ Aa (Ai.l0 kq ap au ac ah ag = some (r1, r2)) ∧ Aa (kq ≤ k) ∧ Aa (Kd.R (Kd.int .i64) 3 w' w.heap.size (fun _ => True) v138 ap) ∧ Aa (w'.heap[af]? = some (.cells #[.int .i64 ac, .int .i64 ah, (.slice az ag.length aw)] 50 (0, 0))) ∧ Aa (Below w.heap.size w w'))
    case atStart => exact ⟨(fS), (0), (by first | rfl | (simp; done) | (simp [*]; done)), H', ⟨Nat.le_refl _⟩, ⟨by exact rU <| ec.out⟩, ⟨by exact bU <| aa.out⟩, ⟨by repeat (first | (with_reducible first | exact HB.out | apply Ae | apply Ac | apply Ah | refine Ag ?_ ay.out) | exact HB.out)⟩⟩
    case round =>
     clear H'
     try clear p2
     try clear c3
     try clear dk
     try clear dl
     try clear c4
     try clear dQ
     try clear dR
     try clear c5
     try clear dS
     try clear dT
     try clear bb
     try clear bc
     try clear bd
     try clear bh
     try clear bj
     try clear bk
     try clear be
     try clear bf
     try clear bg
     try clear bl
     try clear bm
     try clear bo
     obtain ⟨ap, au, rfl, HA, HK1, ai, aa, HB⟩ := hrel
     cases gk with
     | zero => exact absurd HA.out (by simp [Ai.l0])
     | succ k1 =>
      have H := HA.out
      clear HA
      simp only [Ai.l0] at H
      by_cases c12 : au < ac
      ·rw [if_pos c12] at H
       have bV : decide (au < ac) = true := decide_eq_true c12
       clear c12
       have H' := Aa.mk H
       clear H
       have aV : wr.cell? ⟨af, 0, none⟩ = some (.int .i64 ac) := (Ad aa.out 0).trans rfl
       have aW : wr.cell? ⟨af, 1, none⟩ = some (.int .i64 ah) := (Ad aa.out 1).trans rfl
       have aX : wr.cell? ⟨af, 2, none⟩ = some (.slice az ag.length aw) := (Ad aa.out 2).trans rfl
       have aY := Af aa.out 0
       have aZ := Af aa.out 1
       have ba := Af aa.out 2
       go_wp2
       go_loopg [7, 8] k1 (fun kq v7 v8 w' => ∃ (aG : List Int) (cG : Int) (aH : Int), v7 = .int .i64 cG ∧ v8 = .int .i64 aH ∧ Aa (Ai.l1 kq aG au cG aH ac ah ag = some (r1, r2)) ∧ Aa (kq ≤ k1) ∧ Aa (Kd.R (Kd.int .i64) 3 w' w.heap.size (fun _ => True) v138 aG) ∧ Aa (w'.heap[af]? = some (.cells #[.int .i64 ac, .int .i64 ah, (.slice az ag.length aw)] 50 (0, 0))) ∧ Aa (Below w.heap.size w w'))
       case atStart => exact ⟨(ap), (1073741824), (0), (by first | rfl | (simp; done) | (simp [*]; done)), (by first | rfl | (simp; done) | (simp [*]; done)), H', ⟨Nat.le_refl _⟩, ⟨by exact rU <| ai.out⟩, ⟨by exact bU <| aa.out⟩, ⟨by repeat (first | (with_reducible first | exact HB.out | apply Ae | apply Ac | apply Ah | refine Ag ?_ ay.out) | exact HB.out)⟩⟩
       case round =>
        clear H'
        try clear c1
        try clear p2
        try clear c3
        try clear dk
        try clear dl
        try clear c4
        try clear dQ
        try clear dR
        try clear c5
        try clear dS
        try clear dT
        try clear c12
        try clear bV
        try clear aV
        try clear aW
        try clear aX
        try clear bb
        try clear bc
        try clear bd
        try clear bh
        try clear bj
        try clear bk
        try clear aY
        try clear aZ
        try clear ba
        try clear be
        try clear bf
        try clear bg
        try clear bl
        try clear bm
        try clear bo
        try clear p2
        obtain ⟨aG, cG, aH, rfl, rfl, HA, HK2, ai, aa, HB⟩ := hrel
        cases gk with
        | zero => exact absurd HA.out (by simp [Ai.l1])
        | succ k2 =>
         have H := HA.out
         clear HA
         simp only [Ai.l1] at H
         by_cases c14 : aH < ah
         ·rw [if_pos c14] at H
          have dD : decide (aH < ah) = true := decide_eq_true c14
          clear c14
          obtain ⟨bp, b7⟩ : ∃ j_ : Int, (mn (wrap64 (cG + 1)) 1073741824) = j_ := ⟨_, rfl⟩
          replace H : (if 0 ≤ (wrap64 ((wrap64 (aH * ac)) + au)) then (if (wrap64 ((wrap64 (aH * ac)) + au)) < (ag.length : Int) then (if rdOf false ag (wrap64 ((wrap64 (aH * ac)) + au)) = true then (if (wrap64 ((wrap64 (aH * ac)) + au)) < (aG.length : Int) then (Ai.l1 k2 (aG.set ((wrap64 ((wrap64 (aH * ac)) + au)) : Int).toNat 0) au 0 (wrap64 (aH + 1)) ac ah ag) else (none)) else (if (wrap64 ((wrap64 (aH * ac)) + au)) < (aG.length : Int) then (Ai.l1 k2 (aG.set ((wrap64 ((wrap64 (aH * ac)) + au)) : Int).toNat (bp)) au bp (wrap64 (aH + 1)) ac ah ag) else (none))) else (none)) else (none)) = some (r1, r2) := by first | (rw [b7] at H; exact H) | (simp only [b7] at H ⊢; exact H)
          have hji15_ : (if 1073741824 < (wrap64 (cG + 1)) then 1073741824 else (wrap64 (cG + 1))) = bp := b7
          obtain ⟨ax, cJ⟩ : ∃ j_ : Int, (wrap64 ((wrap64 (aH * ac)) + au)) = j_ := ⟨_, rfl⟩
          replace H : (if 0 ≤ (ax) then (if (ax) < (ag.length : Int) then (if rdOf false ag (ax) = true then (if (ax) < (aG.length : Int) then (Ai.l1 k2 (aG.set ((ax) : Int).toNat 0) au 0 (wrap64 (aH + 1)) ac ah ag) else (none)) else (if (ax) < (aG.length : Int) then (Ai.l1 k2 (aG.set ((ax) : Int).toNat (bp)) au bp (wrap64 (aH + 1)) ac ah ag) else (none))) else (none)) else (none)) = some (r1, r2) := by first | (rw [cJ] at H; exact H) | (simp only [cJ] at H ⊢; exact H)
          have hji16w : (IntKind.i64.wrap ((wrap64 (aH * ac)) + au)) = ax := (i64_w _).trans cJ
          by_cases c17 : 0 ≤ (ax)
          ·rw [if_pos c17] at H
           have ed : decide (0 ≤ (ax)) = true := decide_eq_true c17
           clear c17
           by_cases c18 : (ax) < (ag.length : Int)
           ·rw [if_pos c18] at H
            have ee : decide ((ax) < (ag.length : Int)) = true := decide_eq_true c18
            clear c18
            obtain ⟨bq19, cK⟩ : ∃ b_ : Bool, b_ = (rdOf false ag (ax)) := ⟨_, rfl⟩
            replace H : (if bq19 = true then (if (ax) < (aG.length : Int) then (Ai.l1 k2 (aG.set ((ax) : Int).toNat 0) au 0 (wrap64 (aH + 1)) ac ah ag) else (none)) else (if (ax) < (aG.length : Int) then (Ai.l1 k2 (aG.set ((ax) : Int).toNat (bp)) au bp (wrap64 (aH + 1)) ac ah ag) else (none))) = some (r1, r2) := by rw [← cK] at H; exact H
            have dE := Aa.mk cK
            clear cK
            by_cases c20 : bq19 = true
            ·subst c20
             have H1 := H
             rw [if_pos rfl] at H1
             clear H
             have H := H1
             clear H1
             by_cases c21 : (ax) < (aG.length : Int)
             ·rw [if_pos c21] at H
              have cL : decide ((ax) < (aG.length : Int)) = true := decide_eq_true c21
              clear c21
              obtain ⟨ef, cM⟩ : ∃ y_ : List Int, y_ = (aG.set ((ax) : Int).toNat 0) := ⟨_, rfl⟩
              (try rw [Option.bind_some] at H); try rw [← cM] at H
              have eh := Aa.mk cM
              clear cM
              have H' := Aa.mk H
              clear H
              have bw : wr.cell? ⟨af, 0, none⟩ = some (.int .i64 ac) := (Ad aa.out 0).trans rfl
              have bz : wr.cell? ⟨af, 1, none⟩ = some (.int .i64 ah) := (Ad aa.out 1).trans rfl
              have bB : wr.cell? ⟨af, 2, none⟩ = some (.slice az ag.length aw) := (Ad aa.out 2).trans rfl
              have bC := Af aa.out 0
              have bD := Af aa.out 1
              have bE := Af aa.out 2
              have bt : 0 ≤ ((ax) : Int) := of_decide_eq_true (by with_reducible assumption)
              have bu : (ax) < (ag.length : Int) := of_decide_eq_true (by with_reducible assumption)
              obtain ⟨cO, e140, aA⟩ := Kd.at_bool bv.out (ax) bt bu
              (try rw [← dE.out] at aA)
              cases e140
              replace aA := (HB.out.cell (World.block_lt_of_cell? w _ aA)).trans aA
              replace bt := eq_true bt
              replace bu := eq_true bu
              have p22 : 0 ≤ ((ax) : Int) := of_decide_eq_true (by with_reducible assumption)
              have q22 : ((ax) : Int) < ((aG.length : Int) : Int) := of_decide_eq_true (by with_reducible assumption)
              obtain ⟨go22, fU, ei, ek, gl22, cl22, HG22⟩ := Kd.Dd ai.out (by omega)
              (first | cases ei | (injection ei with ea_ en_ ec_; (first | subst ea_ | (injection ea_ with ea_; subst ea_)); subst ec_; clear en_))
              have GB22 := Aa.mk ek
              have GG22 := Aa.mk HG22
              clear ek gl22 HG22
              obtain ⟨bY, fV⟩ := Kd.Cx 0 ai.out ((ax) : Int) p22 q22
              replace p22 := eq_true p22
              replace q22 := eq_true q22
              have dU := Kd.Db ai.out ((ax) : Int) 0
              go_wp2_with (((with_reducible refine Cq (t := 3) (p := 59) rfl ?_); refine store_event (t := 3) (p := 59) (v := ?vo_w25) (w1 := (wr.setCell ⟨go22, ((ax) : Int).toNat, none⟩ (.int .i64 0))) ?hg ?ho ?hn ?hr ?_; (case ho => rfl); (case hg => rfl); (case hn => rfl); (case hr => first | (go_simp; done) | (go_simp; rfl)); intro w25 hw; have hg : wr.grownBy w25 (some go22) := (by rw [hw]; exact dU.2); have hp_ : Kd.R (Kd.int .i64) 3 w25 w.heap.size (fun _ => True) (.slice (some ⟨go22, 0, none⟩) aG.length fU) ef := (by rw [hw, eh.out]; exact dU.1); clear dU; have n0_ := Aa.mk (hp_); have n1_ := Aa.mk (Bu (g := af) (o := .cells #[.int .i64 ac, .int .i64 ah, .slice (some cO) ag.length aw] 50 (0, 0)) (by exact bU <| aa.out) hg (Kd.De ai.out aa.out (by decide))); have n2_ := Aa.mk ((by rw [hw]; exact Ag (HB.out) GB22.out : Below w.heap.size w w25)); clear ai; clear aa; clear HB; have ai := n0_; have aa := n1_; have HB := n2_; clear n0_ n1_ n2_; clear hg hw hp_))
              go_roundg k2
              case measure => have := HK1.out; have := HK2.out; omega
              case rel => exact ⟨(ef), (0), (wrap64 (aH + 1)), (by first | rfl | (simp; done) | (simp [*]; done)), (by first | rfl | (simp; done) | (simp [*]; done)), H', ⟨by have := HK1.out; have := HK2.out; omega⟩, ⟨by exact rU <| ai.out⟩, ⟨by exact bU <| aa.out⟩, ⟨by repeat (first | (with_reducible first | exact HB.out | apply Ae | apply Ac | apply Ah | refine Ag ?_ ay.out) | exact HB.out)⟩⟩
             ·rw [if_neg c21] at H
              exact absurd H (by simp)
            ·replace c20 := Bool.eq_false_iff.mpr c20
             subst c20
             have H1 := H
             rw [if_neg (show ¬ (false = true) by decide)] at H1
             clear H
             have H := H1
             clear H1
             by_cases c26 : (ax) < (aG.length : Int)
             ·rw [if_pos c26] at H
              have cP : decide ((ax) < (aG.length : Int)) = true := decide_eq_true c26
              clear c26
              obtain ⟨el, cQ⟩ : ∃ y_ : List Int, y_ = (aG.set ((ax) : Int).toNat (bp)) := ⟨_, rfl⟩
              (try rw [Option.bind_some] at H); try rw [← cQ] at H
              have eo := Aa.mk cQ
              clear cQ
              have H' := Aa.mk H
              clear H
              have bF : wr.cell? ⟨af, 0, none⟩ = some (.int .i64 ac) := (Ad aa.out 0).trans rfl
              have bG : wr.cell? ⟨af, 1, none⟩ = some (.int .i64 ah) := (Ad aa.out 1).trans rfl
              have bH : wr.cell? ⟨af, 2, none⟩ = some (.slice az ag.length aw) := (Ad aa.out 2).trans rfl
              have bI := Af aa.out 0
              have bJ := Af aa.out 1
              have bK := Af aa.out 2
              have bt : 0 ≤ ((ax) : Int) := of_decide_eq_true (by with_reducible assumption)
              have bu : (ax) < (ag.length : Int) := of_decide_eq_true (by with_reducible assumption)
              obtain ⟨cO, e140, aA⟩ := Kd.at_bool bv.out (ax) bt bu
              (try rw [← dE.out] at aA)
              cases e140
              replace aA := (HB.out.cell (World.block_lt_of_cell? w _ aA)).trans aA
              replace bt := eq_true bt
              replace bu := eq_true bu
              have p27 : 0 ≤ ((ax) : Int) := of_decide_eq_true (by with_reducible assumption)
              have q27 : ((ax) : Int) < ((aG.length : Int) : Int) := of_decide_eq_true (by with_reducible assumption)
              obtain ⟨go27, fW, ep, er, gl27, cl27, HG27⟩ := Kd.Dd ai.out (by omega)
              (first | cases ep | (injection ep with ea_ en_ ec_; (first | subst ea_ | (injection ea_ with ea_; subst ea_)); subst ec_; clear en_))
              have GB27 := Aa.mk er
              have GG27 := Aa.mk HG27
              clear er gl27 HG27
              obtain ⟨bZ, fX⟩ := Kd.Cx 0 ai.out ((ax) : Int) p27 q27
              replace p27 := eq_true p27
              replace q27 := eq_true q27
              have dV := Kd.Db ai.out ((ax) : Int) bp
              go_wp2_with (((with_reducible refine Cq (t := 3) (p := 59) rfl ?_); refine store_event (t := 3) (p := 59) (v := ?vo_w30) (w1 := (wr.setCell ⟨go27, ((ax) : Int).toNat, none⟩ (.int .i64 bp))) ?hg ?ho ?hn ?hr ?_; (case ho => rfl); (case hg => rfl); (case hn => rfl); (case hr => first | (go_simp; done) | (go_simp; rfl)); intro w30 hw; have hg : wr.grownBy w30 (some go27) := (by rw [hw]; exact dV.2); have hp_ : Kd.R (Kd.int .i64) 3 w30 w.heap.size (fun _ => True) (.slice (some ⟨go27, 0, none⟩) aG.length fW) el := (by rw [hw, eo.out]; exact dV.1); clear dV; have n0_ := Aa.mk (hp_); have n1_ := Aa.mk (Bu (g := af) (o := .cells #[.int .i64 ac, .int .i64 ah, .slice (some cO) ag.length aw] 50 (0, 0)) (by exact bU <| aa.out) hg (Kd.De ai.out aa.out (by decide))); have n2_ := Aa.mk ((by rw [hw]; exact Ag (HB.out) GB27.out : Below w.heap.size w w30)); clear ai; clear aa; clear HB; have ai := n0_; have aa := n1_; have HB := n2_; clear n0_ n1_ n2_; clear hg hw hp_))
              go_roundg k2
              case measure => have := HK1.out; have := HK2.out; omega
              case rel => exact ⟨(el), (bp), (wrap64 (aH + 1)), (by first | rfl | (simp; done) | (simp only [← b7] <;> (first | rfl | simp)) | (simp [*]; done)), (by first | rfl | (simp; done) | (simp [*]; done)), H', ⟨by have := HK1.out; have := HK2.out; omega⟩, ⟨by exact rU <| ai.out⟩, ⟨by exact bU <| aa.out⟩, ⟨by repeat (first | (with_reducible first | exact HB.out | apply Ae | apply Ac | apply Ah | refine Ag ?_ ay.out) | exact HB.out)⟩⟩
             ·rw [if_neg c26] at H
              exact absurd H (by simp)
           ·rw [if_neg c18] at H
            exact absurd H (by simp)
          ·rw [if_neg c17] at H
           exact absurd H (by simp)
         ·rw [if_neg c14] at H
          have dD : decide (aH < ah) = false := decide_eq_false c14
          clear c14
          have H' := Aa.mk H
          clear H
          have bL : wr.cell? ⟨af, 0, none⟩ = some (.int .i64 ac) := (Ad aa.out 0).trans rfl
          have bM : wr.cell? ⟨af, 1, none⟩ = some (.int .i64 ah) := (Ad aa.out 1).trans rfl
          have bN : wr.cell? ⟨af, 2, none⟩ = some (.slice az ag.length aw) := (Ad aa.out 2).trans rfl
          have bO := Af aa.out 0
          have bP := Af aa.out 1
          have bQ := Af aa.out 2
          go_wp2
          go_loopg [7, 9] k2 (fun kq v7 v9 w' => ∃ (av : List Int) (cH : Int) (aE : Int), v7 = .int .i64 cH ∧ v9 = .int .i64 aE ∧ Aa (Ai.l2 kq av au cH aE ac ah ag = some (r1, r2)) ∧ Aa (kq ≤ k2) ∧ Aa (Kd.R (Kd.int .i64) 3 w' w.heap.size (fun _ => True) v138 av) ∧ Aa (w'.heap[af]? = some (.cells #[.int .i64 ac, .int .i64 ah, (.slice az ag.length aw)] 50 (0, 0))) ∧ Aa (Below w.heap.size w w'))
          case atStart => exact ⟨(aG), (1073741824), (wrap64 (ah - 1)), (by first | rfl | (simp; done) | (simp [*]; done)), (by first | rfl | (simp; done) | (simp [*]; done)), H', ⟨Nat.le_refl _⟩, ⟨by exact rU <| ai.out⟩, ⟨by exact bU <| aa.out⟩, ⟨by repeat (first | (with_reducible first | exact HB.out | apply Ae | apply Ac | apply Ah | refine Ag ?_ ay.out) | exact HB.out)⟩⟩
          case round =>
           clear H'
           try clear c1
           try clear p1
           try clear q1
           try clear hx1
           try clear c2
           try clear p2
           try clear q2
           try clear hx2
           try clear hf2
           try clear c3
           try clear dk
           try clear dl
           try clear c4
           try clear dQ
           try clear dR
           try clear c5
           try clear dS
           try clear dT
           try clear p6
           try clear c12
           try clear bV
           try clear c14
           try clear dD
           try clear p14
           try clear q14
           try clear hx14
           try clear c17
           try clear ed
           try clear c18
           try clear ee
           try clear q19
           try clear c20
           try clear c21
           try clear cL
           try clear p22
           try clear q22
           try clear hx22
           try clear hf22
           try clear c26
           try clear cP
           try clear p27
           try clear q27
           try clear hx27
           try clear hf27
           try clear c30
           try clear aV
           try clear aW
           try clear aX
           try clear bw
           try clear bz
           try clear bB
           try clear bF
           try clear bG
           try clear bH
           try clear bL
           try clear bM
           try clear bN
           try clear bb
           try clear bc
           try clear bd
           try clear bh
           try clear bj
           try clear bk
           try clear aY
           try clear aZ
           try clear ba
           try clear bC
           try clear bD
           try clear bE
           try clear bI
           try clear bJ
           try clear bK
           try clear bO
           try clear bP
           try clear bQ
           try clear be
           try clear bf
           try clear bg
           try clear bl
           try clear bm
           try clear bo
           try clear aA
           try clear bY
           try clear bZ
           try clear bt
           try clear p2
           try clear p22
           try clear p27
           try clear bu
           try clear q22
           try clear q27
           obtain ⟨av, cH, aE, rfl, rfl, HA, HK3, ai, aa, HB⟩ := hrel
           cases gk with
           | zero => exact absurd HA.out (by simp [Ai.l2])
           | succ k3 =>
            have H := HA.out
            clear HA
            simp only [Ai.l2] at H
            by_cases c32 : aE ≥ 0
            ·rw [if_pos c32] at H
             have cR : decide (0 ≤ aE) = true := decide_eq_true c32
             clear c32
             obtain ⟨aU, b8⟩ : ∃ j_ : Int, (mn (wrap64 (cH + 1)) 1073741824) = j_ := ⟨_, rfl⟩
             replace H : (if 0 ≤ (wrap64 ((wrap64 (aE * ac)) + au)) then (if (wrap64 ((wrap64 (aE * ac)) + au)) < (ag.length : Int) then (if rdOf false ag (wrap64 ((wrap64 (aE * ac)) + au)) = true then (if (wrap64 ((wrap64 (aE * ac)) + au)) < (av.length : Int) then (Ai.l2 k3 (av.set ((wrap64 ((wrap64 (aE * ac)) + au)) : Int).toNat (mn (rd av (wrap64 ((wrap64 (aE * ac)) + au))) 0)) au 0 (wrap64 (aE - 1)) ac ah ag) else (none)) else (if (wrap64 ((wrap64 (aE * ac)) + au)) < (av.length : Int) then (Ai.l2 k3 (av.set ((wrap64 ((wrap64 (aE * ac)) + au)) : Int).toNat (mn (rd av (wrap64 ((wrap64 (aE * ac)) + au))) (aU))) au aU (wrap64 (aE - 1)) ac ah ag) else (none))) else (none)) else (none)) = some (r1, r2) := by first | (rw [b8] at H; exact H) | (simp only [b8] at H ⊢; exact H)
             have hji33_ : (if 1073741824 < (wrap64 (cH + 1)) then 1073741824 else (wrap64 (cH + 1))) = aU := b8
             obtain ⟨al, cS⟩ : ∃ j_ : Int, (wrap64 ((wrap64 (aE * ac)) + au)) = j_ := ⟨_, rfl⟩
             replace H : (if 0 ≤ (al) then (if (al) < (ag.length : Int) then (if rdOf false ag (al) = true then (if (al) < (av.length : Int) then (Ai.l2 k3 (av.set ((al) : Int).toNat (mn (rd av (al)) 0)) au 0 (wrap64 (aE - 1)) ac ah ag) else (none)) else (if (al) < (av.length : Int) then (Ai.l2 k3 (av.set ((al) : Int).toNat (mn (rd av (al)) (aU))) au aU (wrap64 (aE - 1)) ac ah ag) else (none))) else (none)) else (none)) = some (r1, r2) := by first | (rw [cS] at H; exact H) | (simp only [cS] at H ⊢; exact H)
             have hji34w : (IntKind.i64.wrap ((wrap64 (aE * ac)) + au)) = al := (i64_w _).trans cS
             by_cases c35 : 0 ≤ (al)
             ·rw [if_pos c35] at H
              have dF : decide (0 ≤ (al)) = true := decide_eq_true c35
              clear c35
              by_cases c36 : (al) < (ag.length : Int)
              ·rw [if_pos c36] at H
               have dG : decide ((al) < (ag.length : Int)) = true := decide_eq_true c36
               clear c36
               obtain ⟨bq37, cU⟩ : ∃ b_ : Bool, b_ = (rdOf false ag (al)) := ⟨_, rfl⟩
               replace H : (if bq37 = true then (if (al) < (av.length : Int) then (Ai.l2 k3 (av.set ((al) : Int).toNat (mn (rd av (al)) 0)) au 0 (wrap64 (aE - 1)) ac ah ag) else (none)) else (if (al) < (av.length : Int) then (Ai.l2 k3 (av.set ((al) : Int).toNat (mn (rd av (al)) (aU))) au aU (wrap64 (aE - 1)) ac ah ag) else (none))) = some (r1, r2) := by rw [← cU] at H; exact H
               have dH := Aa.mk cU
               clear cU
               by_cases c38 : bq37 = true
               ·subst c38
                have H1 := H
                rw [if_pos rfl] at H1
                clear H
                have H := H1
                clear H1
                by_cases c39 : (al) < (av.length : Int)
                ·rw [if_pos c39] at H
                 have dI : decide ((al) < (av.length : Int)) = true := decide_eq_true c39
                 clear c39
                 obtain ⟨dn, cV⟩ : ∃ j_ : Int, (mn (rd av (al)) 0) = j_ := ⟨_, rfl⟩
                 replace H : (Ai.l2 k3 (av.set ((al) : Int).toNat (dn)) au 0 (wrap64 (aE - 1)) ac ah ag) = some (r1, r2) := by first | (rw [cV] at H; exact H) | (simp only [cV] at H ⊢; exact H)
                 have hji40_ : (if 0 < (rd av (al)) then 0 else (rd av (al))) = dn := cV
                 obtain ⟨fY, cW⟩ : ∃ y_ : List Int, y_ = (av.set ((al) : Int).toNat (dn)) := ⟨_, rfl⟩
                 (try rw [Option.bind_some] at H); try rw [← cW] at H
                 have et := Aa.mk cW
                 clear cW
                 have H' := Aa.mk H
                 clear H
                 have b9 : wr.cell? ⟨af, 0, none⟩ = some (.int .i64 ac) := (Ad aa.out 0).trans rfl
                 have cd : wr.cell? ⟨af, 1, none⟩ = some (.int .i64 ah) := (Ad aa.out 1).trans rfl
                 have ce : wr.cell? ⟨af, 2, none⟩ = some (.slice az ag.length aw) := (Ad aa.out 2).trans rfl
                 have cg := Af aa.out 0
                 have ck := Af aa.out 1
                 have cp := Af aa.out 2
                 have bR : 0 ≤ ((al) : Int) := of_decide_eq_true (by with_reducible assumption)
                 have bS : (al) < (ag.length : Int) := of_decide_eq_true (by with_reducible assumption)
                 obtain ⟨cX, e143, aC⟩ := Kd.at_bool bv.out (al) bR bS
                 (try rw [← dH.out] at aC)
                 cases e143
                 replace aC := (HB.out.cell (World.block_lt_of_cell? w _ aC)).trans aC
                 replace bR := eq_true bR
                 replace bS := eq_true bS
                 try go_wp2
                 have n0_ := Aa.mk (Kd.Dg ai.out)
                 have n1_ := Aa.mk (Ay aa.out)
                 have n2_ := Aa.mk (Ah HB.out)
                 clear ai
                 clear aa
                 clear HB
                 have ai := n0_
                 have aa := n1_
                 have HB := n2_
                 clear n0_ n1_ n2_
                 obtain ⟨gw, gx, ew⟩ := Kd.B0 ai.out
                 (first | subst ew | (injection ew with f1_ f2_ f3_; have f4_ := f1_.symm; have f5_ := f3_.symm; clear f1_ f2_ f3_; subst f4_; subst f5_))
                 have cY : 0 ≤ ((al) : Int) := of_decide_eq_true (by with_reducible assumption)
                 have cZ : (al) < (av.length : Int) := of_decide_eq_true (by with_reducible assumption)
                 obtain ⟨gn, e144, aN⟩ := Kd.at_int (Kd.Ba ai.out).2.2 (al) cY cZ
                 cases e144
                 replace cY := eq_true cY
                 replace cZ := eq_true cZ
                 have p41 : 0 ≤ ((al) : Int) := of_decide_eq_true (by with_reducible assumption)
                 have q41 : ((al) : Int) < ((av.length : Int) : Int) := of_decide_eq_true (by with_reducible assumption)
                 obtain ⟨go41, gy, ez, eC, gl41, cl41, HG41⟩ := Kd.Dd ai.out (by omega)
                 (first | cases ez | (injection ez with ea_ en_ ec_; (first | subst ea_ | (injection ea_ with ea_; subst ea_)); subst ec_; clear en_))
                 have GB41 := Aa.mk eC
                 have GG41 := Aa.mk HG41
                 clear eC gl41 HG41
                 (first | simp only [add_plain] at aN | skip)
                 obtain ⟨b3, dW⟩ := Kd.Cx 0 ai.out ((al) : Int) p41 q41
                 replace p41 := eq_true p41
                 replace q41 := eq_true q41
                 have dX := Kd.R_putn ai.out ((al) : Int) dn
                 rw [← et.out] at dX
                 have HQ45 := Aa.mk dX
                 clear dX
                 refine start_ (n := 20) (S := fun w' => w'.cell? ⟨af, 0, none⟩ = some (.int .i64 ac) ∧ w'.cell? ⟨af, 1, none⟩ = some (.int .i64 ah) ∧ w'.cell? ⟨af, 2, none⟩ = some (.slice (some cX) ag.length aw) ∧ w'.cell? ⟨go41, ((al)).toNat, none⟩ = some (.int .i64 (rd av (al)))) (ds := [19]) #[false, false, false, false, false, false, false, false, false, false, false, false, false, false, false, false, false, false, false, false] (by kernel_rfl) rfl rfl ⟨(Ad aa.out 0).trans rfl, (Ad aa.out 1).trans rfl, (Ad aa.out 2).trans rfl, aN⟩ (fun hHeld => ?_); refine with_tabW Ai.tab23 Ai.bits23 (fun HT_ HW_ => ?_)
                 generalize wr.drew = w43 at ai aa HB GG41 HQ45 dW aN b3 hHeld ⊢
                 refine pure_ (i := 0) (N := some 80) (v := ?_) (a' := ?_) (bA 20 1) rfl rfl (any_of HT_.out (by kernel_rfl)) (fun _ _ _ h => h) (Or.inl ⟨by rfl, ?_⟩) ?_ ?_
                 rotate_left; (intro w'; go_simp; with_reducible rfl); rotate_left; (simp only [Act.put, sA, sB, sC, i64_w, i32_w]; rfl)
                 refine pure_ (i := 1) (N := some 81) (v := ?_) (a' := ?_) (bA 20 3) rfl rfl (any_of HT_.out (by kernel_rfl)) (fun _ _ _ h => h) (Or.inl ⟨by rfl, ?_⟩) ?_ ?_
                 rotate_left; (intro w'; go_simp; with_reducible rfl); rotate_left; (simp only [Act.put, sA, sB, sC, i64_w, i32_w]; rfl)
                 refine pure_ (i := 2) (N := some 82) (v := ?_) (a' := ?_) (bA 20 7) rfl rfl (any_of HT_.out (by kernel_rfl)) (fun _ _ _ h => h) (Or.inl ⟨by rfl, ?_⟩) ?_ ?_
                 rotate_left; (intro w'; go_simp; with_reducible rfl); rotate_left; (simp only [Act.put, sA, sB, sC, i64_w, i32_w]; rfl)
                 refine pure_ (i := 5) (N := some 85) (v := ?_) (a' := ?_) (bA 20 39) rfl rfl (any_of HT_.out (by kernel_rfl)) (fun _ _ _ h => h) (Or.inl ⟨by rfl, ?_⟩) ?_ ?_
                 rotate_left; (intro w'; go_simp; with_reducible rfl); rotate_left; (simp only [Act.put, sA, sB, sC, i64_w, i32_w]; rfl)
                 refine pure_ (i := 7) (N := some 87) (v := ?_) (a' := ?_) (bA 20 167) rfl rfl (any_of HT_.out (by kernel_rfl)) (fun _ _ _ h => h) (Or.inl ⟨by rfl, ?_⟩) ?_ ?_
                 rotate_left; (intro w'; go_simp; with_reducible rfl); rotate_left; (simp only [Act.put, sA, sB, sC, i64_w, i32_w]; rfl)
                 refine pure_ (i := 8) (N := some 88) (v := ?_) (a' := ?_) (bA 20 423) rfl rfl (any_of HT_.out (by kernel_rfl)) (fun _ _ _ h => h) (Or.inl ⟨by rfl, ?_⟩) ?_ ?_
                 rotate_left; (intro w'; go_simp; with_reducible rfl); rotate_left; (simp only [Act.put, sA, sB, sC, i64_w, i32_w]; rfl)
                 refine pure_ (i := 9) (N := some 89) (v := ?_) (a' := ?_) (bA 20 935) rfl rfl (any_of HT_.out (by kernel_rfl)) (fun _ _ _ h => h) (Or.inl ⟨by rfl, ?_⟩) ?_ ?_
                 rotate_left; (intro w'; go_simp; with_reducible rfl); rotate_left; (simp only [Act.put, sA, sB, sC, i64_w, i32_w]; rfl)
                 refine pure_ (i := 12) (N := some 92) (v := ?_) (a' := ?_) (bA 20 5031) rfl rfl (any_of HT_.out (by kernel_rfl)) (fun _ _ _ h => h) (Or.inl ⟨by rfl, ?_⟩) ?_ ?_
                 rotate_left; (intro w'; go_simp; with_reducible rfl); rotate_left; (simp only [Act.put, sA, sB, sC, i64_w, i32_w]; rfl)
                 refine pure_ (i := 16) (N := some 96) (v := ?_) (a' := ?_) (bA 20 70567) rfl rfl (any_of HT_.out (by kernel_rfl)) (fun _ _ _ h => h) (Or.inl ⟨by rfl, ?_⟩) ?_ ?_
                 rotate_left; (intro w'; go_simp; with_reducible rfl); rotate_left; (simp only [Act.put, sA, sB, sC, i64_w, i32_w]; rfl)
                 refine take_ (i := 3) (N := some 83) (v := ?_) (a' := ?_) (bA 20 70575) rfl rfl (take_ofW HT_.out HW_.out (by kernel_rfl)) (fun _ _ _ h => h) (Or.inl ⟨by rfl, ?_⟩) hHeld ?_ ?_
                 rotate_left; (rintro w' ⟨s0, s1, s2, s3⟩; go_simp; with_reducible rfl); rotate_left; (simp only [Act.put, sA, sB, sC, i64_w, i32_w]; rfl)
                 refine pure_ (i := 4) (N := some 84) (v := ?_) (a' := ?_) (bA 20 70591) rfl rfl (any_of HT_.out (by kernel_rfl)) (fun _ _ _ h => h) (Or.inl ⟨by rfl, ?_⟩) ?_ ?_
                 rotate_left; (intro w'; go_simp; with_reducible rfl); rotate_left; (simp only [Act.put, sA, sB, sC, i64_w, i32_w]; rfl)
                 refine pure_ (i := 6) (N := some 86) (v := ?_) (a' := ?_) (bA 20 70655) rfl rfl (any_of HT_.out (by kernel_rfl)) (fun _ _ _ h => h) (Or.inl ⟨by rfl, ?_⟩) ?_ ?_
                 rotate_left; (intro w'; go_simp; with_reducible rfl); rotate_left; (simp only [Act.put, sA, sB, sC, i64_w, i32_w]; rfl)
                 refine take_ (i := 10) (N := some 90) (v := ?_) (a' := ?_) (bA 20 71679) rfl rfl (take_ofW HT_.out HW_.out (by kernel_rfl)) (fun _ _ _ h => h) (Or.inl ⟨by rfl, ?_⟩) hHeld ?_ ?_
                 rotate_left; (rintro w' ⟨s0, s1, s2, s3⟩; go_simp; with_reducible rfl); rotate_left; (simp only [Act.put, sA, sB, sC, i64_w, i32_w]; rfl)
                 refine pure_ (i := 11) (N := some 91) (v := ?_) (a' := ?_) (bA 20 73727) rfl rfl (any_of HT_.out (by kernel_rfl)) (fun _ _ _ h => h) (Or.inl ⟨by rfl, ?_⟩) ?_ ?_
                 rotate_left; (intro w'; go_simp; with_reducible rfl); rotate_left; (simp only [Act.put, sA, sB, sC, i64_w, i32_w]; rfl)
                 refine pure_ (i := 13) (N := some 93) (v := ?_) (a' := ?_) (bA 20 81919) rfl rfl (any_of HT_.out (by kernel_rfl)) (fun _ _ _ h => h) (Or.inl ⟨by rfl, ?_⟩) ?_ ?_
                 rotate_left; (intro w'; go_simp; with_reducible rfl); rotate_left; (simp only [Act.put, sA, sB, sC, i64_w, i32_w]; rfl)
                 refine pure_ (i := 14) (N := some 94) (v := ?_) (a' := ?_) (bA 20 98303) rfl rfl (any_of HT_.out (by kernel_rfl)) (fun _ _ _ h => h) (Or.inl ⟨by rfl, ?_⟩) ?_ ?_
                 rotate_left; (intro w'; go_simp; with_reducible rfl); rotate_left; (simp only [Act.put, sA, sB, sC, i64_w, i32_w]; rfl)
                 refine take_ (i := 15) (N := some 95) (v := ?_) (a' := ?_) (bA 20 131071) rfl rfl (take_ofW HT_.out HW_.out (by kernel_rfl)) (fun _ _ _ h => h) (Or.inl ⟨by rfl, ?_⟩) hHeld ?_ ?_
                 rotate_left; (rintro w' ⟨s0, s1, s2, s3⟩; go_simp; with_reducible rfl); rotate_left; (simp only [Act.put, sA, sB, sC, i64_w, i32_w]; rfl)
                 refine pure_ (i := 17) (N := some 97) (v := ?_) (a' := ?_) (bA 20 262143) rfl rfl (any_of HT_.out (by kernel_rfl)) (fun _ _ _ h => h) (Or.inl ⟨by rfl, ?_⟩) ?_ ?_
                 rotate_left; (intro w'; go_simp; with_reducible rfl); rotate_left; (simp only [Act.put, sA, sB, sC, i64_w, i32_w]; rfl)
                 refine pure_ (i := 18) (N := some 98) (v := ?_) (a' := ?_) (bA 20 524287) rfl rfl (any_of HT_.out (by kernel_rfl)) (fun _ _ _ h => h) (Or.inl ⟨by rfl, ?_⟩) ?_ ?_
                 rotate_left; (intro w'; go_simp; with_reducible rfl); rotate_left; (simp only [Act.put, sA, sB, sC, i64_w, i32_w]; rfl)
                 refine last_ (i := 19) (N := none) (bA 20 1048575) rfl rfl (one_of HT_.out (by kernel_rfl)) (by decide) (fun K hK => ?_)
                 refine skip_ (w1 := ?_) (by rfl) rfl ?_ ?_
                 rotate_left
                 ·go_simp
                  rfl
                 refine hK.out _ _ ?_
                 clear hK K
                 refine done_ (done_of HT_.out (by kernel_rfl)) ?_
                 try go_wp2
                 go_roundg k3
                 case measure => have := HK1.out; have := HK2.out; have := HK3.out; omega
                 case rel => exact ⟨(fY), (0), (wrap64 (aE - 1)), (by first | rfl | (simp; done) | (simp [*]; done)), (by first | rfl | (simp; done) | (simp [*]; done)), H', ⟨by have := HK1.out; have := HK2.out; have := HK3.out; omega⟩, ⟨by exact rU <| HQ45.out⟩, ⟨by (with_reducible repeat (first | refine Ax ?_ _ | refine Ay ?_ | refine Ak ?_ _)); refine Bk ?_ (by have h_ := Kd.De ai.out aa.out (by decide); intro e_; exact h_ (by rw [e_]; rfl)) _; exact bU <| aa.out⟩, ⟨by repeat (first | (with_reducible first | exact HB.out | apply Ae | apply Ac | apply Ah | refine Ag ?_ GB41.out | refine Ag ?_ ay.out) | exact HB.out)⟩⟩
                ·rw [if_neg c39] at H
                 exact absurd H (by simp)
               ·replace c38 := Bool.eq_false_iff.mpr c38
                subst c38
                have H1 := H
                rw [if_neg (show ¬ (false = true) by decide)] at H1
                clear H
                have H := H1
                clear H1
                by_cases c46 : (al) < (av.length : Int)
                ·rw [if_pos c46] at H
                 have dJ : decide ((al) < (av.length : Int)) = true := decide_eq_true c46
                 clear c46
                 obtain ⟨dp, da⟩ : ∃ j_ : Int, (mn (rd av (al)) (aU)) = j_ := ⟨_, rfl⟩
                 replace H : (Ai.l2 k3 (av.set ((al) : Int).toNat (dp)) au aU (wrap64 (aE - 1)) ac ah ag) = some (r1, r2) := by first | (rw [da] at H; exact H) | (simp only [da] at H ⊢; exact H)
                 have hji47_ : (if (aU) < (rd av (al)) then (aU) else (rd av (al))) = dp := da
                 obtain ⟨fZ, db⟩ : ∃ y_ : List Int, y_ = (av.set ((al) : Int).toNat (dp)) := ⟨_, rfl⟩
                 (try rw [Option.bind_some] at H); try rw [← db] at H
                 have eD := Aa.mk db
                 clear db
                 have H' := Aa.mk H
                 clear H
                 have cr : wr.cell? ⟨af, 0, none⟩ = some (.int .i64 ac) := (Ad aa.out 0).trans rfl
                 have ct : wr.cell? ⟨af, 1, none⟩ = some (.int .i64 ah) := (Ad aa.out 1).trans rfl
                 have cu : wr.cell? ⟨af, 2, none⟩ = some (.slice az ag.length aw) := (Ad aa.out 2).trans rfl
                 have cx := Af aa.out 0
                 have cy := Af aa.out 1
                 have cz := Af aa.out 2
                 have bR : 0 ≤ ((al) : Int) := of_decide_eq_true (by with_reducible assumption)
                 have bS : (al) < (ag.length : Int) := of_decide_eq_true (by with_reducible assumption)
                 obtain ⟨cX, e143, aC⟩ := Kd.at_bool bv.out (al) bR bS
                 (try rw [← dH.out] at aC)
                 cases e143
                 replace aC := (HB.out.cell (World.block_lt_of_cell? w _ aC)).trans aC
                 replace bR := eq_true bR
                 replace bS := eq_true bS
                 try go_wp2
                 have n0_ := Aa.mk (Kd.Dg ai.out)
                 have n1_ := Aa.mk (Ay aa.out)
                 have n2_ := Aa.mk (Ah HB.out)
                 clear ai
                 clear aa
                 clear HB
                 have ai := n0_
                 have aa := n1_
                 have HB := n2_
                 clear n0_ n1_ n2_
                 obtain ⟨gz, gA, eE⟩ := Kd.B0 ai.out
                 (first | subst eE | (injection eE with f1_ f2_ f3_; have f4_ := f1_.symm; have f5_ := f3_.symm; clear f1_ f2_ f3_; subst f4_; subst f5_))
                 have dc : 0 ≤ ((al) : Int) := of_decide_eq_true (by with_reducible assumption)
                 have dd : (al) < (av.length : Int) := of_decide_eq_true (by with_reducible assumption)
                 obtain ⟨gp, e146, aQ⟩ := Kd.at_int (Kd.Ba ai.out).2.2 (al) dc dd
                 cases e146
                 replace dc := eq_true dc
                 replace dd := eq_true dd
                 have p48 : 0 ≤ ((al) : Int) := of_decide_eq_true (by with_reducible assumption)
                 have q48 : ((al) : Int) < ((av.length : Int) : Int) := of_decide_eq_true (by with_reducible assumption)
                 obtain ⟨go48, gB, eF, eG, gl48, cl48, HG48⟩ := Kd.Dd ai.out (by omega)
                 (first | cases eF | (injection eF with ea_ en_ ec_; (first | subst ea_ | (injection ea_ with ea_; subst ea_)); subst ec_; clear en_))
                 have GB48 := Aa.mk eG
                 have GG48 := Aa.mk HG48
                 clear eG gl48 HG48
                 (first | simp only [add_plain] at aQ | skip)
                 obtain ⟨b4, dY⟩ := Kd.Cx 0 ai.out ((al) : Int) p48 q48
                 replace p48 := eq_true p48
                 replace q48 := eq_true q48
                 have dZ := Kd.R_putn ai.out ((al) : Int) dp
                 rw [← eD.out] at dZ
                 have HQ52 := Aa.mk dZ
                 clear dZ
                 refine start_ (n := 20) (S := fun w' => w'.cell? ⟨af, 0, none⟩ = some (.int .i64 ac) ∧ w'.cell? ⟨af, 1, none⟩ = some (.int .i64 ah) ∧ w'.cell? ⟨af, 2, none⟩ = some (.slice (some cX) ag.length aw) ∧ w'.cell? ⟨go48, ((al)).toNat, none⟩ = some (.int .i64 (rd av (al)))) (ds := [19]) #[false, false, false, false, false, false, false, false, false, false, false, false, false, false, false, false, false, false, false, false] (by kernel_rfl) rfl rfl ⟨(Ad aa.out 0).trans rfl, (Ad aa.out 1).trans rfl, (Ad aa.out 2).trans rfl, aQ⟩ (fun hHeld => ?_); refine with_tabW Ai.tab23 Ai.bits23 (fun HT_ HW_ => ?_)
                 generalize wr.drew = w50 at ai aa HB GG48 HQ52 dY aQ b4 hHeld ⊢
                 refine pure_ (i := 0) (N := some 80) (v := ?_) (a' := ?_) (bA 20 1) rfl rfl (any_of HT_.out (by kernel_rfl)) (fun _ _ _ h => h) (Or.inl ⟨by rfl, ?_⟩) ?_ ?_
                 rotate_left; (intro w'; go_simp; with_reducible rfl); rotate_left; (simp only [Act.put, sA, sB, sC, i64_w, i32_w]; rfl)
                 refine pure_ (i := 1) (N := some 81) (v := ?_) (a' := ?_) (bA 20 3) rfl rfl (any_of HT_.out (by kernel_rfl)) (fun _ _ _ h => h) (Or.inl ⟨by rfl, ?_⟩) ?_ ?_
                 rotate_left; (intro w'; go_simp; with_reducible rfl); rotate_left; (simp only [Act.put, sA, sB, sC, i64_w, i32_w]; rfl)
                 refine pure_ (i := 2) (N := some 82) (v := ?_) (a' := ?_) (bA 20 7) rfl rfl (any_of HT_.out (by kernel_rfl)) (fun _ _ _ h => h) (Or.inl ⟨by rfl, ?_⟩) ?_ ?_
                 rotate_left; (intro w'; go_simp; with_reducible rfl); rotate_left; (simp only [Act.put, sA, sB, sC, i64_w, i32_w]; rfl)
                 refine pure_ (i := 5) (N := some 85) (v := ?_) (a' := ?_) (bA 20 39) rfl rfl (any_of HT_.out (by kernel_rfl)) (fun _ _ _ h => h) (Or.inl ⟨by rfl, ?_⟩) ?_ ?_
                 rotate_left; (intro w'; go_simp; with_reducible rfl); rotate_left; (simp only [Act.put, sA, sB, sC, i64_w, i32_w]; rfl)
                 refine pure_ (i := 7) (N := some 87) (v := ?_) (a' := ?_) (bA 20 167) rfl rfl (any_of HT_.out (by kernel_rfl)) (fun _ _ _ h => h) (Or.inl ⟨by rfl, ?_⟩) ?_ ?_
                 rotate_left; (intro w'; go_simp; with_reducible rfl); rotate_left; (simp only [Act.put, sA, sB, sC, i64_w, i32_w]; rfl)
                 refine pure_ (i := 8) (N := some 88) (v := ?_) (a' := ?_) (bA 20 423) rfl rfl (any_of HT_.out (by kernel_rfl)) (fun _ _ _ h => h) (Or.inl ⟨by rfl, ?_⟩) ?_ ?_
                 rotate_left; (intro w'; go_simp; with_reducible rfl); rotate_left; (simp only [Act.put, sA, sB, sC, i64_w, i32_w]; rfl)
                 refine pure_ (i := 9) (N := some 89) (v := ?_) (a' := ?_) (bA 20 935) rfl rfl (any_of HT_.out (by kernel_rfl)) (fun _ _ _ h => h) (Or.inl ⟨by rfl, ?_⟩) ?_ ?_
                 rotate_left; (intro w'; go_simp; with_reducible rfl); rotate_left; (simp only [Act.put, sA, sB, sC, i64_w, i32_w]; rfl)
                 refine pure_ (i := 12) (N := some 92) (v := ?_) (a' := ?_) (bA 20 5031) rfl rfl (any_of HT_.out (by kernel_rfl)) (fun _ _ _ h => h) (Or.inl ⟨by rfl, ?_⟩) ?_ ?_
                 rotate_left; (intro w'; go_simp; with_reducible rfl); rotate_left; (simp only [Act.put, sA, sB, sC, i64_w, i32_w]; rfl)
                 refine pure_ (i := 16) (N := some 96) (v := ?_) (a' := ?_) (bA 20 70567) rfl rfl (any_of HT_.out (by kernel_rfl)) (fun _ _ _ h => h) (Or.inl ⟨by rfl, ?_⟩) ?_ ?_
                 rotate_left; (intro w'; go_simp; with_reducible rfl); rotate_left; (simp only [Act.put, sA, sB, sC, i64_w, i32_w]; rfl)
                 refine take_ (i := 3) (N := some 83) (v := ?_) (a' := ?_) (bA 20 70575) rfl rfl (take_ofW HT_.out HW_.out (by kernel_rfl)) (fun _ _ _ h => h) (Or.inl ⟨by rfl, ?_⟩) hHeld ?_ ?_
                 rotate_left; (rintro w' ⟨s0, s1, s2, s3⟩; go_simp; with_reducible rfl); rotate_left; (simp only [Act.put, sA, sB, sC, i64_w, i32_w]; rfl)
                 refine pure_ (i := 4) (N := some 84) (v := ?_) (a' := ?_) (bA 20 70591) rfl rfl (any_of HT_.out (by kernel_rfl)) (fun _ _ _ h => h) (Or.inl ⟨by rfl, ?_⟩) ?_ ?_
                 rotate_left; (intro w'; go_simp; with_reducible rfl); rotate_left; (simp only [Act.put, sA, sB, sC, i64_w, i32_w]; rfl)
                 refine pure_ (i := 6) (N := some 86) (v := ?_) (a' := ?_) (bA 20 70655) rfl rfl (any_of HT_.out (by kernel_rfl)) (fun _ _ _ h => h) (Or.inl ⟨by rfl, ?_⟩) ?_ ?_
                 rotate_left; (intro w'; go_simp; with_reducible rfl); rotate_left; (simp only [Act.put, sA, sB, sC, i64_w, i32_w]; rfl)
                 refine take_ (i := 10) (N := some 90) (v := ?_) (a' := ?_) (bA 20 71679) rfl rfl (take_ofW HT_.out HW_.out (by kernel_rfl)) (fun _ _ _ h => h) (Or.inl ⟨by rfl, ?_⟩) hHeld ?_ ?_
                 rotate_left; (rintro w' ⟨s0, s1, s2, s3⟩; go_simp; with_reducible rfl); rotate_left; (simp only [Act.put, sA, sB, sC, i64_w, i32_w]; rfl)
                 refine pure_ (i := 11) (N := some 91) (v := ?_) (a' := ?_) (bA 20 73727) rfl rfl (any_of HT_.out (by kernel_rfl)) (fun _ _ _ h => h) (Or.inl ⟨by rfl, ?_⟩) ?_ ?_
                 rotate_left; (intro w'; go_simp; with_reducible rfl); rotate_left; (simp only [Act.put, sA, sB, sC, i64_w, i32_w]; rfl)
                 refine pure_ (i := 13) (N := some 93) (v := ?_) (a' := ?_) (bA 20 81919) rfl rfl (any_of HT_.out (by kernel_rfl)) (fun _ _ _ h => h) (Or.inl ⟨by rfl, ?_⟩) ?_ ?_
                 rotate_left; (intro w'; go_simp; with_reducible rfl); rotate_left; (simp only [Act.put, sA, sB, sC, i64_w, i32_w]; rfl)
                 refine pure_ (i := 14) (N := some 94) (v := ?_) (a' := ?_) (bA 20 98303) rfl rfl (any_of HT_.out (by kernel_rfl)) (fun _ _ _ h => h) (Or.inl ⟨by rfl, ?_⟩) ?_ ?_
                 rotate_left; (intro w'; go_simp; with_reducible rfl); rotate_left; (simp only [Act.put, sA, sB, sC, i64_w, i32_w]; rfl)
                 refine take_ (i := 15) (N := some 95) (v := ?_) (a' := ?_) (bA 20 131071) rfl rfl (take_ofW HT_.out HW_.out (by kernel_rfl)) (fun _ _ _ h => h) (Or.inl ⟨by rfl, ?_⟩) hHeld ?_ ?_
                 rotate_left; (rintro w' ⟨s0, s1, s2, s3⟩; go_simp; with_reducible rfl); rotate_left; (simp only [Act.put, sA, sB, sC, i64_w, i32_w]; rfl)
                 refine pure_ (i := 17) (N := some 97) (v := ?_) (a' := ?_) (bA 20 262143) rfl rfl (any_of HT_.out (by kernel_rfl)) (fun _ _ _ h => h) (Or.inl ⟨by rfl, ?_⟩) ?_ ?_
                 rotate_left; (intro w'; go_simp; with_reducible rfl); rotate_left; (simp only [Act.put, sA, sB, sC, i64_w, i32_w]; rfl)
                 refine pure_ (i := 18) (N := some 98) (v := ?_) (a' := ?_) (bA 20 524287) rfl rfl (any_of HT_.out (by kernel_rfl)) (fun _ _ _ h => h) (Or.inl ⟨by rfl, ?_⟩) ?_ ?_
                 rotate_left; (intro w'; go_simp; with_reducible rfl); rotate_left; (simp only [Act.put, sA, sB, sC, i64_w, i32_w]; rfl)
                 refine last_ (i := 19) (N := none) (bA 20 1048575) rfl rfl (one_of HT_.out (by kernel_rfl)) (by decide) (fun K hK => ?_)
                 refine skip_ (w1 := ?_) (by rfl) rfl ?_ ?_
                 rotate_left
                 ·go_simp
                  rfl
                 refine hK.out _ _ ?_
                 clear hK K
                 refine done_ (done_of HT_.out (by kernel_rfl)) ?_
                 try go_wp2
                 go_roundg k3
                 case measure => have := HK1.out; have := HK2.out; have := HK3.out; omega
                 case rel => exact ⟨(fZ), (aU), (wrap64 (aE - 1)), (by first | rfl | (simp; done) | (simp only [← b8] <;> (first | rfl | simp)) | (simp [*]; done)), (by first | rfl | (simp; done) | (simp [*]; done)), H', ⟨by have := HK1.out; have := HK2.out; have := HK3.out; omega⟩, ⟨by exact rU <| HQ52.out⟩, ⟨by (with_reducible repeat (first | refine Ax ?_ _ | refine Ay ?_ | refine Ak ?_ _)); refine Bk ?_ (by have h_ := Kd.De ai.out aa.out (by decide); intro e_; exact h_ (by rw [e_]; rfl)) _; exact bU <| aa.out⟩, ⟨by repeat (first | (with_reducible first | exact HB.out | apply Ae | apply Ac | apply Ah | refine Ag ?_ GB48.out | refine Ag ?_ ay.out) | exact HB.out)⟩⟩
                ·rw [if_neg c46] at H
                 exact absurd H (by simp)
              ·rw [if_neg c36] at H
               exact absurd H (by simp)
             ·rw [if_neg c35] at H
              exact absurd H (by simp)
            ·rw [if_neg c32] at H
             have cR : decide (0 ≤ aE) = false := decide_eq_false c32
             clear c32
             have H' := Aa.mk H
             clear H
             go_wp2
             go_roundg k3
             case measure => have := HK1.out; have := HK2.out; have := HK3.out; omega
             case rel => exact ⟨(av), (wrap64 (au + 1)), (by first | rfl | (simp; done) | (simp [*]; done)), H', ⟨by have := HK1.out; have := HK2.out; have := HK3.out; omega⟩, ⟨by exact rU <| ai.out⟩, ⟨by exact bU <| aa.out⟩, ⟨by repeat (first | (with_reducible first | exact HB.out | apply Ae | apply Ac | apply Ah | refine Ag ?_ ay.out) | exact HB.out)⟩⟩
      ·rw [if_neg c12] at H
       have bV : decide (au < ac) = false := decide_eq_false c12
       clear c12
       by_cases c53 : 0 ≤ (ag.length : Int)
       ·rw [if_pos c53] at H
        have dK := eq_true c53
        have dL : decide (0 ≤ (ag.length : Int)) = true := decide_eq_true c53
        clear c53
        by_cases c54 : ((ag.length : Int) : Int).toNat ≤ 35184372088832
        ·rw [if_pos c54] at H
         have dM := eq_true c54
         have dN : decide (((ag.length : Int) : Int).toNat ≤ 35184372088832) = true := decide_eq_true c54
         clear c54
         obtain ⟨f7, de⟩ : ∃ y_ : List Int, y_ = (List.replicate ((ag.length : Int) : Int).toNat 0) := ⟨_, rfl⟩
         (try rw [Option.bind_some] at H); try rw [← de] at H
         have dO := Aa.mk de
         clear de
         have H' := Aa.mk H
         clear H
         have cA : wr.cell? ⟨af, 0, none⟩ = some (.int .i64 ac) := (Ad aa.out 0).trans rfl
         have cB : wr.cell? ⟨af, 1, none⟩ = some (.int .i64 ah) := (Ad aa.out 1).trans rfl
         have cC : wr.cell? ⟨af, 2, none⟩ = some (.slice az ag.length aw) := (Ad aa.out 2).trans rfl
         have cD := Af aa.out 0
         have cE := Af aa.out 1
         have cF := Af aa.out 2
         go_wp2_with (((with_reducible refine Bq (N := 102) rfl ?_); refine Kd.R_make (Kd.int .i64) _ 3 rfl (N := 102) rfl 31 _ _ rfl (ag.length : Int) rfl rfl Try.underlying31 (.int .i64 0) 8 info3 rfl (by decide) (by omega) 0 (ok := fun _ => True) (okp := fun _ => True) rfl (fun _ hk => hk) trivial (of_decide_eq_true (by with_reducible assumption)) (Nat.le_trans (Nat.mul_le_mul_right _ (of_decide_eq_true (by with_reducible assumption) : (ag.length : Int).toNat ≤ 35184372088832)) (by omega)) (Below.refl _ _) (Nat.le_refl _) ?_; intro v149 w56 ho57 hb hg_ hnew_; clear hg_ hnew_; (first | rw [← dO.out] at ho57 | (simp only [Int.reduceToNat] at ho57; rw [← dO.out] at ho57)); have n0_ := Aa.mk (Kd.B7 (by exact rU <| ai.out) (Kd.Ch ho57) hb); have n1_ := Aa.mk (Kd.Cc (Kd.Ci ho57 (Kd.Cy (by exact rU <| ai.out))) (An (by repeat (first | (with_reducible first | exact HB.out | apply Ae | apply Ac | apply Ah | refine Ag ?_ ay.out) | exact HB.out)))); have n2_ := Aa.mk (Ao (g := af) (o := .cells #[.int .i64 ac, .int .i64 ah, .slice az ag.length aw] 50 (0, 0)) (by exact bU <| aa.out) hb); have n3_ := Aa.mk (Au (by repeat (first | (with_reducible first | exact HB.out | apply Ae | apply Ac | apply Ah | refine Ag ?_ ay.out) | exact HB.out)) hb); clear ai; clear aa; clear HB; have ai := n0_; have eH := n1_; have aa := n2_; have HB := n3_; clear n0_ n1_ n2_ n3_; clear hb ho57))
         go_loopg [11] k1 (fun kq v11 w' => ∃ (aJ : List Int) (ab : Int), v11 = .int .i64 ab ∧ Aa (Ai.l3 kq ap aJ ab ac ah ag = some (r1, r2)) ∧ Aa (kq ≤ k1) ∧ Aa (Kd.R (Kd.int .i64) 3 w' w.heap.size (fun k_ => some k_ ≠ (v149 : Value).ownBlock) v138 ap) ∧ Aa (Kd.R (Kd.int .i64) 3 w' w.heap.size (fun k_ => some k_ ≠ (v138 : Value).ownBlock) v149 aJ) ∧ Aa (w'.heap[af]? = some (.cells #[.int .i64 ac, .int .i64 ah, (.slice az ag.length aw)] 50 (0, 0))) ∧ Aa (Below w.heap.size w w'))
         case atStart => exact ⟨(f7), (0), (by first | rfl | (simp; done) | (simp [*]; done)), H', ⟨Nat.le_refl _⟩, ⟨by exact rU <| Kd.Bj ai.out (fun _ hk => hk.2)⟩, ⟨by exact rU <| Kd.Bj eH.out (fun _ hk => hk.2)⟩, ⟨by exact bU <| aa.out⟩, ⟨by repeat (first | (with_reducible first | exact HB.out | apply Ae | apply Ac | apply Ah | refine Ag ?_ ay.out) | exact HB.out)⟩⟩
         case round =>
          clear H'
          try clear c1
          try clear p1
          try clear q1
          try clear hx1
          try clear c2
          try clear p2
          try clear q2
          try clear hx2
          try clear hf2
          try clear c3
          try clear q3
          try clear c4
          try clear p4
          try clear q4
          try clear hx4
          try clear hf4
          try clear c5
          try clear p6
          try clear c12
          try clear bV
          try clear p14
          try clear q14
          try clear hx14
          try clear c21
          try clear cL
          try clear p22
          try clear q22
          try clear hx22
          try clear hf22
          try clear c26
          try clear cP
          try clear p27
          try clear q27
          try clear hx27
          try clear hf27
          try clear c30
          try clear c32
          try clear cR
          try clear c35
          try clear dF
          try clear c36
          try clear dG
          try clear q37
          try clear c38
          try clear c39
          try clear dI
          try clear p41
          try clear q41
          try clear hx41
          try clear hf41
          try clear c46
          try clear dJ
          try clear p48
          try clear q48
          try clear hx48
          try clear hf48
          try clear c53
          try clear dK
          try clear dL
          try clear c54
          try clear dM
          try clear dN
          try clear aV
          try clear aW
          try clear aX
          try clear bw
          try clear bz
          try clear bB
          try clear bF
          try clear bG
          try clear bH
          try clear bL
          try clear bM
          try clear bN
          try clear b9
          try clear cd
          try clear ce
          try clear cr
          try clear ct
          try clear cu
          try clear cA
          try clear cB
          try clear cC
          try clear bb
          try clear bc
          try clear bd
          try clear bh
          try clear bj
          try clear bk
          try clear aY
          try clear aZ
          try clear ba
          try clear bC
          try clear bD
          try clear bE
          try clear bI
          try clear bJ
          try clear bK
          try clear bO
          try clear bP
          try clear bQ
          try clear cg
          try clear ck
          try clear cp
          try clear cx
          try clear cy
          try clear cz
          try clear cD
          try clear cE
          try clear cF
          try clear be
          try clear bf
          try clear bg
          try clear bl
          try clear bm
          try clear bo
          try clear aA
          try clear aC
          try clear aN
          try clear aQ
          try clear bY
          try clear bZ
          try clear b3
          try clear b4
          try clear bt
          try clear bR
          try clear cY
          try clear dc
          try clear p2
          try clear p22
          try clear p27
          try clear p41
          try clear p48
          try clear bu
          try clear bS
          try clear cZ
          try clear dd
          try clear q22
          try clear q27
          try clear q41
          try clear q48
          obtain ⟨aJ, ab, rfl, HA, HK2, ai, am, aa, HB⟩ := hrel
          cases gk with
          | zero => exact absurd HA.out (by simp [Ai.l3])
          | succ k2 =>
           have H := HA.out
           clear HA
           simp only [Ai.l3] at H
           by_cases c58 : ab < (ag.length : Int)
           ·rw [if_pos c58] at H
            have dP : decide (ab < (ag.length : Int)) = true := decide_eq_true c58
            clear c58
            by_cases c59 : ac = 0
            ·rw [if_pos c59] at H
             exact absurd H (by simp)
            ·rw [if_neg c59] at H
             have eI : (ac == 0) = false := beq_eq_false_iff_ne.mpr c59
             have eJ : (ac != 0) = true := bne_iff_ne.mpr c59
             by_cases c60 : 0 ≤ ab
             ·rw [if_pos c60] at H
              have eK : decide (0 ≤ ab) = true := decide_eq_true c60
              clear c60
              by_cases c61 : ab < (aJ.length : Int)
              ·rw [if_pos c61] at H
               have eL : decide (ab < (aJ.length : Int)) = true := decide_eq_true c61
               clear c61
               obtain ⟨eM, df⟩ : ∃ y_ : List Int, y_ = (aJ.set (ab : Int).toNat (-1)) := ⟨_, rfl⟩
               (try rw [Option.bind_some] at H); try rw [← df] at H
               have eN := Aa.mk df
               clear df
               have H' := Aa.mk H
               clear H
               have dq : wr.cell? ⟨af, 0, none⟩ = some (.int .i64 ac) := (Ad aa.out 0).trans rfl
               have dr : wr.cell? ⟨af, 1, none⟩ = some (.int .i64 ah) := (Ad aa.out 1).trans rfl
               have dt : wr.cell? ⟨af, 2, none⟩ = some (.slice az ag.length aw) := (Ad aa.out 2).trans rfl
               have du := Af aa.out 0
               have dv := Af aa.out 1
               have dw := Af aa.out 2
               try go_wp2
               have n0_ := Aa.mk (Kd.Dg ai.out)
               have n1_ := Aa.mk (Kd.Dg am.out)
               have n2_ := Aa.mk (Ay aa.out)
               have n3_ := Aa.mk (Ah HB.out)
               clear ai
               clear am
               clear aa
               clear HB
               have ai := n0_
               have am := n1_
               have aa := n2_
               have HB := n3_
               clear n0_ n1_ n2_ n3_
               refine start_ (n := 10) (S := fun w' => w'.cell? ⟨af, 0, none⟩ = some (.int .i64 ac) ∧ w'.cell? ⟨af, 1, none⟩ = some (.int .i64 ah) ∧ w'.cell? ⟨af, 2, none⟩ = some (.slice az ag.length aw)) (ds := []) #[false, false, false, false, false, false, false, false, false, false] (by kernel_rfl) rfl rfl ⟨(Ad aa.out 0).trans rfl, (Ad aa.out 1).trans rfl, (Ad aa.out 2).trans rfl⟩ (fun hHeld => ?_); refine with_tabW Ai.tab28 Ai.bits28 (fun HT_ HW_ => ?_)
               generalize wr.drew = w64 at ai am aa HB hHeld ⊢
               refine pure_ (i := 0) (N := some 110) (v := ?_) (a' := ?_) (bA 10 1) rfl rfl (any_of HT_.out (by kernel_rfl)) (fun _ _ _ h => h) (Or.inl ⟨by rfl, ?_⟩) ?_ ?_
               rotate_left; (intro w'; go_simp; with_reducible rfl); rotate_left; (simp only [Act.put, sA, sB, sC, i64_w, i32_w]; rfl)
               refine pure_ (i := 1) (N := some 111) (v := ?_) (a' := ?_) (bA 10 3) rfl rfl (any_of HT_.out (by kernel_rfl)) (fun _ _ _ h => h) (Or.inl ⟨by rfl, ?_⟩) ?_ ?_
               rotate_left; (intro w'; go_simp; with_reducible rfl); rotate_left; (simp only [Act.put, sA, sB, sC, i64_w, i32_w]; rfl)
               refine pure_ (i := 4) (N := some 114) (v := ?_) (a' := ?_) (bA 10 19) rfl rfl (any_of HT_.out (by kernel_rfl)) (fun _ _ _ h => h) (Or.inl ⟨by rfl, ?_⟩) ?_ ?_
               rotate_left; (intro w'; go_simp; with_reducible rfl); rotate_left; (simp only [Act.put, sA, sB, sC, i64_w, i32_w]; rfl)
               refine pure_ (i := 5) (N := some 115) (v := ?_) (a' := ?_) (bA 10 51) rfl rfl (any_of HT_.out (by kernel_rfl)) (fun _ _ _ h => h) (Or.inl ⟨by rfl, ?_⟩) ?_ ?_
               rotate_left; (intro w'; go_simp; with_reducible rfl); rotate_left; (simp only [Act.put, sA, sB, sC, i64_w, i32_w]; rfl)
               refine take_ (i := 2) (N := some 112) (v := ?_) (a' := ?_) (bA 10 55) rfl rfl (take_ofW HT_.out HW_.out (by kernel_rfl)) (fun _ _ _ h => h) (Or.inl ⟨by rfl, ?_⟩) hHeld ?_ ?_
               rotate_left; (rintro w' ⟨s0, s1, s2⟩; go_simp; with_reducible rfl); rotate_left; (simp only [Act.put, sA, sB, sC, i64_w, i32_w]; rfl)
               refine pure_ (i := 3) (N := some 113) (v := ?_) (a' := ?_) (bA 10 63) rfl rfl (any_of HT_.out (by kernel_rfl)) (fun _ _ _ h => h) (Or.inl ⟨by rfl, ?_⟩) ?_ ?_
               rotate_left; (intro w'; go_simp; with_reducible rfl); rotate_left; (simp only [Act.put, sA, sB, sC, i64_w, i32_w]; rfl)
               refine pure_ (i := 8) (N := some 12) (v := ?_) (a' := ?_) (bA 10 319) rfl rfl (any_of HT_.out (by kernel_rfl)) (fun _ _ _ h => h) (Or.inl ⟨by rfl, ?_⟩) ?_ ?_
               rotate_left; (intro w'; go_simp; with_reducible rfl); rotate_left; (simp only [Act.put, sA, sB, sC, i64_w, i32_w]; rfl)
               refine take_ (i := 6) (N := some 116) (v := ?_) (a' := ?_) (bA 10 383) rfl rfl (take_ofW HT_.out HW_.out (by kernel_rfl)) (fun _ _ _ h => h) (Or.inl ⟨by rfl, ?_⟩) hHeld ?_ ?_
               rotate_left; (rintro w' ⟨s0, s1, s2⟩; go_simp; with_reducible rfl); rotate_left; (simp only [Act.put, sA, sB, sC, i64_w, i32_w]; rfl)
               refine pure_ (i := 7) (N := some 117) (v := ?_) (a' := ?_) (bA 10 511) rfl rfl (any_of HT_.out (by kernel_rfl)) (fun _ _ _ h => h) (Or.inl ⟨by rfl, ?_⟩) ?_ ?_
               rotate_left; (intro w'; go_simp; with_reducible rfl); rotate_left; (simp only [Act.put, sA, sB, sC, i64_w, i32_w]; rfl)
               refine pure_ (i := 9) (N := some 13) (v := ?_) (a' := ?_) (bA 10 1023) rfl rfl (any_of HT_.out (by kernel_rfl)) (fun _ _ _ h => h) (Or.inl ⟨by rfl, ?_⟩) ?_ ?_
               rotate_left; (intro w'; go_simp; with_reducible rfl); rotate_left; (simp only [Act.put, sA, sB, sC, i64_w, i32_w]; rfl)
               refine done_ (done_of HT_.out (by kernel_rfl)) ?_
               have p62 : 0 ≤ (ab : Int) := of_decide_eq_true (by with_reducible assumption)
               have q62 : (ab : Int) < ((aJ.length : Int) : Int) := of_decide_eq_true (by with_reducible assumption)
               obtain ⟨go62, bq, eO, eP, gl62, cl62, HG62⟩ := Kd.Dd am.out (by omega)
               (first | cases eO | (injection eO with ea_ en_ ec_; (first | subst ea_ | (injection ea_ with ea_; subst ea_)); subst ec_; clear en_))
               have GB62 := Aa.mk eP
               have GG62 := Aa.mk HG62
               clear eP gl62 HG62
               obtain ⟨d5, f8⟩ := Kd.Cx 0 am.out (ab : Int) p62 q62
               replace p62 := eq_true p62
               replace q62 := eq_true q62
               obtain ⟨hy65_, hz65_⟩ := Kd.Cx 0 am.out (ab : Int) (of_decide_eq_true (by with_reducible assumption)) (of_decide_eq_true (by with_reducible assumption))
               have d6 := Kd.Db am.out (ab : Int) (-1)
               try go_wp2_with (((with_reducible refine Cq (t := 3) (p := 120) rfl ?_); refine store_event (t := 3) (p := 120) (v := ?vo_w66) (w1 := (w64.setCell ⟨go62, (ab : Int).toNat, none⟩ (.int .i64 (-1)))) ?hg ?ho ?hn ?hr ?_; (case ho => rfl); (case hg => rfl); (case hn => rfl); (case hr => first | (go_simp; done) | (go_simp; rfl)); intro w66 hw; have hg : w64.grownBy w66 (some go62) := (by rw [hw]; exact d6.2); have hp_ : Kd.R (Kd.int .i64) 3 w66 w.heap.size (fun k_ => some k_ ≠ (v138 : Value).ownBlock) (.slice (some ⟨go62, 0, none⟩) aJ.length bq) eM := (by rw [hw, eN.out]; exact d6.1); clear d6; have n0_ := Aa.mk (Kd.C5 (v := (.slice (some ⟨go62, 0, none⟩) aJ.length bq)) (v1 := (.slice (some ⟨go62, 0, none⟩) aJ.length bq)) (ok := (fun _ => True)) (by exact rU <| Kd.Bj ai.out (fun _ hk => ⟨trivial, hk⟩)) hg (.inl rfl)); have n1_ := Aa.mk (hp_); have n2_ := Aa.mk (Bu (g := af) (o := .cells #[.int .i64 ac, .int .i64 ah, .slice az ag.length aw] 50 (0, 0)) (by exact bU <| aa.out) hg (Kd.De am.out aa.out (by decide))); have n3_ := Aa.mk ((by rw [hw]; exact Ag (HB.out) GB62.out : Below w.heap.size w w66)); clear ai; clear am; clear aa; clear HB; have ai := n0_; have am := n1_; have aa := n2_; have HB := n3_; clear n0_ n1_ n2_ n3_; clear hg hw hp_))
               go_loopg [14] k2 (fun kq v14 w' => ∃ (an : List Int) (ak : Int), v14 = .int .i64 ak ∧ Aa (Ai.l4 kq ap an ab (Int.tmod ab ac) (wrap64 (Int.tdiv ab ac)) ak ac ah ag = some (r1, r2)) ∧ Aa (kq ≤ k2) ∧ Aa (Kd.R (Kd.int .i64) 3 w' w.heap.size (fun k_ => some k_ ≠ ((.slice (some ⟨go62, 0, none⟩) aJ.length bq) : Value).ownBlock) v138 ap) ∧ Aa (Kd.R (Kd.int .i64) 3 w' w.heap.size (fun k_ => some k_ ≠ (v138 : Value).ownBlock) (.slice (some ⟨go62, 0, none⟩) aJ.length bq) an) ∧ Aa (w'.heap[af]? = some (.cells #[.int .i64 ac, .int .i64 ah, (.slice az ag.length aw)] 50 (0, 0))) ∧ Aa (Below w.heap.size w w'))
               case atStart => exact ⟨(eM), (0), (by first | rfl | (simp; done) | (simp [*]; done)), H', ⟨Nat.le_refl _⟩, ⟨by exact rU <| Kd.Bj ai.out (fun _ hk => hk.2)⟩, ⟨by exact rU <| am.out⟩, ⟨by exact bU <| aa.out⟩, ⟨by repeat (first | (with_reducible first | exact HB.out | apply Ae | apply Ac | apply Ah | refine Ag ?_ ay.out) | exact HB.out)⟩⟩
               case round =>
                clear H'
                try clear c1
                try clear p1
                try clear q1
                try clear hx1
                try clear c2
                try clear p2
                try clear q2
                try clear hx2
                try clear hf2
                try clear c3
                try clear q3
                try clear c4
                try clear p4
                try clear q4
                try clear hx4
                try clear hf4
                try clear c5
                try clear c6
                try clear p6
                try clear q6
                try clear hx6
                try clear hf6
                try clear c12
                try clear bV
                try clear p14
                try clear q14
                try clear hx14
                try clear c21
                try clear cL
                try clear p22
                try clear q22
                try clear hx22
                try clear hf22
                try clear c26
                try clear cP
                try clear p27
                try clear q27
                try clear hx27
                try clear hf27
                try clear c30
                try clear c32
                try clear cR
                try clear c35
                try clear dF
                try clear c36
                try clear dG
                try clear q37
                try clear c38
                try clear c39
                try clear dI
                try clear p41
                try clear q41
                try clear hx41
                try clear hf41
                try clear c46
                try clear dJ
                try clear p48
                try clear q48
                try clear hx48
                try clear hf48
                try clear c53
                try clear dK
                try clear dL
                try clear c54
                try clear dM
                try clear dN
                try clear c58
                try clear dP
                try clear c59
                try clear eI
                try clear eJ
                try clear c60
                try clear eK
                try clear c61
                try clear eL
                try clear p62
                try clear q62
                try clear hx62
                try clear hf62
                try clear p64
                try clear aV
                try clear aW
                try clear aX
                try clear bw
                try clear bz
                try clear bB
                try clear bF
                try clear bG
                try clear bH
                try clear bL
                try clear bM
                try clear bN
                try clear b9
                try clear cd
                try clear ce
                try clear cr
                try clear ct
                try clear cu
                try clear cA
                try clear cB
                try clear cC
                try clear dq
                try clear dr
                try clear dt
                try clear bb
                try clear bc
                try clear bd
                try clear bh
                try clear bj
                try clear bk
                try clear aY
                try clear aZ
                try clear ba
                try clear bC
                try clear bD
                try clear bE
                try clear bI
                try clear bJ
                try clear bK
                try clear bO
                try clear bP
                try clear bQ
                try clear cg
                try clear ck
                try clear cp
                try clear cx
                try clear cy
                try clear cz
                try clear cD
                try clear cE
                try clear cF
                try clear du
                try clear dv
                try clear dw
                try clear be
                try clear bf
                try clear bg
                try clear bl
                try clear bm
                try clear bo
                try clear aA
                try clear aC
                try clear aN
                try clear aQ
                try clear bY
                try clear bZ
                try clear b3
                try clear b4
                try clear d5
                try clear p1
                try clear p14
                try clear bt
                try clear bR
                try clear cY
                try clear dc
                try clear p2
                try clear p22
                try clear p27
                try clear p4
                try clear p41
                try clear p48
                try clear p6
                try clear p62
                try clear q1
                try clear q14
                try clear bu
                try clear bS
                try clear cZ
                try clear dd
                try clear q2
                try clear q22
                try clear q27
                try clear q3
                try clear q37
                try clear q4
                try clear q41
                try clear q48
                try clear q62
                obtain ⟨an, ak, rfl, HA, HK3, ai, am, aa, HB⟩ := hrel
                have aq := (Kd.Ba am.out).1
                rw [aq] at am
                (try simp only [aq])
                (try simp only [aq] at aa)
                (try simp only [aq] at ai)
                cases gk with
                | zero => exact absurd HA.out (by simp [Ai.l4])
                | succ k3 =>
                 have H := HA.out
                 clear HA
                 simp only [Ai.l4] at H
                 by_cases c67 : ak < ac
                 ·rw [if_pos c67] at H
                  have eQ : decide (ak < ac) = true := decide_eq_true c67
                  clear c67
                  obtain ⟨ar, dg⟩ : ∃ j_ : Int, (wrap64 ((wrap64 ((wrap64 (Int.tdiv ab ac)) * ac)) + ak)) = j_ := ⟨_, rfl⟩
                  replace H : (if 0 ≤ (ar) then (if (ar) < (ap.length : Int) then (if (rd ap (ar)) = 1073741824 then (Ai.l4 k3 ap an ab (Int.tmod ab ac) (wrap64 (Int.tdiv ab ac)) (wrap64 (ak + 1)) ac ah ag) else (if 0 ≤ ab then (if ab < (an.length : Int) then (if (rd an ab) < 0 then (Ai.l4 k3 ap (an.set (ab : Int).toNat (wrap64 ((wrap64 ((wrap64 (ak - (Int.tmod ab ac))) * (wrap64 (ak - (Int.tmod ab ac))))) + (wrap64 ((rd ap (ar)) * (rd ap (ar))))))) ab (Int.tmod ab ac) (wrap64 (Int.tdiv ab ac)) (wrap64 (ak + 1)) ac ah ag) else (if (wrap64 ((wrap64 ((wrap64 (ak - (Int.tmod ab ac))) * (wrap64 (ak - (Int.tmod ab ac))))) + (wrap64 ((rd ap (ar)) * (rd ap (ar)))))) < (rd an ab) then (Ai.l4 k3 ap (an.set (ab : Int).toNat (wrap64 ((wrap64 ((wrap64 (ak - (Int.tmod ab ac))) * (wrap64 (ak - (Int.tmod ab ac))))) + (wrap64 ((rd ap (ar)) * (rd ap (ar))))))) ab (Int.tmod ab ac) (wrap64 (Int.tdiv ab ac)) (wrap64 (ak + 1)) ac ah ag) else (Ai.l4 k3 ap an ab (Int.tmod ab ac) (wrap64 (Int.tdiv ab ac)) (wrap64 (ak + 1)) ac ah ag))) else (none)) else (none))) else (none)) else (none)) = some (r1, r2) := by first | (rw [dg] at H; exact H) | (simp only [dg] at H ⊢; exact H)
                  have hji68w : (IntKind.i64.wrap ((wrap64 ((wrap64 (Int.tdiv ab ac)) * ac)) + ak)) = ar := (i64_w _).trans dg
                  by_cases c69 : 0 ≤ (ar)
                  ·rw [if_pos c69] at H
                   have gq : decide (0 ≤ (ar)) = true := decide_eq_true c69
                   clear c69
                   by_cases c70 : (ar) < (ap.length : Int)
                   ·rw [if_pos c70] at H
                    have gt : decide ((ar) < (ap.length : Int)) = true := decide_eq_true c70
                    clear c70
                    by_cases c71 : (rd ap (ar)) = 1073741824
                    ·rw [if_pos c71] at H
                     have eR : ((rd ap (ar)) == 1073741824) = true := beq_iff_eq.mpr c71
                     have eS : ((rd ap (ar)) != 1073741824) = false := bne_eq_false_iff_eq.mpr c71
                     clear c71
                     have H' := Aa.mk H
                     clear H
                     have eZ : wr.cell? ⟨af, 0, none⟩ = some (.int .i64 ac) := (Ad aa.out 0).trans rfl
                     have e7 : wr.cell? ⟨af, 1, none⟩ = some (.int .i64 ah) := (Ad aa.out 1).trans rfl
                     have e8 : wr.cell? ⟨af, 2, none⟩ = some (.slice az ag.length aw) := (Ad aa.out 2).trans rfl
                     have fb := Af aa.out 0
                     have fc := Af aa.out 1
                     have fd := Af aa.out 2
                     obtain ⟨gC, gD, f9⟩ := Kd.B0 ai.out
                     subst f9
                     have aK : 0 ≤ ((ar) : Int) := of_decide_eq_true (by with_reducible assumption)
                     have aM : (ar) < (ap.length : Int) := of_decide_eq_true (by with_reducible assumption)
                     obtain ⟨bW, e152, bT⟩ := Kd.at_int (Kd.Ba ai.out).2.2 (ar) aK aM
                     cases e152
                     replace aK := eq_true aK
                     replace aM := eq_true aM
                     go_wp2
                     (try simp only [← aq])
                     go_roundg k3
                     case measure => have := HK1.out; have := HK2.out; have := HK3.out; omega
                     case rel => exact ⟨(an), (wrap64 (ak + 1)), (by first | rfl | (simp; done) | (simp [*]; done)), H', ⟨by have := HK1.out; have := HK2.out; have := HK3.out; omega⟩, ⟨by (try simp only [aq]); exact rU <| ai.out⟩, ⟨by (try simp only [aq]); exact rU <| am.out⟩, ⟨by (try simp only [aq]); exact bU <| aa.out⟩, ⟨by repeat (first | (with_reducible first | exact HB.out | apply Ae | apply Ac | apply Ah | refine Ag ?_ ay.out) | exact HB.out)⟩⟩
                    ·rw [if_neg c71] at H
                     have eR : ((rd ap (ar)) == 1073741824) = false := beq_eq_false_iff_ne.mpr c71
                     have eS : ((rd ap (ar)) != 1073741824) = true := bne_iff_ne.mpr c71
                     by_cases c74 : 0 ≤ ab
                     ·rw [if_pos c74] at H
                      have gu : decide (0 ≤ ab) = true := decide_eq_true c74
                      clear c74
                      by_cases c75 : ab < (an.length : Int)
                      ·rw [if_pos c75] at H
                       have gv : decide (ab < (an.length : Int)) = true := decide_eq_true c75
                       clear c75
                       by_cases c76 : (rd an ab) < 0
                       ·rw [if_pos c76] at H
                        have eT : decide ((rd an ab) < 0) = true := decide_eq_true c76
                        clear c76
                        obtain ⟨eU, dh⟩ : ∃ y_ : List Int, y_ = (an.set (ab : Int).toNat (wrap64 ((wrap64 ((wrap64 (ak - (Int.tmod ab ac))) * (wrap64 (ak - (Int.tmod ab ac))))) + (wrap64 ((rd ap (ar)) * (rd ap (ar))))))) := ⟨_, rfl⟩
                        (try rw [Option.bind_some] at H); try rw [← dh] at H
                        have eV := Aa.mk dh
                        clear dh
                        have H' := Aa.mk H
                        clear H
                        have fe : wr.cell? ⟨af, 0, none⟩ = some (.int .i64 ac) := (Ad aa.out 0).trans rfl
                        have ff : wr.cell? ⟨af, 1, none⟩ = some (.int .i64 ah) := (Ad aa.out 1).trans rfl
                        have fg : wr.cell? ⟨af, 2, none⟩ = some (.slice az ag.length aw) := (Ad aa.out 2).trans rfl
                        have fh := Af aa.out 0
                        have fi := Af aa.out 1
                        have fj := Af aa.out 2
                        obtain ⟨gE, ga, gb⟩ := Kd.B0 ai.out
                        subst gb
                        have aK : 0 ≤ ((ar) : Int) := of_decide_eq_true (by with_reducible assumption)
                        have aM : (ar) < (ap.length : Int) := of_decide_eq_true (by with_reducible assumption)
                        obtain ⟨bW, e152, bT⟩ := Kd.at_int (Kd.Ba ai.out).2.2 (ar) aK aM
                        cases e152
                        replace aK := eq_true aK
                        replace aM := eq_true aM
                        have br : 0 ≤ (ab : Int) := of_decide_eq_true (by with_reducible assumption)
                        have bs : ab < (an.length : Int) := of_decide_eq_true (by with_reducible assumption)
                        obtain ⟨bX, e153, aD⟩ := Kd.at_int (Kd.Ba am.out).2.2 ab br bs
                        obtain rfl : (⟨go62, 0, none⟩ : Addr) = bX := (by injection e153)
                        (first | simp only [add_plain] at aD | simp only [add_at] at aD | simp only [Addr.add, Nat.zero_add] at aD | skip)
                        replace br := eq_true br
                        replace bs := eq_true bs
                        have p77 : 0 ≤ (ab : Int) := of_decide_eq_true (by with_reducible assumption)
                        have q77 : (ab : Int) < ((an.length : Int) : Int) := of_decide_eq_true (by with_reducible assumption)
                        obtain ⟨gc, ge⟩ := Kd.Cx 0 am.out (ab : Int) p77 q77
                        replace p77 := eq_true p77
                        replace q77 := eq_true q77
                        have d7 := Kd.Db am.out (ab : Int) (wrap64 ((wrap64 ((wrap64 (ak - (Int.tmod ab ac))) * (wrap64 (ak - (Int.tmod ab ac))))) + (wrap64 ((rd ap (ar)) * (rd ap (ar))))))
                        go_wp2_with (((with_reducible refine Cq (t := 3) (p := 165) rfl ?_); refine store_event (t := 3) (p := 165) (v := ?vo_w81) (w1 := (wr.setCell ⟨go62, (ab : Int).toNat, none⟩ (.int .i64 (wrap64 ((wrap64 ((wrap64 (ak - (Int.tmod ab ac))) * (wrap64 (ak - (Int.tmod ab ac))))) + (wrap64 ((rd ap (ar)) * (rd ap (ar))))))))) ?hg ?ho ?hn ?hr ?_; (case ho => rfl); (case hg => rfl); (case hn => rfl); (case hr => first | (go_simp; done) | (go_simp; rfl)); intro w81 hw; have hg : wr.grownBy w81 (some go62) := (by rw [hw]; exact d7.2); have hp_ : Kd.R (Kd.int .i64) 3 w81 w.heap.size (fun k_ => some k_ ≠ (.slice (some bW) ap.length ga : Value).ownBlock) (.slice (some ⟨go62, 0, none⟩) an.length bq) eU := (by rw [hw, eV.out]; exact d7.1); clear d7; have n0_ := Aa.mk (Kd.C5 (v := (.slice (some ⟨go62, 0, none⟩) an.length bq)) (v1 := (.slice (some ⟨go62, 0, none⟩) an.length bq)) (ok := (fun _ => True)) (by exact rU <| Kd.Bj ai.out (fun _ hk => ⟨trivial, hk⟩)) hg (.inl rfl)); have n1_ := Aa.mk (hp_); have n2_ := Aa.mk (Bu (g := af) (o := .cells #[.int .i64 ac, .int .i64 ah, .slice az ag.length aw] 50 (0, 0)) (by exact bU <| aa.out) hg (Kd.De am.out aa.out (by decide))); have n3_ := Aa.mk ((by rw [hw]; exact Ag (HB.out) GB62.out : Below w.heap.size w w81)); clear ai; clear am; clear aa; clear HB; have ai := n0_; have am := n1_; have aa := n2_; have HB := n3_; clear n0_ n1_ n2_ n3_; clear hg hw hp_))
                        (try simp only [← aq])
                        go_roundg k3
                        case measure => have := HK1.out; have := HK2.out; have := HK3.out; omega
                        case rel => exact ⟨(eU), (wrap64 (ak + 1)), (by first | rfl | (simp; done) | (simp [*]; done)), H', ⟨by have := HK1.out; have := HK2.out; have := HK3.out; omega⟩, ⟨by (try simp only [aq]); exact rU <| Kd.Bj ai.out (fun _ hk => hk.2)⟩, ⟨by (try simp only [aq]); exact rU <| am.out⟩, ⟨by (try simp only [aq]); exact bU <| aa.out⟩, ⟨by repeat (first | (with_reducible first | exact HB.out | apply Ae | apply Ac | apply Ah | refine Ag ?_ ay.out) | exact HB.out)⟩⟩
                       ·rw [if_neg c76] at H
                        have eT : decide ((rd an ab) < 0) = false := decide_eq_false c76
                        clear c76
                        by_cases c82 : (wrap64 ((wrap64 ((wrap64 (ak - (Int.tmod ab ac))) * (wrap64 (ak - (Int.tmod ab ac))))) + (wrap64 ((rd ap (ar)) * (rd ap (ar)))))) < (rd an ab)
                        ·rw [if_pos c82] at H
                         have eW : decide ((wrap64 ((wrap64 ((wrap64 (ak - (Int.tmod ab ac))) * (wrap64 (ak - (Int.tmod ab ac))))) + (wrap64 ((rd ap (ar)) * (rd ap (ar)))))) < (rd an ab)) = true := decide_eq_true c82
                         clear c82
                         obtain ⟨eX, di⟩ : ∃ y_ : List Int, y_ = (an.set (ab : Int).toNat (wrap64 ((wrap64 ((wrap64 (ak - (Int.tmod ab ac))) * (wrap64 (ak - (Int.tmod ab ac))))) + (wrap64 ((rd ap (ar)) * (rd ap (ar))))))) := ⟨_, rfl⟩
                         (try rw [Option.bind_some] at H); try rw [← di] at H
                         have eY := Aa.mk di
                         clear di
                         have H' := Aa.mk H
                         clear H
                         have fk : wr.cell? ⟨af, 0, none⟩ = some (.int .i64 ac) := (Ad aa.out 0).trans rfl
                         have fl : wr.cell? ⟨af, 1, none⟩ = some (.int .i64 ah) := (Ad aa.out 1).trans rfl
                         have fm : wr.cell? ⟨af, 2, none⟩ = some (.slice az ag.length aw) := (Ad aa.out 2).trans rfl
                         have fo := Af aa.out 0
                         have fp := Af aa.out 1
                         have fq := Af aa.out 2
                         obtain ⟨gF, gg, gh⟩ := Kd.B0 ai.out
                         subst gh
                         have aK : 0 ≤ ((ar) : Int) := of_decide_eq_true (by with_reducible assumption)
                         have aM : (ar) < (ap.length : Int) := of_decide_eq_true (by with_reducible assumption)
                         obtain ⟨bW, e152, bT⟩ := Kd.at_int (Kd.Ba ai.out).2.2 (ar) aK aM
                         cases e152
                         replace aK := eq_true aK
                         replace aM := eq_true aM
                         have br : 0 ≤ (ab : Int) := of_decide_eq_true (by with_reducible assumption)
                         have bs : ab < (an.length : Int) := of_decide_eq_true (by with_reducible assumption)
                         obtain ⟨bX, e153, aD⟩ := Kd.at_int (Kd.Ba am.out).2.2 ab br bs
                         obtain rfl : (⟨go62, 0, none⟩ : Addr) = bX := (by injection e153)
                         (first | simp only [add_plain] at aD | simp only [add_at] at aD | simp only [Addr.add, Nat.zero_add] at aD | skip)
                         replace br := eq_true br
                         replace bs := eq_true bs
                         have b5 : 0 ≤ (ab : Int) := of_decide_eq_true (by with_reducible assumption)
                         have b6 : ab < (an.length : Int) := of_decide_eq_true (by with_reducible assumption)
                         obtain ⟨dj, e155, aI⟩ := Kd.at_int (Kd.Ba am.out).2.2 ab b5 b6
                         obtain rfl : (⟨go62, 0, none⟩ : Addr) = dj := (by injection e155)
                         (first | simp only [add_plain] at aI | simp only [add_at] at aI | simp only [Addr.add, Nat.zero_add] at aI | skip)
                         replace b5 := eq_true b5
                         replace b6 := eq_true b6
                         have p83 : 0 ≤ (ab : Int) := of_decide_eq_true (by with_reducible assumption)
                         have q83 : (ab : Int) < ((an.length : Int) : Int) := of_decide_eq_true (by with_reducible assumption)
                         obtain ⟨gi, gj⟩ := Kd.Cx 0 am.out (ab : Int) p83 q83
                         replace p83 := eq_true p83
                         replace q83 := eq_true q83
                         have d8 := Kd.Db am.out (ab : Int) (wrap64 ((wrap64 ((wrap64 (ak - (Int.tmod ab ac))) * (wrap64 (ak - (Int.tmod ab ac))))) + (wrap64 ((rd ap (ar)) * (rd ap (ar))))))
                         go_wp2_with (((with_reducible refine Cq (t := 3) (p := 165) rfl ?_); refine store_event (t := 3) (p := 165) (v := ?vo_w87) (w1 := (wr.setCell ⟨go62, (ab : Int).toNat, none⟩ (.int .i64 (wrap64 ((wrap64 ((wrap64 (ak - (Int.tmod ab ac))) * (wrap64 (ak - (Int.tmod ab ac))))) + (wrap64 ((rd ap (ar)) * (rd ap (ar))))))))) ?hg ?ho ?hn ?hr ?_; (case ho => rfl); (case hg => rfl); (case hn => rfl); (case hr => first | (go_simp; done) | (go_simp; rfl)); intro w87 hw; have hg : wr.grownBy w87 (some go62) := (by rw [hw]; exact d8.2); have hp_ : Kd.R (Kd.int .i64) 3 w87 w.heap.size (fun k_ => some k_ ≠ (.slice (some bW) ap.length gg : Value).ownBlock) (.slice (some ⟨go62, 0, none⟩) an.length bq) eX := (by rw [hw, eY.out]; exact d8.1); clear d8; have n0_ := Aa.mk (Kd.C5 (v := (.slice (some ⟨go62, 0, none⟩) an.length bq)) (v1 := (.slice (some ⟨go62, 0, none⟩) an.length bq)) (ok := (fun _ => True)) (by exact rU <| Kd.Bj ai.out (fun _ hk => ⟨trivial, hk⟩)) hg (.inl rfl)); have n1_ := Aa.mk (hp_); have n2_ := Aa.mk (Bu (g := af) (o := .cells #[.int .i64 ac, .int .i64 ah, .slice az ag.length aw] 50 (0, 0)) (by exact bU <| aa.out) hg (Kd.De am.out aa.out (by decide))); have n3_ := Aa.mk ((by rw [hw]; exact Ag (HB.out) GB62.out : Below w.heap.size w w87)); clear ai; clear am; clear aa; clear HB; have ai := n0_; have am := n1_; have aa := n2_; have HB := n3_; clear n0_ n1_ n2_ n3_; clear hg hw hp_))
                         (try simp only [← aq])
                         go_roundg k3
                         case measure => have := HK1.out; have := HK2.out; have := HK3.out; omega
                         case rel => exact ⟨(eX), (wrap64 (ak + 1)), (by first | rfl | (simp; done) | (simp [*]; done)), H', ⟨by have := HK1.out; have := HK2.out; have := HK3.out; omega⟩, ⟨by (try simp only [aq]); exact rU <| Kd.Bj ai.out (fun _ hk => hk.2)⟩, ⟨by (try simp only [aq]); exact rU <| am.out⟩, ⟨by (try simp only [aq]); exact bU <| aa.out⟩, ⟨by repeat (first | (with_reducible first | exact HB.out | apply Ae | apply Ac | apply Ah | refine Ag ?_ ay.out) | exact HB.out)⟩⟩
                        ·rw [if_neg c82] at H
                         have eW : decide ((wrap64 ((wrap64 ((wrap64 (ak - (Int.tmod ab ac))) * (wrap64 (ak - (Int.tmod ab ac))))) + (wrap64 ((rd ap (ar)) * (rd ap (ar)))))) < (rd an ab)) = false := decide_eq_false c82
                         clear c82
                         have H' := Aa.mk H
                         clear H
                         have ft : wr.cell? ⟨af, 0, none⟩ = some (.int .i64 ac) := (Ad aa.out 0).trans rfl
                         have fu : wr.cell? ⟨af, 1, none⟩ = some (.int .i64 ah) := (Ad aa.out 1).trans rfl
                         have fw : wr.cell? ⟨af, 2, none⟩ = some (.slice az ag.length aw) := (Ad aa.out 2).trans rfl
                         have fx := Af aa.out 0
                         have fy := Af aa.out 1
                         have fz := Af aa.out 2
                         obtain ⟨gG, gH, gl⟩ := Kd.B0 ai.out
                         subst gl
                         have aK : 0 ≤ ((ar) : Int) := of_decide_eq_true (by with_reducible assumption)
                         have aM : (ar) < (ap.length : Int) := of_decide_eq_true (by with_reducible assumption)
                         obtain ⟨bW, e152, bT⟩ := Kd.at_int (Kd.Ba ai.out).2.2 (ar) aK aM
                         cases e152
                         replace aK := eq_true aK
                         replace aM := eq_true aM
                         have br : 0 ≤ (ab : Int) := of_decide_eq_true (by with_reducible assumption)
                         have bs : ab < (an.length : Int) := of_decide_eq_true (by with_reducible assumption)
                         obtain ⟨bX, e153, aD⟩ := Kd.at_int (Kd.Ba am.out).2.2 ab br bs
                         obtain rfl : (⟨go62, 0, none⟩ : Addr) = bX := (by injection e153)
                         (first | simp only [add_plain] at aD | simp only [add_at] at aD | simp only [Addr.add, Nat.zero_add] at aD | skip)
                         replace br := eq_true br
                         replace bs := eq_true bs
                         have b5 : 0 ≤ (ab : Int) := of_decide_eq_true (by with_reducible assumption)
                         have b6 : ab < (an.length : Int) := of_decide_eq_true (by with_reducible assumption)
                         obtain ⟨dj, e155, aI⟩ := Kd.at_int (Kd.Ba am.out).2.2 ab b5 b6
                         obtain rfl : (⟨go62, 0, none⟩ : Addr) = dj := (by injection e155)
                         (first | simp only [add_plain] at aI | simp only [add_at] at aI | simp only [Addr.add, Nat.zero_add] at aI | skip)
                         replace b5 := eq_true b5
                         replace b6 := eq_true b6
                         go_wp2
                         (try simp only [← aq])
                         go_roundg k3
                         case measure => have := HK1.out; have := HK2.out; have := HK3.out; omega
                         case rel => exact ⟨(an), (wrap64 (ak + 1)), (by first | rfl | (simp; done) | (simp [*]; done)), H', ⟨by have := HK1.out; have := HK2.out; have := HK3.out; omega⟩, ⟨by (try simp only [aq]); exact rU <| ai.out⟩, ⟨by (try simp only [aq]); exact rU <| am.out⟩, ⟨by (try simp only [aq]); exact bU <| aa.out⟩, ⟨by repeat (first | (with_reducible first | exact HB.out | apply Ae | apply Ac | apply Ah | refine Ag ?_ ay.out) | exact HB.out)⟩⟩
                      ·rw [if_neg c75] at H
                       exact absurd H (by simp)
                     ·rw [if_neg c74] at H
                      exact absurd H (by simp)
                   ·rw [if_neg c70] at H
                    exact absurd H (by simp)
                  ·rw [if_neg c69] at H
                   exact absurd H (by simp)
                 ·rw [if_neg c67] at H
                  have eQ : decide (ak < ac) = false := decide_eq_false c67
                  clear c67
                  have H' := Aa.mk H
                  clear H
                  have fA : wr.cell? ⟨af, 0, none⟩ = some (.int .i64 ac) := (Ad aa.out 0).trans rfl
                  have fB : wr.cell? ⟨af, 1, none⟩ = some (.int .i64 ah) := (Ad aa.out 1).trans rfl
                  have fC : wr.cell? ⟨af, 2, none⟩ = some (.slice az ag.length aw) := (Ad aa.out 2).trans rfl
                  have fD := Af aa.out 0
                  have fE := Af aa.out 1
                  have fF := Af aa.out 2
                  go_wp2
                  (try simp only [← aq])
                  go_roundg k3
                  case measure => have := HK1.out; have := HK2.out; have := HK3.out; omega
                  case rel => exact ⟨(an), (wrap64 (ab + 1)), (by first | rfl | (simp; done) | (simp [*]; done)), H', ⟨by have := HK1.out; have := HK2.out; have := HK3.out; omega⟩, ⟨by (try simp only [aq]); exact rU <| ai.out⟩, ⟨by (try simp only [aq]); exact rU <| am.out⟩, ⟨by (try simp only [aq]); exact bU <| aa.out⟩, ⟨by repeat (first | (with_reducible first | exact HB.out | apply Ae | apply Ac | apply Ah | refine Ag ?_ ay.out) | exact HB.out)⟩⟩
              ·rw [if_neg c61] at H
               exact absurd H (by simp)
             ·rw [if_neg c60] at H
              exact absurd H (by simp)
           ·rw [if_neg c58] at H
            have dP : decide (ab < (ag.length : Int)) = false := decide_eq_false c58
            clear c58
            simp only [Option.some.injEq, Prod.mk.injEq] at H
            obtain ⟨rfl, rfl⟩ := H
            have fG : wr.cell? ⟨af, 0, none⟩ = some (.int .i64 ac) := (Ad aa.out 0).trans rfl
            have fH : wr.cell? ⟨af, 1, none⟩ = some (.int .i64 ah) := (Ad aa.out 1).trans rfl
            have fI : wr.cell? ⟨af, 2, none⟩ = some (.slice az ag.length aw) := (Ad aa.out 2).trans rfl
            have fJ := Af aa.out 0
            have fK := Af aa.out 1
            have fL := Af aa.out 2
            go_wp2
            go_ret2
            exact ⟨_, by first | rfl | (simp [Be, Bd] <;> rfl) | (simp [*, Be, Bd] <;> rfl), by exact rU <| Kd.Bj am.out (fun _ hk => trivial), by repeat (first | (with_reducible first | exact HB.out | apply Ae | apply Ac | apply Ah | refine Ag ?_ ay.out) | exact HB.out)⟩
        ·rw [if_neg c54] at H
         exact absurd H (by simp)
       ·rw [if_neg c53] at H
        exact absurd H (by simp)
   ·rw [if_neg c5] at H
    exact absurd H (by simp)
  ·rw [if_neg c4] at H
   exact absurd H (by simp)
 ·rw [if_neg c3] at H
  have dk : (aT == 0) = false := beq_eq_false_iff_ne.mpr c3
  have dl : (aT != 0) = true := bne_iff_ne.mpr c3
  simp only [Option.some.injEq, Prod.mk.injEq] at H
  obtain ⟨rfl, rfl⟩ := H
  go_enter Try.func30, Try.ntmps30
  go_wp2_with (first | ((with_reducible refine Bq (N := 1) rfl ?_); refine Bt ?hg (N := 1) ?hd (cs := #[.int .i64 ac, .int .i64 ah, .slice az ag.length aw]) (t := 50) ?hr ?_; (case hd => rfl); (case hg => rfl); (case hr => first | (go_simp; done) | (go_simp; rfl)); intro af hg w92 hbox hb; have n0_ := Aa.mk (Au (lU HB.out) hb); have n1_ := Aa.mk (hbox); have n2_ := Aa.mk ((by rw [hg]; exact (An (lU HB.out)) : w.heap.size ≤ af)); have n3_ := Aa.mk ((by rw [hg]; exact (An (lU HB.out)) : w.heap.size ≤ af)); clear HB; have HB := n0_; have aa := n1_; have d9 := n2_; have ay := n3_; clear n0_ n1_ n2_ n3_; clear hb hbox hg; have fM : w92.cell? ⟨af, 0, none⟩ = some (.int .i64 ac) := (Ad aa.out 0).trans rfl; have fN : w92.cell? ⟨af, 1, none⟩ = some (.int .i64 ah) := (Ad aa.out 1).trans rfl; have fO : w92.cell? ⟨af, 2, none⟩ = some (.slice az ag.length aw) := (Ad aa.out 2).trans rfl; have fP := Af aa.out 0; have fQ := Af aa.out 1; have fR := Af aa.out 2) | ((with_reducible refine Br (f := 47) rfl ?_); refine Cm (some 18) rfl rfl Try.func47 (by kernel_rfl) rfl #[.agg #[.int .i64 ac, .int .i64 ah, .slice az ag.length aw]] rfl (by (try simp only [List.map_toArray, List.map_cons, List.map_nil]); first | done | rfl | (simp only [List.length_drop, List.length_take]; rfl)) ?_; (with_reducible refine (Ca.calls ac ah _ _ ag aT _ ?side1 ?side2 A2.out).mono ?_); (case side1 => repeat (first | exact (Kd.Ce bv.out HB.out) | (with_reducible refine Kd.Bw ?_ _) | (with_reducible refine Kd.B6 ?_ _) | (with_reducible refine Kd.Cf ?_))); (case side2 => exact dB.out); rintro e w94 ⟨rfl, hb⟩; refine ⟨_, rfl, ?_⟩; have n0_ := Aa.mk (Ao (g := af) (o := .cells #[.int .i64 ac, .int .i64 ah, .slice az ag.length aw] 50 (0, 0)) (by exact bU <| aa.out) hb); have n1_ := Aa.mk (Au (by repeat (first | (with_reducible first | exact HB.out | apply Ae | apply Ac | apply Ah | refine Ag ?_ ay.out) | exact HB.out)) hb); clear aa; clear HB; have aa := n0_; have HB := n1_; clear n0_ n1_; (try clear hb); (try clear hb2); (try clear hk); (try clear hi)))
  go_ret2
  exact ⟨_, by first | rfl | (simp [Be, Bd] <;> rfl) | (simp [*, Be, Bd] <;> rfl), by first | exact Kd.C8 _ _ _ _ _ | exact Kd.N_nil _ _ _ _ _ | exact Kd.V_nil _ _ _ _ _ | exact Kd.Q_nil _ _ _ _ _ | exact Kd.S_nil _ _ _ _ _, by repeat (first | (with_reducible first | exact HB.out | apply Ae | apply Ac | apply Ah | refine Ag ?_ ay.out) | exact HB.out)⟩

end Go.Proofs.Yteamphcehoaleaa.PFY

