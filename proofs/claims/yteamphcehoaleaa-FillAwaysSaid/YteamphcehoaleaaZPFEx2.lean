import Derived.Test.YteamphcehoaleaaZWAt
import Derived.Test.YteamphcehoaleaaZPFEx0
import Derived.Test.YteamphcehoaleaaZPFEx1
namespace Go.Proofs.Yteamphcehoaleaa.PFE
open Go.Proofs.Yteamphcehoaleaa.PFA
open Go.RowKit Go.Proofs.YteamphcehoaleaaW.PrintWords Go.Proofs.YteamphcehoaleaaW.PrintLast Go.Proofs.YteamphcehoaleaaW.PrintMore
attribute [local go_sem] max2_int min2_int max_two min_two max_three min_three max_four min_four
set_option linter.unusedVariables false
set_option linter.unusedSimpArgs false

mutual
def Ap.l0 : Nat → List Int → Int → List Int → Int → Int → Int → List Bool → Option (List Int × List Int)
 | 0, _, _, _, _, _, _, _ => none
 | k + 1, x1, x2, x8, x9, au, av, ap => if x9 < (x8.length : Int) then (if 0 ≤ x9 then (Ap.l0 k x1 x2 (x8.set (x9 : Int).toNat (-1)) (wrap64 (x9 + 1)) au av ap) else (none)) else (Ap.l1 k x1 x2 x8 ([] : List Int) 0 au av ap)
def Ap.l1 : Nat → List Int → Int → List Int → List Int → Int → Int → Int → List Bool → Option (List Int × List Int)
 | 0, _, _, _, _, _, _, _, _ => none
 | k + 1, x1, x2, x8, x10, x11, au, av, ap => if x11 < (x1.length : Int) then (if 0 ≤ x11 then (if 0 ≤ (rd x1 x11) then (if (rd x1 x11) < (x8.length : Int) then (if x10.length < 17592186044416 then (Ap.l1 k x1 x2 (x8.set ((rd x1 x11) : Int).toNat 0) (x10 ++ [rd x1 x11]) (wrap64 (x11 + 1)) au av ap) else (none)) else (none)) else (none)) else (none)) else (Ap.l2 k x2 x8 x10 0 au av ap)
def Ap.l2 : Nat → Int → List Int → List Int → Int → Int → Int → List Bool → Option (List Int × List Int)
 | 0, _, _, _, _, _, _, _ => none
 | k + 1, x2, x8, x10, x12, au, av, ap => if x12 < (x10.length : Int) then (if 0 ≤ x12 then ((At.f k au av (rd x10 x12) x2).bind fun ae => (Ap.l3 k x2 x8 x10 x12 ae 0 au av ap)) else (none)) else (some (x10, x8))
def Ap.l3 : Nat → Int → List Int → List Int → Int → List Int → Int → Int → Int → List Bool → Option (List Int × List Int)
 | 0, _, _, _, _, _, _, _, _, _ => none
 | k + 1, x2, x8, x10, x12, x13, x14, au, av, ap => if x14 < (x13.length : Int) then (if 0 ≤ x14 then (if 0 ≤ (rd x13 x14) then (if (rd x13 x14) < (ap.length : Int) then (if rdOf false ap (rd x13 x14) = true then (if (rd x13 x14) < (x8.length : Int) then (if (rd x8 (rd x13 x14)) < 0 then (if 0 ≤ x12 then (if x12 < (x10.length : Int) then (if 0 ≤ (rd x10 x12) then (if (rd x10 x12) < (x8.length : Int) then (if x10.length < 17592186044416 then (Ap.l3 k x2 (x8.set ((rd x13 x14) : Int).toNat (wrap64 ((rd x8 (rd x10 x12)) + 1))) (x10 ++ [rd x13 x14]) x12 x13 (wrap64 (x14 + 1)) au av ap) else (none)) else (none)) else (none)) else (none)) else (none)) else (Ap.l3 k x2 x8 x10 x12 x13 (wrap64 (x14 + 1)) au av ap)) else (none)) else (Ap.l3 k x2 x8 x10 x12 x13 (wrap64 (x14 + 1)) au av ap)) else (none)) else (none)) else (none)) else (Ap.l2 k x2 x8 x10 (wrap64 (x12 + 1)) au av ap)
end
def Ap.f (k : Nat) (aw : Int) (ax : Int) (ak : List Bool) (l1 : List Int) (a2 : Int) : Option (List Int × List Int) := if 0 ≤ (ak.length : Int) then (if ((ak.length : Int) : Int).toNat ≤ 35184372088832 then (Ap.l0 k l1 a2 (List.replicate ((ak.length : Int) : Int).toNat 0) 0 aw ax ak) else (none)) else (none)
def Ap.T15 : Bool × List (List Nat × List Nat) := (true, [([], []), ([0], [0]), ([], []), ([2], [2]), ([], []), ([], []), ([4, 5], [4, 5]), ([6], [6]), ([], []), ([1, 3, 7, 8], [1, 3, 7, 8]), ([9, 9, 0, 1, 2, 3, 4, 5, 6, 7, 8, 9], [9])])
def Ap.B15 : List Nat := [0, 1, 0, 4, 0, 0, 48, 112, 0, 511, 1023]
theorem Ap.tab15 : rtab .any (opsOf Try.f64 15) = Ap.T15 := by kernel_rfl
theorem Ap.bits15 : waitsOk Ap.T15.2 Ap.B15 = true := by kernel_rfl
def Ap.T19 : Bool × List (List Nat × List Nat) := (true, [([], []), ([0], [0]), ([], []), ([], []), ([2, 3], [2, 3]), ([4], [4]), ([1, 5], [1, 5]), ([6], [6]), ([7], [7]), ([8], [8]), ([8], [8]), ([8], [8]), ([10, 11, 8], [8, 10, 11]), ([12, 8], [8, 12]), ([9, 13, 8], [8, 9, 13]), ([14, 8], [8, 14]), ([15, 8], [8, 15]), ([8, 16], [8, 16])])
def Ap.B19 : List Nat := [0, 1, 0, 0, 12, 28, 63, 127, 255, 511, 511, 511, 3583, 7679, 16383, 32767, 65535, 131071]
theorem Ap.tab19 : rtab .any (opsOf Try.f64 19) = Ap.T19 := by kernel_rfl
theorem Ap.bits19 : waitsOk Ap.T19.2 Ap.B19 = true := by kernel_rfl
set_option maxHeartbeats 8000000 in
set_option maxRecDepth 100000 in
theorem Ap.calls (k : Nat) (aw : Int) (ax : Int) (aK : Option Addr) (aD : Nat) (ak : List Bool) (A1 : Option Addr) (c1 : Nat) (l1 : List Int) (a2 : Int) (r1 : List Int) (r2 : List Int) (w : World) (b4 : Kd.C Kd.bool w aK ak.length ak) (b5 : ak.length ≤ aD) (hr1 : Kd.C (Kd.int .i64) w A1 l1.length l1) (hc1 : l1.length ≤ c1) (h : Ap.f k aw ax ak l1 a2 = some (r1, r2)) :
  Calls Try.prog 64 #[.agg #[.int .i64 aw, .int .i64 ax, .slice aK ak.length aD], .slice A1 l1.length c1, .int .i64 a2] w fun e w' => ∃ v0_ v1_ : Value, e = .returned (.tuple #[v0_, v1_]) ∧ Kd.R (Kd.int .i64) 3 w' w.heap.size (fun k_ => some k_ ≠ (v1_ : Value).ownBlock) v0_ r1 ∧ Kd.R (Kd.int .i64) 3 w' w.heap.size (fun k_ => some k_ ≠ (v0_ : Value).ownBlock) v1_ r2 ∧ Below w.heap.size w w' := by
 have hu50 := Try.underlying50
 have bC := Aa.mk b4
 have dz := Aa.mk b5
 clear b4 b5
 have HR1 := Aa.mk hr1
 have HC1 := Aa.mk hc1
 clear hr1 hc1
 have HB := Aa.mk (Below.refl w.heap.size w)
 have H : (if 0 ≤ (ak.length : Int) then (if ((ak.length : Int) : Int).toNat ≤ 35184372088832 then (Ap.l0 k l1 a2 (List.replicate ((ak.length : Int) : Int).toNat 0) 0 aw ax ak) else (none)) else (none)) = some (r1, r2) := h
 clear h
 by_cases c4 : 0 ≤ (ak.length : Int)
 ·rw [if_pos c4] at H
  have bT := eq_true c4
  have bV : decide (0 ≤ (ak.length : Int)) = true := decide_eq_true c4
  clear c4
  by_cases c5 : ((ak.length : Int) : Int).toNat ≤ 35184372088832
  ·rw [if_pos c5] at H
   have bW := eq_true c5
   have bX : decide (((ak.length : Int) : Int).toNat ≤ 35184372088832) = true := decide_eq_true c5
   clear c5
   obtain ⟨df, bD⟩ : ∃ y_ : List Int, y_ = (List.replicate ((ak.length : Int) : Int).toNat 0) := ⟨_, rfl⟩
   (try rw [Option.bind_some] at H); try rw [← bD] at H
   have b6 := Aa.mk bD
   clear bD
   have H' := Aa.mk H
   clear H
   go_enter Try.func64, Try.ntmps64
   go_wp2_with (first | ((with_reducible refine Bq (N := 3) rfl ?_); refine Bt ?hg (N := 3) ?hd (cs := #[.int .i64 aw, .int .i64 ax, .slice aK ak.length aD]) (t := 50) ?hr ?_; (case hd => rfl); (case hg => rfl); (case hr => first | (go_simp; done) | (go_simp; rfl)); intro am hg w6 hbox hb; have n0_ := Aa.mk (Au (lU HB.out) hb); have n1_ := Aa.mk (hbox); have n2_ := Aa.mk ((by rw [hg]; exact (An (lU HB.out)) : w.heap.size ≤ am)); have n3_ := Aa.mk ((by rw [hg]; exact (An (lU HB.out)) : w.heap.size ≤ am)); clear HB; have HB := n0_; have ab := n1_; have dA := n2_; have ay := n3_; clear n0_ n1_ n2_ n3_; clear hb hbox hg; have bc : w6.cell? ⟨am, 0, none⟩ = some (.int .i64 aw) := (Ad ab.out 0).trans rfl; have bd : w6.cell? ⟨am, 1, none⟩ = some (.int .i64 ax) := (Ad ab.out 1).trans rfl; have be : w6.cell? ⟨am, 2, none⟩ = some (.slice aK ak.length aD) := (Ad ab.out 2).trans rfl; have bf := Af ab.out 0; have bg := Af ab.out 1; have bh := Af ab.out 2) | ((with_reducible refine Bq (N := 18) rfl ?_); refine Kd.R_make (Kd.int .i64) _ 3 rfl (N := 18) rfl 31 _ _ rfl (ak.length : Int) rfl rfl Try.underlying31 (.int .i64 0) 8 info3 rfl (by decide) (by omega) 0 (ok := fun _ => True) (okp := fun _ => True) rfl (fun _ hk => hk) trivial (of_decide_eq_true (by with_reducible assumption)) (Nat.le_trans (Nat.mul_le_mul_right _ (of_decide_eq_true (by with_reducible assumption) : (ak.length : Int).toNat ≤ 35184372088832)) (by omega)) (Below.refl _ _) (Nat.le_refl _) ?_; intro v115 w8 ho9 hb hg_ hnew_; clear hg_ hnew_; (first | rw [← b6.out] at ho9 | (simp only [Int.reduceToNat] at ho9; rw [← b6.out] at ho9)); have n0_ := Aa.mk (Kd.Cc ho9 (An (by repeat (first | (with_reducible first | exact HB.out | apply Ae | apply Ac | apply Ah | refine Ag ?_ ay.out) | exact HB.out)))); have n1_ := Aa.mk (Ao (g := am) (o := .cells #[.int .i64 aw, .int .i64 ax, .slice aK ak.length aD] 50 (0, 0)) (by exact bU <| ab.out) hb); have n2_ := Aa.mk (Au (by repeat (first | (with_reducible first | exact HB.out | apply Ae | apply Ac | apply Ah | refine Ag ?_ ay.out) | exact HB.out)) hb); clear ab; clear HB; have cB := n0_; have ab := n1_; have HB := n2_; clear n0_ n1_ n2_; clear hb ho9))
   go_loopg [9] k (fun kq v9 w' => ∃ (aU : List Int) (aJ : Int), v9 = .int .i64 aJ ∧ Aa (Ap.l0 kq l1 a2 aU aJ aw ax ak = some (r1, r2)) ∧ Aa (kq ≤ k) ∧ Aa (Kd.R (Kd.int .i64) 3 w' w.heap.size (fun _ => True) v115 aU) ∧ Aa (w'.heap[am]? = some (.cells #[.int .i64 aw, .int .i64 ax, (.slice aK ak.length aD)] 50 (0, 0))) ∧ Aa (Below w.heap.size w w'))
   case atStart => exact ⟨(df), (0), (by first | rfl | (simp; done) | (simp [*]; done)), H', ⟨Nat.le_refl _⟩, ⟨by exact rU <| cB.out⟩, ⟨by exact bU <| ab.out⟩, ⟨by repeat (first | (with_reducible first | exact HB.out | apply Ae | apply Ac | apply Ah | refine Ag ?_ ay.out) | exact HB.out)⟩⟩
   case round =>
    clear H'
    try clear c1
    try clear p2
    try clear c4
    try clear bT
    try clear bV
    try clear c5
    try clear bW
    try clear bX
    try clear c6
    try clear bc
    try clear bd
    try clear be
    try clear bf
    try clear bg
    try clear bh
    obtain ⟨aU, aJ, rfl, HA, HK1, af, ab, HB⟩ := hrel
    cases gk with
    | zero => exact absurd HA.out (by simp [Ap.l0])
    | succ k1 =>
     have H := HA.out
     clear HA
     simp only [Ap.l0] at H
     by_cases c10 : aJ < (aU.length : Int)
     ·rw [if_pos c10] at H
      have bu : decide (aJ < (aU.length : Int)) = true := decide_eq_true c10
      clear c10
      by_cases c11 : 0 ≤ aJ
      ·rw [if_pos c11] at H
       have bE : decide (0 ≤ aJ) = true := decide_eq_true c11
       clear c11
       obtain ⟨cC, bF⟩ : ∃ y_ : List Int, y_ = (aU.set (aJ : Int).toNat (-1)) := ⟨_, rfl⟩
       (try rw [Option.bind_some] at H); try rw [← bF] at H
       have cD := Aa.mk bF
       clear bF
       have H' := Aa.mk H
       clear H
       obtain ⟨dJ, dg, dh⟩ := Kd.B0 af.out
       subst dh
       have p12 : 0 ≤ (aJ : Int) := of_decide_eq_true (by with_reducible assumption)
       have q12 : (aJ : Int) < ((aU.length : Int) : Int) := of_decide_eq_true (by with_reducible assumption)
       obtain ⟨go12, dK, cE, cF, gl12, cl12, HG12⟩ := Kd.Dd af.out (by omega)
       (first | cases cE | (injection cE with ea_ en_ ec_; (first | subst ea_ | (injection ea_ with ea_; subst ea_)); subst ec_; clear en_))
       have GB12 := Aa.mk cF
       have GG12 := Aa.mk HG12
       clear cF gl12 HG12
       obtain ⟨bm, di⟩ := Kd.Cx 0 af.out (aJ : Int) p12 q12
       replace p12 := eq_true p12
       replace q12 := eq_true q12
       have ce := Kd.Db af.out (aJ : Int) (-1)
       go_wp2_with (((with_reducible refine Cq (t := 3) (p := 27) rfl ?_); refine store_event (t := 3) (p := 27) (v := ?vo_w15) (w1 := (wr.setCell ⟨go12, (aJ : Int).toNat, none⟩ (.int .i64 (-1)))) ?hg ?ho ?hn ?hr ?_; (case ho => rfl); (case hg => rfl); (case hn => rfl); (case hr => first | (go_simp; done) | (go_simp; rfl)); intro w15 hw; have hg : wr.grownBy w15 (some go12) := (by rw [hw]; exact ce.2); have hp_ : Kd.R (Kd.int .i64) 3 w15 w.heap.size (fun _ => True) (.slice (some ⟨go12, 0, none⟩) aU.length dg) cC := (by rw [hw, cD.out]; exact ce.1); clear ce; have n0_ := Aa.mk (hp_); have n1_ := Aa.mk (Bu (g := am) (o := .cells #[.int .i64 aw, .int .i64 ax, .slice aK ak.length aD] 50 (0, 0)) (by exact bU <| ab.out) hg (Kd.De af.out ab.out (by decide))); have n2_ := Aa.mk ((by rw [hw]; exact Ag (HB.out) GB12.out : Below w.heap.size w w15)); clear af; clear ab; clear HB; have af := n0_; have ab := n1_; have HB := n2_; clear n0_ n1_ n2_; clear hg hw hp_))
       go_roundg k1
       case measure => have := HK1.out; omega
       case rel => exact ⟨(cC), (wrap64 (aJ + 1)), (by first | rfl | (simp; done) | (simp [*]; done)), H', ⟨by have := HK1.out; omega⟩, ⟨by exact rU <| af.out⟩, ⟨by exact bU <| ab.out⟩, ⟨by repeat (first | (with_reducible first | exact HB.out | apply Ae | apply Ac | apply Ah | refine Ag ?_ ay.out) | exact HB.out)⟩⟩
      ·rw [if_neg c11] at H
       exact absurd H (by simp)
     ·rw [if_neg c10] at H
      have bu : decide (aJ < (aU.length : Int)) = false := decide_eq_false c10
      clear c10
      have H' := Aa.mk H
      clear H
      obtain ⟨bo, aE, dj⟩ := Kd.B0 af.out
      subst dj
      go_wp2
      go_loopg [10, 11] k1 (fun kq v10 v11 w' => ∃ (aM : List Int) (aV : List Int) (an : Int), v11 = .int .i64 an ∧ Aa (Ap.l1 kq l1 a2 aM aV an aw ax ak = some (r1, r2)) ∧ Aa (kq ≤ k1) ∧ Aa (Kd.R (Kd.int .i64) 3 w' w.heap.size (fun k_ => some k_ ≠ (v10 : Value).ownBlock) (.slice bo aU.length aE) aM) ∧ Aa (Kd.R (Kd.int .i64) 3 w' w.heap.size (fun k_ => some k_ ≠ ((.slice bo aU.length aE) : Value).ownBlock) v10 aV) ∧ Aa (w'.heap[am]? = some (.cells #[.int .i64 aw, .int .i64 ax, (.slice aK ak.length aD)] 50 (0, 0))) ∧ Aa (Below w.heap.size w w'))
      case atStart => exact ⟨(aU), (([] : List Int)), (0), (by first | rfl | (simp; done) | (simp [*]; done)), H', ⟨Nat.le_refl _⟩, ⟨by exact rU <| Kd.Bj af.out (fun _ hk => (by simp [Value.ownBlock]))⟩, ⟨by first | exact Kd.C8 _ _ _ _ _ | exact Kd.N_nil _ _ _ _ _ | exact Kd.V_nil _ _ _ _ _ | exact Kd.Q_nil _ _ _ _ _ | exact Kd.S_nil _ _ _ _ _⟩, ⟨by exact bU <| ab.out⟩, ⟨by repeat (first | (with_reducible first | exact HB.out | apply Ae | apply Ac | apply Ah | refine Ag ?_ ay.out) | exact HB.out)⟩⟩
      case round =>
       clear H'
       try clear c1
       try clear p1
       try clear q1
       try clear hx1
       try clear p2
       try clear c4
       try clear bT
       try clear bV
       try clear c5
       try clear bW
       try clear bX
       try clear c6
       try clear p6
       try clear c10
       try clear bu
       try clear c11
       try clear bE
       try clear p12
       try clear q12
       try clear hx12
       try clear hf12
       try clear bc
       try clear bd
       try clear be
       try clear bf
       try clear bg
       try clear bh
       try clear bm
       try clear p12
       try clear p2
       try clear q12
       obtain ⟨aM, aV, an, rfl, HA, HK2, af, ac, ab, HB⟩ := hrel
       have al := (Kd.Ba af.out).1
       rw [al] at af
       (try simp only [al])
       (try simp only [al] at ab)
       (try simp only [al] at ac)
       cases gk with
       | zero => exact absurd HA.out (by simp [Ap.l1])
       | succ k2 =>
        have H := HA.out
        clear HA
        simp only [Ap.l1] at H
        by_cases c17 : an < (l1.length : Int)
        ·rw [if_pos c17] at H
         have bG : decide (an < (l1.length : Int)) = true := decide_eq_true c17
         clear c17
         by_cases c18 : 0 ≤ an
         ·rw [if_pos c18] at H
          have b7 : decide (0 ≤ an) = true := decide_eq_true c18
          clear c18
          by_cases c19 : 0 ≤ (rd l1 an)
          ·rw [if_pos c19] at H
           have b8 : decide (0 ≤ (rd l1 an)) = true := decide_eq_true c19
           clear c19
           by_cases c20 : (rd l1 an) < (aM.length : Int)
           ·rw [if_pos c20] at H
            have b9 : decide ((rd l1 an) < (aM.length : Int)) = true := decide_eq_true c20
            clear c20
            obtain ⟨cG, bH⟩ : ∃ y_ : List Int, y_ = (aM.set ((rd l1 an) : Int).toNat 0) := ⟨_, rfl⟩
            (try rw [Option.bind_some] at H); try rw [← bH] at H
            have cH := Aa.mk bH
            clear bH
            by_cases c22 : aV.length < 17592186044416
            ·rw [if_pos c22] at H
             have LMc22 := Aa.mk c22
             clear c22
             obtain ⟨dk, bI⟩ : ∃ y_ : List Int, y_ = (aV ++ [rd l1 an]) := ⟨_, rfl⟩
             (try rw [Option.bind_some] at H); try rw [← bI] at H
             have cI := Aa.mk bI
             clear bI
             have H' := Aa.mk H
             clear H
             have bJ : 0 ≤ (an : Int) := of_decide_eq_true (by with_reducible assumption)
             have bK : an < (l1.length : Int) := of_decide_eq_true (by with_reducible assumption)
             obtain ⟨cJ, e118, aN⟩ := Kd.at_int HR1.out an bJ bK
             cases e118
             replace aN := (HB.out.cell (World.block_lt_of_cell? w _ aN)).trans aN
             replace bJ := eq_true bJ
             replace bK := eq_true bK
             have p21 : 0 ≤ ((rd l1 an) : Int) := of_decide_eq_true (by with_reducible assumption)
             have q21 : ((rd l1 an) : Int) < ((aM.length : Int) : Int) := of_decide_eq_true (by with_reducible assumption)
             obtain ⟨go21, dL, cK, cL, gl21, cl21, HG21⟩ := Kd.Dd af.out (by omega)
             (first | cases cK | (injection cK with ea_ en_ ec_; (first | subst ea_ | (injection ea_ with ea_; subst ea_)); subst ec_; clear en_))
             have GB21 := Aa.mk cL
             have GG21 := Aa.mk HG21
             clear cL gl21 HG21
             obtain ⟨bL, dl⟩ := Kd.Cx 0 af.out ((rd l1 an) : Int) p21 q21
             replace p21 := eq_true p21
             replace q21 := eq_true q21
             have cg := Kd.Db af.out ((rd l1 an) : Int) 0
             go_wp2_with (first | ((with_reducible refine Cq (t := 3) (p := 39) rfl ?_); refine store_event (t := 3) (p := 39) (v := ?vo_w24) (w1 := (wr.setCell ⟨go21, ((rd l1 an) : Int).toNat, none⟩ (.int .i64 0))) ?hg ?ho ?hn ?hr ?_; (case ho => rfl); (case hg => rfl); (case hn => rfl); (case hr => first | (go_simp; done) | (go_simp; rfl)); intro w24 hw; have hg : wr.grownBy w24 (some go21) := (by rw [hw]; exact cg.2); have hp_ : Kd.R (Kd.int .i64) 3 w24 w.heap.size (fun k_ => some k_ ≠ (u10 : Value).ownBlock) (.slice (some ⟨go21, 0, none⟩) aM.length aE) cG := (by rw [hw, cH.out]; exact cg.1); clear cg; have n0_ := Aa.mk (hp_); have n1_ := Aa.mk (Kd.C5 (v := (.slice (some ⟨go21, 0, none⟩) aM.length aE)) (v1 := (.slice (some ⟨go21, 0, none⟩) aM.length aE)) (ok := (fun _ => True)) (by exact rU <| Kd.Bj ac.out (fun _ hk => ⟨trivial, hk⟩)) hg (.inl rfl)); have n2_ := Aa.mk (Bu (g := am) (o := .cells #[.int .i64 aw, .int .i64 ax, .slice aK ak.length aD] 50 (0, 0)) (by exact bU <| ab.out) hg (Kd.De af.out ab.out (by decide))); have n3_ := Aa.mk ((by rw [hw]; exact Ag (HB.out) GB21.out : Below w.heap.size w w24)); clear af; clear ac; clear ab; clear HB; have af := n0_; have ac := n1_; have ab := n2_; have HB := n3_; clear n0_ n1_ n2_ n3_; clear hg hw hp_; have bM : 0 ≤ (an : Int) := of_decide_eq_true (by with_reducible assumption); have bN : an < (l1.length : Int) := of_decide_eq_true (by with_reducible assumption); obtain ⟨cM, e120, aQ⟩ := Kd.at_int HR1.out an bM bN; obtain rfl : cJ = cM := (by injection e120); replace aQ := (HB.out.cell (World.block_lt_of_cell? w _ aQ)).trans aQ; replace bM := eq_true bM; replace bN := eq_true bN) | ((with_reducible refine Cu (b := .append) (xs := #[.tmp 40, .tmp 45]) rfl ?_); at_builtin; refine Kd.Dk (Kd.int .i64) (w0 := w) w.heap.size rfl (.tmp 40) (.tmp 45) 31 3 (.int .i64 0) 8 rfl Try.underlying31 info3 rfl (by decide) (by omega) u10 aV (rd l1 an) [.int .i64 (rd l1 an)] (fun k_ => some k_ ≠ (.slice (some ⟨go21, 0, none⟩) aM.length aE : Value).ownBlock) (fun _ => False) rfl rfl ?aP (fun _ hk => hk.elim) ?aF ?aO ?aB ?aS ?aL ?_; (case aP => exact rfl); (case aB => exact (by repeat (first | (with_reducible first | exact HB.out | apply Ae | apply Ac | apply Ah | refine Ag ?_ ay.out) | exact HB.out))); (case aF => exact (fun k_ hk => Kd.fresh' (Kd.Cy (by exact rU <| af.out)) k_ hk)); (case aO => exact (by exact rU <| Kd.Bj ac.out (fun _ hk => hk.2))); (case aS => exact (An (by repeat (first | (with_reducible first | exact HB.out | apply Ae | apply Ac | apply Ah | refine Ag ?_ ay.out) | exact HB.out)))); (case aL => have := LMc22.out; omega); intro v122 w25 ho hb hg hat; rw [← cI.out] at ho; have n0_ := Aa.mk (Kd.C5 (ok := (fun _ => True)) (by exact rU <| Kd.Bj af.out (fun _ hk => ⟨trivial, hk⟩)) hg hat); have n1_ := Aa.mk (Bu (g := am) (o := .cells #[.int .i64 aw, .int .i64 ax, .slice aK ak.length aD] 50 (0, 0)) (by exact bU <| ab.out) hg (Kd.De ac.out ab.out (by decide))); have n2_ := Aa.mk (hb); have n3_ := Aa.mk (ho); clear af; clear ab; clear HB; clear ac; have af := n0_; have ab := n1_; have HB := n2_; have cO := n3_; clear n0_ n1_ n2_ n3_; clear ho hb hg hat))
             (try simp only [← al])
             go_roundg k2
             case measure => have := HK1.out; have := HK2.out; omega
             case rel => exact ⟨(cG), (dk), (wrap64 (an + 1)), (by first | rfl | (simp; done) | (simp [*]; done)), H', ⟨by have := HK1.out; have := HK2.out; omega⟩, ⟨by (try simp only [al]); exact rU <| Kd.Bj af.out (fun _ hk => hk.2)⟩, ⟨by (try simp only [al]); exact rU <| cO.out⟩, ⟨by (try simp only [al]); exact bU <| ab.out⟩, ⟨by repeat (first | (with_reducible first | exact HB.out | apply Ae | apply Ac | apply Ah | refine Ag ?_ ay.out) | exact HB.out)⟩⟩
            ·rw [if_neg c22] at H
             exact absurd H (by simp)
           ·rw [if_neg c20] at H
            exact absurd H (by simp)
          ·rw [if_neg c19] at H
           exact absurd H (by simp)
         ·rw [if_neg c18] at H
          exact absurd H (by simp)
        ·rw [if_neg c17] at H
         have bG : decide (an < (l1.length : Int)) = false := decide_eq_false c17
         clear c17
         have H' := Aa.mk H
         clear H
         go_wp2
         go_loopg [10, 12] k2 (fun kq v10 v12 w' => ∃ (bp : List Int) (aG : List Int) (ag : Int), v12 = .int .i64 ag ∧ Aa (Ap.l2 kq a2 bp aG ag aw ax ak = some (r1, r2)) ∧ Aa (kq ≤ k2) ∧ Aa (Kd.R (Kd.int .i64) 3 w' w.heap.size (fun k_ => some k_ ≠ (v10 : Value).ownBlock) (.slice bo aM.length aE) bp) ∧ Aa (Kd.R (Kd.int .i64) 3 w' w.heap.size (fun k_ => some k_ ≠ ((.slice bo aM.length aE) : Value).ownBlock) v10 aG) ∧ Aa (w'.heap[am]? = some (.cells #[.int .i64 aw, .int .i64 ax, (.slice aK ak.length aD)] 50 (0, 0))) ∧ Aa (Below w.heap.size w w'))
         case atStart => exact ⟨(aM), (aV), (0), (by first | rfl | (simp; done) | (simp [*]; done)), H', ⟨Nat.le_refl _⟩, ⟨by (try simp only [al]); exact rU <| af.out⟩, ⟨by (try simp only [al]); exact rU <| ac.out⟩, ⟨by (try simp only [al]); exact bU <| ab.out⟩, ⟨by repeat (first | (with_reducible first | exact HB.out | apply Ae | apply Ac | apply Ah | refine Ag ?_ ay.out) | exact HB.out)⟩⟩
         case round =>
          clear H'
          try clear c1
          try clear p1
          try clear q1
          try clear hx1
          try clear c2
          try clear p2
          try clear q2
          try clear hx2
          try clear c4
          try clear bT
          try clear bV
          try clear c5
          try clear bW
          try clear bX
          try clear c6
          try clear p6
          try clear c10
          try clear bu
          try clear c11
          try clear bE
          try clear p11
          try clear q11
          try clear hx11
          try clear p12
          try clear q12
          try clear hx12
          try clear hf12
          try clear c17
          try clear bG
          try clear c18
          try clear b7
          try clear c19
          try clear b8
          try clear c20
          try clear b9
          try clear p21
          try clear q21
          try clear hx21
          try clear hf21
          try clear c22
          try clear bc
          try clear bd
          try clear be
          try clear bf
          try clear bg
          try clear bh
          try clear aN
          try clear aQ
          try clear bm
          try clear bL
          try clear p1
          try clear bJ
          try clear p12
          try clear bM
          try clear p2
          try clear p21
          try clear p6
          try clear q1
          try clear bK
          try clear q12
          try clear bN
          try clear q21
          obtain ⟨bp, aG, ag, rfl, HA, HK3, af, ac, ab, HB⟩ := hrel
          have aq := (Kd.Ba af.out).1
          rw [aq] at af
          (try simp only [aq])
          (try simp only [aq] at ab)
          (try simp only [aq] at ac)
          cases gk with
          | zero => exact absurd HA.out (by simp [Ap.l2])
          | succ k3 =>
           have H := HA.out
           clear HA
           simp only [Ap.l2] at H
           by_cases c26 : ag < (aG.length : Int)
           ·rw [if_pos c26] at H
            have cd : decide (ag < (aG.length : Int)) = true := decide_eq_true c26
            clear c26
            by_cases c27 : 0 ≤ ag
            ·rw [if_pos c27] at H
             have cP : decide (0 ≤ ag) = true := decide_eq_true c27
             clear c27
             replace H := Option.bind_eq_some_iff.mp H
             obtain ⟨ae, A280, H⟩ := H
             try dsimp only at H
             have A28 := Aa.mk A280
             clear A280
             have H' := Aa.mk H
             clear H
             obtain ⟨dM, dN, dn⟩ := Kd.B0 ac.out
             subst dn
             try go_wp2
             have n0_ := Aa.mk (Kd.Dg af.out)
             have n1_ := Aa.mk (Kd.Dg ac.out)
             have n2_ := Aa.mk (Ay ab.out)
             have n3_ := Aa.mk (Ah HB.out)
             clear af
             clear ac
             clear ab
             clear HB
             have af := n0_
             have ac := n1_
             have ab := n2_
             have HB := n3_
             clear n0_ n1_ n2_ n3_
             have bY : 0 ≤ (ag : Int) := of_decide_eq_true (by with_reducible assumption)
             have bZ : ag < (aG.length : Int) := of_decide_eq_true (by with_reducible assumption)
             obtain ⟨cQ, e124, bj⟩ := Kd.at_int (Kd.Ba ac.out).2.2 ag bY bZ
             cases e124
             replace bY := eq_true bY
             replace bZ := eq_true bZ
             refine start_ (n := 11) (S := fun w' => w'.cell? ⟨am, 0, none⟩ = some (.int .i64 aw) ∧ w'.cell? ⟨am, 1, none⟩ = some (.int .i64 ax) ∧ w'.cell? ⟨am, 2, none⟩ = some (.slice aK ak.length aD) ∧ w'.cell? (cQ.add (ag).toNat) = some (.int .i64 (rd aG ag))) (ds := []) #[false, false, false, false, false, false, false, false, false, false, false] (by kernel_rfl) rfl rfl ⟨(Ad ab.out 0).trans rfl, (Ad ab.out 1).trans rfl, (Ad ab.out 2).trans rfl, bj⟩ (fun hHeld => ?_); refine with_tabW Ap.tab15 Ap.bits15 (fun HT_ HW_ => ?_)
             generalize wr.drew = w30 at af ac ab HB bj hHeld ⊢
             refine pure_ (i := 0) (N := some 53) (v := ?_) (a' := ?_) (bA 11 1) rfl rfl (any_of HT_.out (by kernel_rfl)) (fun _ _ _ h => h) (Or.inl ⟨by rfl, ?_⟩) ?_ ?_
             rotate_left; (intro w'; go_simp; with_reducible rfl); rotate_left; (simp only [Act.put, sA, sB, sC, i64_w, i32_w]; rfl)
             refine pure_ (i := 2) (N := some 55) (v := ?_) (a' := ?_) (bA 11 5) rfl rfl (any_of HT_.out (by kernel_rfl)) (fun _ _ _ h => h) (Or.inl ⟨by rfl, ?_⟩) ?_ ?_
             rotate_left; (intro w'; go_simp; with_reducible rfl); rotate_left; (simp only [Act.put, sA, sB, sC, i64_w, i32_w]; rfl)
             refine pure_ (i := 4) (N := some 57) (v := ?_) (a' := ?_) (bA 11 21) rfl rfl (any_of HT_.out (by kernel_rfl)) (fun _ _ _ h => h) (Or.inl ⟨by rfl, ?_⟩) ?_ ?_
             rotate_left; (intro w'; go_simp; with_reducible rfl); rotate_left; (simp only [Act.put, sA, sB, sC, i64_w, i32_w]; rfl)
             refine pure_ (i := 5) (N := some 58) (v := ?_) (a' := ?_) (bA 11 53) rfl rfl (any_of HT_.out (by kernel_rfl)) (fun _ _ _ h => h) (Or.inl ⟨by rfl, ?_⟩) ?_ ?_
             rotate_left; (intro w'; go_simp; with_reducible rfl); rotate_left; (simp only [Act.put, sA, sB, sC, i64_w, i32_w]; rfl)
             refine pure_ (i := 6) (N := some 59) (v := ?_) (a' := ?_) (bA 11 117) rfl rfl (any_of HT_.out (by kernel_rfl)) (fun _ _ _ h => h) (Or.inl ⟨by rfl, ?_⟩) ?_ ?_
             rotate_left; (intro w'; go_simp; with_reducible rfl); rotate_left; (simp only [Act.put, sA, sB, sC, i64_w, i32_w]; rfl)
             refine pure_ (i := 8) (N := some 61) (v := ?_) (a' := ?_) (bA 11 373) rfl rfl (any_of HT_.out (by kernel_rfl)) (fun _ _ _ h => h) (Or.inl ⟨by rfl, ?_⟩) ?_ ?_
             rotate_left; (intro w'; go_simp; with_reducible rfl); rotate_left; (simp only [Act.put, sA, sB, sC, i64_w, i32_w]; rfl)
             refine take_ (i := 1) (N := some 54) (v := ?_) (a' := ?_) (bA 11 375) rfl rfl (take_ofW HT_.out HW_.out (by kernel_rfl)) (fun _ _ _ h => h) (Or.inl ⟨by rfl, ?_⟩) hHeld ?_ ?_
             rotate_left; (rintro w' ⟨s0, s1, s2, s3⟩; go_simp; with_reducible rfl); rotate_left; (simp only [Act.put, sA, sB, sC, i64_w, i32_w]; rfl)
             refine take_ (i := 3) (N := some 56) (v := ?_) (a' := ?_) (bA 11 383) rfl rfl (take_ofW HT_.out HW_.out (by kernel_rfl)) (fun _ _ _ h => h) (Or.inl ⟨by rfl, ?_⟩) hHeld ?_ ?_
             rotate_left; (rintro w' ⟨s0, s1, s2, s3⟩; go_simp; with_reducible rfl); rotate_left; (simp only [Act.put, sA, sB, sC, i64_w, i32_w]; rfl)
             refine take_ (i := 7) (N := some 60) (v := ?_) (a' := ?_) (bA 11 511) rfl rfl (take_ofW HT_.out HW_.out (by kernel_rfl)) (fun _ _ _ h => h) (Or.inl ⟨by rfl, ?_⟩) hHeld ?_ ?_
             rotate_left; (rintro w' ⟨s0, s1, s2, s3⟩; go_simp; with_reducible rfl); rotate_left; (simp only [Act.put, sA, sB, sC, i64_w, i32_w]; rfl)
             refine one_ (i := 9) (N := some 62) (bA 11 1023) rfl rfl (one_of HT_.out (by kernel_rfl)) (by decide) (fun K hK => ?_)
             refine goes_ Try.func35 (by kernel_rfl) rfl #[.int .i64 aw, .int .i64 ax, .int .i64 (rd aG ag), .int .i64 a2] (by rfl) rfl rfl (by (try simp only [List.map_toArray, List.map_cons, List.map_nil]); first | done | rfl | (simp only [List.length_drop, List.length_take]; rfl)) ?_
             with_reducible refine (At.calls k3 aw ax (rd aG ag) a2 ae _ A28.out).mono ?_
             rintro e w31 ⟨v126, rfl, ho0, hb⟩
             have HS3_ := (hb.cell (World.block_lt_of_cell? _ _ (hHeld.2.2.2))).trans (hHeld.2.2.2)
             refine ⟨_, rfl, ?_⟩
             have n0_ := Aa.mk (Kd.B7 (by exact rU <| af.out) (Kd.Ch ho0) hb)
             have n1_ := Aa.mk (Kd.B7 (by exact rU <| ac.out) (Kd.Ch ho0) hb)
             have n2_ := Aa.mk (Kd.Cc (Kd.Ci (Kd.Ci ho0 (Kd.Cy (by exact rU <| af.out))) (Kd.Cy (by exact rU <| ac.out))) (An (by repeat (first | (with_reducible first | exact HB.out | apply Ae | apply Ac | apply Ah | refine Ag ?_ ay.out) | exact HB.out))))
             have n3_ := Aa.mk (Ao (g := am) (o := .cells #[.int .i64 aw, .int .i64 ax, .slice aK ak.length aD] 50 (0, 0)) (by exact bU <| ab.out) hb)
             have n4_ := Aa.mk (Au (by repeat (first | (with_reducible first | exact HB.out | apply Ae | apply Ac | apply Ah | refine Ag ?_ ay.out) | exact HB.out)) hb)
             clear af
             clear ac
             clear ab
             clear HB
             have af := n0_
             have ac := n1_
             have cR := n2_
             have ab := n3_
             have HB := n4_
             clear n0_ n1_ n2_ n3_ n4_
             (try clear hb)
             (try clear hb2)
             (try clear hk)
             (try clear hi)
             (try clear ho0)
             refine hK.out _ _ ⟨(Ad ab.out 0).trans rfl, (Ad ab.out 1).trans rfl, (Ad ab.out 2).trans rfl, HS3_⟩ (fun hHeld => ?_)
             clear hK K
             refine norm_ (a' := ?_) ?_ ?_
             rotate_left
             ·show Act.put _ (some 62) _ = _
              simp only [Act.put, sA, sB, sC, i64_w, i32_w]
              rfl
             refine pure_ (i := 10) (N := some 13) (v := ?_) (a' := ?_) (bA 11 2047) rfl rfl (any_of HT_.out (by kernel_rfl)) (fun _ _ _ h => h) (Or.inl ⟨by rfl, ?_⟩) ?_ ?_
             rotate_left; (intro w'; go_simp; with_reducible rfl); rotate_left; (simp only [Act.put, sA, sB, sC, i64_w, i32_w]; rfl)
             refine done_ (done_of HT_.out (by kernel_rfl)) ?_
             try go_wp2
             go_loopg [10, 14] k3 (fun kq v10 v14 w' => ∃ (ao : List Int) (ah : List Int) (aa : Int), v14 = .int .i64 aa ∧ Aa (Ap.l3 kq a2 ao ah ag ae aa aw ax ak = some (r1, r2)) ∧ Aa (kq ≤ k3) ∧ Aa (Kd.R (Kd.int .i64) 3 w' w.heap.size (fun k_ => some k_ ≠ (v10 : Value).ownBlock ∧ some k_ ≠ (v126 : Value).ownBlock) (.slice bo bp.length aE) ao) ∧ Aa (Kd.R (Kd.int .i64) 3 w' w.heap.size (fun k_ => some k_ ≠ ((.slice bo bp.length aE) : Value).ownBlock ∧ some k_ ≠ (v126 : Value).ownBlock) v10 ah) ∧ Aa (Kd.R (Kd.int .i64) 3 w' w.heap.size (fun k_ => some k_ ≠ ((.slice bo bp.length aE) : Value).ownBlock ∧ some k_ ≠ (v10 : Value).ownBlock) v126 ae) ∧ Aa (w'.heap[am]? = some (.cells #[.int .i64 aw, .int .i64 ax, (.slice aK ak.length aD)] 50 (0, 0))) ∧ Aa (Below w.heap.size w w'))
             case atStart => exact ⟨(bp), (aG), (0), (by first | rfl | (simp; done) | (simp [*]; done)), H', ⟨Nat.le_refl _⟩, ⟨by (try simp only [al]); (try simp only [aq]); exact rU <| af.out⟩, ⟨by (try simp only [al]); (try simp only [aq]); exact rU <| ac.out⟩, ⟨by (try simp only [al]); (try simp only [aq]); exact rU <| Kd.Bj cR.out (fun _ hk => ⟨hk.1.2, hk.2⟩)⟩, ⟨by (try simp only [al]); (try simp only [aq]); exact bU <| ab.out⟩, ⟨by repeat (first | (with_reducible first | exact HB.out | apply Ae | apply Ac | apply Ah | refine Ag ?_ ay.out) | exact HB.out)⟩⟩
             case round =>
              clear H'
              try clear c1
              try clear p1
              try clear q1
              try clear hx1
              try clear c2
              try clear p2
              try clear q2
              try clear hx2
              try clear c3
              try clear c4
              try clear bT
              try clear bV
              try clear c5
              try clear bW
              try clear bX
              try clear c6
              try clear p6
              try clear c10
              try clear bu
              try clear c11
              try clear bE
              try clear p11
              try clear q11
              try clear hx11
              try clear p12
              try clear q12
              try clear hx12
              try clear hf12
              try clear c17
              try clear bG
              try clear c18
              try clear b7
              try clear c19
              try clear b8
              try clear c20
              try clear b9
              try clear p21
              try clear q21
              try clear hx21
              try clear hf21
              try clear c22
              try clear c26
              try clear cd
              try clear c27
              try clear cP
              try clear bc
              try clear bd
              try clear be
              try clear bf
              try clear bg
              try clear bh
              try clear aN
              try clear aQ
              try clear bj
              try clear bm
              try clear bL
              try clear p1
              try clear p11
              try clear bJ
              try clear p12
              try clear bM
              try clear bY
              try clear p2
              try clear p21
              try clear p6
              try clear q1
              try clear q11
              try clear bK
              try clear q12
              try clear bN
              try clear bZ
              try clear q2
              try clear q21
              obtain ⟨ao, ah, aa, rfl, HA, HK4, af, ac, ai, ab, HB⟩ := hrel
              have ar := (Kd.Ba af.out).1
              rw [ar] at af
              (try simp only [ar])
              (try simp only [ar] at ab)
              (try simp only [ar] at ac)
              (try simp only [ar] at ai)
              cases gk with
              | zero => exact absurd HA.out (by simp [Ap.l3])
              | succ k4 =>
               have H := HA.out
               clear HA
               simp only [Ap.l3] at H
               by_cases c32 : aa < (ae.length : Int)
               ·rw [if_pos c32] at H
                have cS : decide (aa < (ae.length : Int)) = true := decide_eq_true c32
                clear c32
                by_cases c33 : 0 ≤ aa
                ·rw [if_pos c33] at H
                 have dB : decide (0 ≤ aa) = true := decide_eq_true c33
                 clear c33
                 by_cases c34 : 0 ≤ (rd ae aa)
                 ·rw [if_pos c34] at H
                  have dC : decide (0 ≤ (rd ae aa)) = true := decide_eq_true c34
                  clear c34
                  by_cases c35 : (rd ae aa) < (ak.length : Int)
                  ·rw [if_pos c35] at H
                   have dD : decide ((rd ae aa) < (ak.length : Int)) = true := decide_eq_true c35
                   clear c35
                   obtain ⟨bq36, bO⟩ : ∃ b_ : Bool, b_ = (rdOf false ak (rd ae aa)) := ⟨_, rfl⟩
                   replace H : (if bq36 = true then (if (rd ae aa) < (ao.length : Int) then (if (rd ao (rd ae aa)) < 0 then (if 0 ≤ ag then (if ag < (ah.length : Int) then (if 0 ≤ (rd ah ag) then (if (rd ah ag) < (ao.length : Int) then (if ah.length < 17592186044416 then (Ap.l3 k4 a2 (ao.set ((rd ae aa) : Int).toNat (wrap64 ((rd ao (rd ah ag)) + 1))) (ah ++ [rd ae aa]) ag ae (wrap64 (aa + 1)) aw ax ak) else (none)) else (none)) else (none)) else (none)) else (none)) else (Ap.l3 k4 a2 ao ah ag ae (wrap64 (aa + 1)) aw ax ak)) else (none)) else (Ap.l3 k4 a2 ao ah ag ae (wrap64 (aa + 1)) aw ax ak)) = some (r1, r2) := by rw [← bO] at H; exact H
                   have bb := Aa.mk bO
                   clear bO
                   by_cases c37 : bq36 = true
                   ·subst c37
                    have H1 := H
                    rw [if_pos rfl] at H1
                    clear H
                    have H := H1
                    clear H1
                    by_cases c38 : (rd ae aa) < (ao.length : Int)
                    ·rw [if_pos c38] at H
                     have dE : decide ((rd ae aa) < (ao.length : Int)) = true := decide_eq_true c38
                     clear c38
                     by_cases c39 : (rd ao (rd ae aa)) < 0
                     ·rw [if_pos c39] at H
                      have cU : decide ((rd ao (rd ae aa)) < 0) = true := decide_eq_true c39
                      clear c39
                      by_cases c40 : 0 ≤ ag
                      ·rw [if_pos c40] at H
                       have dF : decide (0 ≤ ag) = true := decide_eq_true c40
                       clear c40
                       by_cases c41 : ag < (ah.length : Int)
                       ·rw [if_pos c41] at H
                        have dG : decide (ag < (ah.length : Int)) = true := decide_eq_true c41
                        clear c41
                        by_cases c42 : 0 ≤ (rd ah ag)
                        ·rw [if_pos c42] at H
                         have dH : decide (0 ≤ (rd ah ag)) = true := decide_eq_true c42
                         clear c42
                         by_cases c43 : (rd ah ag) < (ao.length : Int)
                         ·rw [if_pos c43] at H
                          have dI : decide ((rd ah ag) < (ao.length : Int)) = true := decide_eq_true c43
                          clear c43
                          obtain ⟨cV, bP⟩ : ∃ y_ : List Int, y_ = (ao.set ((rd ae aa) : Int).toNat (wrap64 ((rd ao (rd ah ag)) + 1))) := ⟨_, rfl⟩
                          (try rw [Option.bind_some] at H); try rw [← bP] at H
                          have cW := Aa.mk bP
                          clear bP
                          by_cases c45 : ah.length < 17592186044416
                          ·rw [if_pos c45] at H
                           have LMc45 := Aa.mk c45
                           clear c45
                           obtain ⟨dp, bQ⟩ : ∃ y_ : List Int, y_ = (ah ++ [rd ae aa]) := ⟨_, rfl⟩
                           (try rw [Option.bind_some] at H); try rw [← bQ] at H
                           have cX := Aa.mk bQ
                           clear bQ
                           have H' := Aa.mk H
                           clear H
                           obtain ⟨dO, b3, dq⟩ := Kd.B0 ai.out
                           subst dq
                           try go_wp2
                           have n0_ := Aa.mk (Kd.Dg af.out)
                           have n1_ := Aa.mk (Kd.Dg ac.out)
                           have n2_ := Aa.mk (Kd.Dg ai.out)
                           have n3_ := Aa.mk (Ay ab.out)
                           have n4_ := Aa.mk (Ah HB.out)
                           clear af
                           clear ac
                           clear ai
                           clear ab
                           clear HB
                           have af := n0_
                           have ac := n1_
                           have ai := n2_
                           have ab := n3_
                           have HB := n4_
                           clear n0_ n1_ n2_ n3_ n4_
                           have aW : 0 ≤ (aa : Int) := of_decide_eq_true (by with_reducible assumption)
                           have aX : aa < (ae.length : Int) := of_decide_eq_true (by with_reducible assumption)
                           obtain ⟨aA, e128, aC⟩ := Kd.at_int (Kd.Ba ai.out).2.2 aa aW aX
                           cases e128
                           replace aW := eq_true aW
                           replace aX := eq_true aX
                           have aY : 0 ≤ ((rd ae aa) : Int) := of_decide_eq_true (by with_reducible assumption)
                           have aZ : (rd ae aa) < (ak.length : Int) := of_decide_eq_true (by with_reducible assumption)
                           obtain ⟨aI, e129, aj⟩ := Kd.at_bool bC.out (rd ae aa) aY aZ
                           have az := aj
                           (try rw [← bb.out] at az)
                           (try rw [← bb.out] at aj)
                           cases e129
                           replace aj := (HB.out.cell (World.block_lt_of_cell? w _ aj)).trans aj
                           replace aY := eq_true aY
                           replace aZ := eq_true aZ
                           have bq : 0 ≤ (aa : Int) := of_decide_eq_true (by with_reducible assumption)
                           have br : aa < (ae.length : Int) := of_decide_eq_true (by with_reducible assumption)
                           obtain ⟨bR, e130, aT⟩ := Kd.at_int (Kd.Ba ai.out).2.2 aa bq br
                           obtain rfl : aA = bR := (by injection e130)
                           replace bq := eq_true bq
                           replace br := eq_true br
                           have bs : 0 ≤ ((rd ae aa) : Int) := of_decide_eq_true (by with_reducible assumption)
                           have bt : (rd ae aa) < (ao.length : Int) := of_decide_eq_true (by with_reducible assumption)
                           obtain ⟨bv, e131, aH⟩ := Kd.at_int (Kd.Ba af.out).2.2 (rd ae aa) bs bt
                           cases e131
                           replace bs := eq_true bs
                           replace bt := eq_true bt
                           refine start_ (n := 18) (S := fun w' => w'.cell? ⟨am, 0, none⟩ = some (.int .i64 aw) ∧ w'.cell? ⟨am, 1, none⟩ = some (.int .i64 ax) ∧ w'.cell? ⟨am, 2, none⟩ = some (.slice (some aI) ak.length aD) ∧ w'.cell? (aA.add (aa).toNat) = some (.int .i64 (rd ae aa)) ∧ w'.cell? (aI.add ((rd ae aa)).toNat) = some (.bool true) ∧ w'.cell? (aA.add (aa).toNat) = some (.int .i64 (rd ae aa)) ∧ w'.cell? (bv.add ((rd ae aa)).toNat) = some (.int .i64 (rd ao (rd ae aa)))) (ds := []) #[false, false, false, false, false, false, false, false, false, false, false, false, false, false, false, false, false, false] (by kernel_rfl) rfl rfl ⟨(Ad ab.out 0).trans rfl, (Ad ab.out 1).trans rfl, (Ad ab.out 2).trans rfl, aC, ((HB.out.cell (World.block_lt_of_cell? w _ az)).trans az), aT, aH⟩ (fun hHeld => ?_); refine with_tabW Ap.tab19 Ap.bits19 (fun HT_ HW_ => ?_)
                           generalize wr.drew = w47 at af ac ai ab HB aC aj aT aH hHeld ⊢
                           refine pure_ (i := 0) (N := some 69) (v := ?_) (a' := ?_) (bA 18 1) rfl rfl (any_of HT_.out (by kernel_rfl)) (fun _ _ _ h => h) (Or.inl ⟨by rfl, ?_⟩) ?_ ?_
                           rotate_left; (intro w'; go_simp; with_reducible rfl); rotate_left; (simp only [Act.put, sA, sB, sC, i64_w, i32_w]; rfl)
                           refine pure_ (i := 2) (N := some 71) (v := ?_) (a' := ?_) (bA 18 5) rfl rfl (any_of HT_.out (by kernel_rfl)) (fun _ _ _ h => h) (Or.inl ⟨by rfl, ?_⟩) ?_ ?_
                           rotate_left; (intro w'; go_simp; with_reducible rfl); rotate_left; (simp only [Act.put, sA, sB, sC, i64_w, i32_w]; rfl)
                           refine pure_ (i := 3) (N := some 72) (v := ?_) (a' := ?_) (bA 18 13) rfl rfl (any_of HT_.out (by kernel_rfl)) (fun _ _ _ h => h) (Or.inl ⟨by rfl, ?_⟩) ?_ ?_
                           rotate_left; (intro w'; go_simp; with_reducible rfl); rotate_left; (simp only [Act.put, sA, sB, sC, i64_w, i32_w]; rfl)
                           refine pure_ (i := 4) (N := some 73) (v := ?_) (a' := ?_) (bA 18 29) rfl rfl (any_of HT_.out (by kernel_rfl)) (fun _ _ _ h => h) (Or.inl ⟨by rfl, ?_⟩) ?_ ?_
                           rotate_left; (intro w'; go_simp; with_reducible rfl); rotate_left; (simp only [Act.put, sA, sB, sC, i64_w, i32_w]; rfl)
                           refine take_ (i := 1) (N := some 70) (v := ?_) (a' := ?_) (bA 18 31) rfl rfl (take_ofW HT_.out HW_.out (by kernel_rfl)) (fun _ _ _ h => h) (Or.inl ⟨by rfl, ?_⟩) hHeld ?_ ?_
                           rotate_left; (rintro w' ⟨s0, s1, s2, s3, s4, s5, s6⟩; go_simp; with_reducible rfl); rotate_left; (simp only [Act.put, sA, sB, sC, i64_w, i32_w]; rfl)
                           refine take_ (i := 5) (N := some 74) (v := ?_) (a' := ?_) (bA 18 63) rfl rfl (take_ofW HT_.out HW_.out (by kernel_rfl)) (fun _ _ _ h => h) (Or.inl ⟨by rfl, ?_⟩) hHeld ?_ ?_
                           rotate_left; (rintro w' ⟨s0, s1, s2, s3, s4, s5, s6⟩; go_simp; with_reducible rfl); rotate_left; (simp only [Act.put, sA, sB, sC, i64_w, i32_w]; rfl)
                           refine pure_ (i := 6) (N := some 75) (v := ?_) (a' := ?_) (bA 18 127) rfl rfl (any_of HT_.out (by kernel_rfl)) (fun _ _ _ h => h) (Or.inl ⟨by rfl, ?_⟩) ?_ ?_
                           rotate_left; (intro w'; go_simp; with_reducible rfl); rotate_left; (simp only [Act.put, sA, sB, sC, i64_w, i32_w]; rfl)
                           refine take_ (i := 7) (N := some 76) (v := ?_) (a' := ?_) (bA 18 255) rfl rfl (take_ofW HT_.out HW_.out (by kernel_rfl)) (fun _ _ _ h => h) (Or.inl ⟨by rfl, ?_⟩) hHeld ?_ ?_
                           rotate_left; (rintro w' ⟨s0, s1, s2, s3, s4, s5, s6⟩; go_simp; with_reducible rfl); rotate_left; (simp only [Act.put, sA, sB, sC, i64_w, i32_w]; rfl)
                           refine pure_ (i := 8) (N := some 77) (v := ?_) (a' := ?_) (bA 18 511) rfl rfl (any_of HT_.out (by kernel_rfl)) (fun _ _ _ h => h) (Or.inl ⟨by rfl, ?_⟩) ?_ ?_
                           rotate_left; (intro w'; go_simp; with_reducible rfl); rotate_left; (simp only [Act.put, sA, sB, sC, i64_w, i32_w]; rfl)
                           refine pure_ (i := 9) (N := some 78) (v := ?_) (a' := ?_) (bA 18 1023) rfl rfl (any_of HT_.out (by kernel_rfl)) (fun _ _ _ h => h) (Or.inl ⟨by rfl, ?_⟩) ?_ ?_
                           rotate_left; (intro w'; go_simp; with_reducible rfl); rotate_left; (simp only [Act.put, sA, sB, sC, i64_w, i32_w]; rfl)
                           refine pure_ (i := 10) (N := some 79) (v := ?_) (a' := ?_) (bA 18 2047) rfl rfl (any_of HT_.out (by kernel_rfl)) (fun _ _ _ h => h) (Or.inl ⟨by rfl, ?_⟩) ?_ ?_
                           rotate_left; (intro w'; go_simp; with_reducible rfl); rotate_left; (simp only [Act.put, sA, sB, sC, i64_w, i32_w]; rfl)
                           refine pure_ (i := 11) (N := some 80) (v := ?_) (a' := ?_) (bA 18 4095) rfl rfl (any_of HT_.out (by kernel_rfl)) (fun _ _ _ h => h) (Or.inl ⟨by rfl, ?_⟩) ?_ ?_
                           rotate_left; (intro w'; go_simp; with_reducible rfl); rotate_left; (simp only [Act.put, sA, sB, sC, i64_w, i32_w]; rfl)
                           refine pure_ (i := 12) (N := some 81) (v := ?_) (a' := ?_) (bA 18 8191) rfl rfl (any_of HT_.out (by kernel_rfl)) (fun _ _ _ h => h) (Or.inl ⟨by rfl, ?_⟩) ?_ ?_
                           rotate_left; (intro w'; go_simp; with_reducible rfl); rotate_left; (simp only [Act.put, sA, sB, sC, i64_w, i32_w]; rfl)
                           refine take_ (i := 13) (N := some 82) (v := ?_) (a' := ?_) (bA 18 16383) rfl rfl (take_ofW HT_.out HW_.out (by kernel_rfl)) (fun _ _ _ h => h) (Or.inl ⟨by rfl, ?_⟩) hHeld ?_ ?_
                           rotate_left; (rintro w' ⟨s0, s1, s2, s3, s4, s5, s6⟩; go_simp; with_reducible rfl); rotate_left; (simp only [Act.put, sA, sB, sC, i64_w, i32_w]; rfl)
                           refine pure_ (i := 14) (N := some 83) (v := ?_) (a' := ?_) (bA 18 32767) rfl rfl (any_of HT_.out (by kernel_rfl)) (fun _ _ _ h => h) (Or.inl ⟨by rfl, ?_⟩) ?_ ?_
                           rotate_left; (intro w'; go_simp; with_reducible rfl); rotate_left; (simp only [Act.put, sA, sB, sC, i64_w, i32_w]; rfl)
                           refine take_ (i := 15) (N := some 84) (v := ?_) (a' := ?_) (bA 18 65535) rfl rfl (take_ofW HT_.out HW_.out (by kernel_rfl)) (fun _ _ _ h => h) (Or.inl ⟨by rfl, ?_⟩) hHeld ?_ ?_
                           rotate_left; (rintro w' ⟨s0, s1, s2, s3, s4, s5, s6⟩; go_simp; with_reducible rfl); rotate_left; (simp only [Act.put, sA, sB, sC, i64_w, i32_w]; rfl)
                           refine pure_ (i := 16) (N := some 85) (v := ?_) (a' := ?_) (bA 18 131071) rfl rfl (any_of HT_.out (by kernel_rfl)) (fun _ _ _ h => h) (Or.inl ⟨by rfl, ?_⟩) ?_ ?_
                           rotate_left; (intro w'; go_simp; with_reducible rfl); rotate_left; (simp only [Act.put, sA, sB, sC, i64_w, i32_w]; rfl)
                           refine pure_ (i := 17) (N := some 86) (v := ?_) (a' := ?_) (bA 18 262143) rfl rfl (any_of HT_.out (by kernel_rfl)) (fun _ _ _ h => h) (Or.inl ⟨by rfl, ?_⟩) ?_ ?_
                           rotate_left; (intro w'; go_simp; with_reducible rfl); rotate_left; (simp only [Act.put, sA, sB, sC, i64_w, i32_w]; rfl)
                           refine done_ (done_of HT_.out (by kernel_rfl)) ?_
                           have ck : 0 ≤ (aa : Int) := of_decide_eq_true (by with_reducible assumption)
                           have cp : aa < (ae.length : Int) := of_decide_eq_true (by with_reducible assumption)
                           obtain ⟨cY, e132, bw⟩ := Kd.at_int (Kd.Ba ai.out).2.2 aa ck cp
                           obtain rfl : aA = cY := (by injection e132)
                           replace ck := eq_true ck
                           replace cp := eq_true cp
                           obtain ⟨dP, cr, dr⟩ := Kd.B0 ac.out
                           subst dr
                           have ct : 0 ≤ (ag : Int) := of_decide_eq_true (by with_reducible assumption)
                           have cu : ag < (ah.length : Int) := of_decide_eq_true (by with_reducible assumption)
                           obtain ⟨bz, e133, bB⟩ := Kd.at_int (Kd.Ba ac.out).2.2 ag ct cu
                           cases e133
                           replace ct := eq_true ct
                           replace cu := eq_true cu
                           have cx : 0 ≤ ((rd ah ag) : Int) := of_decide_eq_true (by with_reducible assumption)
                           have cy : (rd ah ag) < (ao.length : Int) := of_decide_eq_true (by with_reducible assumption)
                           obtain ⟨cZ, e134, bk⟩ := Kd.at_int (Kd.Ba af.out).2.2 (rd ah ag) cx cy
                           obtain rfl : bv = cZ := (by injection e134)
                           replace cx := eq_true cx
                           replace cy := eq_true cy
                           have p44 : 0 ≤ ((rd ae aa) : Int) := of_decide_eq_true (by with_reducible assumption)
                           have q44 : ((rd ae aa) : Int) < ((ao.length : Int) : Int) := of_decide_eq_true (by with_reducible assumption)
                           obtain ⟨go44, dQ, da, db, gl44, cl44, HG44⟩ := Kd.Dd af.out (by omega)
                           (first | cases da | (injection da with ea_ en_ ec_; (first | subst ea_ | (injection ea_ with ea_; subst ea_)); subst ec_; clear en_))
                           have GB44 := Aa.mk db
                           have GG44 := Aa.mk HG44
                           clear db gl44 HG44
                           (first | simp only [add_plain] at aH | skip)
                           (first | simp only [add_plain] at bk | skip)
                           obtain ⟨ba, bl⟩ := Kd.Cx 0 af.out ((rd ae aa) : Int) p44 q44
                           replace p44 := eq_true p44
                           replace q44 := eq_true q44
                           obtain ⟨hy49_, hz49_⟩ := Kd.Cx 0 af.out ((rd ae aa) : Int) (of_decide_eq_true (by with_reducible assumption)) (of_decide_eq_true (by with_reducible assumption))
                           have bS := Kd.Db af.out ((rd ae aa) : Int) (wrap64 ((rd ao (rd ah ag)) + 1))
                           go_upto_region 20 with fail
                           refine start_ (n := 15) (S := fun w' => w'.cell? (aA.add aa.toNat) = some (.int .i64 (rd ae aa)) ∧ w'.cell? (bz.add ag.toNat) = some (.int .i64 (rd ah ag)) ∧ w'.cell? ⟨go44, (rd ah ag).toNat, none⟩ = some (.int .i64 (rd ao (rd ah ag)))) (ds := [14]) #[false, false, false, false, false, false, false, false, false, false, false, false, false, false, false] (by kernel_rfl) rfl rfl ⟨bw, bB, bk⟩ (fun hHeld => ?_)
                           clear bS
                           have n0_ := Aa.mk (Kd.Dg af.out)
                           have n1_ := Aa.mk (Kd.Dg ac.out)
                           have n2_ := Aa.mk (Kd.Dg ai.out)
                           have n3_ := Aa.mk (Ay ab.out)
                           have n4_ := Aa.mk (Ah HB.out)
                           have n5_ : w47.drew.cell? _ = _ := ba
                           have n6_ : w47.drew.frozen? _ = _ := bl
                           clear af ac ai ab HB ba bl bw bB bk hy49_ hz49_
                           have af := n0_
                           have ac := n1_
                           have ai := n2_
                           have ab := n3_
                           have HB := n4_
                           have ba := n5_
                           have bl := n6_
                           clear n0_ n1_ n2_ n3_ n4_ n5_ n6_
                           generalize w47.drew = w47 at af ac ai ab HB ba bl hHeld ⊢
                           have bS := Kd.Db af.out ((rd ae aa) : Int) (wrap64 ((rd ao (rd ah ag)) + 1))
                           refine pure_ (i := 0) (N := (some 87)) (v := ?_) (a' := ?_) #[true, false, false, false, false, false, false, false, false, false, false, false, false, false, false] rfl rfl (by kernel_rfl) (fun _ _ _ h => h) (Or.inl ⟨by rfl, ?_⟩) ?_ ?_
                           rotate_left
                           ·intro w'
                            go_simp
                            with_reducible rfl
                           rotate_left
                           ·simp only [Act.put, List.setIfInBounds_toArray, List.set_cons_zero, List.set_cons_succ, i64_w, i32_w]
                            rfl
                           refine pure_ (i := 1) (N := (some 88)) (v := ?_) (a' := ?_) #[true, true, false, false, false, false, false, false, false, false, false, false, false, false, false] rfl rfl (by kernel_rfl) (fun _ _ _ h => h) (Or.inl ⟨by rfl, ?_⟩) ?_ ?_
                           rotate_left
                           ·intro w'
                            go_simp
                            with_reducible rfl
                           rotate_left
                           ·simp only [Act.put, List.setIfInBounds_toArray, List.set_cons_zero, List.set_cons_succ, i64_w, i32_w]
                            rfl
                           refine pure_ (i := 2) (N := (some 89)) (v := ?_) (a' := ?_) #[true, true, true, false, false, false, false, false, false, false, false, false, false, false, false] rfl rfl (by kernel_rfl) (fun _ _ _ h => h) (Or.inl ⟨by rfl, ?_⟩) ?_ ?_
                           rotate_left
                           ·intro w'
                            go_simp
                            with_reducible rfl
                           rotate_left
                           ·simp only [Act.put, List.setIfInBounds_toArray, List.set_cons_zero, List.set_cons_succ, i64_w, i32_w]
                            rfl
                           refine pure_ (i := 3) (N := (some 90)) (v := ?_) (a' := ?_) #[true, true, true, true, false, false, false, false, false, false, false, false, false, false, false] rfl rfl (by kernel_rfl) (fun _ _ _ h => h) (Or.inl ⟨by rfl, ?_⟩) ?_ ?_
                           rotate_left
                           ·intro w'
                            go_simp
                            with_reducible rfl
                           rotate_left
                           ·simp only [Act.put, List.setIfInBounds_toArray, List.set_cons_zero, List.set_cons_succ, i64_w, i32_w]
                            rfl
                           refine pure_ (i := 5) (N := (some 92)) (v := ?_) (a' := ?_) #[true, true, true, true, false, true, false, false, false, false, false, false, false, false, false] rfl rfl (by kernel_rfl) (fun _ _ _ h => h) (Or.inl ⟨by rfl, ?_⟩) ?_ ?_
                           rotate_left
                           ·intro w'
                            go_simp
                            with_reducible rfl
                           rotate_left
                           ·simp only [Act.put, List.setIfInBounds_toArray, List.set_cons_zero, List.set_cons_succ, i64_w, i32_w]
                            rfl
                           refine pure_ (i := 6) (N := (some 93)) (v := ?_) (a' := ?_) #[true, true, true, true, false, true, true, false, false, false, false, false, false, false, false] rfl rfl (by kernel_rfl) (fun _ _ _ h => h) (Or.inl ⟨by rfl, ?_⟩) ?_ ?_
                           rotate_left
                           ·intro w'
                            go_simp
                            with_reducible rfl
                           rotate_left
                           ·simp only [Act.put, List.setIfInBounds_toArray, List.set_cons_zero, List.set_cons_succ, i64_w, i32_w]
                            rfl
                           refine pure_ (i := 7) (N := (some 94)) (v := ?_) (a' := ?_) #[true, true, true, true, false, true, true, true, false, false, false, false, false, false, false] rfl rfl (by kernel_rfl) (fun _ _ _ h => h) (Or.inl ⟨by rfl, ?_⟩) ?_ ?_
                           rotate_left
                           ·intro w'
                            go_simp
                            with_reducible rfl
                           rotate_left
                           ·simp only [Act.put, List.setIfInBounds_toArray, List.set_cons_zero, List.set_cons_succ, i64_w, i32_w]
                            rfl
                           refine pure_ (i := 8) (N := (some 95)) (v := ?_) (a' := ?_) #[true, true, true, true, false, true, true, true, true, false, false, false, false, false, false] rfl rfl (by kernel_rfl) (fun _ _ _ h => h) (Or.inl ⟨by rfl, ?_⟩) ?_ ?_
                           rotate_left
                           ·intro w'
                            go_simp
                            with_reducible rfl
                           rotate_left
                           ·simp only [Act.put, List.setIfInBounds_toArray, List.set_cons_zero, List.set_cons_succ, i64_w, i32_w]
                            rfl
                           refine take_ (i := 4) (N := (some 91)) (v := ?_) (a' := ?_) #[true, true, true, true, true, true, true, true, true, false, false, false, false, false, false] rfl rfl (by kernel_rfl) (fun _ _ _ h => h) (Or.inl ⟨by rfl, ?_⟩) hHeld ?_ ?_
                           rotate_left
                           ·rintro w' ⟨s0, s1, s2⟩
                            go_simp
                            with_reducible rfl
                           rotate_left
                           ·simp only [Act.put, List.setIfInBounds_toArray, List.set_cons_zero, List.set_cons_succ, i64_w, i32_w]
                            rfl
                           refine take_ (i := 9) (N := (some 96)) (v := ?_) (a' := ?_) #[true, true, true, true, true, true, true, true, true, true, false, false, false, false, false] rfl rfl (by kernel_rfl) (fun _ _ _ h => h) (Or.inl ⟨by rfl, ?_⟩) hHeld ?_ ?_
                           rotate_left
                           ·rintro w' ⟨s0, s1, s2⟩
                            go_simp
                            with_reducible rfl
                           rotate_left
                           ·simp only [Act.put, List.setIfInBounds_toArray, List.set_cons_zero, List.set_cons_succ, i64_w, i32_w]
                            rfl
                           refine pure_ (i := 10) (N := (some 97)) (v := ?_) (a' := ?_) #[true, true, true, true, true, true, true, true, true, true, true, false, false, false, false] rfl rfl (by kernel_rfl) (fun _ _ _ h => h) (Or.inl ⟨by rfl, ?_⟩) ?_ ?_
                           rotate_left
                           ·intro w'
                            go_simp
                            with_reducible rfl
                           rotate_left
                           ·simp only [Act.put, List.setIfInBounds_toArray, List.set_cons_zero, List.set_cons_succ, i64_w, i32_w]
                            rfl
                           refine take_ (i := 11) (N := (some 98)) (v := ?_) (a' := ?_) #[true, true, true, true, true, true, true, true, true, true, true, true, false, false, false] rfl rfl (by kernel_rfl) (fun _ _ _ h => h) (Or.inl ⟨by rfl, ?_⟩) hHeld ?_ ?_
                           rotate_left
                           ·rintro w' ⟨s0, s1, s2⟩
                            go_simp
                            with_reducible rfl
                           rotate_left
                           ·simp only [Act.put, List.setIfInBounds_toArray, List.set_cons_zero, List.set_cons_succ, i64_w, i32_w]
                            rfl
                           refine pure_ (i := 12) (N := (some 99)) (v := ?_) (a' := ?_) #[true, true, true, true, true, true, true, true, true, true, true, true, true, false, false] rfl rfl (by kernel_rfl) (fun _ _ _ h => h) (Or.inl ⟨by rfl, ?_⟩) ?_ ?_
                           rotate_left
                           ·intro w'
                            go_simp
                            with_reducible rfl
                           rotate_left
                           ·simp only [Act.put, List.setIfInBounds_toArray, List.set_cons_zero, List.set_cons_succ, i64_w, i32_w]
                            rfl
                           refine pure_ (i := 13) (N := (some 100)) (v := ?_) (a' := ?_) #[true, true, true, true, true, true, true, true, true, true, true, true, true, true, false] rfl rfl (by kernel_rfl) (fun _ _ _ h => h) (Or.inl ⟨by rfl, ?_⟩) ?_ ?_
                           rotate_left
                           ·intro w'
                            go_simp
                            with_reducible rfl
                           rotate_left
                           ·simp only [Act.put, List.setIfInBounds_toArray, List.set_cons_zero, List.set_cons_succ, i64_w, i32_w]
                            rfl
                           refine last_ (i := 14) (N := none) #[true, true, true, true, true, true, true, true, true, true, true, true, true, true, true] rfl rfl (by kernel_rfl) (by decide) (fun K hK => ?_)
                           have hw_ := ba
                           refine skip_ (w1 := (w47.setCell ⟨go44, ((rd ae aa) : Int).toNat, none⟩ (.int .i64 (wrap64 ((rd ao (rd ah ag)) + 1))))) (by rfl) rfl ?_ ?_
                           ·first | (go_simp; done) | (go_simp; rfl)
                           refine hK.out _ _ ?_
                           clear hK K hw_
                           refine done_ (by kernel_rfl) ?_
                           obtain ⟨w50, hw⟩ : ∃ w_ : World, w_ = w47.setCell ⟨go44, ((rd ae aa) : Int).toNat, none⟩ (.int .i64 (wrap64 ((rd ao (rd ah ag)) + 1))) := ⟨_, rfl⟩
                           rw [← hw]
                           (have hg : w47.grownBy w50 (some go44) := (by rw [hw]; exact bS.2); have hp_ : Kd.R (Kd.int .i64) 3 w50 w.heap.size (fun k_ => some k_ ≠ (.slice (some bz) ah.length cr : Value).ownBlock ∧ some k_ ≠ (.slice (some aA) ae.length b3 : Value).ownBlock) (.slice (some ⟨go44, 0, none⟩) ao.length aE) cV := (by rw [hw, cW.out]; exact bS.1); clear bS; have n0_ := Aa.mk (hp_); have n1_ := Aa.mk (Kd.C5 (v := (.slice (some ⟨go44, 0, none⟩) ao.length aE)) (v1 := (.slice (some ⟨go44, 0, none⟩) ao.length aE)) (ok := (fun k_ => some k_ ≠ (.slice (some aA) ae.length b3 : Value).ownBlock)) (by exact rU <| Kd.Bj ac.out (fun _ hk => ⟨hk.2, hk.1⟩)) hg (.inl rfl)); have n2_ := Aa.mk (Kd.C5 (v := (.slice (some ⟨go44, 0, none⟩) ao.length aE)) (v1 := (.slice (some ⟨go44, 0, none⟩) ao.length aE)) (ok := (fun k_ => some k_ ≠ (.slice (some bz) ah.length cr : Value).ownBlock)) (by exact rU <| Kd.Bj ai.out (fun _ hk => ⟨hk.2, hk.1⟩)) hg (.inl rfl)); have n3_ := Aa.mk (Bu (g := am) (o := .cells #[.int .i64 aw, .int .i64 ax, .slice (some aI) ak.length aD] 50 (0, 0)) (by exact bU <| ab.out) hg (Kd.De af.out ab.out (by decide))); have n4_ := Aa.mk ((by rw [hw]; exact Ag (HB.out) GB44.out : Below w.heap.size w w50)); clear af; clear ac; clear ai; clear ab; clear HB; have af := n0_; have ac := n1_; have ai := n2_; have ab := n3_; have HB := n4_; clear n0_ n1_ n2_ n3_ n4_; clear hg hw hp_; have cz : 0 ≤ (aa : Int) := of_decide_eq_true (by with_reducible assumption); have cA : aa < (ae.length : Int) := of_decide_eq_true (by with_reducible assumption); obtain ⟨dc, e136, de⟩ := Kd.at_int (Kd.Ba ai.out).2.2 aa cz cA; obtain rfl : aA = dc := (by injection e136); replace cz := eq_true cz; replace cA := eq_true cA)
                           go_wp2_with ((with_reducible refine Cu (b := .append) (xs := #[.tmp 101, .tmp 106]) rfl ?_); at_builtin; refine Kd.Dk (Kd.int .i64) (w0 := w) w.heap.size rfl (.tmp 101) (.tmp 106) 31 3 (.int .i64 0) 8 rfl Try.underlying31 info3 rfl (by decide) (by omega) (.slice (some bz) ah.length cr) ah (rd ae aa) [.int .i64 (rd ae aa)] (fun k_ => some k_ ≠ (.slice (some ⟨go44, 0, none⟩) ao.length aE : Value).ownBlock ∧ some k_ ≠ (.slice (some aA) ae.length b3 : Value).ownBlock) (fun _ => False) rfl rfl ?aP (fun _ hk => hk.elim) ?aF ?aO ?aB ?aS ?aL ?_; (case aP => exact rfl); (case aB => exact (by repeat (first | (with_reducible first | exact HB.out | apply Ae | apply Ac | apply Ah | refine Ag ?_ ay.out) | exact HB.out))); (case aF => exact (fun k_ hk => ⟨Kd.fresh' (Kd.Cy (by exact rU <| af.out)) k_ hk, Kd.fresh' (Kd.Cy (by exact rU <| ai.out)) k_ hk⟩)); (case aO => exact (by exact rU <| Kd.Bj ac.out (fun _ hk => ⟨hk.2, hk.1⟩))); (case aS => exact (An (by repeat (first | (with_reducible first | exact HB.out | apply Ae | apply Ac | apply Ah | refine Ag ?_ ay.out) | exact HB.out)))); (case aL => have := LMc45.out; omega); intro v138 w51 ho hb hg hat; rw [← cX.out] at ho; have n0_ := Aa.mk (Kd.C5 (ok := (fun k_ => some k_ ≠ (.slice (some aA) ae.length b3 : Value).ownBlock)) (by exact rU <| Kd.Bj af.out (fun _ hk => ⟨hk.2, hk.1⟩)) hg hat); have n1_ := Aa.mk (Kd.C5 (ok := (fun k_ => some k_ ≠ (.slice (some ⟨go44, 0, none⟩) ao.length aE : Value).ownBlock)) (by exact rU <| Kd.Bj ai.out (fun _ hk => ⟨hk.2, hk.1⟩)) hg hat); have n2_ := Aa.mk (Bu (g := am) (o := .cells #[.int .i64 aw, .int .i64 ax, .slice (some aI) ak.length aD] 50 (0, 0)) (by exact bU <| ab.out) hg (Kd.De ac.out ab.out (by decide))); have n3_ := Aa.mk (hb); have n4_ := Aa.mk (ho); clear af; clear ai; clear ab; clear HB; clear ac; have af := n0_; have ai := n1_; have ab := n2_; have HB := n3_; have dd := n4_; clear n0_ n1_ n2_ n3_ n4_; clear ho hb hg hat)
                           (try simp only [← ar])
                           go_roundg k4
                           case measure => have := HK1.out; have := HK2.out; have := HK3.out; have := HK4.out; omega
                           case rel => exact ⟨(cV), (dp), (wrap64 (aa + 1)), (by first | rfl | (simp; done) | (simp [*]; done)), H', ⟨by have := HK1.out; have := HK2.out; have := HK3.out; have := HK4.out; omega⟩, ⟨by (try simp only [al]); (try simp only [aq]); (try simp only [ar]); exact rU <| Kd.Bj af.out (fun _ hk => ⟨hk.2, hk.1⟩)⟩, ⟨by (try simp only [al]); (try simp only [aq]); (try simp only [ar]); exact rU <| dd.out⟩, ⟨by (try simp only [al]); (try simp only [aq]); (try simp only [ar]); exact rU <| ai.out⟩, ⟨by (try simp only [al]); (try simp only [aq]); (try simp only [ar]); exact bU <| ab.out⟩, ⟨by repeat (first | (with_reducible first | exact HB.out | apply Ae | apply Ac | apply Ah | refine Ag ?_ ay.out) | exact HB.out)⟩⟩
                          ·rw [if_neg c45] at H
                           exact absurd H (by simp)
                         ·rw [if_neg c43] at H
                          exact absurd H (by simp)
                        ·rw [if_neg c42] at H
                         exact absurd H (by simp)
                       ·rw [if_neg c41] at H
                        exact absurd H (by simp)
                      ·rw [if_neg c40] at H
                       exact absurd H (by simp)
                     ·rw [if_neg c39] at H
                      have cU : decide ((rd ao (rd ae aa)) < 0) = false := decide_eq_false c39
                      clear c39
                      have H' := Aa.mk H
                      clear H
                      obtain ⟨dR, dS, dt⟩ := Kd.B0 ai.out
                      subst dt
                      try go_wp2
                      have n0_ := Aa.mk (Kd.Dg af.out)
                      have n1_ := Aa.mk (Kd.Dg ac.out)
                      have n2_ := Aa.mk (Kd.Dg ai.out)
                      have n3_ := Aa.mk (Ay ab.out)
                      have n4_ := Aa.mk (Ah HB.out)
                      clear af
                      clear ac
                      clear ai
                      clear ab
                      clear HB
                      have af := n0_
                      have ac := n1_
                      have ai := n2_
                      have ab := n3_
                      have HB := n4_
                      clear n0_ n1_ n2_ n3_ n4_
                      have aW : 0 ≤ (aa : Int) := of_decide_eq_true (by with_reducible assumption)
                      have aX : aa < (ae.length : Int) := of_decide_eq_true (by with_reducible assumption)
                      obtain ⟨aA, e128, aC⟩ := Kd.at_int (Kd.Ba ai.out).2.2 aa aW aX
                      cases e128
                      replace aW := eq_true aW
                      replace aX := eq_true aX
                      have aY : 0 ≤ ((rd ae aa) : Int) := of_decide_eq_true (by with_reducible assumption)
                      have aZ : (rd ae aa) < (ak.length : Int) := of_decide_eq_true (by with_reducible assumption)
                      obtain ⟨aI, e129, aj⟩ := Kd.at_bool bC.out (rd ae aa) aY aZ
                      have az := aj
                      (try rw [← bb.out] at az)
                      (try rw [← bb.out] at aj)
                      cases e129
                      replace aj := (HB.out.cell (World.block_lt_of_cell? w _ aj)).trans aj
                      replace aY := eq_true aY
                      replace aZ := eq_true aZ
                      have bq : 0 ≤ (aa : Int) := of_decide_eq_true (by with_reducible assumption)
                      have br : aa < (ae.length : Int) := of_decide_eq_true (by with_reducible assumption)
                      obtain ⟨bR, e130, aT⟩ := Kd.at_int (Kd.Ba ai.out).2.2 aa bq br
                      obtain rfl : aA = bR := (by injection e130)
                      replace bq := eq_true bq
                      replace br := eq_true br
                      have bs : 0 ≤ ((rd ae aa) : Int) := of_decide_eq_true (by with_reducible assumption)
                      have bt : (rd ae aa) < (ao.length : Int) := of_decide_eq_true (by with_reducible assumption)
                      obtain ⟨bv, e131, aH⟩ := Kd.at_int (Kd.Ba af.out).2.2 (rd ae aa) bs bt
                      cases e131
                      replace bs := eq_true bs
                      replace bt := eq_true bt
                      refine start_ (n := 18) (S := fun w' => w'.cell? ⟨am, 0, none⟩ = some (.int .i64 aw) ∧ w'.cell? ⟨am, 1, none⟩ = some (.int .i64 ax) ∧ w'.cell? ⟨am, 2, none⟩ = some (.slice (some aI) ak.length aD) ∧ w'.cell? (aA.add (aa).toNat) = some (.int .i64 (rd ae aa)) ∧ w'.cell? (aI.add ((rd ae aa)).toNat) = some (.bool true) ∧ w'.cell? (aA.add (aa).toNat) = some (.int .i64 (rd ae aa)) ∧ w'.cell? (bv.add ((rd ae aa)).toNat) = some (.int .i64 (rd ao (rd ae aa)))) (ds := []) #[false, false, false, false, false, false, false, false, false, false, false, false, false, false, false, false, false, false] (by kernel_rfl) rfl rfl ⟨(Ad ab.out 0).trans rfl, (Ad ab.out 1).trans rfl, (Ad ab.out 2).trans rfl, aC, ((HB.out.cell (World.block_lt_of_cell? w _ az)).trans az), aT, aH⟩ (fun hHeld => ?_); refine with_tabW Ap.tab19 Ap.bits19 (fun HT_ HW_ => ?_)
                      generalize wr.drew = w53 at af ac ai ab HB aC aj aT aH hHeld ⊢
                      refine pure_ (i := 0) (N := some 69) (v := ?_) (a' := ?_) (bA 18 1) rfl rfl (any_of HT_.out (by kernel_rfl)) (fun _ _ _ h => h) (Or.inl ⟨by rfl, ?_⟩) ?_ ?_
                      rotate_left; (intro w'; go_simp; with_reducible rfl); rotate_left; (simp only [Act.put, sA, sB, sC, i64_w, i32_w]; rfl)
                      refine pure_ (i := 2) (N := some 71) (v := ?_) (a' := ?_) (bA 18 5) rfl rfl (any_of HT_.out (by kernel_rfl)) (fun _ _ _ h => h) (Or.inl ⟨by rfl, ?_⟩) ?_ ?_
                      rotate_left; (intro w'; go_simp; with_reducible rfl); rotate_left; (simp only [Act.put, sA, sB, sC, i64_w, i32_w]; rfl)
                      refine pure_ (i := 3) (N := some 72) (v := ?_) (a' := ?_) (bA 18 13) rfl rfl (any_of HT_.out (by kernel_rfl)) (fun _ _ _ h => h) (Or.inl ⟨by rfl, ?_⟩) ?_ ?_
                      rotate_left; (intro w'; go_simp; with_reducible rfl); rotate_left; (simp only [Act.put, sA, sB, sC, i64_w, i32_w]; rfl)
                      refine pure_ (i := 4) (N := some 73) (v := ?_) (a' := ?_) (bA 18 29) rfl rfl (any_of HT_.out (by kernel_rfl)) (fun _ _ _ h => h) (Or.inl ⟨by rfl, ?_⟩) ?_ ?_
                      rotate_left; (intro w'; go_simp; with_reducible rfl); rotate_left; (simp only [Act.put, sA, sB, sC, i64_w, i32_w]; rfl)
                      refine take_ (i := 1) (N := some 70) (v := ?_) (a' := ?_) (bA 18 31) rfl rfl (take_ofW HT_.out HW_.out (by kernel_rfl)) (fun _ _ _ h => h) (Or.inl ⟨by rfl, ?_⟩) hHeld ?_ ?_
                      rotate_left; (rintro w' ⟨s0, s1, s2, s3, s4, s5, s6⟩; go_simp; with_reducible rfl); rotate_left; (simp only [Act.put, sA, sB, sC, i64_w, i32_w]; rfl)
                      refine take_ (i := 5) (N := some 74) (v := ?_) (a' := ?_) (bA 18 63) rfl rfl (take_ofW HT_.out HW_.out (by kernel_rfl)) (fun _ _ _ h => h) (Or.inl ⟨by rfl, ?_⟩) hHeld ?_ ?_
                      rotate_left; (rintro w' ⟨s0, s1, s2, s3, s4, s5, s6⟩; go_simp; with_reducible rfl); rotate_left; (simp only [Act.put, sA, sB, sC, i64_w, i32_w]; rfl)
                      refine pure_ (i := 6) (N := some 75) (v := ?_) (a' := ?_) (bA 18 127) rfl rfl (any_of HT_.out (by kernel_rfl)) (fun _ _ _ h => h) (Or.inl ⟨by rfl, ?_⟩) ?_ ?_
                      rotate_left; (intro w'; go_simp; with_reducible rfl); rotate_left; (simp only [Act.put, sA, sB, sC, i64_w, i32_w]; rfl)
                      refine take_ (i := 7) (N := some 76) (v := ?_) (a' := ?_) (bA 18 255) rfl rfl (take_ofW HT_.out HW_.out (by kernel_rfl)) (fun _ _ _ h => h) (Or.inl ⟨by rfl, ?_⟩) hHeld ?_ ?_
                      rotate_left; (rintro w' ⟨s0, s1, s2, s3, s4, s5, s6⟩; go_simp; with_reducible rfl); rotate_left; (simp only [Act.put, sA, sB, sC, i64_w, i32_w]; rfl)
                      refine pure_ (i := 8) (N := some 77) (v := ?_) (a' := ?_) (bA 18 511) rfl rfl (any_of HT_.out (by kernel_rfl)) (fun _ _ _ h => h) (Or.inl ⟨by rfl, ?_⟩) ?_ ?_
                      rotate_left; (intro w'; go_simp; with_reducible rfl); rotate_left; (simp only [Act.put, sA, sB, sC, i64_w, i32_w]; rfl)
                      refine pure_ (i := 9) (N := some 78) (v := ?_) (a' := ?_) (bA 18 1023) rfl rfl (any_of HT_.out (by kernel_rfl)) (fun _ _ _ h => h) (Or.inl ⟨by rfl, ?_⟩) ?_ ?_
                      rotate_left; (intro w'; go_simp; with_reducible rfl); rotate_left; (simp only [Act.put, sA, sB, sC, i64_w, i32_w]; rfl)
                      refine pure_ (i := 10) (N := some 79) (v := ?_) (a' := ?_) (bA 18 2047) rfl rfl (any_of HT_.out (by kernel_rfl)) (fun _ _ _ h => h) (Or.inl ⟨by rfl, ?_⟩) ?_ ?_
                      rotate_left; (intro w'; go_simp; with_reducible rfl); rotate_left; (simp only [Act.put, sA, sB, sC, i64_w, i32_w]; rfl)
                      refine pure_ (i := 11) (N := some 80) (v := ?_) (a' := ?_) (bA 18 4095) rfl rfl (any_of HT_.out (by kernel_rfl)) (fun _ _ _ h => h) (Or.inl ⟨by rfl, ?_⟩) ?_ ?_
                      rotate_left; (intro w'; go_simp; with_reducible rfl); rotate_left; (simp only [Act.put, sA, sB, sC, i64_w, i32_w]; rfl)
                      refine pure_ (i := 12) (N := some 81) (v := ?_) (a' := ?_) (bA 18 8191) rfl rfl (any_of HT_.out (by kernel_rfl)) (fun _ _ _ h => h) (Or.inl ⟨by rfl, ?_⟩) ?_ ?_
                      rotate_left; (intro w'; go_simp; with_reducible rfl); rotate_left; (simp only [Act.put, sA, sB, sC, i64_w, i32_w]; rfl)
                      refine take_ (i := 13) (N := some 82) (v := ?_) (a' := ?_) (bA 18 16383) rfl rfl (take_ofW HT_.out HW_.out (by kernel_rfl)) (fun _ _ _ h => h) (Or.inl ⟨by rfl, ?_⟩) hHeld ?_ ?_
                      rotate_left; (rintro w' ⟨s0, s1, s2, s3, s4, s5, s6⟩; go_simp; with_reducible rfl); rotate_left; (simp only [Act.put, sA, sB, sC, i64_w, i32_w]; rfl)
                      refine pure_ (i := 14) (N := some 83) (v := ?_) (a' := ?_) (bA 18 32767) rfl rfl (any_of HT_.out (by kernel_rfl)) (fun _ _ _ h => h) (Or.inl ⟨by rfl, ?_⟩) ?_ ?_
                      rotate_left; (intro w'; go_simp; with_reducible rfl); rotate_left; (simp only [Act.put, sA, sB, sC, i64_w, i32_w]; rfl)
                      refine take_ (i := 15) (N := some 84) (v := ?_) (a' := ?_) (bA 18 65535) rfl rfl (take_ofW HT_.out HW_.out (by kernel_rfl)) (fun _ _ _ h => h) (Or.inl ⟨by rfl, ?_⟩) hHeld ?_ ?_
                      rotate_left; (rintro w' ⟨s0, s1, s2, s3, s4, s5, s6⟩; go_simp; with_reducible rfl); rotate_left; (simp only [Act.put, sA, sB, sC, i64_w, i32_w]; rfl)
                      refine pure_ (i := 16) (N := some 85) (v := ?_) (a' := ?_) (bA 18 131071) rfl rfl (any_of HT_.out (by kernel_rfl)) (fun _ _ _ h => h) (Or.inl ⟨by rfl, ?_⟩) ?_ ?_
                      rotate_left; (intro w'; go_simp; with_reducible rfl); rotate_left; (simp only [Act.put, sA, sB, sC, i64_w, i32_w]; rfl)
                      refine pure_ (i := 17) (N := some 86) (v := ?_) (a' := ?_) (bA 18 262143) rfl rfl (any_of HT_.out (by kernel_rfl)) (fun _ _ _ h => h) (Or.inl ⟨by rfl, ?_⟩) ?_ ?_
                      rotate_left; (intro w'; go_simp; with_reducible rfl); rotate_left; (simp only [Act.put, sA, sB, sC, i64_w, i32_w]; rfl)
                      refine done_ (done_of HT_.out (by kernel_rfl)) ?_
                      try go_wp2
                      (try simp only [← ar])
                      go_roundg k4
                      case measure => have := HK1.out; have := HK2.out; have := HK3.out; have := HK4.out; omega
                      case rel => exact ⟨(ao), (ah), (wrap64 (aa + 1)), (by first | rfl | (simp; done) | (simp [*]; done)), H', ⟨by have := HK1.out; have := HK2.out; have := HK3.out; have := HK4.out; omega⟩, ⟨by (try simp only [al]); (try simp only [aq]); (try simp only [ar]); exact rU <| af.out⟩, ⟨by (try simp only [al]); (try simp only [aq]); (try simp only [ar]); exact rU <| ac.out⟩, ⟨by (try simp only [al]); (try simp only [aq]); (try simp only [ar]); exact rU <| ai.out⟩, ⟨by (try simp only [al]); (try simp only [aq]); (try simp only [ar]); exact bU <| ab.out⟩, ⟨by repeat (first | (with_reducible first | exact HB.out | apply Ae | apply Ac | apply Ah | refine Ag ?_ ay.out) | exact HB.out)⟩⟩
                    ·rw [if_neg c38] at H
                     exact absurd H (by simp)
                   ·replace c37 := Bool.eq_false_iff.mpr c37
                    subst c37
                    have H1 := H
                    rw [if_neg (show ¬ (false = true) by decide)] at H1
                    clear H
                    have H := H1
                    clear H1
                    have H' := Aa.mk H
                    clear H
                    obtain ⟨dT, dU, du⟩ := Kd.B0 ai.out
                    subst du
                    try go_wp2
                    have n0_ := Aa.mk (Kd.Dg af.out)
                    have n1_ := Aa.mk (Kd.Dg ac.out)
                    have n2_ := Aa.mk (Kd.Dg ai.out)
                    have n3_ := Aa.mk (Ay ab.out)
                    have n4_ := Aa.mk (Ah HB.out)
                    clear af
                    clear ac
                    clear ai
                    clear ab
                    clear HB
                    have af := n0_
                    have ac := n1_
                    have ai := n2_
                    have ab := n3_
                    have HB := n4_
                    clear n0_ n1_ n2_ n3_ n4_
                    have aW : 0 ≤ (aa : Int) := of_decide_eq_true (by with_reducible assumption)
                    have aX : aa < (ae.length : Int) := of_decide_eq_true (by with_reducible assumption)
                    obtain ⟨aA, e128, aC⟩ := Kd.at_int (Kd.Ba ai.out).2.2 aa aW aX
                    cases e128
                    replace aW := eq_true aW
                    replace aX := eq_true aX
                    have aY : 0 ≤ ((rd ae aa) : Int) := of_decide_eq_true (by with_reducible assumption)
                    have aZ : (rd ae aa) < (ak.length : Int) := of_decide_eq_true (by with_reducible assumption)
                    obtain ⟨aI, e129, aj⟩ := Kd.at_bool bC.out (rd ae aa) aY aZ
                    have az := aj
                    (try rw [← bb.out] at az)
                    (try rw [← bb.out] at aj)
                    cases e129
                    replace aj := (HB.out.cell (World.block_lt_of_cell? w _ aj)).trans aj
                    replace aY := eq_true aY
                    replace aZ := eq_true aZ
                    refine start_ (n := 18) (S := fun w' => w'.cell? ⟨am, 0, none⟩ = some (.int .i64 aw) ∧ w'.cell? ⟨am, 1, none⟩ = some (.int .i64 ax) ∧ w'.cell? ⟨am, 2, none⟩ = some (.slice (some aI) ak.length aD) ∧ w'.cell? (aA.add (aa).toNat) = some (.int .i64 (rd ae aa)) ∧ w'.cell? (aI.add ((rd ae aa)).toNat) = some (.bool false)) (ds := []) #[false, false, false, false, false, false, false, false, false, false, false, false, false, false, false, false, false, false] (by kernel_rfl) rfl rfl ⟨(Ad ab.out 0).trans rfl, (Ad ab.out 1).trans rfl, (Ad ab.out 2).trans rfl, aC, ((HB.out.cell (World.block_lt_of_cell? w _ az)).trans az)⟩ (fun hHeld => ?_); refine with_tabW Ap.tab19 Ap.bits19 (fun HT_ HW_ => ?_)
                    generalize wr.drew = w55 at af ac ai ab HB aC aj hHeld ⊢
                    refine pure_ (i := 0) (N := some 69) (v := ?_) (a' := ?_) (bA 18 1) rfl rfl (any_of HT_.out (by kernel_rfl)) (fun _ _ _ h => h) (Or.inl ⟨by rfl, ?_⟩) ?_ ?_
                    rotate_left; (intro w'; go_simp; with_reducible rfl); rotate_left; (simp only [Act.put, sA, sB, sC, i64_w, i32_w]; rfl)
                    refine pure_ (i := 2) (N := some 71) (v := ?_) (a' := ?_) (bA 18 5) rfl rfl (any_of HT_.out (by kernel_rfl)) (fun _ _ _ h => h) (Or.inl ⟨by rfl, ?_⟩) ?_ ?_
                    rotate_left; (intro w'; go_simp; with_reducible rfl); rotate_left; (simp only [Act.put, sA, sB, sC, i64_w, i32_w]; rfl)
                    refine pure_ (i := 3) (N := some 72) (v := ?_) (a' := ?_) (bA 18 13) rfl rfl (any_of HT_.out (by kernel_rfl)) (fun _ _ _ h => h) (Or.inl ⟨by rfl, ?_⟩) ?_ ?_
                    rotate_left; (intro w'; go_simp; with_reducible rfl); rotate_left; (simp only [Act.put, sA, sB, sC, i64_w, i32_w]; rfl)
                    refine pure_ (i := 4) (N := some 73) (v := ?_) (a' := ?_) (bA 18 29) rfl rfl (any_of HT_.out (by kernel_rfl)) (fun _ _ _ h => h) (Or.inl ⟨by rfl, ?_⟩) ?_ ?_
                    rotate_left; (intro w'; go_simp; with_reducible rfl); rotate_left; (simp only [Act.put, sA, sB, sC, i64_w, i32_w]; rfl)
                    refine take_ (i := 1) (N := some 70) (v := ?_) (a' := ?_) (bA 18 31) rfl rfl (take_ofW HT_.out HW_.out (by kernel_rfl)) (fun _ _ _ h => h) (Or.inl ⟨by rfl, ?_⟩) hHeld ?_ ?_
                    rotate_left; (rintro w' ⟨s0, s1, s2, s3, s4⟩; go_simp; with_reducible rfl); rotate_left; (simp only [Act.put, sA, sB, sC, i64_w, i32_w]; rfl)
                    refine take_ (i := 5) (N := some 74) (v := ?_) (a' := ?_) (bA 18 63) rfl rfl (take_ofW HT_.out HW_.out (by kernel_rfl)) (fun _ _ _ h => h) (Or.inl ⟨by rfl, ?_⟩) hHeld ?_ ?_
                    rotate_left; (rintro w' ⟨s0, s1, s2, s3, s4⟩; go_simp; with_reducible rfl); rotate_left; (simp only [Act.put, sA, sB, sC, i64_w, i32_w]; rfl)
                    refine pure_ (i := 6) (N := some 75) (v := ?_) (a' := ?_) (bA 18 127) rfl rfl (any_of HT_.out (by kernel_rfl)) (fun _ _ _ h => h) (Or.inl ⟨by rfl, ?_⟩) ?_ ?_
                    rotate_left; (intro w'; go_simp; with_reducible rfl); rotate_left; (simp only [Act.put, sA, sB, sC, i64_w, i32_w]; rfl)
                    refine take_ (i := 7) (N := some 76) (v := ?_) (a' := ?_) (bA 18 255) rfl rfl (take_ofW HT_.out HW_.out (by kernel_rfl)) (fun _ _ _ h => h) (Or.inl ⟨by rfl, ?_⟩) hHeld ?_ ?_
                    rotate_left; (rintro w' ⟨s0, s1, s2, s3, s4⟩; go_simp; with_reducible rfl); rotate_left; (simp only [Act.put, sA, sB, sC, i64_w, i32_w]; rfl)
                    refine pure_ (i := 8) (N := some 77) (v := ?_) (a' := ?_) (bA 18 511) rfl rfl (any_of HT_.out (by kernel_rfl)) (fun _ _ _ h => h) (Or.inl ⟨by rfl, ?_⟩) ?_ ?_
                    rotate_left; (intro w'; go_simp; with_reducible rfl); rotate_left; (simp only [Act.put, sA, sB, sC, i64_w, i32_w]; rfl)
                    refine pure_ (i := 9) (N := some 78) (v := undef) (a' := ?_) (bA 18 1023) rfl rfl (any_of HT_.out (by kernel_rfl)) (fun _ _ _ h => h) (Or.inr ⟨by rfl, rfl⟩) ?_ ?_
                    rotate_left
                    ·simp only [Act.put, sA, sB, sC, i64_w, i32_w]
                     rfl
                    refine pure_ (i := 10) (N := some 79) (v := undef) (a' := ?_) (bA 18 2047) rfl rfl (any_of HT_.out (by kernel_rfl)) (fun _ _ _ h => h) (Or.inr ⟨by rfl, rfl⟩) ?_ ?_
                    rotate_left
                    ·simp only [Act.put, sA, sB, sC, i64_w, i32_w]
                     rfl
                    refine pure_ (i := 11) (N := some 80) (v := undef) (a' := ?_) (bA 18 4095) rfl rfl (any_of HT_.out (by kernel_rfl)) (fun _ _ _ h => h) (Or.inr ⟨by rfl, rfl⟩) ?_ ?_
                    rotate_left
                    ·simp only [Act.put, sA, sB, sC, i64_w, i32_w]
                     rfl
                    refine pure_ (i := 12) (N := some 81) (v := undef) (a' := ?_) (bA 18 8191) rfl rfl (any_of HT_.out (by kernel_rfl)) (fun _ _ _ h => h) (Or.inr ⟨by rfl, rfl⟩) ?_ ?_
                    rotate_left
                    ·simp only [Act.put, sA, sB, sC, i64_w, i32_w]
                     rfl
                    refine pure_ (i := 13) (N := some 82) (v := undef) (a' := ?_) (bA 18 16383) rfl rfl (any_of HT_.out (by kernel_rfl)) (fun _ _ _ h => h) (Or.inr ⟨by rfl, rfl⟩) ?_ ?_
                    rotate_left
                    ·simp only [Act.put, sA, sB, sC, i64_w, i32_w]
                     rfl
                    refine pure_ (i := 14) (N := some 83) (v := undef) (a' := ?_) (bA 18 32767) rfl rfl (any_of HT_.out (by kernel_rfl)) (fun _ _ _ h => h) (Or.inr ⟨by rfl, rfl⟩) ?_ ?_
                    rotate_left
                    ·simp only [Act.put, sA, sB, sC, i64_w, i32_w]
                     rfl
                    refine pure_ (i := 15) (N := some 84) (v := undef) (a' := ?_) (bA 18 65535) rfl rfl (any_of HT_.out (by kernel_rfl)) (fun _ _ _ h => h) (Or.inr ⟨by rfl, rfl⟩) ?_ ?_
                    rotate_left
                    ·simp only [Act.put, sA, sB, sC, i64_w, i32_w]
                     rfl
                    refine pure_ (i := 16) (N := some 85) (v := undef) (a' := ?_) (bA 18 131071) rfl rfl (any_of HT_.out (by kernel_rfl)) (fun _ _ _ h => h) (Or.inr ⟨by rfl, rfl⟩) ?_ ?_
                    rotate_left
                    ·simp only [Act.put, sA, sB, sC, i64_w, i32_w]
                     rfl
                    refine pure_ (i := 17) (N := some 86) (v := ?_) (a' := ?_) (bA 18 262143) rfl rfl (any_of HT_.out (by kernel_rfl)) (fun _ _ _ h => h) (Or.inl ⟨by rfl, ?_⟩) ?_ ?_
                    rotate_left; (intro w'; go_simp; with_reducible rfl); rotate_left; (simp only [Act.put, sA, sB, sC, i64_w, i32_w]; rfl)
                    refine done_ (done_of HT_.out (by kernel_rfl)) ?_
                    try go_wp2
                    (try simp only [← ar])
                    go_roundg k4
                    case measure => have := HK1.out; have := HK2.out; have := HK3.out; have := HK4.out; omega
                    case rel => exact ⟨(ao), (ah), (wrap64 (aa + 1)), (by first | rfl | (simp; done) | (simp [*]; done)), H', ⟨by have := HK1.out; have := HK2.out; have := HK3.out; have := HK4.out; omega⟩, ⟨by (try simp only [al]); (try simp only [aq]); (try simp only [ar]); exact rU <| af.out⟩, ⟨by (try simp only [al]); (try simp only [aq]); (try simp only [ar]); exact rU <| ac.out⟩, ⟨by (try simp only [al]); (try simp only [aq]); (try simp only [ar]); exact rU <| ai.out⟩, ⟨by (try simp only [al]); (try simp only [aq]); (try simp only [ar]); exact bU <| ab.out⟩, ⟨by repeat (first | (with_reducible first | exact HB.out | apply Ae | apply Ac | apply Ah | refine Ag ?_ ay.out) | exact HB.out)⟩⟩
                  ·rw [if_neg c35] at H
                   exact absurd H (by simp)
                 ·rw [if_neg c34] at H
                  exact absurd H (by simp)
                ·rw [if_neg c33] at H
                 exact absurd H (by simp)
               ·rw [if_neg c32] at H
                have cS : decide (aa < (ae.length : Int)) = false := decide_eq_false c32
                clear c32
                have H' := Aa.mk H
                clear H
                obtain ⟨dV, dW, dv⟩ := Kd.B0 ai.out
                subst dv
                go_wp2
                (try simp only [← aq, ← ar])
                go_roundg k4
                case measure => have := HK1.out; have := HK2.out; have := HK3.out; have := HK4.out; omega
                case rel => exact ⟨(ao), (ah), (wrap64 (ag + 1)), (by first | rfl | (simp; done) | (simp [*]; done)), H', ⟨by have := HK1.out; have := HK2.out; have := HK3.out; have := HK4.out; omega⟩, ⟨by (try simp only [al]); (try simp only [aq]); (try simp only [ar]); exact rU <| Kd.Bj af.out (fun _ hk => hk.1)⟩, ⟨by (try simp only [al]); (try simp only [aq]); (try simp only [ar]); exact rU <| Kd.Bj ac.out (fun _ hk => hk.1)⟩, ⟨by (try simp only [al]); (try simp only [aq]); (try simp only [ar]); exact bU <| ab.out⟩, ⟨by repeat (first | (with_reducible first | exact HB.out | apply Ae | apply Ac | apply Ah | refine Ag ?_ ay.out) | exact HB.out)⟩⟩
            ·rw [if_neg c27] at H
             exact absurd H (by simp)
           ·rw [if_neg c26] at H
            have cd : decide (ag < (aG.length : Int)) = false := decide_eq_false c26
            clear c26
            simp only [Option.some.injEq, Prod.mk.injEq] at H
            obtain ⟨rfl, rfl⟩ := H
            obtain ⟨dX, dY, dw⟩ := Kd.B0 ac.out
            subst dw
            go_wp2
            go_ret2
            exact ⟨_, _, by first | rfl | (simp [Be, Bd] <;> rfl) | (simp [*, Be, Bd] <;> rfl), by exact rU <| ac.out, by exact rU <| af.out, by repeat (first | (with_reducible first | exact HB.out | apply Ae | apply Ac | apply Ah | refine Ag ?_ ay.out) | exact HB.out)⟩
  ·rw [if_neg c5] at H
   exact absurd H (by simp)
 ·rw [if_neg c4] at H
  exact absurd H (by simp)

end Go.Proofs.Yteamphcehoaleaa.PFE

