import Derived.Test.YteamphcehoaleaaZWAt
import Derived.Test.YteamphcehoaleaaZPFEx0
import Derived.Test.YteamphcehoaleaaZPFEx1
namespace Go.Proofs.Yteamphcehoaleaa.PFE
open Go.Proofs.Yteamphcehoaleaa.PFA
open Go.RowKit Go.Proofs.YteamphcehoaleaaW.PrintWords Go.Proofs.YteamphcehoaleaaW.PrintLast Go.Proofs.YteamphcehoaleaaW.PrintMore
attribute [local go_sem] max2_int min2_int max_two min_two max_three min_three max_four min_four   -- for this text's walks alone
set_option linter.unusedVariables false
set_option linter.unusedSimpArgs false

mutual
def Ao.l0 : Nat → List Int → Int → List Int → Int → Int → Int → List Bool → Option (List Int × List Int)
 | 0, _, _, _, _, _, _, _ => none
 | k + 1, x1, x2, x8, x9, x114000, x114001, x114002 => if x9 < (x8.length : Int) then (if 0 ≤ x9 then (Ao.l0 k x1 x2 (x8.set (x9 : Int).toNat (-1)) (wrap64 (x9 + 1)) x114000 x114001 x114002) else (none)) else (Ao.l1 k x1 x2 x8 ([] : List Int) 0 x114000 x114001 x114002)
def Ao.l1 : Nat → List Int → Int → List Int → List Int → Int → Int → Int → List Bool → Option (List Int × List Int)
 | 0, _, _, _, _, _, _, _, _ => none
 | k + 1, x1, x2, x8, x10, x11, x114000, x114001, x114002 => if x11 < (x1.length : Int) then (if 0 ≤ x11 then (if 0 ≤ (rd x1 x11) then (if (rd x1 x11) < (x8.length : Int) then (if x10.length < 17592186044416 then (Ao.l1 k x1 x2 (x8.set ((rd x1 x11) : Int).toNat 0) (x10 ++ [rd x1 x11]) (wrap64 (x11 + 1)) x114000 x114001 x114002) else (none)) else (none)) else (none)) else (none)) else (Ao.l2 k x2 x8 x10 0 x114000 x114001 x114002)
def Ao.l2 : Nat → Int → List Int → List Int → Int → Int → Int → List Bool → Option (List Int × List Int)
 | 0, _, _, _, _, _, _, _ => none
 | k + 1, x2, x8, x10, x12, x114000, x114001, x114002 => if x12 < (x10.length : Int) then (if 0 ≤ x12 then ((Aq.f k x114000 x114001 (rd x10 x12) x2).bind fun t125 => (Ao.l3 k x2 x8 x10 x12 t125 0 x114000 x114001 x114002)) else (none)) else (some (x10, x8))
def Ao.l3 : Nat → Int → List Int → List Int → Int → List Int → Int → Int → Int → List Bool → Option (List Int × List Int)
 | 0, _, _, _, _, _, _, _, _, _ => none
 | k + 1, x2, x8, x10, x12, x13, x14, x114000, x114001, x114002 => if x14 < (x13.length : Int) then (if 0 ≤ x14 then (if 0 ≤ (rd x13 x14) then (if (rd x13 x14) < (x114002.length : Int) then (if rdOf false x114002 (rd x13 x14) = true then (if (rd x13 x14) < (x8.length : Int) then (if (rd x8 (rd x13 x14)) < 0 then (if 0 ≤ x12 then (if x12 < (x10.length : Int) then (if 0 ≤ (rd x10 x12) then (if (rd x10 x12) < (x8.length : Int) then (if x10.length < 17592186044416 then (Ao.l3 k x2 (x8.set ((rd x13 x14) : Int).toNat (wrap64 ((rd x8 (rd x10 x12)) + 1))) (x10 ++ [rd x13 x14]) x12 x13 (wrap64 (x14 + 1)) x114000 x114001 x114002) else (none)) else (none)) else (none)) else (none)) else (none)) else (Ao.l3 k x2 x8 x10 x12 x13 (wrap64 (x14 + 1)) x114000 x114001 x114002)) else (none)) else (Ao.l3 k x2 x8 x10 x12 x13 (wrap64 (x14 + 1)) x114000 x114001 x114002)) else (none)) else (none)) else (none)) else (Ao.l2 k x2 x8 x10 (wrap64 (x12 + 1)) x114000 x114001 x114002)
end
def Ao.f (k : Nat) (a0_0 : Int) (a0_1 : Int) (l0_2 : List Bool) (l1 : List Int) (a2 : Int) : Option (List Int × List Int) := if 0 ≤ (l0_2.length : Int) then (if ((l0_2.length : Int) : Int).toNat ≤ 35184372088832 then (Ao.l0 k l1 a2 (List.replicate ((l0_2.length : Int) : Int).toNat 0) 0 a0_0 a0_1 l0_2) else (none)) else (none)
def Ao.T15 : Bool × List (List Nat × List Nat) := (true, [([], []), ([0], [0]), ([], []), ([2], [2]), ([], []), ([], []), ([4, 5], [4, 5]), ([6], [6]), ([], []), ([1, 3, 7, 8], [1, 3, 7, 8]), ([9, 9, 0, 1, 2, 3, 4, 5, 6, 7, 8, 9], [9])])
def Ao.B15 : List Nat := [0, 1, 0, 4, 0, 0, 48, 112, 0, 511, 1023]
theorem Ao.tab15 : rtab .any (opsOf Try.f64 15) = Ao.T15 := by kernel_rfl
theorem Ao.bits15 : waitsOk Ao.T15.2 Ao.B15 = true := by kernel_rfl
def Ao.T19 : Bool × List (List Nat × List Nat) := (true, [([], []), ([0], [0]), ([], []), ([], []), ([2, 3], [2, 3]), ([4], [4]), ([1, 5], [1, 5]), ([6], [6]), ([7], [7]), ([8], [8]), ([8], [8]), ([8], [8]), ([10, 11, 8], [8, 10, 11]), ([12, 8], [8, 12]), ([9, 13, 8], [8, 9, 13]), ([14, 8], [8, 14]), ([15, 8], [8, 15]), ([8, 16], [8, 16])])
def Ao.B19 : List Nat := [0, 1, 0, 0, 12, 28, 63, 127, 255, 511, 511, 511, 3583, 7679, 16383, 32767, 65535, 131071]
theorem Ao.tab19 : rtab .any (opsOf Try.f64 19) = Ao.T19 := by kernel_rfl
theorem Ao.bits19 : waitsOk Ao.T19.2 Ao.B19 = true := by kernel_rfl
set_option maxHeartbeats 8000000 in
set_option maxRecDepth 100000 in
theorem Ao.calls (k : Nat) (a0_0 : Int) (a0_1 : Int) (A0_2 : Option Addr) (c0_2 : Nat) (l0_2 : List Bool) (A1 : Option Addr) (c1 : Nat) (l1 : List Int) (a2 : Int) (r1 : List Int) (r2 : List Int) (w : World) (hr0_2 : Kd.C Kd.bool w A0_2 l0_2.length l0_2) (hc0_2 : l0_2.length ≤ c0_2) (hr1 : Kd.C (Kd.int .i64) w A1 l1.length l1) (hc1 : l1.length ≤ c1) (h : Ao.f k a0_0 a0_1 l0_2 l1 a2 = some (r1, r2)) :
  Calls Try.prog 64 #[.agg #[.int .i64 a0_0, .int .i64 a0_1, .slice A0_2 l0_2.length c0_2], .slice A1 l1.length c1, .int .i64 a2] w fun e w' => ∃ v0_ v1_ : Value, e = .returned (.tuple #[v0_, v1_]) ∧ Kd.R (Kd.int .i64) 3 w' w.heap.size (fun k_ => some k_ ≠ (v1_ : Value).ownBlock) v0_ r1 ∧ Kd.R (Kd.int .i64) 3 w' w.heap.size (fun k_ => some k_ ≠ (v0_ : Value).ownBlock) v1_ r2 ∧ Below w.heap.size w w' := by
 have hu50 := Try.underlying50
 have HR0_2 := Aa.mk hr0_2
 have HC0_2 := Aa.mk hc0_2
 clear hr0_2 hc0_2
 have HR1 := Aa.mk hr1
 have HC1 := Aa.mk hc1
 clear hr1 hc1
 have HB := Aa.mk (Below.refl w.heap.size w)
 have H : (if 0 ≤ (l0_2.length : Int) then (if ((l0_2.length : Int) : Int).toNat ≤ 35184372088832 then (Ao.l0 k l1 a2 (List.replicate ((l0_2.length : Int) : Int).toNat 0) 0 a0_0 a0_1 l0_2) else (none)) else (none)) = some (r1, r2) := h
 clear h
 by_cases c4 : 0 ≤ (l0_2.length : Int)
 ·rw [if_pos c4] at H
  have c4b0 := eq_true c4
  have c4b1 : decide (0 ≤ (l0_2.length : Int)) = true := decide_eq_true c4
  clear c4
  by_cases c5 : ((l0_2.length : Int) : Int).toNat ≤ 35184372088832
  ·rw [if_pos c5] at H
   have c5b0 := eq_true c5
   have c5b1 : decide (((l0_2.length : Int) : Int).toNat ≤ 35184372088832) = true := decide_eq_true c5
   clear c5
   obtain ⟨y114, hy114⟩ : ∃ y_ : List Int, y_ = (List.replicate ((l0_2.length : Int) : Int).toNat 0) := ⟨_, rfl⟩
   replace H : (Ao.l0 k l1 a2 y114 0 a0_0 a0_1 l0_2) = some (r1, r2) := by first | (rw [hy114]; with_reducible exact H) | (have H2_ := (Option.bind_some _ _).symm.trans H; rw [hy114]; with_reducible exact H2_) | (have H2_ := (Option.bind_some _ _).symm.trans H; with_reducible exact H2_) | with_reducible exact H | (rw [hy114]; exact H) | exact H
   have Ny114 := Aa.mk hy114
   clear hy114
   have H' := Aa.mk H
   clear H
   go_enter Try.func64, Try.ntmps64
   go_wp2_with (first | ((with_reducible refine Bk (N := 3) rfl ?_); refine Bp ?hg (N := 3) ?hd (cs := #[.int .i64 a0_0, .int .i64 a0_1, .slice A0_2 l0_2.length c0_2]) (t := 50) ?hr ?_; (case hd => rfl); (case hg => rfl); (case hr => first | (go_simp; done) | (go_simp; rfl)); intro gb113 hg w6 hbox hb; have n0_ := Aa.mk (Ar (lU HB.out) hb); have n1_ := Aa.mk (hbox); have n2_ := Aa.mk ((by rw [hg]; exact (Ak (lU HB.out)) : w.heap.size ≤ gb113)); have n3_ := Aa.mk ((by rw [hg]; exact (Ak (lU HB.out)) : w.heap.size ≤ gb113)); clear HB; have HB := n0_; have BK113 := n1_; have GW113 := n2_; have GE113 := n3_; clear n0_ n1_ n2_ n3_; clear hb hbox hg; have hcz7_0 : w6.cell? ⟨gb113, 0, none⟩ = some (.int .i64 a0_0) := (Ae BK113.out 0).trans rfl; have hcz7_1 : w6.cell? ⟨gb113, 1, none⟩ = some (.int .i64 a0_1) := (Ae BK113.out 1).trans rfl; have hcz7_2 : w6.cell? ⟨gb113, 2, none⟩ = some (.slice A0_2 l0_2.length c0_2) := (Ae BK113.out 2).trans rfl; have hfz7_0 := Ag BK113.out 0; have hfz7_1 := Ag BK113.out 1; have hfz7_2 := Ag BK113.out 2) | ((with_reducible refine Bk (N := 18) rfl ?_); refine Kd.R_make (Kd.int .i64) _ 3 rfl (N := 18) rfl 31 _ _ rfl (l0_2.length : Int) rfl rfl Try.underlying31 (.int .i64 0) 8 info3 rfl (by decide) (by omega) 0 (ok := fun _ => True) (okp := fun _ => True) rfl (fun _ hk => hk) trivial (of_decide_eq_true (by first | (with_reducible assumption) | assumption)) (Nat.le_trans (Nat.mul_le_mul_right _ (of_decide_eq_true (by first | (with_reducible assumption) | assumption) : (l0_2.length : Int).toNat ≤ 35184372088832)) (by omega)) (Below.refl _ _) (Nat.le_refl _) ?_; intro v115 w8 ho9 hb hg_ hnew_; clear hg_ hnew_; (first | rw [← Ny114.out] at ho9 | (simp only [Int.reduceToNat] at ho9; rw [← Ny114.out] at ho9)); have n0_ := Aa.mk (Kd.B6 ho9 (Ak (by repeat (first | (with_reducible first | exact HB.out | apply Ad | apply Ac | apply Ah | refine Af ?_ GE113.out) | exact HB.out)))); have n1_ := Aa.mk (An (g := gb113) (o := .cells #[.int .i64 a0_0, .int .i64 a0_1, .slice A0_2 l0_2.length c0_2] 50 (0, 0)) (by exact bU <| BK113.out) hb); have n2_ := Aa.mk (Ar (by repeat (first | (with_reducible first | exact HB.out | apply Ad | apply Ac | apply Ah | refine Af ?_ GE113.out) | exact HB.out)) hb); clear BK113; clear HB; have HO116 := n0_; have BK113 := n1_; have HB := n2_; clear n0_ n1_ n2_; clear hb ho9))
   go_loopg [9] k (fun kq v9 w' => ∃ (x8_1 : List Int) (x9_1 : Int), v9 = .int .i64 x9_1 ∧ Aa (Ao.l0 kq l1 a2 x8_1 x9_1 a0_0 a0_1 l0_2 = some (r1, r2)) ∧ Aa (kq ≤ k) ∧ Aa (Kd.R (Kd.int .i64) 3 w' w.heap.size (fun _ => True) v115 x8_1) ∧ Aa (w'.heap[gb113]? = some (.cells #[.int .i64 a0_0, .int .i64 a0_1, (.slice A0_2 l0_2.length c0_2)] 50 (0, 0))) ∧ Aa (Below w.heap.size w w'))
   case atStart => exact ⟨(y114), (0), (by first | rfl | (simp; done) | (simp [*]; done)), H', ⟨Nat.le_refl _⟩, ⟨by exact rU <| HO116.out⟩, ⟨by exact bU <| BK113.out⟩, ⟨by repeat (first | (with_reducible first | exact HB.out | apply Ad | apply Ac | apply Ah | refine Af ?_ GE113.out) | exact HB.out)⟩⟩
   case round =>
    clear H'
    try clear c1
    try clear p2
    try clear c4
    try clear c4b0
    try clear c4b1
    try clear c5
    try clear c5b0
    try clear c5b1
    try clear c6
    try clear hcz7_0
    try clear hcz7_1
    try clear hcz7_2
    try clear hfz7_0
    try clear hfz7_1
    try clear hfz7_2
    obtain ⟨x8_1, x9_1, rfl, HA, HK1, HO_8, BK113, HB⟩ := hrel
    cases gk with
    | zero => exact absurd HA.out (by simp [Ao.l0])
    | succ k1 =>
     have H := HA.out
     clear HA
     simp only [Ao.l0] at H
     by_cases c10 : x9_1 < (x8_1.length : Int)
     ·rw [if_pos c10] at H
      have c10b0 : decide (x9_1 < (x8_1.length : Int)) = true := decide_eq_true c10
      clear c10
      by_cases c11 : 0 ≤ x9_1
      ·rw [if_pos c11] at H
       have c11b0 : decide (0 ≤ x9_1) = true := decide_eq_true c11
       clear c11
       obtain ⟨y117, hy117⟩ : ∃ y_ : List Int, y_ = (x8_1.set (x9_1 : Int).toNat (-1)) := ⟨_, rfl⟩
       replace H : (Ao.l0 k1 l1 a2 y117 (wrap64 (x9_1 + 1)) a0_0 a0_1 l0_2) = some (r1, r2) := by first | (rw [hy117]; with_reducible exact H) | (have H2_ := (Option.bind_some _ _).symm.trans H; rw [hy117]; with_reducible exact H2_) | (have H2_ := (Option.bind_some _ _).symm.trans H; with_reducible exact H2_) | with_reducible exact H | (rw [hy117]; exact H) | exact H
       have Ny117 := Aa.mk hy117
       clear hy117
       have H' := Aa.mk H
       clear H
       obtain ⟨Ao13, co13, eo13⟩ := Kd.Bz HO_8.out
       subst eo13
       have p12 : 0 ≤ (x9_1 : Int) := of_decide_eq_true (by first | (with_reducible assumption) | assumption)
       have q12 : (x9_1 : Int) < ((x8_1.length : Int) : Int) := of_decide_eq_true (by first | (with_reducible assumption) | assumption)
       obtain ⟨go12, co12, eo12, gb12, gl12, cl12, HG12⟩ := Kd.Df HO_8.out (by omega)
       (first | cases eo12 | (injection eo12 with ea_ en_ ec_; (first | subst ea_ | (injection ea_ with ea_; subst ea_)); subst ec_; clear en_))
       have GB12 := Aa.mk gb12
       have GG12 := Aa.mk HG12
       clear gb12 gl12 HG12
       obtain ⟨hx12_0, hf12_0⟩ := Kd.Ct 0 HO_8.out (x9_1 : Int) p12 q12
       replace p12 := eq_true p12
       replace q12 := eq_true q12
       have HP14 := Kd.C6 HO_8.out (x9_1 : Int) (-1)
       go_wp2_with (first | ((with_reducible refine Cq (t := 3) (p := 27) rfl ?_); refine store_event (t := 3) (p := 27) (v := ?vo_w15) (w1 := (wr.setCell ⟨go12, (x9_1 : Int).toNat, none⟩ (.int .i64 (-1)))) ?hg ?ho ?hn ?hr ?_; (case ho => rfl); (case hg => rfl); (case hn => rfl); (case hr => first | (go_simp; done) | (go_simp; rfl)); intro w15 hw; have hg : wr.grownBy w15 (some go12) := (by rw [hw]; exact HP14.2); have hp_ : Kd.R (Kd.int .i64) 3 w15 w.heap.size (fun _ => True) (.slice (some ⟨go12, 0, none⟩) x8_1.length co13) y117 := (by rw [hw, Ny117.out]; exact HP14.1); clear HP14; have n0_ := Aa.mk (hp_); have n1_ := Aa.mk (Bs (g := gb113) (o := .cells #[.int .i64 a0_0, .int .i64 a0_1, .slice A0_2 l0_2.length c0_2] 50 (0, 0)) (by exact bU <| BK113.out) hg (Kd.Db HO_8.out BK113.out (by decide))); have n2_ := Aa.mk ((by rw [hw]; exact Af (HB.out) GB12.out : Below w.heap.size w w15)); clear HO_8; clear BK113; clear HB; have HO_8 := n0_; have BK113 := n1_; have HB := n2_; clear n0_ n1_ n2_; clear hg hw hp_))
       go_roundg k1
       case measure => have := HK1.out; omega
       case rel => exact ⟨(y117), (wrap64 (x9_1 + 1)), (by first | rfl | (simp; done) | (simp [*]; done)), H', ⟨by have := HK1.out; omega⟩, ⟨by exact rU <| HO_8.out⟩, ⟨by exact bU <| BK113.out⟩, ⟨by repeat (first | (with_reducible first | exact HB.out | apply Ad | apply Ac | apply Ah | refine Af ?_ GE113.out) | exact HB.out)⟩⟩
      ·rw [if_neg c11] at H
       exact absurd H (by simp)
     ·rw [if_neg c10] at H
      have c10b0 : decide (x9_1 < (x8_1.length : Int)) = false := decide_eq_false c10
      clear c10
      have H' := Aa.mk H
      clear H
      obtain ⟨Ao16, co16, eo16⟩ := Kd.Bz HO_8.out
      subst eo16
      go_wp2
      go_loopg [10, 11] k1 (fun kq v10 v11 w' => ∃ (x8_2 : List Int) (x10_2 : List Int) (x11_2 : Int), v11 = .int .i64 x11_2 ∧ Aa (Ao.l1 kq l1 a2 x8_2 x10_2 x11_2 a0_0 a0_1 l0_2 = some (r1, r2)) ∧ Aa (kq ≤ k1) ∧ Aa (Kd.R (Kd.int .i64) 3 w' w.heap.size (fun k_ => some k_ ≠ (v10 : Value).ownBlock) (.slice Ao16 x8_1.length co16) x8_2) ∧ Aa (Kd.R (Kd.int .i64) 3 w' w.heap.size (fun k_ => some k_ ≠ ((.slice Ao16 x8_1.length co16) : Value).ownBlock) v10 x10_2) ∧ Aa (w'.heap[gb113]? = some (.cells #[.int .i64 a0_0, .int .i64 a0_1, (.slice A0_2 l0_2.length c0_2)] 50 (0, 0))) ∧ Aa (Below w.heap.size w w'))
      case atStart => exact ⟨(x8_1), (([] : List Int)), (0), (by first | rfl | (simp; done) | (simp [*]; done)), H', ⟨Nat.le_refl _⟩, ⟨by exact rU <| Kd.Bj HO_8.out (fun _ hk => (by simp [Value.ownBlock]))⟩, ⟨by first | exact Kd.Cu _ _ _ _ _ | exact Kd.N_nil _ _ _ _ _ | exact Kd.V_nil _ _ _ _ _ | exact Kd.Q_nil _ _ _ _ _ | exact Kd.S_nil _ _ _ _ _⟩, ⟨by exact bU <| BK113.out⟩, ⟨by repeat (first | (with_reducible first | exact HB.out | apply Ad | apply Ac | apply Ah | refine Af ?_ GE113.out) | exact HB.out)⟩⟩
      case round =>
       clear H'
       try clear c1
       try clear p1
       try clear q1
       try clear hx1
       try clear p2
       try clear c4
       try clear c4b0
       try clear c4b1
       try clear c5
       try clear c5b0
       try clear c5b1
       try clear c6
       try clear p6
       try clear c10
       try clear c10b0
       try clear c11
       try clear c11b0
       try clear p12
       try clear q12
       try clear hx12
       try clear hf12
       try clear hcz7_0
       try clear hcz7_1
       try clear hcz7_2
       try clear hfz7_0
       try clear hfz7_1
       try clear hfz7_2
       try clear hx12_0
       try clear p12
       try clear p2
       try clear q12
       obtain ⟨x8_2, x10_2, x11_2, rfl, HA, HK2, HO_8, HO_10, BK113, HB⟩ := hrel
       have hl8_2 := (Kd.Aw HO_8.out).1
       rw [hl8_2] at HO_8
       (try simp only [hl8_2])
       (try simp only [hl8_2] at BK113)
       (try simp only [hl8_2] at HO_10)
       cases gk with
       | zero => exact absurd HA.out (by simp [Ao.l1])
       | succ k2 =>
        have H := HA.out
        clear HA
        simp only [Ao.l1] at H
        by_cases c17 : x11_2 < (l1.length : Int)
        ·rw [if_pos c17] at H
         have c17b0 : decide (x11_2 < (l1.length : Int)) = true := decide_eq_true c17
         clear c17
         by_cases c18 : 0 ≤ x11_2
         ·rw [if_pos c18] at H
          have c18b0 : decide (0 ≤ x11_2) = true := decide_eq_true c18
          clear c18
          by_cases c19 : 0 ≤ (rd l1 x11_2)
          ·rw [if_pos c19] at H
           have c19b0 : decide (0 ≤ (rd l1 x11_2)) = true := decide_eq_true c19
           clear c19
           by_cases c20 : (rd l1 x11_2) < (x8_2.length : Int)
           ·rw [if_pos c20] at H
            have c20b0 : decide ((rd l1 x11_2) < (x8_2.length : Int)) = true := decide_eq_true c20
            clear c20
            obtain ⟨y119, hy119⟩ : ∃ y_ : List Int, y_ = (x8_2.set ((rd l1 x11_2) : Int).toNat 0) := ⟨_, rfl⟩
            replace H : (if x10_2.length < 17592186044416 then (Ao.l1 k2 l1 a2 y119 (x10_2 ++ [rd l1 x11_2]) (wrap64 (x11_2 + 1)) a0_0 a0_1 l0_2) else (none)) = some (r1, r2) := by first | (rw [hy119]; with_reducible exact H) | (have H2_ := (Option.bind_some _ _).symm.trans H; rw [hy119]; with_reducible exact H2_) | (have H2_ := (Option.bind_some _ _).symm.trans H; with_reducible exact H2_) | with_reducible exact H | (rw [hy119]; exact H) | exact H
            have Ny119 := Aa.mk hy119
            clear hy119
            by_cases c22 : x10_2.length < 17592186044416
            ·rw [if_pos c22] at H
             have LMc22 := Aa.mk c22
             clear c22
             obtain ⟨y121, hy121⟩ : ∃ y_ : List Int, y_ = (x10_2 ++ [rd l1 x11_2]) := ⟨_, rfl⟩
             replace H : (Ao.l1 k2 l1 a2 y119 y121 (wrap64 (x11_2 + 1)) a0_0 a0_1 l0_2) = some (r1, r2) := by first | (rw [hy121]; with_reducible exact H) | (have H2_ := (Option.bind_some _ _).symm.trans H; rw [hy121]; with_reducible exact H2_) | (have H2_ := (Option.bind_some _ _).symm.trans H; with_reducible exact H2_) | with_reducible exact H | (rw [hy121]; exact H) | exact H
             have Ny121 := Aa.mk hy121
             clear hy121
             have H' := Aa.mk H
             clear H
             have p118 : 0 ≤ (x11_2 : Int) := of_decide_eq_true (by first | (with_reducible assumption) | assumption)
             have q118 : x11_2 < (l1.length : Int) := of_decide_eq_true (by first | (with_reducible assumption) | assumption)
             obtain ⟨ad118, e118, hx118_0⟩ := Kd.at_int HR1.out x11_2 p118 q118
             cases e118
             replace hx118_0 := (HB.out.cell (World.block_lt_of_cell? w _ hx118_0)).trans hx118_0
             replace p118 := eq_true p118
             replace q118 := eq_true q118
             have p21 : 0 ≤ ((rd l1 x11_2) : Int) := of_decide_eq_true (by first | (with_reducible assumption) | assumption)
             have q21 : ((rd l1 x11_2) : Int) < ((x8_2.length : Int) : Int) := of_decide_eq_true (by first | (with_reducible assumption) | assumption)
             obtain ⟨go21, co21, eo21, gb21, gl21, cl21, HG21⟩ := Kd.Df HO_8.out (by omega)
             (first | cases eo21 | (injection eo21 with ea_ en_ ec_; (first | subst ea_ | (injection ea_ with ea_; subst ea_)); subst ec_; clear en_))
             have GB21 := Aa.mk gb21
             have GG21 := Aa.mk HG21
             clear gb21 gl21 HG21
             obtain ⟨hx21_0, hf21_0⟩ := Kd.Ct 0 HO_8.out ((rd l1 x11_2) : Int) p21 q21
             replace p21 := eq_true p21
             replace q21 := eq_true q21
             have HP23 := Kd.C6 HO_8.out ((rd l1 x11_2) : Int) 0
             go_wp2_with (first | ((with_reducible refine Cq (t := 3) (p := 39) rfl ?_); refine store_event (t := 3) (p := 39) (v := ?vo_w24) (w1 := (wr.setCell ⟨go21, ((rd l1 x11_2) : Int).toNat, none⟩ (.int .i64 0))) ?hg ?ho ?hn ?hr ?_; (case ho => rfl); (case hg => rfl); (case hn => rfl); (case hr => first | (go_simp; done) | (go_simp; rfl)); intro w24 hw; have hg : wr.grownBy w24 (some go21) := (by rw [hw]; exact HP23.2); have hp_ : Kd.R (Kd.int .i64) 3 w24 w.heap.size (fun k_ => some k_ ≠ (u10 : Value).ownBlock) (.slice (some ⟨go21, 0, none⟩) x8_2.length co16) y119 := (by rw [hw, Ny119.out]; exact HP23.1); clear HP23; have n0_ := Aa.mk (hp_); have n1_ := Aa.mk (Kd.C4 (v := (.slice (some ⟨go21, 0, none⟩) x8_2.length co16)) (v1 := (.slice (some ⟨go21, 0, none⟩) x8_2.length co16)) (ok := (fun _ => True)) (by exact rU <| Kd.Bj HO_10.out (fun _ hk => ⟨trivial, hk⟩)) hg (.inl rfl)); have n2_ := Aa.mk (Bs (g := gb113) (o := .cells #[.int .i64 a0_0, .int .i64 a0_1, .slice A0_2 l0_2.length c0_2] 50 (0, 0)) (by exact bU <| BK113.out) hg (Kd.Db HO_8.out BK113.out (by decide))); have n3_ := Aa.mk ((by rw [hw]; exact Af (HB.out) GB21.out : Below w.heap.size w w24)); clear HO_8; clear HO_10; clear BK113; clear HB; have HO_8 := n0_; have HO_10 := n1_; have BK113 := n2_; have HB := n3_; clear n0_ n1_ n2_ n3_; clear hg hw hp_; have p120 : 0 ≤ (x11_2 : Int) := of_decide_eq_true (by first | (with_reducible assumption) | assumption); have q120 : x11_2 < (l1.length : Int) := of_decide_eq_true (by first | (with_reducible assumption) | assumption); obtain ⟨ad120, e120, hx120_0⟩ := Kd.at_int HR1.out x11_2 p120 q120; obtain rfl : ad118 = ad120 := (by injection e120); replace hx120_0 := (HB.out.cell (World.block_lt_of_cell? w _ hx120_0)).trans hx120_0; replace p120 := eq_true p120; replace q120 := eq_true q120) | ((with_reducible refine Cf (b := .append) (xs := #[.tmp 40, .tmp 45]) rfl ?_); at_builtin; refine Kd.Cv (Kd.int .i64) (w0 := w) w.heap.size rfl (.tmp 40) (.tmp 45) 31 3 (.int .i64 0) 8 rfl Try.underlying31 info3 rfl (by decide) (by omega) u10 x10_2 (rd l1 x11_2) [.int .i64 (rd l1 x11_2)] (fun k_ => some k_ ≠ (.slice (some ⟨go21, 0, none⟩) x8_2.length co16 : Value).ownBlock) (fun _ => False) rfl rfl ?aP (fun _ hk => hk.elim) ?aF ?aO ?aB ?aS ?aL ?_; (case aP => exact rfl); (case aB => exact (by repeat (first | (with_reducible first | exact HB.out | apply Ad | apply Ac | apply Ah | refine Af ?_ GE113.out) | exact HB.out))); (case aF => exact (fun k_ hk => Kd.fresh' (Kd.Cs (by exact rU <| HO_8.out)) k_ hk)); (case aO => exact (by exact rU <| Kd.Bj HO_10.out (fun _ hk => hk.2))); (case aS => exact (Ak (by repeat (first | (with_reducible first | exact HB.out | apply Ad | apply Ac | apply Ah | refine Af ?_ GE113.out) | exact HB.out)))); (case aL => have := LMc22.out; omega); intro v122 w25 ho hb hg hat; rw [← Ny121.out] at ho; have n0_ := Aa.mk (Kd.C4 (ok := (fun _ => True)) (by exact rU <| Kd.Bj HO_8.out (fun _ hk => ⟨trivial, hk⟩)) hg hat); have n1_ := Aa.mk (Bs (g := gb113) (o := .cells #[.int .i64 a0_0, .int .i64 a0_1, .slice A0_2 l0_2.length c0_2] 50 (0, 0)) (by exact bU <| BK113.out) hg (Kd.Db HO_10.out BK113.out (by decide))); have n2_ := Aa.mk (hb); have n3_ := Aa.mk (ho); clear HO_8; clear BK113; clear HB; clear HO_10; have HO_8 := n0_; have BK113 := n1_; have HB := n2_; have HO123 := n3_; clear n0_ n1_ n2_ n3_; clear ho hb hg hat))
             (try simp only [← hl8_2])
             go_roundg k2
             case measure => have := HK1.out; have := HK2.out; omega
             case rel => exact ⟨(y119), (y121), (wrap64 (x11_2 + 1)), (by first | rfl | (simp; done) | (simp [*]; done)), H', ⟨by have := HK1.out; have := HK2.out; omega⟩, ⟨by (try simp only [hl8_2]); exact rU <| Kd.Bj HO_8.out (fun _ hk => hk.2)⟩, ⟨by (try simp only [hl8_2]); exact rU <| HO123.out⟩, ⟨by (try simp only [hl8_2]); exact bU <| BK113.out⟩, ⟨by repeat (first | (with_reducible first | exact HB.out | apply Ad | apply Ac | apply Ah | refine Af ?_ GE113.out) | exact HB.out)⟩⟩
            ·rw [if_neg c22] at H
             exact absurd H (by simp)
           ·rw [if_neg c20] at H
            exact absurd H (by simp)
          ·rw [if_neg c19] at H
           exact absurd H (by simp)
         ·rw [if_neg c18] at H
          exact absurd H (by simp)
        ·rw [if_neg c17] at H
         have c17b0 : decide (x11_2 < (l1.length : Int)) = false := decide_eq_false c17
         clear c17
         have H' := Aa.mk H
         clear H
         go_wp2
         go_loopg [10, 12] k2 (fun kq v10 v12 w' => ∃ (x8_3 : List Int) (x10_3 : List Int) (x12_3 : Int), v12 = .int .i64 x12_3 ∧ Aa (Ao.l2 kq a2 x8_3 x10_3 x12_3 a0_0 a0_1 l0_2 = some (r1, r2)) ∧ Aa (kq ≤ k2) ∧ Aa (Kd.R (Kd.int .i64) 3 w' w.heap.size (fun k_ => some k_ ≠ (v10 : Value).ownBlock) (.slice Ao16 x8_2.length co16) x8_3) ∧ Aa (Kd.R (Kd.int .i64) 3 w' w.heap.size (fun k_ => some k_ ≠ ((.slice Ao16 x8_2.length co16) : Value).ownBlock) v10 x10_3) ∧ Aa (w'.heap[gb113]? = some (.cells #[.int .i64 a0_0, .int .i64 a0_1, (.slice A0_2 l0_2.length c0_2)] 50 (0, 0))) ∧ Aa (Below w.heap.size w w'))
         case atStart => exact ⟨(x8_2), (x10_2), (0), (by first | rfl | (simp; done) | (simp [*]; done)), H', ⟨Nat.le_refl _⟩, ⟨by (try simp only [hl8_2]); exact rU <| HO_8.out⟩, ⟨by (try simp only [hl8_2]); exact rU <| HO_10.out⟩, ⟨by (try simp only [hl8_2]); exact bU <| BK113.out⟩, ⟨by repeat (first | (with_reducible first | exact HB.out | apply Ad | apply Ac | apply Ah | refine Af ?_ GE113.out) | exact HB.out)⟩⟩
         case round =>
          clear H'
          try clear c1
          try clear p1
          try clear q1
          try clear hx1
          try clear c2
          try clear p2
          try clear q2
          try clear hx2
          try clear c4
          try clear c4b0
          try clear c4b1
          try clear c5
          try clear c5b0
          try clear c5b1
          try clear c6
          try clear p6
          try clear c10
          try clear c10b0
          try clear c11
          try clear c11b0
          try clear p11
          try clear q11
          try clear hx11
          try clear p12
          try clear q12
          try clear hx12
          try clear hf12
          try clear c17
          try clear c17b0
          try clear c18
          try clear c18b0
          try clear c19
          try clear c19b0
          try clear c20
          try clear c20b0
          try clear p21
          try clear q21
          try clear hx21
          try clear hf21
          try clear c22
          try clear hcz7_0
          try clear hcz7_1
          try clear hcz7_2
          try clear hfz7_0
          try clear hfz7_1
          try clear hfz7_2
          try clear hx118_0
          try clear hx120_0
          try clear hx12_0
          try clear hx21_0
          try clear p1
          try clear p118
          try clear p12
          try clear p120
          try clear p2
          try clear p21
          try clear p6
          try clear q1
          try clear q118
          try clear q12
          try clear q120
          try clear q21
          obtain ⟨x8_3, x10_3, x12_3, rfl, HA, HK3, HO_8, HO_10, BK113, HB⟩ := hrel
          have hl8_3 := (Kd.Aw HO_8.out).1
          rw [hl8_3] at HO_8
          (try simp only [hl8_3])
          (try simp only [hl8_3] at BK113)
          (try simp only [hl8_3] at HO_10)
          cases gk with
          | zero => exact absurd HA.out (by simp [Ao.l2])
          | succ k3 =>
           have H := HA.out
           clear HA
           simp only [Ao.l2] at H
           by_cases c26 : x12_3 < (x10_3.length : Int)
           ·rw [if_pos c26] at H
            have c26b0 : decide (x12_3 < (x10_3.length : Int)) = true := decide_eq_true c26
            clear c26
            by_cases c27 : 0 ≤ x12_3
            ·rw [if_pos c27] at H
             have c27b0 : decide (0 ≤ x12_3) = true := decide_eq_true c27
             clear c27
             replace H := Option.bind_eq_some_iff.mp H
             obtain ⟨t125, A280, H⟩ := H
             replace H : (Ao.l3 k3 a2 x8_3 x10_3 x12_3 t125 0 a0_0 a0_1 l0_2) = some (r1, r2) := H
             have A28 := Aa.mk A280
             clear A280
             have H' := Aa.mk H
             clear H
             obtain ⟨Ao29, co29, eo29⟩ := Kd.Bz HO_10.out
             subst eo29
             try go_wp2
             have n0_ := Aa.mk (Kd.Dj HO_8.out)
             have n1_ := Aa.mk (Kd.Dj HO_10.out)
             have n2_ := Aa.mk (At BK113.out)
             have n3_ := Aa.mk (Ah HB.out)
             clear HO_8
             clear HO_10
             clear BK113
             clear HB
             have HO_8 := n0_
             have HO_10 := n1_
             have BK113 := n2_
             have HB := n3_
             clear n0_ n1_ n2_ n3_
             have p124 : 0 ≤ (x12_3 : Int) := of_decide_eq_true (by first | (with_reducible assumption) | assumption)
             have q124 : x12_3 < (x10_3.length : Int) := of_decide_eq_true (by first | (with_reducible assumption) | assumption)
             obtain ⟨ad124, e124, hx124_0⟩ := Kd.at_int (Kd.Aw HO_10.out).2.2 x12_3 p124 q124
             cases e124
             replace p124 := eq_true p124
             replace q124 := eq_true q124
             refine start_ (n := 11) (S := fun w' => w'.cell? ⟨gb113, 0, none⟩ = some (.int .i64 a0_0) ∧ w'.cell? ⟨gb113, 1, none⟩ = some (.int .i64 a0_1) ∧ w'.cell? ⟨gb113, 2, none⟩ = some (.slice A0_2 l0_2.length c0_2) ∧ w'.cell? (ad124.add (x12_3).toNat) = some (.int .i64 (rd x10_3 x12_3))) (ds := []) #[false, false, false, false, false, false, false, false, false, false, false] (by kernel_rfl) rfl rfl ⟨(Ae BK113.out 0).trans rfl, (Ae BK113.out 1).trans rfl, (Ae BK113.out 2).trans rfl, hx124_0⟩ (fun hHeld => ?_); refine with_tabW Ao.tab15 Ao.bits15 (fun HT_ HW_ => ?_)
             generalize wr.drew = w30 at HO_8 HO_10 BK113 HB hx124_0 hHeld ⊢
             refine pure_ (i := 0) (N := some 53) (v := ?_) (a' := ?_) (bA 11 1) rfl rfl (any_of HT_.out (by kernel_rfl)) (fun _ _ _ h => h) (Or.inl ⟨by rfl, ?_⟩) ?_ ?_
             rotate_left; (intro w'; go_simp; with_reducible rfl); rotate_left; (simp only [Act.put, sA, sB, sC, i64_w, i32_w]; rfl)
             refine pure_ (i := 2) (N := some 55) (v := ?_) (a' := ?_) (bA 11 5) rfl rfl (any_of HT_.out (by kernel_rfl)) (fun _ _ _ h => h) (Or.inl ⟨by rfl, ?_⟩) ?_ ?_
             rotate_left; (intro w'; go_simp; with_reducible rfl); rotate_left; (simp only [Act.put, sA, sB, sC, i64_w, i32_w]; rfl)
             refine pure_ (i := 4) (N := some 57) (v := ?_) (a' := ?_) (bA 11 21) rfl rfl (any_of HT_.out (by kernel_rfl)) (fun _ _ _ h => h) (Or.inl ⟨by rfl, ?_⟩) ?_ ?_
             rotate_left; (intro w'; go_simp; with_reducible rfl); rotate_left; (simp only [Act.put, sA, sB, sC, i64_w, i32_w]; rfl)
             refine pure_ (i := 5) (N := some 58) (v := ?_) (a' := ?_) (bA 11 53) rfl rfl (any_of HT_.out (by kernel_rfl)) (fun _ _ _ h => h) (Or.inl ⟨by rfl, ?_⟩) ?_ ?_
             rotate_left; (intro w'; go_simp; with_reducible rfl); rotate_left; (simp only [Act.put, sA, sB, sC, i64_w, i32_w]; rfl)
             refine pure_ (i := 6) (N := some 59) (v := ?_) (a' := ?_) (bA 11 117) rfl rfl (any_of HT_.out (by kernel_rfl)) (fun _ _ _ h => h) (Or.inl ⟨by rfl, ?_⟩) ?_ ?_
             rotate_left; (intro w'; go_simp; with_reducible rfl); rotate_left; (simp only [Act.put, sA, sB, sC, i64_w, i32_w]; rfl)
             refine pure_ (i := 8) (N := some 61) (v := ?_) (a' := ?_) (bA 11 373) rfl rfl (any_of HT_.out (by kernel_rfl)) (fun _ _ _ h => h) (Or.inl ⟨by rfl, ?_⟩) ?_ ?_
             rotate_left; (intro w'; go_simp; with_reducible rfl); rotate_left; (simp only [Act.put, sA, sB, sC, i64_w, i32_w]; rfl)
             refine take_ (i := 1) (N := some 54) (v := ?_) (a' := ?_) (bA 11 375) rfl rfl (take_ofW HT_.out HW_.out (by kernel_rfl)) (fun _ _ _ h => h) (Or.inl ⟨by rfl, ?_⟩) hHeld ?_ ?_
             rotate_left; (rintro w' ⟨s0, s1, s2, s3⟩; go_simp; with_reducible rfl); rotate_left; (simp only [Act.put, sA, sB, sC, i64_w, i32_w]; rfl)
             refine take_ (i := 3) (N := some 56) (v := ?_) (a' := ?_) (bA 11 383) rfl rfl (take_ofW HT_.out HW_.out (by kernel_rfl)) (fun _ _ _ h => h) (Or.inl ⟨by rfl, ?_⟩) hHeld ?_ ?_
             rotate_left; (rintro w' ⟨s0, s1, s2, s3⟩; go_simp; with_reducible rfl); rotate_left; (simp only [Act.put, sA, sB, sC, i64_w, i32_w]; rfl)
             refine take_ (i := 7) (N := some 60) (v := ?_) (a' := ?_) (bA 11 511) rfl rfl (take_ofW HT_.out HW_.out (by kernel_rfl)) (fun _ _ _ h => h) (Or.inl ⟨by rfl, ?_⟩) hHeld ?_ ?_
             rotate_left; (rintro w' ⟨s0, s1, s2, s3⟩; go_simp; with_reducible rfl); rotate_left; (simp only [Act.put, sA, sB, sC, i64_w, i32_w]; rfl)
             refine one_ (i := 9) (N := some 62) (bA 11 1023) rfl rfl (one_of HT_.out (by kernel_rfl)) (by decide) (fun K hK => ?_)
             refine goes_ Try.func35 (by kernel_rfl) rfl #[.int .i64 a0_0, .int .i64 a0_1, .int .i64 (rd x10_3 x12_3), .int .i64 a2] (by rfl) rfl rfl (by (try simp only [List.map_toArray, List.map_cons, List.map_nil]); first | done | rfl | (simp only [List.length_drop, List.length_take]; rfl)) ?_
             with_reducible refine (Aq.calls k3 a0_0 a0_1 (rd x10_3 x12_3) a2 t125 _ A28.out).mono ?_
             rintro e w31 ⟨v126, rfl, ho0, hb⟩
             have HS3_ := (hb.cell (World.block_lt_of_cell? _ _ (hHeld.2.2.2))).trans (hHeld.2.2.2)
             refine ⟨_, rfl, ?_⟩
             have n0_ := Aa.mk (Kd.B0 (by exact rU <| HO_8.out) (Kd.Cd ho0) hb)
             have n1_ := Aa.mk (Kd.B0 (by exact rU <| HO_10.out) (Kd.Cd ho0) hb)
             have n2_ := Aa.mk (Kd.B6 (Kd.Cc (Kd.Cc ho0 (Kd.Cs (by exact rU <| HO_8.out))) (Kd.Cs (by exact rU <| HO_10.out))) (Ak (by repeat (first | (with_reducible first | exact HB.out | apply Ad | apply Ac | apply Ah | refine Af ?_ GE113.out) | exact HB.out))))
             have n3_ := Aa.mk (An (g := gb113) (o := .cells #[.int .i64 a0_0, .int .i64 a0_1, .slice A0_2 l0_2.length c0_2] 50 (0, 0)) (by exact bU <| BK113.out) hb)
             have n4_ := Aa.mk (Ar (by repeat (first | (with_reducible first | exact HB.out | apply Ad | apply Ac | apply Ah | refine Af ?_ GE113.out) | exact HB.out)) hb)
             clear HO_8
             clear HO_10
             clear BK113
             clear HB
             have HO_8 := n0_
             have HO_10 := n1_
             have HO127 := n2_
             have BK113 := n3_
             have HB := n4_
             clear n0_ n1_ n2_ n3_ n4_
             (try clear hb)
             (try clear hb2)
             (try clear hk)
             (try clear hi)
             (try clear ho0)
             refine hK.out _ _ ⟨(Ae BK113.out 0).trans rfl, (Ae BK113.out 1).trans rfl, (Ae BK113.out 2).trans rfl, HS3_⟩ (fun hHeld => ?_)
             clear hK K
             refine norm_ (a' := ?_) ?_ ?_
             rotate_left
             ·show Act.put _ (some 62) _ = _
              simp only [Act.put, sA, sB, sC, i64_w, i32_w]
              rfl
             refine pure_ (i := 10) (N := some 13) (v := ?_) (a' := ?_) (bA 11 2047) rfl rfl (any_of HT_.out (by kernel_rfl)) (fun _ _ _ h => h) (Or.inl ⟨by rfl, ?_⟩) ?_ ?_
             rotate_left; (intro w'; go_simp; with_reducible rfl); rotate_left; (simp only [Act.put, sA, sB, sC, i64_w, i32_w]; rfl)
             refine done_ (done_of HT_.out (by kernel_rfl)) ?_
             try go_wp2
             go_loopg [10, 14] k3 (fun kq v10 v14 w' => ∃ (x8_4 : List Int) (x10_4 : List Int) (x14_4 : Int), v14 = .int .i64 x14_4 ∧ Aa (Ao.l3 kq a2 x8_4 x10_4 x12_3 t125 x14_4 a0_0 a0_1 l0_2 = some (r1, r2)) ∧ Aa (kq ≤ k3) ∧ Aa (Kd.R (Kd.int .i64) 3 w' w.heap.size (fun k_ => some k_ ≠ (v10 : Value).ownBlock ∧ some k_ ≠ (v126 : Value).ownBlock) (.slice Ao16 x8_3.length co16) x8_4) ∧ Aa (Kd.R (Kd.int .i64) 3 w' w.heap.size (fun k_ => some k_ ≠ ((.slice Ao16 x8_3.length co16) : Value).ownBlock ∧ some k_ ≠ (v126 : Value).ownBlock) v10 x10_4) ∧ Aa (Kd.R (Kd.int .i64) 3 w' w.heap.size (fun k_ => some k_ ≠ ((.slice Ao16 x8_3.length co16) : Value).ownBlock ∧ some k_ ≠ (v10 : Value).ownBlock) v126 t125) ∧ Aa (w'.heap[gb113]? = some (.cells #[.int .i64 a0_0, .int .i64 a0_1, (.slice A0_2 l0_2.length c0_2)] 50 (0, 0))) ∧ Aa (Below w.heap.size w w'))
             case atStart => exact ⟨(x8_3), (x10_3), (0), (by first | rfl | (simp; done) | (simp [*]; done)), H', ⟨Nat.le_refl _⟩, ⟨by (try simp only [hl8_2]); (try simp only [hl8_3]); exact rU <| HO_8.out⟩, ⟨by (try simp only [hl8_2]); (try simp only [hl8_3]); exact rU <| HO_10.out⟩, ⟨by (try simp only [hl8_2]); (try simp only [hl8_3]); exact rU <| Kd.Bj HO127.out (fun _ hk => ⟨hk.1.2, hk.2⟩)⟩, ⟨by (try simp only [hl8_2]); (try simp only [hl8_3]); exact bU <| BK113.out⟩, ⟨by repeat (first | (with_reducible first | exact HB.out | apply Ad | apply Ac | apply Ah | refine Af ?_ GE113.out) | exact HB.out)⟩⟩
             case round =>
              clear H'
              try clear c1
              try clear p1
              try clear q1
              try clear hx1
              try clear c2
              try clear p2
              try clear q2
              try clear hx2
              try clear c3
              try clear c4
              try clear c4b0
              try clear c4b1
              try clear c5
              try clear c5b0
              try clear c5b1
              try clear c6
              try clear p6
              try clear c10
              try clear c10b0
              try clear c11
              try clear c11b0
              try clear p11
              try clear q11
              try clear hx11
              try clear p12
              try clear q12
              try clear hx12
              try clear hf12
              try clear c17
              try clear c17b0
              try clear c18
              try clear c18b0
              try clear c19
              try clear c19b0
              try clear c20
              try clear c20b0
              try clear p21
              try clear q21
              try clear hx21
              try clear hf21
              try clear c22
              try clear c26
              try clear c26b0
              try clear c27
              try clear c27b0
              try clear hcz7_0
              try clear hcz7_1
              try clear hcz7_2
              try clear hfz7_0
              try clear hfz7_1
              try clear hfz7_2
              try clear hx118_0
              try clear hx120_0
              try clear hx124_0
              try clear hx12_0
              try clear hx21_0
              try clear p1
              try clear p11
              try clear p118
              try clear p12
              try clear p120
              try clear p124
              try clear p2
              try clear p21
              try clear p6
              try clear q1
              try clear q11
              try clear q118
              try clear q12
              try clear q120
              try clear q124
              try clear q2
              try clear q21
              obtain ⟨x8_4, x10_4, x14_4, rfl, HA, HK4, HO_8, HO_10, HO_13, BK113, HB⟩ := hrel
              have hl8_4 := (Kd.Aw HO_8.out).1
              rw [hl8_4] at HO_8
              (try simp only [hl8_4])
              (try simp only [hl8_4] at BK113)
              (try simp only [hl8_4] at HO_10)
              (try simp only [hl8_4] at HO_13)
              cases gk with
              | zero => exact absurd HA.out (by simp [Ao.l3])
              | succ k4 =>
               have H := HA.out
               clear HA
               simp only [Ao.l3] at H
               by_cases c32 : x14_4 < (t125.length : Int)
               ·rw [if_pos c32] at H
                have c32b0 : decide (x14_4 < (t125.length : Int)) = true := decide_eq_true c32
                clear c32
                by_cases c33 : 0 ≤ x14_4
                ·rw [if_pos c33] at H
                 have c33b0 : decide (0 ≤ x14_4) = true := decide_eq_true c33
                 clear c33
                 by_cases c34 : 0 ≤ (rd t125 x14_4)
                 ·rw [if_pos c34] at H
                  have c34b0 : decide (0 ≤ (rd t125 x14_4)) = true := decide_eq_true c34
                  clear c34
                  by_cases c35 : (rd t125 x14_4) < (l0_2.length : Int)
                  ·rw [if_pos c35] at H
                   have c35b0 : decide ((rd t125 x14_4) < (l0_2.length : Int)) = true := decide_eq_true c35
                   clear c35
                   obtain ⟨bq36, hbq36⟩ : ∃ b_ : Bool, b_ = (rdOf false l0_2 (rd t125 x14_4)) := ⟨_, rfl⟩
                   replace H : (if bq36 = true then (if (rd t125 x14_4) < (x8_4.length : Int) then (if (rd x8_4 (rd t125 x14_4)) < 0 then (if 0 ≤ x12_3 then (if x12_3 < (x10_4.length : Int) then (if 0 ≤ (rd x10_4 x12_3) then (if (rd x10_4 x12_3) < (x8_4.length : Int) then (if x10_4.length < 17592186044416 then (Ao.l3 k4 a2 (x8_4.set ((rd t125 x14_4) : Int).toNat (wrap64 ((rd x8_4 (rd x10_4 x12_3)) + 1))) (x10_4 ++ [rd t125 x14_4]) x12_3 t125 (wrap64 (x14_4 + 1)) a0_0 a0_1 l0_2) else (none)) else (none)) else (none)) else (none)) else (none)) else (Ao.l3 k4 a2 x8_4 x10_4 x12_3 t125 (wrap64 (x14_4 + 1)) a0_0 a0_1 l0_2)) else (none)) else (Ao.l3 k4 a2 x8_4 x10_4 x12_3 t125 (wrap64 (x14_4 + 1)) a0_0 a0_1 l0_2)) = some (r1, r2) := by rw [← hbq36] at H; exact H
                   have Nbq36 := Aa.mk hbq36
                   clear hbq36
                   by_cases c37 : bq36 = true
                   ·subst c37
                    have H1 : (if (rd t125 x14_4) < (x8_4.length : Int) then (if (rd x8_4 (rd t125 x14_4)) < 0 then (if 0 ≤ x12_3 then (if x12_3 < (x10_4.length : Int) then (if 0 ≤ (rd x10_4 x12_3) then (if (rd x10_4 x12_3) < (x8_4.length : Int) then (if x10_4.length < 17592186044416 then (Ao.l3 k4 a2 (x8_4.set ((rd t125 x14_4) : Int).toNat (wrap64 ((rd x8_4 (rd x10_4 x12_3)) + 1))) (x10_4 ++ [rd t125 x14_4]) x12_3 t125 (wrap64 (x14_4 + 1)) a0_0 a0_1 l0_2) else (none)) else (none)) else (none)) else (none)) else (none)) else (Ao.l3 k4 a2 x8_4 x10_4 x12_3 t125 (wrap64 (x14_4 + 1)) a0_0 a0_1 l0_2)) else (none)) = some (r1, r2) := by rw [if_pos rfl] at H; exact H
                    clear H
                    have H := H1
                    clear H1
                    by_cases c38 : (rd t125 x14_4) < (x8_4.length : Int)
                    ·rw [if_pos c38] at H
                     have c38b0 : decide ((rd t125 x14_4) < (x8_4.length : Int)) = true := decide_eq_true c38
                     clear c38
                     by_cases c39 : (rd x8_4 (rd t125 x14_4)) < 0
                     ·rw [if_pos c39] at H
                      have c39b0 : decide ((rd x8_4 (rd t125 x14_4)) < 0) = true := decide_eq_true c39
                      clear c39
                      by_cases c40 : 0 ≤ x12_3
                      ·rw [if_pos c40] at H
                       have c40b0 : decide (0 ≤ x12_3) = true := decide_eq_true c40
                       clear c40
                       by_cases c41 : x12_3 < (x10_4.length : Int)
                       ·rw [if_pos c41] at H
                        have c41b0 : decide (x12_3 < (x10_4.length : Int)) = true := decide_eq_true c41
                        clear c41
                        by_cases c42 : 0 ≤ (rd x10_4 x12_3)
                        ·rw [if_pos c42] at H
                         have c42b0 : decide (0 ≤ (rd x10_4 x12_3)) = true := decide_eq_true c42
                         clear c42
                         by_cases c43 : (rd x10_4 x12_3) < (x8_4.length : Int)
                         ·rw [if_pos c43] at H
                          have c43b0 : decide ((rd x10_4 x12_3) < (x8_4.length : Int)) = true := decide_eq_true c43
                          clear c43
                          obtain ⟨y135, hy135⟩ : ∃ y_ : List Int, y_ = (x8_4.set ((rd t125 x14_4) : Int).toNat (wrap64 ((rd x8_4 (rd x10_4 x12_3)) + 1))) := ⟨_, rfl⟩
                          replace H : (if x10_4.length < 17592186044416 then (Ao.l3 k4 a2 y135 (x10_4 ++ [rd t125 x14_4]) x12_3 t125 (wrap64 (x14_4 + 1)) a0_0 a0_1 l0_2) else (none)) = some (r1, r2) := by first | (rw [hy135]; with_reducible exact H) | (have H2_ := (Option.bind_some _ _).symm.trans H; rw [hy135]; with_reducible exact H2_) | (have H2_ := (Option.bind_some _ _).symm.trans H; with_reducible exact H2_) | with_reducible exact H | (rw [hy135]; exact H) | exact H
                          have Ny135 := Aa.mk hy135
                          clear hy135
                          by_cases c45 : x10_4.length < 17592186044416
                          ·rw [if_pos c45] at H
                           have LMc45 := Aa.mk c45
                           clear c45
                           obtain ⟨y137, hy137⟩ : ∃ y_ : List Int, y_ = (x10_4 ++ [rd t125 x14_4]) := ⟨_, rfl⟩
                           replace H : (Ao.l3 k4 a2 y135 y137 x12_3 t125 (wrap64 (x14_4 + 1)) a0_0 a0_1 l0_2) = some (r1, r2) := by first | (rw [hy137]; with_reducible exact H) | (have H2_ := (Option.bind_some _ _).symm.trans H; rw [hy137]; with_reducible exact H2_) | (have H2_ := (Option.bind_some _ _).symm.trans H; with_reducible exact H2_) | with_reducible exact H | (rw [hy137]; exact H) | exact H
                           have Ny137 := Aa.mk hy137
                           clear hy137
                           have H' := Aa.mk H
                           clear H
                           obtain ⟨Ao46, co46, eo46⟩ := Kd.Bz HO_13.out
                           subst eo46
                           try go_wp2
                           have n0_ := Aa.mk (Kd.Dj HO_8.out)
                           have n1_ := Aa.mk (Kd.Dj HO_10.out)
                           have n2_ := Aa.mk (Kd.Dj HO_13.out)
                           have n3_ := Aa.mk (At BK113.out)
                           have n4_ := Aa.mk (Ah HB.out)
                           clear HO_8
                           clear HO_10
                           clear HO_13
                           clear BK113
                           clear HB
                           have HO_8 := n0_
                           have HO_10 := n1_
                           have HO_13 := n2_
                           have BK113 := n3_
                           have HB := n4_
                           clear n0_ n1_ n2_ n3_ n4_
                           have p128 : 0 ≤ (x14_4 : Int) := of_decide_eq_true (by first | (with_reducible assumption) | assumption)
                           have q128 : x14_4 < (t125.length : Int) := of_decide_eq_true (by first | (with_reducible assumption) | assumption)
                           obtain ⟨ad128, e128, hx128_0⟩ := Kd.at_int (Kd.Aw HO_13.out).2.2 x14_4 p128 q128
                           cases e128
                           replace p128 := eq_true p128
                           replace q128 := eq_true q128
                           have p129 : 0 ≤ ((rd t125 x14_4) : Int) := of_decide_eq_true (by first | (with_reducible assumption) | assumption)
                           have q129 : (rd t125 x14_4) < (l0_2.length : Int) := of_decide_eq_true (by first | (with_reducible assumption) | assumption)
                           obtain ⟨ad129, e129, hx129_0⟩ := Kd.at_bool HR0_2.out (rd t125 x14_4) p129 q129
                           have hw129_0 := hx129_0
                           (try rw [← Nbq36.out] at hw129_0)
                           (try rw [← Nbq36.out] at hx129_0)
                           cases e129
                           replace hx129_0 := (HB.out.cell (World.block_lt_of_cell? w _ hx129_0)).trans hx129_0
                           replace p129 := eq_true p129
                           replace q129 := eq_true q129
                           have p130 : 0 ≤ (x14_4 : Int) := of_decide_eq_true (by first | (with_reducible assumption) | assumption)
                           have q130 : x14_4 < (t125.length : Int) := of_decide_eq_true (by first | (with_reducible assumption) | assumption)
                           obtain ⟨ad130, e130, hx130_0⟩ := Kd.at_int (Kd.Aw HO_13.out).2.2 x14_4 p130 q130
                           obtain rfl : ad128 = ad130 := (by injection e130)
                           replace p130 := eq_true p130
                           replace q130 := eq_true q130
                           have p131 : 0 ≤ ((rd t125 x14_4) : Int) := of_decide_eq_true (by first | (with_reducible assumption) | assumption)
                           have q131 : (rd t125 x14_4) < (x8_4.length : Int) := of_decide_eq_true (by first | (with_reducible assumption) | assumption)
                           obtain ⟨ad131, e131, hx131_0⟩ := Kd.at_int (Kd.Aw HO_8.out).2.2 (rd t125 x14_4) p131 q131
                           cases e131
                           replace p131 := eq_true p131
                           replace q131 := eq_true q131
                           refine start_ (n := 18) (S := fun w' => w'.cell? ⟨gb113, 0, none⟩ = some (.int .i64 a0_0) ∧ w'.cell? ⟨gb113, 1, none⟩ = some (.int .i64 a0_1) ∧ w'.cell? ⟨gb113, 2, none⟩ = some (.slice (some ad129) l0_2.length c0_2) ∧ w'.cell? (ad128.add (x14_4).toNat) = some (.int .i64 (rd t125 x14_4)) ∧ w'.cell? (ad129.add ((rd t125 x14_4)).toNat) = some (.bool true) ∧ w'.cell? (ad128.add (x14_4).toNat) = some (.int .i64 (rd t125 x14_4)) ∧ w'.cell? (ad131.add ((rd t125 x14_4)).toNat) = some (.int .i64 (rd x8_4 (rd t125 x14_4)))) (ds := []) #[false, false, false, false, false, false, false, false, false, false, false, false, false, false, false, false, false, false] (by kernel_rfl) rfl rfl ⟨(Ae BK113.out 0).trans rfl, (Ae BK113.out 1).trans rfl, (Ae BK113.out 2).trans rfl, hx128_0, ((HB.out.cell (World.block_lt_of_cell? w _ hw129_0)).trans hw129_0), hx130_0, hx131_0⟩ (fun hHeld => ?_); refine with_tabW Ao.tab19 Ao.bits19 (fun HT_ HW_ => ?_)
                           generalize wr.drew = w47 at HO_8 HO_10 HO_13 BK113 HB hx128_0 hx129_0 hx130_0 hx131_0 hHeld ⊢
                           refine pure_ (i := 0) (N := some 69) (v := ?_) (a' := ?_) (bA 18 1) rfl rfl (any_of HT_.out (by kernel_rfl)) (fun _ _ _ h => h) (Or.inl ⟨by rfl, ?_⟩) ?_ ?_
                           rotate_left; (intro w'; go_simp; with_reducible rfl); rotate_left; (simp only [Act.put, sA, sB, sC, i64_w, i32_w]; rfl)
                           refine pure_ (i := 2) (N := some 71) (v := ?_) (a' := ?_) (bA 18 5) rfl rfl (any_of HT_.out (by kernel_rfl)) (fun _ _ _ h => h) (Or.inl ⟨by rfl, ?_⟩) ?_ ?_
                           rotate_left; (intro w'; go_simp; with_reducible rfl); rotate_left; (simp only [Act.put, sA, sB, sC, i64_w, i32_w]; rfl)
                           refine pure_ (i := 3) (N := some 72) (v := ?_) (a' := ?_) (bA 18 13) rfl rfl (any_of HT_.out (by kernel_rfl)) (fun _ _ _ h => h) (Or.inl ⟨by rfl, ?_⟩) ?_ ?_
                           rotate_left; (intro w'; go_simp; with_reducible rfl); rotate_left; (simp only [Act.put, sA, sB, sC, i64_w, i32_w]; rfl)
                           refine pure_ (i := 4) (N := some 73) (v := ?_) (a' := ?_) (bA 18 29) rfl rfl (any_of HT_.out (by kernel_rfl)) (fun _ _ _ h => h) (Or.inl ⟨by rfl, ?_⟩) ?_ ?_
                           rotate_left; (intro w'; go_simp; with_reducible rfl); rotate_left; (simp only [Act.put, sA, sB, sC, i64_w, i32_w]; rfl)
                           refine take_ (i := 1) (N := some 70) (v := ?_) (a' := ?_) (bA 18 31) rfl rfl (take_ofW HT_.out HW_.out (by kernel_rfl)) (fun _ _ _ h => h) (Or.inl ⟨by rfl, ?_⟩) hHeld ?_ ?_
                           rotate_left; (rintro w' ⟨s0, s1, s2, s3, s4, s5, s6⟩; go_simp; with_reducible rfl); rotate_left; (simp only [Act.put, sA, sB, sC, i64_w, i32_w]; rfl)
                           refine take_ (i := 5) (N := some 74) (v := ?_) (a' := ?_) (bA 18 63) rfl rfl (take_ofW HT_.out HW_.out (by kernel_rfl)) (fun _ _ _ h => h) (Or.inl ⟨by rfl, ?_⟩) hHeld ?_ ?_
                           rotate_left; (rintro w' ⟨s0, s1, s2, s3, s4, s5, s6⟩; go_simp; with_reducible rfl); rotate_left; (simp only [Act.put, sA, sB, sC, i64_w, i32_w]; rfl)
                           refine pure_ (i := 6) (N := some 75) (v := ?_) (a' := ?_) (bA 18 127) rfl rfl (any_of HT_.out (by kernel_rfl)) (fun _ _ _ h => h) (Or.inl ⟨by rfl, ?_⟩) ?_ ?_
                           rotate_left; (intro w'; go_simp; with_reducible rfl); rotate_left; (simp only [Act.put, sA, sB, sC, i64_w, i32_w]; rfl)
                           refine take_ (i := 7) (N := some 76) (v := ?_) (a' := ?_) (bA 18 255) rfl rfl (take_ofW HT_.out HW_.out (by kernel_rfl)) (fun _ _ _ h => h) (Or.inl ⟨by rfl, ?_⟩) hHeld ?_ ?_
                           rotate_left; (rintro w' ⟨s0, s1, s2, s3, s4, s5, s6⟩; go_simp; with_reducible rfl); rotate_left; (simp only [Act.put, sA, sB, sC, i64_w, i32_w]; rfl)
                           refine pure_ (i := 8) (N := some 77) (v := ?_) (a' := ?_) (bA 18 511) rfl rfl (any_of HT_.out (by kernel_rfl)) (fun _ _ _ h => h) (Or.inl ⟨by rfl, ?_⟩) ?_ ?_
                           rotate_left; (intro w'; go_simp; with_reducible rfl); rotate_left; (simp only [Act.put, sA, sB, sC, i64_w, i32_w]; rfl)
                           refine pure_ (i := 9) (N := some 78) (v := ?_) (a' := ?_) (bA 18 1023) rfl rfl (any_of HT_.out (by kernel_rfl)) (fun _ _ _ h => h) (Or.inl ⟨by rfl, ?_⟩) ?_ ?_
                           rotate_left; (intro w'; go_simp; with_reducible rfl); rotate_left; (simp only [Act.put, sA, sB, sC, i64_w, i32_w]; rfl)
                           refine pure_ (i := 10) (N := some 79) (v := ?_) (a' := ?_) (bA 18 2047) rfl rfl (any_of HT_.out (by kernel_rfl)) (fun _ _ _ h => h) (Or.inl ⟨by rfl, ?_⟩) ?_ ?_
                           rotate_left; (intro w'; go_simp; with_reducible rfl); rotate_left; (simp only [Act.put, sA, sB, sC, i64_w, i32_w]; rfl)
                           refine pure_ (i := 11) (N := some 80) (v := ?_) (a' := ?_) (bA 18 4095) rfl rfl (any_of HT_.out (by kernel_rfl)) (fun _ _ _ h => h) (Or.inl ⟨by rfl, ?_⟩) ?_ ?_
                           rotate_left; (intro w'; go_simp; with_reducible rfl); rotate_left; (simp only [Act.put, sA, sB, sC, i64_w, i32_w]; rfl)
                           refine pure_ (i := 12) (N := some 81) (v := ?_) (a' := ?_) (bA 18 8191) rfl rfl (any_of HT_.out (by kernel_rfl)) (fun _ _ _ h => h) (Or.inl ⟨by rfl, ?_⟩) ?_ ?_
                           rotate_left; (intro w'; go_simp; with_reducible rfl); rotate_left; (simp only [Act.put, sA, sB, sC, i64_w, i32_w]; rfl)
                           refine take_ (i := 13) (N := some 82) (v := ?_) (a' := ?_) (bA 18 16383) rfl rfl (take_ofW HT_.out HW_.out (by kernel_rfl)) (fun _ _ _ h => h) (Or.inl ⟨by rfl, ?_⟩) hHeld ?_ ?_
                           rotate_left; (rintro w' ⟨s0, s1, s2, s3, s4, s5, s6⟩; go_simp; with_reducible rfl); rotate_left; (simp only [Act.put, sA, sB, sC, i64_w, i32_w]; rfl)
                           refine pure_ (i := 14) (N := some 83) (v := ?_) (a' := ?_) (bA 18 32767) rfl rfl (any_of HT_.out (by kernel_rfl)) (fun _ _ _ h => h) (Or.inl ⟨by rfl, ?_⟩) ?_ ?_
                           rotate_left; (intro w'; go_simp; with_reducible rfl); rotate_left; (simp only [Act.put, sA, sB, sC, i64_w, i32_w]; rfl)
                           refine take_ (i := 15) (N := some 84) (v := ?_) (a' := ?_) (bA 18 65535) rfl rfl (take_ofW HT_.out HW_.out (by kernel_rfl)) (fun _ _ _ h => h) (Or.inl ⟨by rfl, ?_⟩) hHeld ?_ ?_
                           rotate_left; (rintro w' ⟨s0, s1, s2, s3, s4, s5, s6⟩; go_simp; with_reducible rfl); rotate_left; (simp only [Act.put, sA, sB, sC, i64_w, i32_w]; rfl)
                           refine pure_ (i := 16) (N := some 85) (v := ?_) (a' := ?_) (bA 18 131071) rfl rfl (any_of HT_.out (by kernel_rfl)) (fun _ _ _ h => h) (Or.inl ⟨by rfl, ?_⟩) ?_ ?_
                           rotate_left; (intro w'; go_simp; with_reducible rfl); rotate_left; (simp only [Act.put, sA, sB, sC, i64_w, i32_w]; rfl)
                           refine pure_ (i := 17) (N := some 86) (v := ?_) (a' := ?_) (bA 18 262143) rfl rfl (any_of HT_.out (by kernel_rfl)) (fun _ _ _ h => h) (Or.inl ⟨by rfl, ?_⟩) ?_ ?_
                           rotate_left; (intro w'; go_simp; with_reducible rfl); rotate_left; (simp only [Act.put, sA, sB, sC, i64_w, i32_w]; rfl)
                           refine done_ (done_of HT_.out (by kernel_rfl)) ?_
                           have p132 : 0 ≤ (x14_4 : Int) := of_decide_eq_true (by first | (with_reducible assumption) | assumption)
                           have q132 : x14_4 < (t125.length : Int) := of_decide_eq_true (by first | (with_reducible assumption) | assumption)
                           obtain ⟨ad132, e132, hx132_0⟩ := Kd.at_int (Kd.Aw HO_13.out).2.2 x14_4 p132 q132
                           obtain rfl : ad128 = ad132 := (by injection e132)
                           replace p132 := eq_true p132
                           replace q132 := eq_true q132
                           obtain ⟨Ao48, co48, eo48⟩ := Kd.Bz HO_10.out
                           subst eo48
                           have p133 : 0 ≤ (x12_3 : Int) := of_decide_eq_true (by first | (with_reducible assumption) | assumption)
                           have q133 : x12_3 < (x10_4.length : Int) := of_decide_eq_true (by first | (with_reducible assumption) | assumption)
                           obtain ⟨ad133, e133, hx133_0⟩ := Kd.at_int (Kd.Aw HO_10.out).2.2 x12_3 p133 q133
                           cases e133
                           replace p133 := eq_true p133
                           replace q133 := eq_true q133
                           have p134 : 0 ≤ ((rd x10_4 x12_3) : Int) := of_decide_eq_true (by first | (with_reducible assumption) | assumption)
                           have q134 : (rd x10_4 x12_3) < (x8_4.length : Int) := of_decide_eq_true (by first | (with_reducible assumption) | assumption)
                           obtain ⟨ad134, e134, hx134_0⟩ := Kd.at_int (Kd.Aw HO_8.out).2.2 (rd x10_4 x12_3) p134 q134
                           obtain rfl : ad131 = ad134 := (by injection e134)
                           replace p134 := eq_true p134
                           replace q134 := eq_true q134
                           have p44 : 0 ≤ ((rd t125 x14_4) : Int) := of_decide_eq_true (by first | (with_reducible assumption) | assumption)
                           have q44 : ((rd t125 x14_4) : Int) < ((x8_4.length : Int) : Int) := of_decide_eq_true (by first | (with_reducible assumption) | assumption)
                           obtain ⟨go44, co44, eo44, gb44, gl44, cl44, HG44⟩ := Kd.Df HO_8.out (by omega)
                           (first | cases eo44 | (injection eo44 with ea_ en_ ec_; (first | subst ea_ | (injection ea_ with ea_; subst ea_)); subst ec_; clear en_))
                           have GB44 := Aa.mk gb44
                           have GG44 := Aa.mk HG44
                           clear gb44 gl44 HG44
                           (first | simp only [add_plain] at hx131_0 | skip)
                           (first | simp only [add_plain] at hx134_0 | skip)
                           obtain ⟨hx44_0, hf44_0⟩ := Kd.Ct 0 HO_8.out ((rd t125 x14_4) : Int) p44 q44
                           replace p44 := eq_true p44
                           replace q44 := eq_true q44
                           obtain ⟨hy49_, hz49_⟩ := Kd.Ct 0 HO_8.out ((rd t125 x14_4) : Int) (of_decide_eq_true (by first | (with_reducible assumption) | assumption)) (of_decide_eq_true (by first | (with_reducible assumption) | assumption))
                           have HP49 := Kd.C6 HO_8.out ((rd t125 x14_4) : Int) (wrap64 ((rd x8_4 (rd x10_4 x12_3)) + 1))
                           go_upto_region 20 with fail
                           refine start_ (n := 15) (S := fun w' => w'.cell? (ad128.add x14_4.toNat) = some (.int .i64 (rd t125 x14_4)) ∧ w'.cell? (ad133.add x12_3.toNat) = some (.int .i64 (rd x10_4 x12_3)) ∧ w'.cell? ⟨go44, (rd x10_4 x12_3).toNat, none⟩ = some (.int .i64 (rd x8_4 (rd x10_4 x12_3)))) (ds := [14]) #[false, false, false, false, false, false, false, false, false, false, false, false, false, false, false] (by kernel_rfl) rfl rfl ⟨hx132_0, hx133_0, hx134_0⟩ (fun hHeld => ?_)
                           clear HP49
                           have n0_ := Aa.mk (Kd.Dj HO_8.out)
                           have n1_ := Aa.mk (Kd.Dj HO_10.out)
                           have n2_ := Aa.mk (Kd.Dj HO_13.out)
                           have n3_ := Aa.mk (At BK113.out)
                           have n4_ := Aa.mk (Ah HB.out)
                           have n5_ : w47.drew.cell? _ = _ := hx44_0
                           have n6_ : w47.drew.frozen? _ = _ := hf44_0
                           clear HO_8 HO_10 HO_13 BK113 HB hx44_0 hf44_0 hx132_0 hx133_0 hx134_0 hy49_ hz49_
                           have HO_8 := n0_
                           have HO_10 := n1_
                           have HO_13 := n2_
                           have BK113 := n3_
                           have HB := n4_
                           have hx44_0 := n5_
                           have hf44_0 := n6_
                           clear n0_ n1_ n2_ n3_ n4_ n5_ n6_
                           generalize w47.drew = w47 at HO_8 HO_10 HO_13 BK113 HB hx44_0 hf44_0 hHeld ⊢
                           have HP49 := Kd.C6 HO_8.out ((rd t125 x14_4) : Int) (wrap64 ((rd x8_4 (rd x10_4 x12_3)) + 1))
                           refine pure_ (i := 0) (N := (some 87)) (v := ?_) (a' := ?_) #[true, false, false, false, false, false, false, false, false, false, false, false, false, false, false] rfl rfl (by kernel_rfl) (fun _ _ _ h => h) (Or.inl ⟨by rfl, ?_⟩) ?_ ?_
                           rotate_left
                           ·intro w'
                            go_simp
                            with_reducible rfl
                           rotate_left
                           ·simp only [Act.put, List.setIfInBounds_toArray, List.set_cons_zero, List.set_cons_succ, i64_w, i32_w]
                            rfl
                           refine pure_ (i := 1) (N := (some 88)) (v := ?_) (a' := ?_) #[true, true, false, false, false, false, false, false, false, false, false, false, false, false, false] rfl rfl (by kernel_rfl) (fun _ _ _ h => h) (Or.inl ⟨by rfl, ?_⟩) ?_ ?_
                           rotate_left
                           ·intro w'
                            go_simp
                            with_reducible rfl
                           rotate_left
                           ·simp only [Act.put, List.setIfInBounds_toArray, List.set_cons_zero, List.set_cons_succ, i64_w, i32_w]
                            rfl
                           refine pure_ (i := 2) (N := (some 89)) (v := ?_) (a' := ?_) #[true, true, true, false, false, false, false, false, false, false, false, false, false, false, false] rfl rfl (by kernel_rfl) (fun _ _ _ h => h) (Or.inl ⟨by rfl, ?_⟩) ?_ ?_
                           rotate_left
                           ·intro w'
                            go_simp
                            with_reducible rfl
                           rotate_left
                           ·simp only [Act.put, List.setIfInBounds_toArray, List.set_cons_zero, List.set_cons_succ, i64_w, i32_w]
                            rfl
                           refine pure_ (i := 3) (N := (some 90)) (v := ?_) (a' := ?_) #[true, true, true, true, false, false, false, false, false, false, false, false, false, false, false] rfl rfl (by kernel_rfl) (fun _ _ _ h => h) (Or.inl ⟨by rfl, ?_⟩) ?_ ?_
                           rotate_left
                           ·intro w'
                            go_simp
                            with_reducible rfl
                           rotate_left
                           ·simp only [Act.put, List.setIfInBounds_toArray, List.set_cons_zero, List.set_cons_succ, i64_w, i32_w]
                            rfl
                           refine pure_ (i := 5) (N := (some 92)) (v := ?_) (a' := ?_) #[true, true, true, true, false, true, false, false, false, false, false, false, false, false, false] rfl rfl (by kernel_rfl) (fun _ _ _ h => h) (Or.inl ⟨by rfl, ?_⟩) ?_ ?_
                           rotate_left
                           ·intro w'
                            go_simp
                            with_reducible rfl
                           rotate_left
                           ·simp only [Act.put, List.setIfInBounds_toArray, List.set_cons_zero, List.set_cons_succ, i64_w, i32_w]
                            rfl
                           refine pure_ (i := 6) (N := (some 93)) (v := ?_) (a' := ?_) #[true, true, true, true, false, true, true, false, false, false, false, false, false, false, false] rfl rfl (by kernel_rfl) (fun _ _ _ h => h) (Or.inl ⟨by rfl, ?_⟩) ?_ ?_
                           rotate_left
                           ·intro w'
                            go_simp
                            with_reducible rfl
                           rotate_left
                           ·simp only [Act.put, List.setIfInBounds_toArray, List.set_cons_zero, List.set_cons_succ, i64_w, i32_w]
                            rfl
                           refine pure_ (i := 7) (N := (some 94)) (v := ?_) (a' := ?_) #[true, true, true, true, false, true, true, true, false, false, false, false, false, false, false] rfl rfl (by kernel_rfl) (fun _ _ _ h => h) (Or.inl ⟨by rfl, ?_⟩) ?_ ?_
                           rotate_left
                           ·intro w'
                            go_simp
                            with_reducible rfl
                           rotate_left
                           ·simp only [Act.put, List.setIfInBounds_toArray, List.set_cons_zero, List.set_cons_succ, i64_w, i32_w]
                            rfl
                           refine pure_ (i := 8) (N := (some 95)) (v := ?_) (a' := ?_) #[true, true, true, true, false, true, true, true, true, false, false, false, false, false, false] rfl rfl (by kernel_rfl) (fun _ _ _ h => h) (Or.inl ⟨by rfl, ?_⟩) ?_ ?_
                           rotate_left
                           ·intro w'
                            go_simp
                            with_reducible rfl
                           rotate_left
                           ·simp only [Act.put, List.setIfInBounds_toArray, List.set_cons_zero, List.set_cons_succ, i64_w, i32_w]
                            rfl
                           refine take_ (i := 4) (N := (some 91)) (v := ?_) (a' := ?_) #[true, true, true, true, true, true, true, true, true, false, false, false, false, false, false] rfl rfl (by kernel_rfl) (fun _ _ _ h => h) (Or.inl ⟨by rfl, ?_⟩) hHeld ?_ ?_
                           rotate_left
                           ·rintro w' ⟨s0, s1, s2⟩
                            go_simp
                            with_reducible rfl
                           rotate_left
                           ·simp only [Act.put, List.setIfInBounds_toArray, List.set_cons_zero, List.set_cons_succ, i64_w, i32_w]
                            rfl
                           refine take_ (i := 9) (N := (some 96)) (v := ?_) (a' := ?_) #[true, true, true, true, true, true, true, true, true, true, false, false, false, false, false] rfl rfl (by kernel_rfl) (fun _ _ _ h => h) (Or.inl ⟨by rfl, ?_⟩) hHeld ?_ ?_
                           rotate_left
                           ·rintro w' ⟨s0, s1, s2⟩
                            go_simp
                            with_reducible rfl
                           rotate_left
                           ·simp only [Act.put, List.setIfInBounds_toArray, List.set_cons_zero, List.set_cons_succ, i64_w, i32_w]
                            rfl
                           refine pure_ (i := 10) (N := (some 97)) (v := ?_) (a' := ?_) #[true, true, true, true, true, true, true, true, true, true, true, false, false, false, false] rfl rfl (by kernel_rfl) (fun _ _ _ h => h) (Or.inl ⟨by rfl, ?_⟩) ?_ ?_
                           rotate_left
                           ·intro w'
                            go_simp
                            with_reducible rfl
                           rotate_left
                           ·simp only [Act.put, List.setIfInBounds_toArray, List.set_cons_zero, List.set_cons_succ, i64_w, i32_w]
                            rfl
                           refine take_ (i := 11) (N := (some 98)) (v := ?_) (a' := ?_) #[true, true, true, true, true, true, true, true, true, true, true, true, false, false, false] rfl rfl (by kernel_rfl) (fun _ _ _ h => h) (Or.inl ⟨by rfl, ?_⟩) hHeld ?_ ?_
                           rotate_left
                           ·rintro w' ⟨s0, s1, s2⟩
                            go_simp
                            with_reducible rfl
                           rotate_left
                           ·simp only [Act.put, List.setIfInBounds_toArray, List.set_cons_zero, List.set_cons_succ, i64_w, i32_w]
                            rfl
                           refine pure_ (i := 12) (N := (some 99)) (v := ?_) (a' := ?_) #[true, true, true, true, true, true, true, true, true, true, true, true, true, false, false] rfl rfl (by kernel_rfl) (fun _ _ _ h => h) (Or.inl ⟨by rfl, ?_⟩) ?_ ?_
                           rotate_left
                           ·intro w'
                            go_simp
                            with_reducible rfl
                           rotate_left
                           ·simp only [Act.put, List.setIfInBounds_toArray, List.set_cons_zero, List.set_cons_succ, i64_w, i32_w]
                            rfl
                           refine pure_ (i := 13) (N := (some 100)) (v := ?_) (a' := ?_) #[true, true, true, true, true, true, true, true, true, true, true, true, true, true, false] rfl rfl (by kernel_rfl) (fun _ _ _ h => h) (Or.inl ⟨by rfl, ?_⟩) ?_ ?_
                           rotate_left
                           ·intro w'
                            go_simp
                            with_reducible rfl
                           rotate_left
                           ·simp only [Act.put, List.setIfInBounds_toArray, List.set_cons_zero, List.set_cons_succ, i64_w, i32_w]
                            rfl
                           refine last_ (i := 14) (N := none) #[true, true, true, true, true, true, true, true, true, true, true, true, true, true, true] rfl rfl (by kernel_rfl) (by decide) (fun K hK => ?_)
                           have hw_ := hx44_0
                           refine skip_ (w1 := (w47.setCell ⟨go44, ((rd t125 x14_4) : Int).toNat, none⟩ (.int .i64 (wrap64 ((rd x8_4 (rd x10_4 x12_3)) + 1))))) (by rfl) rfl ?_ ?_
                           ·first | (go_simp; done) | (go_simp; rfl)
                           refine hK.out _ _ ?_
                           clear hK K hw_
                           refine done_ (by kernel_rfl) ?_
                           obtain ⟨w50, hw⟩ : ∃ w_ : World, w_ = w47.setCell ⟨go44, ((rd t125 x14_4) : Int).toNat, none⟩ (.int .i64 (wrap64 ((rd x8_4 (rd x10_4 x12_3)) + 1))) := ⟨_, rfl⟩
                           rw [← hw]
                           (have hg : w47.grownBy w50 (some go44) := (by rw [hw]; exact HP49.2); have hp_ : Kd.R (Kd.int .i64) 3 w50 w.heap.size (fun k_ => some k_ ≠ (.slice (some ad133) x10_4.length co48 : Value).ownBlock ∧ some k_ ≠ (.slice (some ad128) t125.length co46 : Value).ownBlock) (.slice (some ⟨go44, 0, none⟩) x8_4.length co16) y135 := (by rw [hw, Ny135.out]; exact HP49.1); clear HP49; have n0_ := Aa.mk (hp_); have n1_ := Aa.mk (Kd.C4 (v := (.slice (some ⟨go44, 0, none⟩) x8_4.length co16)) (v1 := (.slice (some ⟨go44, 0, none⟩) x8_4.length co16)) (ok := (fun k_ => some k_ ≠ (.slice (some ad128) t125.length co46 : Value).ownBlock)) (by exact rU <| Kd.Bj HO_10.out (fun _ hk => ⟨hk.2, hk.1⟩)) hg (.inl rfl)); have n2_ := Aa.mk (Kd.C4 (v := (.slice (some ⟨go44, 0, none⟩) x8_4.length co16)) (v1 := (.slice (some ⟨go44, 0, none⟩) x8_4.length co16)) (ok := (fun k_ => some k_ ≠ (.slice (some ad133) x10_4.length co48 : Value).ownBlock)) (by exact rU <| Kd.Bj HO_13.out (fun _ hk => ⟨hk.2, hk.1⟩)) hg (.inl rfl)); have n3_ := Aa.mk (Bs (g := gb113) (o := .cells #[.int .i64 a0_0, .int .i64 a0_1, .slice (some ad129) l0_2.length c0_2] 50 (0, 0)) (by exact bU <| BK113.out) hg (Kd.Db HO_8.out BK113.out (by decide))); have n4_ := Aa.mk ((by rw [hw]; exact Af (HB.out) GB44.out : Below w.heap.size w w50)); clear HO_8; clear HO_10; clear HO_13; clear BK113; clear HB; have HO_8 := n0_; have HO_10 := n1_; have HO_13 := n2_; have BK113 := n3_; have HB := n4_; clear n0_ n1_ n2_ n3_ n4_; clear hg hw hp_; have p136 : 0 ≤ (x14_4 : Int) := of_decide_eq_true (by first | (with_reducible assumption) | assumption); have q136 : x14_4 < (t125.length : Int) := of_decide_eq_true (by first | (with_reducible assumption) | assumption); obtain ⟨ad136, e136, hx136_0⟩ := Kd.at_int (Kd.Aw HO_13.out).2.2 x14_4 p136 q136; obtain rfl : ad128 = ad136 := (by injection e136); replace p136 := eq_true p136; replace q136 := eq_true q136)
                           go_wp2_with ((with_reducible refine Cf (b := .append) (xs := #[.tmp 101, .tmp 106]) rfl ?_); at_builtin; refine Kd.Cv (Kd.int .i64) (w0 := w) w.heap.size rfl (.tmp 101) (.tmp 106) 31 3 (.int .i64 0) 8 rfl Try.underlying31 info3 rfl (by decide) (by omega) (.slice (some ad133) x10_4.length co48) x10_4 (rd t125 x14_4) [.int .i64 (rd t125 x14_4)] (fun k_ => some k_ ≠ (.slice (some ⟨go44, 0, none⟩) x8_4.length co16 : Value).ownBlock ∧ some k_ ≠ (.slice (some ad128) t125.length co46 : Value).ownBlock) (fun _ => False) rfl rfl ?aP (fun _ hk => hk.elim) ?aF ?aO ?aB ?aS ?aL ?_; (case aP => exact rfl); (case aB => exact (by repeat (first | (with_reducible first | exact HB.out | apply Ad | apply Ac | apply Ah | refine Af ?_ GE113.out) | exact HB.out))); (case aF => exact (fun k_ hk => ⟨Kd.fresh' (Kd.Cs (by exact rU <| HO_8.out)) k_ hk, Kd.fresh' (Kd.Cs (by exact rU <| HO_13.out)) k_ hk⟩)); (case aO => exact (by exact rU <| Kd.Bj HO_10.out (fun _ hk => ⟨hk.2, hk.1⟩))); (case aS => exact (Ak (by repeat (first | (with_reducible first | exact HB.out | apply Ad | apply Ac | apply Ah | refine Af ?_ GE113.out) | exact HB.out)))); (case aL => have := LMc45.out; omega); intro v138 w51 ho hb hg hat; rw [← Ny137.out] at ho; have n0_ := Aa.mk (Kd.C4 (ok := (fun k_ => some k_ ≠ (.slice (some ad128) t125.length co46 : Value).ownBlock)) (by exact rU <| Kd.Bj HO_8.out (fun _ hk => ⟨hk.2, hk.1⟩)) hg hat); have n1_ := Aa.mk (Kd.C4 (ok := (fun k_ => some k_ ≠ (.slice (some ⟨go44, 0, none⟩) x8_4.length co16 : Value).ownBlock)) (by exact rU <| Kd.Bj HO_13.out (fun _ hk => ⟨hk.2, hk.1⟩)) hg hat); have n2_ := Aa.mk (Bs (g := gb113) (o := .cells #[.int .i64 a0_0, .int .i64 a0_1, .slice (some ad129) l0_2.length c0_2] 50 (0, 0)) (by exact bU <| BK113.out) hg (Kd.Db HO_10.out BK113.out (by decide))); have n3_ := Aa.mk (hb); have n4_ := Aa.mk (ho); clear HO_8; clear HO_13; clear BK113; clear HB; clear HO_10; have HO_8 := n0_; have HO_13 := n1_; have BK113 := n2_; have HB := n3_; have HO139 := n4_; clear n0_ n1_ n2_ n3_ n4_; clear ho hb hg hat)
                           (try simp only [← hl8_4])
                           go_roundg k4
                           case measure => have := HK1.out; have := HK2.out; have := HK3.out; have := HK4.out; omega
                           case rel => exact ⟨(y135), (y137), (wrap64 (x14_4 + 1)), (by first | rfl | (simp; done) | (simp [*]; done)), H', ⟨by have := HK1.out; have := HK2.out; have := HK3.out; have := HK4.out; omega⟩, ⟨by (try simp only [hl8_2]); (try simp only [hl8_3]); (try simp only [hl8_4]); exact rU <| Kd.Bj HO_8.out (fun _ hk => ⟨hk.2, hk.1⟩)⟩, ⟨by (try simp only [hl8_2]); (try simp only [hl8_3]); (try simp only [hl8_4]); exact rU <| HO139.out⟩, ⟨by (try simp only [hl8_2]); (try simp only [hl8_3]); (try simp only [hl8_4]); exact rU <| HO_13.out⟩, ⟨by (try simp only [hl8_2]); (try simp only [hl8_3]); (try simp only [hl8_4]); exact bU <| BK113.out⟩, ⟨by repeat (first | (with_reducible first | exact HB.out | apply Ad | apply Ac | apply Ah | refine Af ?_ GE113.out) | exact HB.out)⟩⟩
                          ·rw [if_neg c45] at H
                           exact absurd H (by simp)
                         ·rw [if_neg c43] at H
                          exact absurd H (by simp)
                        ·rw [if_neg c42] at H
                         exact absurd H (by simp)
                       ·rw [if_neg c41] at H
                        exact absurd H (by simp)
                      ·rw [if_neg c40] at H
                       exact absurd H (by simp)
                     ·rw [if_neg c39] at H
                      have c39b0 : decide ((rd x8_4 (rd t125 x14_4)) < 0) = false := decide_eq_false c39
                      clear c39
                      have H' := Aa.mk H
                      clear H
                      obtain ⟨Ao52, co52, eo52⟩ := Kd.Bz HO_13.out
                      subst eo52
                      try go_wp2
                      have n0_ := Aa.mk (Kd.Dj HO_8.out)
                      have n1_ := Aa.mk (Kd.Dj HO_10.out)
                      have n2_ := Aa.mk (Kd.Dj HO_13.out)
                      have n3_ := Aa.mk (At BK113.out)
                      have n4_ := Aa.mk (Ah HB.out)
                      clear HO_8
                      clear HO_10
                      clear HO_13
                      clear BK113
                      clear HB
                      have HO_8 := n0_
                      have HO_10 := n1_
                      have HO_13 := n2_
                      have BK113 := n3_
                      have HB := n4_
                      clear n0_ n1_ n2_ n3_ n4_
                      have p128 : 0 ≤ (x14_4 : Int) := of_decide_eq_true (by first | (with_reducible assumption) | assumption)
                      have q128 : x14_4 < (t125.length : Int) := of_decide_eq_true (by first | (with_reducible assumption) | assumption)
                      obtain ⟨ad128, e128, hx128_0⟩ := Kd.at_int (Kd.Aw HO_13.out).2.2 x14_4 p128 q128
                      cases e128
                      replace p128 := eq_true p128
                      replace q128 := eq_true q128
                      have p129 : 0 ≤ ((rd t125 x14_4) : Int) := of_decide_eq_true (by first | (with_reducible assumption) | assumption)
                      have q129 : (rd t125 x14_4) < (l0_2.length : Int) := of_decide_eq_true (by first | (with_reducible assumption) | assumption)
                      obtain ⟨ad129, e129, hx129_0⟩ := Kd.at_bool HR0_2.out (rd t125 x14_4) p129 q129
                      have hw129_0 := hx129_0
                      (try rw [← Nbq36.out] at hw129_0)
                      (try rw [← Nbq36.out] at hx129_0)
                      cases e129
                      replace hx129_0 := (HB.out.cell (World.block_lt_of_cell? w _ hx129_0)).trans hx129_0
                      replace p129 := eq_true p129
                      replace q129 := eq_true q129
                      have p130 : 0 ≤ (x14_4 : Int) := of_decide_eq_true (by first | (with_reducible assumption) | assumption)
                      have q130 : x14_4 < (t125.length : Int) := of_decide_eq_true (by first | (with_reducible assumption) | assumption)
                      obtain ⟨ad130, e130, hx130_0⟩ := Kd.at_int (Kd.Aw HO_13.out).2.2 x14_4 p130 q130
                      obtain rfl : ad128 = ad130 := (by injection e130)
                      replace p130 := eq_true p130
                      replace q130 := eq_true q130
                      have p131 : 0 ≤ ((rd t125 x14_4) : Int) := of_decide_eq_true (by first | (with_reducible assumption) | assumption)
                      have q131 : (rd t125 x14_4) < (x8_4.length : Int) := of_decide_eq_true (by first | (with_reducible assumption) | assumption)
                      obtain ⟨ad131, e131, hx131_0⟩ := Kd.at_int (Kd.Aw HO_8.out).2.2 (rd t125 x14_4) p131 q131
                      cases e131
                      replace p131 := eq_true p131
                      replace q131 := eq_true q131
                      refine start_ (n := 18) (S := fun w' => w'.cell? ⟨gb113, 0, none⟩ = some (.int .i64 a0_0) ∧ w'.cell? ⟨gb113, 1, none⟩ = some (.int .i64 a0_1) ∧ w'.cell? ⟨gb113, 2, none⟩ = some (.slice (some ad129) l0_2.length c0_2) ∧ w'.cell? (ad128.add (x14_4).toNat) = some (.int .i64 (rd t125 x14_4)) ∧ w'.cell? (ad129.add ((rd t125 x14_4)).toNat) = some (.bool true) ∧ w'.cell? (ad128.add (x14_4).toNat) = some (.int .i64 (rd t125 x14_4)) ∧ w'.cell? (ad131.add ((rd t125 x14_4)).toNat) = some (.int .i64 (rd x8_4 (rd t125 x14_4)))) (ds := []) #[false, false, false, false, false, false, false, false, false, false, false, false, false, false, false, false, false, false] (by kernel_rfl) rfl rfl ⟨(Ae BK113.out 0).trans rfl, (Ae BK113.out 1).trans rfl, (Ae BK113.out 2).trans rfl, hx128_0, ((HB.out.cell (World.block_lt_of_cell? w _ hw129_0)).trans hw129_0), hx130_0, hx131_0⟩ (fun hHeld => ?_); refine with_tabW Ao.tab19 Ao.bits19 (fun HT_ HW_ => ?_)
                      generalize wr.drew = w53 at HO_8 HO_10 HO_13 BK113 HB hx128_0 hx129_0 hx130_0 hx131_0 hHeld ⊢
                      refine pure_ (i := 0) (N := some 69) (v := ?_) (a' := ?_) (bA 18 1) rfl rfl (any_of HT_.out (by kernel_rfl)) (fun _ _ _ h => h) (Or.inl ⟨by rfl, ?_⟩) ?_ ?_
                      rotate_left; (intro w'; go_simp; with_reducible rfl); rotate_left; (simp only [Act.put, sA, sB, sC, i64_w, i32_w]; rfl)
                      refine pure_ (i := 2) (N := some 71) (v := ?_) (a' := ?_) (bA 18 5) rfl rfl (any_of HT_.out (by kernel_rfl)) (fun _ _ _ h => h) (Or.inl ⟨by rfl, ?_⟩) ?_ ?_
                      rotate_left; (intro w'; go_simp; with_reducible rfl); rotate_left; (simp only [Act.put, sA, sB, sC, i64_w, i32_w]; rfl)
                      refine pure_ (i := 3) (N := some 72) (v := ?_) (a' := ?_) (bA 18 13) rfl rfl (any_of HT_.out (by kernel_rfl)) (fun _ _ _ h => h) (Or.inl ⟨by rfl, ?_⟩) ?_ ?_
                      rotate_left; (intro w'; go_simp; with_reducible rfl); rotate_left; (simp only [Act.put, sA, sB, sC, i64_w, i32_w]; rfl)
                      refine pure_ (i := 4) (N := some 73) (v := ?_) (a' := ?_) (bA 18 29) rfl rfl (any_of HT_.out (by kernel_rfl)) (fun _ _ _ h => h) (Or.inl ⟨by rfl, ?_⟩) ?_ ?_
                      rotate_left; (intro w'; go_simp; with_reducible rfl); rotate_left; (simp only [Act.put, sA, sB, sC, i64_w, i32_w]; rfl)
                      refine take_ (i := 1) (N := some 70) (v := ?_) (a' := ?_) (bA 18 31) rfl rfl (take_ofW HT_.out HW_.out (by kernel_rfl)) (fun _ _ _ h => h) (Or.inl ⟨by rfl, ?_⟩) hHeld ?_ ?_
                      rotate_left; (rintro w' ⟨s0, s1, s2, s3, s4, s5, s6⟩; go_simp; with_reducible rfl); rotate_left; (simp only [Act.put, sA, sB, sC, i64_w, i32_w]; rfl)
                      refine take_ (i := 5) (N := some 74) (v := ?_) (a' := ?_) (bA 18 63) rfl rfl (take_ofW HT_.out HW_.out (by kernel_rfl)) (fun _ _ _ h => h) (Or.inl ⟨by rfl, ?_⟩) hHeld ?_ ?_
                      rotate_left; (rintro w' ⟨s0, s1, s2, s3, s4, s5, s6⟩; go_simp; with_reducible rfl); rotate_left; (simp only [Act.put, sA, sB, sC, i64_w, i32_w]; rfl)
                      refine pure_ (i := 6) (N := some 75) (v := ?_) (a' := ?_) (bA 18 127) rfl rfl (any_of HT_.out (by kernel_rfl)) (fun _ _ _ h => h) (Or.inl ⟨by rfl, ?_⟩) ?_ ?_
                      rotate_left; (intro w'; go_simp; with_reducible rfl); rotate_left; (simp only [Act.put, sA, sB, sC, i64_w, i32_w]; rfl)
                      refine take_ (i := 7) (N := some 76) (v := ?_) (a' := ?_) (bA 18 255) rfl rfl (take_ofW HT_.out HW_.out (by kernel_rfl)) (fun _ _ _ h => h) (Or.inl ⟨by rfl, ?_⟩) hHeld ?_ ?_
                      rotate_left; (rintro w' ⟨s0, s1, s2, s3, s4, s5, s6⟩; go_simp; with_reducible rfl); rotate_left; (simp only [Act.put, sA, sB, sC, i64_w, i32_w]; rfl)
                      refine pure_ (i := 8) (N := some 77) (v := ?_) (a' := ?_) (bA 18 511) rfl rfl (any_of HT_.out (by kernel_rfl)) (fun _ _ _ h => h) (Or.inl ⟨by rfl, ?_⟩) ?_ ?_
                      rotate_left; (intro w'; go_simp; with_reducible rfl); rotate_left; (simp only [Act.put, sA, sB, sC, i64_w, i32_w]; rfl)
                      refine pure_ (i := 9) (N := some 78) (v := ?_) (a' := ?_) (bA 18 1023) rfl rfl (any_of HT_.out (by kernel_rfl)) (fun _ _ _ h => h) (Or.inl ⟨by rfl, ?_⟩) ?_ ?_
                      rotate_left; (intro w'; go_simp; with_reducible rfl); rotate_left; (simp only [Act.put, sA, sB, sC, i64_w, i32_w]; rfl)
                      refine pure_ (i := 10) (N := some 79) (v := ?_) (a' := ?_) (bA 18 2047) rfl rfl (any_of HT_.out (by kernel_rfl)) (fun _ _ _ h => h) (Or.inl ⟨by rfl, ?_⟩) ?_ ?_
                      rotate_left; (intro w'; go_simp; with_reducible rfl); rotate_left; (simp only [Act.put, sA, sB, sC, i64_w, i32_w]; rfl)
                      refine pure_ (i := 11) (N := some 80) (v := ?_) (a' := ?_) (bA 18 4095) rfl rfl (any_of HT_.out (by kernel_rfl)) (fun _ _ _ h => h) (Or.inl ⟨by rfl, ?_⟩) ?_ ?_
                      rotate_left; (intro w'; go_simp; with_reducible rfl); rotate_left; (simp only [Act.put, sA, sB, sC, i64_w, i32_w]; rfl)
                      refine pure_ (i := 12) (N := some 81) (v := ?_) (a' := ?_) (bA 18 8191) rfl rfl (any_of HT_.out (by kernel_rfl)) (fun _ _ _ h => h) (Or.inl ⟨by rfl, ?_⟩) ?_ ?_
                      rotate_left; (intro w'; go_simp; with_reducible rfl); rotate_left; (simp only [Act.put, sA, sB, sC, i64_w, i32_w]; rfl)
                      refine take_ (i := 13) (N := some 82) (v := ?_) (a' := ?_) (bA 18 16383) rfl rfl (take_ofW HT_.out HW_.out (by kernel_rfl)) (fun _ _ _ h => h) (Or.inl ⟨by rfl, ?_⟩) hHeld ?_ ?_
                      rotate_left; (rintro w' ⟨s0, s1, s2, s3, s4, s5, s6⟩; go_simp; with_reducible rfl); rotate_left; (simp only [Act.put, sA, sB, sC, i64_w, i32_w]; rfl)
                      refine pure_ (i := 14) (N := some 83) (v := ?_) (a' := ?_) (bA 18 32767) rfl rfl (any_of HT_.out (by kernel_rfl)) (fun _ _ _ h => h) (Or.inl ⟨by rfl, ?_⟩) ?_ ?_
                      rotate_left; (intro w'; go_simp; with_reducible rfl); rotate_left; (simp only [Act.put, sA, sB, sC, i64_w, i32_w]; rfl)
                      refine take_ (i := 15) (N := some 84) (v := ?_) (a' := ?_) (bA 18 65535) rfl rfl (take_ofW HT_.out HW_.out (by kernel_rfl)) (fun _ _ _ h => h) (Or.inl ⟨by rfl, ?_⟩) hHeld ?_ ?_
                      rotate_left; (rintro w' ⟨s0, s1, s2, s3, s4, s5, s6⟩; go_simp; with_reducible rfl); rotate_left; (simp only [Act.put, sA, sB, sC, i64_w, i32_w]; rfl)
                      refine pure_ (i := 16) (N := some 85) (v := ?_) (a' := ?_) (bA 18 131071) rfl rfl (any_of HT_.out (by kernel_rfl)) (fun _ _ _ h => h) (Or.inl ⟨by rfl, ?_⟩) ?_ ?_
                      rotate_left; (intro w'; go_simp; with_reducible rfl); rotate_left; (simp only [Act.put, sA, sB, sC, i64_w, i32_w]; rfl)
                      refine pure_ (i := 17) (N := some 86) (v := ?_) (a' := ?_) (bA 18 262143) rfl rfl (any_of HT_.out (by kernel_rfl)) (fun _ _ _ h => h) (Or.inl ⟨by rfl, ?_⟩) ?_ ?_
                      rotate_left; (intro w'; go_simp; with_reducible rfl); rotate_left; (simp only [Act.put, sA, sB, sC, i64_w, i32_w]; rfl)
                      refine done_ (done_of HT_.out (by kernel_rfl)) ?_
                      try go_wp2
                      (try simp only [← hl8_4])
                      go_roundg k4
                      case measure => have := HK1.out; have := HK2.out; have := HK3.out; have := HK4.out; omega
                      case rel => exact ⟨(x8_4), (x10_4), (wrap64 (x14_4 + 1)), (by first | rfl | (simp; done) | (simp [*]; done)), H', ⟨by have := HK1.out; have := HK2.out; have := HK3.out; have := HK4.out; omega⟩, ⟨by (try simp only [hl8_2]); (try simp only [hl8_3]); (try simp only [hl8_4]); exact rU <| HO_8.out⟩, ⟨by (try simp only [hl8_2]); (try simp only [hl8_3]); (try simp only [hl8_4]); exact rU <| HO_10.out⟩, ⟨by (try simp only [hl8_2]); (try simp only [hl8_3]); (try simp only [hl8_4]); exact rU <| HO_13.out⟩, ⟨by (try simp only [hl8_2]); (try simp only [hl8_3]); (try simp only [hl8_4]); exact bU <| BK113.out⟩, ⟨by repeat (first | (with_reducible first | exact HB.out | apply Ad | apply Ac | apply Ah | refine Af ?_ GE113.out) | exact HB.out)⟩⟩
                    ·rw [if_neg c38] at H
                     exact absurd H (by simp)
                   ·replace c37 := Bool.eq_false_iff.mpr c37
                    subst c37
                    have H1 : (Ao.l3 k4 a2 x8_4 x10_4 x12_3 t125 (wrap64 (x14_4 + 1)) a0_0 a0_1 l0_2) = some (r1, r2) := by rw [if_neg (show ¬ (false = true) by decide)] at H; exact H
                    clear H
                    have H := H1
                    clear H1
                    have H' := Aa.mk H
                    clear H
                    obtain ⟨Ao54, co54, eo54⟩ := Kd.Bz HO_13.out
                    subst eo54
                    try go_wp2
                    have n0_ := Aa.mk (Kd.Dj HO_8.out)
                    have n1_ := Aa.mk (Kd.Dj HO_10.out)
                    have n2_ := Aa.mk (Kd.Dj HO_13.out)
                    have n3_ := Aa.mk (At BK113.out)
                    have n4_ := Aa.mk (Ah HB.out)
                    clear HO_8
                    clear HO_10
                    clear HO_13
                    clear BK113
                    clear HB
                    have HO_8 := n0_
                    have HO_10 := n1_
                    have HO_13 := n2_
                    have BK113 := n3_
                    have HB := n4_
                    clear n0_ n1_ n2_ n3_ n4_
                    have p128 : 0 ≤ (x14_4 : Int) := of_decide_eq_true (by first | (with_reducible assumption) | assumption)
                    have q128 : x14_4 < (t125.length : Int) := of_decide_eq_true (by first | (with_reducible assumption) | assumption)
                    obtain ⟨ad128, e128, hx128_0⟩ := Kd.at_int (Kd.Aw HO_13.out).2.2 x14_4 p128 q128
                    cases e128
                    replace p128 := eq_true p128
                    replace q128 := eq_true q128
                    have p129 : 0 ≤ ((rd t125 x14_4) : Int) := of_decide_eq_true (by first | (with_reducible assumption) | assumption)
                    have q129 : (rd t125 x14_4) < (l0_2.length : Int) := of_decide_eq_true (by first | (with_reducible assumption) | assumption)
                    obtain ⟨ad129, e129, hx129_0⟩ := Kd.at_bool HR0_2.out (rd t125 x14_4) p129 q129
                    have hw129_0 := hx129_0
                    (try rw [← Nbq36.out] at hw129_0)
                    (try rw [← Nbq36.out] at hx129_0)
                    cases e129
                    replace hx129_0 := (HB.out.cell (World.block_lt_of_cell? w _ hx129_0)).trans hx129_0
                    replace p129 := eq_true p129
                    replace q129 := eq_true q129
                    refine start_ (n := 18) (S := fun w' => w'.cell? ⟨gb113, 0, none⟩ = some (.int .i64 a0_0) ∧ w'.cell? ⟨gb113, 1, none⟩ = some (.int .i64 a0_1) ∧ w'.cell? ⟨gb113, 2, none⟩ = some (.slice (some ad129) l0_2.length c0_2) ∧ w'.cell? (ad128.add (x14_4).toNat) = some (.int .i64 (rd t125 x14_4)) ∧ w'.cell? (ad129.add ((rd t125 x14_4)).toNat) = some (.bool false)) (ds := []) #[false, false, false, false, false, false, false, false, false, false, false, false, false, false, false, false, false, false] (by kernel_rfl) rfl rfl ⟨(Ae BK113.out 0).trans rfl, (Ae BK113.out 1).trans rfl, (Ae BK113.out 2).trans rfl, hx128_0, ((HB.out.cell (World.block_lt_of_cell? w _ hw129_0)).trans hw129_0)⟩ (fun hHeld => ?_); refine with_tabW Ao.tab19 Ao.bits19 (fun HT_ HW_ => ?_)
                    generalize wr.drew = w55 at HO_8 HO_10 HO_13 BK113 HB hx128_0 hx129_0 hHeld ⊢
                    refine pure_ (i := 0) (N := some 69) (v := ?_) (a' := ?_) (bA 18 1) rfl rfl (any_of HT_.out (by kernel_rfl)) (fun _ _ _ h => h) (Or.inl ⟨by rfl, ?_⟩) ?_ ?_
                    rotate_left; (intro w'; go_simp; with_reducible rfl); rotate_left; (simp only [Act.put, sA, sB, sC, i64_w, i32_w]; rfl)
                    refine pure_ (i := 2) (N := some 71) (v := ?_) (a' := ?_) (bA 18 5) rfl rfl (any_of HT_.out (by kernel_rfl)) (fun _ _ _ h => h) (Or.inl ⟨by rfl, ?_⟩) ?_ ?_
                    rotate_left; (intro w'; go_simp; with_reducible rfl); rotate_left; (simp only [Act.put, sA, sB, sC, i64_w, i32_w]; rfl)
                    refine pure_ (i := 3) (N := some 72) (v := ?_) (a' := ?_) (bA 18 13) rfl rfl (any_of HT_.out (by kernel_rfl)) (fun _ _ _ h => h) (Or.inl ⟨by rfl, ?_⟩) ?_ ?_
                    rotate_left; (intro w'; go_simp; with_reducible rfl); rotate_left; (simp only [Act.put, sA, sB, sC, i64_w, i32_w]; rfl)
                    refine pure_ (i := 4) (N := some 73) (v := ?_) (a' := ?_) (bA 18 29) rfl rfl (any_of HT_.out (by kernel_rfl)) (fun _ _ _ h => h) (Or.inl ⟨by rfl, ?_⟩) ?_ ?_
                    rotate_left; (intro w'; go_simp; with_reducible rfl); rotate_left; (simp only [Act.put, sA, sB, sC, i64_w, i32_w]; rfl)
                    refine take_ (i := 1) (N := some 70) (v := ?_) (a' := ?_) (bA 18 31) rfl rfl (take_ofW HT_.out HW_.out (by kernel_rfl)) (fun _ _ _ h => h) (Or.inl ⟨by rfl, ?_⟩) hHeld ?_ ?_
                    rotate_left; (rintro w' ⟨s0, s1, s2, s3, s4⟩; go_simp; with_reducible rfl); rotate_left; (simp only [Act.put, sA, sB, sC, i64_w, i32_w]; rfl)
                    refine take_ (i := 5) (N := some 74) (v := ?_) (a' := ?_) (bA 18 63) rfl rfl (take_ofW HT_.out HW_.out (by kernel_rfl)) (fun _ _ _ h => h) (Or.inl ⟨by rfl, ?_⟩) hHeld ?_ ?_
                    rotate_left; (rintro w' ⟨s0, s1, s2, s3, s4⟩; go_simp; with_reducible rfl); rotate_left; (simp only [Act.put, sA, sB, sC, i64_w, i32_w]; rfl)
                    refine pure_ (i := 6) (N := some 75) (v := ?_) (a' := ?_) (bA 18 127) rfl rfl (any_of HT_.out (by kernel_rfl)) (fun _ _ _ h => h) (Or.inl ⟨by rfl, ?_⟩) ?_ ?_
                    rotate_left; (intro w'; go_simp; with_reducible rfl); rotate_left; (simp only [Act.put, sA, sB, sC, i64_w, i32_w]; rfl)
                    refine take_ (i := 7) (N := some 76) (v := ?_) (a' := ?_) (bA 18 255) rfl rfl (take_ofW HT_.out HW_.out (by kernel_rfl)) (fun _ _ _ h => h) (Or.inl ⟨by rfl, ?_⟩) hHeld ?_ ?_
                    rotate_left; (rintro w' ⟨s0, s1, s2, s3, s4⟩; go_simp; with_reducible rfl); rotate_left; (simp only [Act.put, sA, sB, sC, i64_w, i32_w]; rfl)
                    refine pure_ (i := 8) (N := some 77) (v := ?_) (a' := ?_) (bA 18 511) rfl rfl (any_of HT_.out (by kernel_rfl)) (fun _ _ _ h => h) (Or.inl ⟨by rfl, ?_⟩) ?_ ?_
                    rotate_left; (intro w'; go_simp; with_reducible rfl); rotate_left; (simp only [Act.put, sA, sB, sC, i64_w, i32_w]; rfl)
                    refine pure_ (i := 9) (N := some 78) (v := undef) (a' := ?_) (bA 18 1023) rfl rfl (any_of HT_.out (by kernel_rfl)) (fun _ _ _ h => h) (Or.inr ⟨by rfl, rfl⟩) ?_ ?_
                    rotate_left
                    ·simp only [Act.put, sA, sB, sC, i64_w, i32_w]
                     rfl
                    refine pure_ (i := 10) (N := some 79) (v := undef) (a' := ?_) (bA 18 2047) rfl rfl (any_of HT_.out (by kernel_rfl)) (fun _ _ _ h => h) (Or.inr ⟨by rfl, rfl⟩) ?_ ?_
                    rotate_left
                    ·simp only [Act.put, sA, sB, sC, i64_w, i32_w]
                     rfl
                    refine pure_ (i := 11) (N := some 80) (v := undef) (a' := ?_) (bA 18 4095) rfl rfl (any_of HT_.out (by kernel_rfl)) (fun _ _ _ h => h) (Or.inr ⟨by rfl, rfl⟩) ?_ ?_
                    rotate_left
                    ·simp only [Act.put, sA, sB, sC, i64_w, i32_w]
                     rfl
                    refine pure_ (i := 12) (N := some 81) (v := undef) (a' := ?_) (bA 18 8191) rfl rfl (any_of HT_.out (by kernel_rfl)) (fun _ _ _ h => h) (Or.inr ⟨by rfl, rfl⟩) ?_ ?_
                    rotate_left
                    ·simp only [Act.put, sA, sB, sC, i64_w, i32_w]
                     rfl
                    refine pure_ (i := 13) (N := some 82) (v := undef) (a' := ?_) (bA 18 16383) rfl rfl (any_of HT_.out (by kernel_rfl)) (fun _ _ _ h => h) (Or.inr ⟨by rfl, rfl⟩) ?_ ?_
                    rotate_left
                    ·simp only [Act.put, sA, sB, sC, i64_w, i32_w]
                     rfl
                    refine pure_ (i := 14) (N := some 83) (v := undef) (a' := ?_) (bA 18 32767) rfl rfl (any_of HT_.out (by kernel_rfl)) (fun _ _ _ h => h) (Or.inr ⟨by rfl, rfl⟩) ?_ ?_
                    rotate_left
                    ·simp only [Act.put, sA, sB, sC, i64_w, i32_w]
                     rfl
                    refine pure_ (i := 15) (N := some 84) (v := undef) (a' := ?_) (bA 18 65535) rfl rfl (any_of HT_.out (by kernel_rfl)) (fun _ _ _ h => h) (Or.inr ⟨by rfl, rfl⟩) ?_ ?_
                    rotate_left
                    ·simp only [Act.put, sA, sB, sC, i64_w, i32_w]
                     rfl
                    refine pure_ (i := 16) (N := some 85) (v := undef) (a' := ?_) (bA 18 131071) rfl rfl (any_of HT_.out (by kernel_rfl)) (fun _ _ _ h => h) (Or.inr ⟨by rfl, rfl⟩) ?_ ?_
                    rotate_left
                    ·simp only [Act.put, sA, sB, sC, i64_w, i32_w]
                     rfl
                    refine pure_ (i := 17) (N := some 86) (v := ?_) (a' := ?_) (bA 18 262143) rfl rfl (any_of HT_.out (by kernel_rfl)) (fun _ _ _ h => h) (Or.inl ⟨by rfl, ?_⟩) ?_ ?_
                    rotate_left; (intro w'; go_simp; with_reducible rfl); rotate_left; (simp only [Act.put, sA, sB, sC, i64_w, i32_w]; rfl)
                    refine done_ (done_of HT_.out (by kernel_rfl)) ?_
                    try go_wp2
                    (try simp only [← hl8_4])
                    go_roundg k4
                    case measure => have := HK1.out; have := HK2.out; have := HK3.out; have := HK4.out; omega
                    case rel => exact ⟨(x8_4), (x10_4), (wrap64 (x14_4 + 1)), (by first | rfl | (simp; done) | (simp [*]; done)), H', ⟨by have := HK1.out; have := HK2.out; have := HK3.out; have := HK4.out; omega⟩, ⟨by (try simp only [hl8_2]); (try simp only [hl8_3]); (try simp only [hl8_4]); exact rU <| HO_8.out⟩, ⟨by (try simp only [hl8_2]); (try simp only [hl8_3]); (try simp only [hl8_4]); exact rU <| HO_10.out⟩, ⟨by (try simp only [hl8_2]); (try simp only [hl8_3]); (try simp only [hl8_4]); exact rU <| HO_13.out⟩, ⟨by (try simp only [hl8_2]); (try simp only [hl8_3]); (try simp only [hl8_4]); exact bU <| BK113.out⟩, ⟨by repeat (first | (with_reducible first | exact HB.out | apply Ad | apply Ac | apply Ah | refine Af ?_ GE113.out) | exact HB.out)⟩⟩
                  ·rw [if_neg c35] at H
                   exact absurd H (by simp)
                 ·rw [if_neg c34] at H
                  exact absurd H (by simp)
                ·rw [if_neg c33] at H
                 exact absurd H (by simp)
               ·rw [if_neg c32] at H
                have c32b0 : decide (x14_4 < (t125.length : Int)) = false := decide_eq_false c32
                clear c32
                have H' := Aa.mk H
                clear H
                obtain ⟨Ao56, co56, eo56⟩ := Kd.Bz HO_13.out
                subst eo56
                go_wp2
                (try simp only [← hl8_3, ← hl8_4])
                go_roundg k4
                case measure => have := HK1.out; have := HK2.out; have := HK3.out; have := HK4.out; omega
                case rel => exact ⟨(x8_4), (x10_4), (wrap64 (x12_3 + 1)), (by first | rfl | (simp; done) | (simp [*]; done)), H', ⟨by have := HK1.out; have := HK2.out; have := HK3.out; have := HK4.out; omega⟩, ⟨by (try simp only [hl8_2]); (try simp only [hl8_3]); (try simp only [hl8_4]); exact rU <| Kd.Bj HO_8.out (fun _ hk => hk.1)⟩, ⟨by (try simp only [hl8_2]); (try simp only [hl8_3]); (try simp only [hl8_4]); exact rU <| Kd.Bj HO_10.out (fun _ hk => hk.1)⟩, ⟨by (try simp only [hl8_2]); (try simp only [hl8_3]); (try simp only [hl8_4]); exact bU <| BK113.out⟩, ⟨by repeat (first | (with_reducible first | exact HB.out | apply Ad | apply Ac | apply Ah | refine Af ?_ GE113.out) | exact HB.out)⟩⟩
            ·rw [if_neg c27] at H
             exact absurd H (by simp)
           ·rw [if_neg c26] at H
            have c26b0 : decide (x12_3 < (x10_3.length : Int)) = false := decide_eq_false c26
            clear c26
            simp only [Option.some.injEq, Prod.mk.injEq] at H
            obtain ⟨rfl, rfl⟩ := H
            obtain ⟨Ao57, co57, eo57⟩ := Kd.Bz HO_10.out
            subst eo57
            go_wp2
            go_ret2
            exact ⟨_, _, by first | rfl | (simp [Az, Ba] <;> rfl) | (simp [*, Az, Ba] <;> rfl), by exact rU <| HO_10.out, by exact rU <| HO_8.out, by repeat (first | (with_reducible first | exact HB.out | apply Ad | apply Ac | apply Ah | refine Af ?_ GE113.out) | exact HB.out)⟩
  ·rw [if_neg c5] at H
   exact absurd H (by simp)
 ·rw [if_neg c4] at H
  exact absurd H (by simp)

end Go.Proofs.Yteamphcehoaleaa.PFE

