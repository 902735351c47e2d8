import Derived.Test.YtobdfiglgdbecaaProg
import Derived.Below
import Derived.Deep.Draws
import Derived.Deep.AppendLies
import Derived.Maps.AppendAt
import Derived.OwnWalk
import Derived.Laws.BytesArg
import Derived.Laws.MakeOwn
import Derived.Laws.OwnMore
import Derived.Deep.OwnRows
import Derived.Tactics
import Derived.Lib.ConvBytes
import Derived.Laws.Slices
import Derived.WalkKit
import Derived.KernelRfl
import Derived.RowKit3
import Derived.Deep.LoopGhost
import Derived.Deep.QuietTactic
import Derived.BigQuiet
import Derived.WideLaws
import Derived.Deep.DeepCutAuto
import Derived.Deep.CutBlock
import Derived.Deep.RegionHeld3
import Derived.Laws.Rows
import Derived.Lib.AppendStr
import Derived.ArgAppend
import Derived.Laws.IdiomCopy
import Derived.OrdersHeld
import Derived.Laws.BitsLemmas
import Derived.RowKit
import Derived.Test.YtobdfiglgdbecaaXPGAx0
import Derived.Test.YtobdfiglgdbecaaXUP
import Derived.Test.YtobdfiglgdbecaaXWWords
import Derived.Test.YtobdfiglgdbecaaXWQPut
import Derived.Test.YtobdfiglgdbecaaXUQ
import Derived.Test.YtobdfiglgdbecaaXWApart
import Derived.Test.YtobdfiglgdbecaaXWZeros
import Derived.Test.YtobdfiglgdbecaaXWNEv
import Derived.Test.YtobdfiglgdbecaaXWEqStruct
import Derived.Test.YtobdfiglgdbecaaXWRepsOne
import Derived.Test.YtobdfiglgdbecaaXPGAx2
import Derived.Test.YtobdfiglgdbecaaXPGAx5
section
namespace Go.Proofs.Ytobdfiglgdbecaa.PGT
open Go.Proofs.Ytobdfiglgdbecaa.PGA Go.Proofs.Ytobdfiglgdbecaa.PGB
open Go.RowKit Go.Proofs.YtobdfiglgdbecaaW.PrintWords Go.Proofs.YtobdfiglgdbecaaW.PrintLast Go.Proofs.YtobdfiglgdbecaaW.PrintMore
attribute [local go_sem] max2_int min2_int max_two min_two max_three min_three max_four min_four
set_option linter.unusedVariables false
set_option linter.unusedSimpArgs false



theorem at_L2 {w : World} {A : Option Addr} {n : Nat} {xs : List (List S93)} (h : Kd.C (Kd.slice 93 k93) w A n xs) (i : Int) (h0 : 0 ≤ i) (h1 : i < n) : ∃ ad A0 c0, A = some ad ∧ w.cell? (ad.add i.toNat) = some (.slice A0 (rd_L2 xs i).length c0) ∧ (rd_L2 xs i).length ≤ c0 ∧ k93.C w A0 (rd_L2 xs i).length (rd_L2 xs i) := by
 obtain ⟨ad, c, e, _, hK, hc0⟩ := Kd.C_get h ([] : List S93) i h0 h1; have hc : ∀ j u, c[j]? = some u → w.cell? (ad.add (i.toNat * 1 + j)) = some u := hc0; obtain ⟨A0, c0, rfl, l0, g0⟩ := hK; exact ⟨ad, A0, c0, e, by have hq := hc 0 _ rfl; rwa [Nat.mul_one, Nat.add_zero] at hq, l0, g0⟩

end Go.Proofs.Ytobdfiglgdbecaa.PGT
end
section
namespace Go.Proofs.Ytobdfiglgdbecaa
open PGA PGB PGT
open Go.RowKit Go.Proofs.YtobdfiglgdbecaaW.PrintWords Go.Proofs.YtobdfiglgdbecaaW.PrintLast Go.Proofs.YtobdfiglgdbecaaW.PrintMore
attribute [local go_sem] max2_int min2_int max_two min_two max_three min_three max_four min_four
set_option linter.unusedVariables false
set_option linter.unusedSimpArgs false
mutual
def Cp.l0 : Nat → Int → List (S91) → Int → Int → Option (Int × Int)
  | 0, _, _, _, _ => none
  | k + 1, x5, x16, x17, x18 => if x18 < x17 then (if 0 ≤ x18 then (if x18 < (x16.length : Int) then (Cp.l1 k x5 x16 x17 x18 ((rd_T91 x16 x18).f2) (((rd_T91 x16 x18).f2).length : Int) 0 ((rd_T91 x16 x18).f0) ((rd_T91 x16 x18).f1) ((rd_T91 x16 x18).f2)) else (none)) else (none)) else (some (x5, 0))
def Cp.l1 : Nat → Int → List (S91) → Int → Int → List (S93) → Int → Int → Int → Int → List (S93) → Option (Int × Int)
  | 0, _, _, _, _, _, _, _, _, _, _ => none
  | k + 1, x5, x16, x17, x18, x23, x24, x25, x103000, x103001, x103002 => if x25 < x24 then (if 0 ≤ x25 then (if x25 < (x23.length : Int) then (Cp.l1 k (wrap64 (x5 + (wrap64 ((wrap64 (((rd_T93 x23 x25).f1) - ((rd_T93 x23 x25).f0))) * (wrap64 (x103001 - x103000)))))) x16 x17 x18 x23 x24 (wrap64 (x25 + 1)) x103000 x103001 x103002) else (none)) else (none)) else (Cp.l0 k x5 x16 x17 (wrap64 (x18 + 1)))
end
def Cp.f (k : Nat) (l0 : List (S91)) : Option (Int × Int) := Cp.l0 k 0 l0 (l0.length : Int) 0
def C8.f (k : Nat) (l0 : List S58) : Option (Int × Int) := (Bw.f k l0).bind fun t => if t = 0 then (Aw.f k l0 [] 49).bind fun t2 => Cp.f k t2 else some (0, t)
set_option maxHeartbeats 8000000 in
set_option maxRecDepth 100000 in
theorem C8.calls (k : Nat) (A00 : Option Addr) (c00 : Nat) (l00 : List S58) (r1 : Int) (r2 : Int) (w00 : World) (hr0 : Kd.C k58 w00 A00 l00.length l00) (hc0 : l00.length ≤ c00) (h : C8.f k l00 = some (r1, r2)) :
    Calls Try.prog 34 #[.slice A00 l00.length c00] w00 fun e w' => e = .returned (.tuple #[.int .i64 r1, .int .i64 r2]) ∧ Below w00.heap.size w00 w' := by
  have hu91 := Try.underlying91; have hu93 := Try.underlying93; unfold C8.f at h; obtain ⟨t, hR, H0⟩ := Option.bind_eq_some_iff.mp h; have HR00 := Aa.mk hr0; have HC00 := Aa.mk hc0; have HRT := Aa.mk hR; clear h hr0 hc0 hR
  by_cases ht : t = 0
  · subst ht
    rw [if_pos rfl] at H0; obtain ⟨l0, hS, H⟩ := Option.bind_eq_some_iff.mp H0; have HS := Aa.mk hS; have H' := Aa.mk (show Cp.l0 k 0 l0 (l0.length : Int) 0 = some (r1, r2) from H); clear H0 hS H; go_enter Try.func34, Try.ntmps34
    go_wp2_with (first | (go_at_call 42; refine (Bw.calls k A00 c00 l00 0 _ HR00.out HC00.out HRT.out).mono ?_; rintro e w1 ⟨rfl, hb1⟩; have HB1 := Aa.mk hb1; clear hb1) | ((with_reducible refine Ay (f := 47) rfl ?_); refine goesL_ (some 16) rfl rfl Try.func47 (by kernel_rfl) rfl #[.slice A00 l00.length c00, .slice none 0 0, .func (.func (49 : Int).toNat) #[] #[]] rfl (by (try simp only [List.map_toArray, List.map_cons, List.map_nil]); first | done | rfl | (simp only [List.length_drop, List.length_take]; rfl)) ?_; refine (Aw.calls k (fun k_ => k_ < w00.heap.size) _ _ l00 (fun _ => False) _ _ ([] : List S58) 49 l0 _ ?side1 ?side2 HS.out).mono ?_; (case side1 => exact Kd.V_mk HC00.out (Kd.F_below (Kd.C_F k58_heap HR00.out) HB1.out)); (case side2 => exact Kd.V_nil _ _ _ _ _); rintro e w ⟨v, rfl, ho0, hb⟩; refine ⟨_, rfl, ?_⟩; obtain ⟨A0, c0, ev⟩ := Kd.N_slice ho0; subst ev; have HR0 := Aa.mk (Kd.N_reads' ho0).2.2; have HC0 := Aa.mk (Kd.N_reads' ho0).2.1; have HPRE := Aa.mk (HB1.out.trans (hb.mono HB1.out.size)); have HB := Aa.mk (Below.refl w.heap.size w); clear ho0 hb HB1))
    go_loopg [5, 18] k (fun kq v5 v18 w' => ∃ (x5_1 : Int) (x18_1 : Int), v5 = .int .i64 x5_1 ∧ v18 = .int .i64 x18_1 ∧ Aa (Cp.l0 kq x5_1 l0 (l0.length : Int) x18_1 = some (r1, r2)) ∧ Aa (kq ≤ k) ∧ Aa (Below w.heap.size w w'))
    case atStart => exact ⟨(0), (0), (by first | rfl | (simp; done) | (simp [*]; done)), (by first | rfl | (simp; done) | (simp [*]; done)), H', ⟨Nat.le_refl _⟩, ⟨by repeat (first | (with_reducible first | exact HB.out | apply Ad | apply Ab | apply Ac) | exact HB.out)⟩⟩
    case round =>
      clear H'; obtain ⟨x5_1, x18_1, rfl, rfl, HA, HK1, HB⟩ := hrel; cases gk with
      | zero => exact absurd HA.out (by simp [Cp.l0])
      | succ k1 =>
        have H := HA.out; clear HA
        simp only [Cp.l0] at H
        by_cases c2 : x18_1 < (l0.length : Int)
        · rw [if_pos c2] at H
          have c2b0 : decide (x18_1 < (l0.length : Int)) = true := decide_eq_true c2; clear c2
          by_cases c3 : 0 ≤ x18_1
          · rw [if_pos c3] at H
            have c3b0 : decide (0 ≤ x18_1) = true := decide_eq_true c3; clear c3
            by_cases c4 : x18_1 < (l0.length : Int)
            · rw [if_pos c4] at H
              have c4b0 : decide (x18_1 < (l0.length : Int)) = true := decide_eq_true c4; clear c4; have H' := Aa.mk H; clear H; have p101 : 0 ≤ (x18_1 : Int) := of_decide_eq_true (by first | (with_reducible assumption) | assumption); have q101 : x18_1 < (l0.length : Int) := of_decide_eq_true (by first | (with_reducible assumption) | assumption); obtain ⟨ad101, A101_2, c101_2, e101, hx101_0, hx101_1, hx101_2, hl101_2, hi101_2⟩ := at_T91 HR0.out x18_1 p101 q101; cases e101; replace hx101_0 := (HB.out.cell (World.block_lt_of_cell? w _ hx101_0)).trans hx101_0; replace hx101_1 := (HB.out.cell (World.block_lt_of_cell? w _ hx101_1)).trans hx101_1; replace hx101_2 := (HB.out.cell (World.block_lt_of_cell? w _ hx101_2)).trans hx101_2; have HR101_2 := Aa.mk hi101_2; have HC101_2 := Aa.mk hl101_2; clear hi101_2 hl101_2; replace p101 := eq_true p101; replace q101 := eq_true q101
              go_wp2_with (first | ((with_reducible refine Bu (N := 7) rfl ?_); refine Ce ?hg (N := 7) ?hd (cs := #[.int .i64 0, .int .i64 0, .slice none 0 0]) (t := 91) ?hr ?_; (case hd => rfl); (case hg => rfl); (case hr => first | (go_simp; done) | (go_simp; rfl)); intro gb102 hg w5 hbox hb; have n0_ := Aa.mk (Aj (lU HB.out) hb); have n1_ := Aa.mk (hbox); have n2_ := Aa.mk ((by rw [hg]; exact (Af (lU HB.out)) : w.heap.size ≤ gb102)); have n3_ := Aa.mk ((by rw [hg]; exact (Af (lU HB.out)) : w.heap.size ≤ gb102)); clear HB; have HB := n0_; have BK102 := n1_; have GW102 := n2_; have GE102 := n3_; clear n0_ n1_ n2_ n3_; clear hb hbox hg; have hcz6_0 : w5.cell? ⟨gb102, 0, none⟩ = some (.int .i64 0) := (Ag BK102.out 0).trans rfl; have hcz6_1 : w5.cell? ⟨gb102, 1, none⟩ = some (.int .i64 0) := (Ag BK102.out 1).trans rfl; have hcz6_2 : w5.cell? ⟨gb102, 2, none⟩ = some (.slice none 0 0) := (Ag BK102.out 2).trans rfl; have hfz6_0 := Ae BK102.out 0; have hfz6_1 := Ae BK102.out 1; have hfz6_2 := Ae BK102.out 2))
              go_loopg [5, 25] k1 (fun kq v5 v25 w' => ∃ (x5_2 : Int) (x25_2 : Int), v5 = .int .i64 x5_2 ∧ v25 = .int .i64 x25_2 ∧ Aa (Cp.l1 kq x5_2 l0 (l0.length : Int) x18_1 ((rd_T91 l0 x18_1).f2) (((rd_T91 l0 x18_1).f2).length : Int) x25_2 ((rd_T91 l0 x18_1).f0) ((rd_T91 l0 x18_1).f1) ((rd_T91 l0 x18_1).f2) = some (r1, r2)) ∧ Aa (kq ≤ k1) ∧ Aa (w'.heap[gb102]? = some (.cells #[.int .i64 ((rd_T91 l0 x18_1).f0), .int .i64 ((rd_T91 l0 x18_1).f1), (.slice A101_2 ((rd_T91 l0 x18_1).f2).length c101_2)] 91 (0, 0))) ∧ Aa (Below w.heap.size w w'))
              case atStart => exact ⟨(x5_1), (0), (by first | rfl | (simp; done) | (simp [*]; done)), (by first | rfl | (simp; done) | (simp [*]; done)), H', ⟨Nat.le_refl _⟩, ⟨by (with_reducible repeat (first | refine Ai ?_ _ | refine Ao ?_ | refine Ah ?_ _)); refine Bg (cs := #[.int .i64 ((rd_T91 l0 x18_1).f0), .int .i64 ((rd_T91 l0 x18_1).f1), .slice none 0 0]) ?_ 2 _ rfl; (with_reducible repeat (first | refine Ai ?_ _ | refine Ao ?_ | refine Ah ?_ _)); refine Bg (cs := #[.int .i64 ((rd_T91 l0 x18_1).f0), .int .i64 0, .slice none 0 0]) ?_ 1 _ rfl; (with_reducible repeat (first | refine Ai ?_ _ | refine Ao ?_ | refine Ah ?_ _)); refine Bg (cs := #[.int .i64 0, .int .i64 0, .slice none 0 0]) ?_ 0 _ rfl; exact bU <| BK102.out⟩, ⟨by repeat (first | (with_reducible first | exact HB.out | apply Ad | apply Ab | apply Ac | refine Ak ?_ GE102.out) | exact HB.out)⟩⟩
              case round =>
                clear H'; (try clear c1); (try clear p1); (try clear q1); (try clear hx1); (try clear c2); (try clear c2b0); (try clear p2); (try clear c3); (try clear c3b0); (try clear c4); (try clear c4b0); (try clear hcz6_0); (try clear hcz6_1); (try clear hcz6_2); (try clear hfz6_0); (try clear hfz6_1); (try clear hfz6_2); (try clear hx101_0); (try clear hx101_1); (try clear hx101_2); (try clear p101); (try clear q101); obtain ⟨x5_2, x25_2, rfl, rfl, HA, HK2, BK102, HB⟩ := hrel; cases gk with
                | zero => exact absurd HA.out (by simp [Cp.l1])
                | succ k2 =>
                  have H := HA.out; clear HA
                  simp only [Cp.l1] at H
                  by_cases c7 : x25_2 < (((rd_T91 l0 x18_1).f2).length : Int)
                  · rw [if_pos c7] at H
                    have c7b0 : decide (x25_2 < (((rd_T91 l0 x18_1).f2).length : Int)) = true := decide_eq_true c7; clear c7
                    by_cases c8 : 0 ≤ x25_2
                    · rw [if_pos c8] at H
                      have c8b0 : decide (0 ≤ x25_2) = true := decide_eq_true c8; clear c8
                      by_cases c9 : x25_2 < (((rd_T91 l0 x18_1).f2).length : Int)
                      · rw [if_pos c9] at H
                        have c9b0 : decide (x25_2 < (((rd_T91 l0 x18_1).f2).length : Int)) = true := decide_eq_true c9; clear c9; have H' := Aa.mk H; clear H; have p103 : 0 ≤ (x25_2 : Int) := of_decide_eq_true (by first | (with_reducible assumption) | assumption); have q103 : x25_2 < (((rd_T91 l0 x18_1).f2).length : Int) := of_decide_eq_true (by first | (with_reducible assumption) | assumption); obtain ⟨ad103, e103, hx103_0, hx103_1⟩ := at_T93 HR101_2.out x25_2 p103 q103; cases e103; replace hx103_0 := (HB.out.cell (World.block_lt_of_cell? w _ hx103_0)).trans hx103_0; replace hx103_1 := (HB.out.cell (World.block_lt_of_cell? w _ hx103_1)).trans hx103_1; replace p103 := eq_true p103; replace q103 := eq_true q103
                        go_wp2_with (first | ((with_reducible refine Bu (N := 9) rfl ?_); refine Ce ?hg (N := 9) ?hd (cs := #[.int .i64 0, .int .i64 0]) (t := 93) ?hr ?_; (case hd => rfl); (case hg => rfl); (case hr => first | (go_simp; done) | (go_simp; rfl)); intro gb104 hg w10 hbox hb; have n0_ := Aa.mk (Bt (g := gb102) (o := .cells #[.int .i64 ((rd_T91 l0 x18_1).f0), .int .i64 ((rd_T91 l0 x18_1).f1), .slice (some ad103) ((rd_T91 l0 x18_1).f2).length c101_2] 91 (0, 0)) (by exact bU <| BK102.out) hb); have n1_ := Aa.mk (Aj (by repeat (first | (with_reducible first | exact HB.out | apply Ad | apply Ab | apply Ac | refine Ak ?_ GE102.out) | exact HB.out)) hb); have n2_ := Aa.mk (hbox); have n3_ := Aa.mk ((by rw [hg]; exact (Af (by repeat (first | (with_reducible first | exact HB.out | apply Ad | apply Ab | apply Ac | refine Ak ?_ GE102.out) | exact HB.out))) : w.heap.size ≤ gb104)); have n4_ := Aa.mk ((by rw [hg]; exact (Af (by repeat (first | (with_reducible first | exact HB.out | apply Ad | apply Ab | apply Ac | refine Ak ?_ GE102.out) | exact HB.out))) : w.heap.size ≤ gb104)); have n5_ := Aa.mk ((by rw [hg]; exact Nat.ne_of_lt (Cx (g := gb102) (o := .cells #[.int .i64 ((rd_T91 l0 x18_1).f0), .int .i64 ((rd_T91 l0 x18_1).f1), .slice (some ad103) ((rd_T91 l0 x18_1).f2).length c101_2] 91 (0, 0)) (by exact bU <| BK102.out)) : gb102 ≠ gb104)); have n6_ := Aa.mk ((by rw [hg]; exact Nat.ne_of_gt (Cx (g := gb102) (o := .cells #[.int .i64 ((rd_T91 l0 x18_1).f0), .int .i64 ((rd_T91 l0 x18_1).f1), .slice (some ad103) ((rd_T91 l0 x18_1).f2).length c101_2] 91 (0, 0)) (by exact bU <| BK102.out)) : gb104 ≠ gb102)); clear BK102; clear HB; have BK102 := n0_; have HB := n1_; have BK104 := n2_; have GW104 := n3_; have GE104 := n4_; have NB102_104 := n5_; have NB104_102 := n6_; clear n0_ n1_ n2_ n3_ n4_ n5_ n6_; clear hb hbox hg; have hnb11 := NB104_102.out; have hnc11 := NB102_104.out; have hcz12_0 : w10.cell? ⟨gb104, 0, none⟩ = some (.int .i64 0) := (Ag BK104.out 0).trans rfl; have hcz12_1 : w10.cell? ⟨gb104, 1, none⟩ = some (.int .i64 0) := (Ag BK104.out 1).trans rfl; have hfz12_0 := Ae BK104.out 0; have hfz12_1 := Ae BK104.out 1; have hcz13_0 : w10.cell? ⟨gb102, 0, none⟩ = some (.int .i64 ((rd_T91 l0 x18_1).f0)) := (Ag BK102.out 0).trans rfl; have hcz13_1 : w10.cell? ⟨gb102, 1, none⟩ = some (.int .i64 ((rd_T91 l0 x18_1).f1)) := (Ag BK102.out 1).trans rfl; have hcz13_2 : w10.cell? ⟨gb102, 2, none⟩ = some (.slice (some ad103) ((rd_T91 l0 x18_1).f2).length c101_2) := (Ag BK102.out 2).trans rfl; have hfz13_0 := Ae BK102.out 0; have hfz13_1 := Ae BK102.out 1; have hfz13_2 := Ae BK102.out 2))
                        go_roundg k2
                        case measure => have := HK1.out; have := HK2.out; omega
                        case rel => exact ⟨(wrap64 (x5_2 + (wrap64 ((wrap64 (((rd_T93 ((rd_T91 l0 x18_1).f2) x25_2).f1) - ((rd_T93 ((rd_T91 l0 x18_1).f2) x25_2).f0))) * (wrap64 (((rd_T91 l0 x18_1).f1) - ((rd_T91 l0 x18_1).f0))))))), (wrap64 (x25_2 + 1)), (by first | rfl | (simp; done) | (simp [*]; done)), (by first | rfl | (simp; done) | (simp [*]; done)), H', ⟨by have := HK1.out; have := HK2.out; omega⟩, ⟨by (with_reducible repeat (first | refine Ai ?_ _ | refine Ao ?_ | refine Ah ?_ _)); refine B8 ?_ NB102_104.out _; (with_reducible repeat (first | refine Ai ?_ _ | refine Ao ?_ | refine Ah ?_ _)); refine B8 ?_ NB102_104.out _; exact bU <| BK102.out⟩, ⟨by repeat (first | (with_reducible first | exact HB.out | apply Ad | apply Ab | apply Ac | refine Ak ?_ GE102.out | refine Ak ?_ GE104.out) | exact HB.out)⟩⟩
                      · rw [if_neg c9] at H
                        exact absurd H (by simp)
                    · rw [if_neg c8] at H
                      exact absurd H (by simp)
                  · rw [if_neg c7] at H
                    have c7b0 : decide (x25_2 < (((rd_T91 l0 x18_1).f2).length : Int)) = false := decide_eq_false c7; clear c7; have H' := Aa.mk H; clear H
                    go_wp2
                    go_roundg k2
                    case measure => have := HK1.out; have := HK2.out; omega
                    case rel => exact ⟨(x5_2), (wrap64 (x18_1 + 1)), (by first | rfl | (simp; done) | (simp [*]; done)), (by first | rfl | (simp; done) | (simp [*]; done)), H', ⟨by have := HK1.out; have := HK2.out; omega⟩, ⟨by repeat (first | (with_reducible first | exact HB.out | apply Ad | apply Ab | apply Ac | refine Ak ?_ GE102.out) | exact HB.out)⟩⟩
            · rw [if_neg c4] at H
              exact absurd H (by simp)
          · rw [if_neg c3] at H
            exact absurd H (by simp)
        · rw [if_neg c2] at H
          have c2b0 : decide (x18_1 < (l0.length : Int)) = false := decide_eq_false c2; clear c2
          simp only [Option.some.injEq, Prod.mk.injEq] at H
          obtain ⟨rfl, rfl⟩ := H
          go_wp2
          go_ret2
          exact ⟨by first | rfl | (simp [Ba, Az] <;> rfl) | (simp [*, Ba, Az] <;> rfl), HPRE.out.trans ((show Below w.heap.size w _ from by repeat (first | (with_reducible first | exact HB.out | apply Ad | apply Ab | apply Ac) | exact HB.out)).mono HPRE.out.size)⟩
  · rw [if_neg ht] at H0
    simp only [Option.some.injEq, Prod.mk.injEq] at H0
    obtain ⟨rfl, rfl⟩ := H0; have c1 : (t == 0) = false := by simpa using ht
    have c2 : (t != 0) = true := by simpa using ht
    clear ht; go_enter Try.func34, Try.ntmps34
    go_wp2_with (go_at_call 42; refine (Bw.calls k A00 c00 l00 t _ HR00.out HC00.out HRT.out).mono ?_; rintro e w1 ⟨rfl, hb1⟩; have HB1 := Aa.mk hb1; clear hb1)
    go_ret2
    exact ⟨rfl, HB1.out⟩
end Go.Proofs.Ytobdfiglgdbecaa
end
