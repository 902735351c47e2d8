import Derived.Test.YteamphcehoaleaaZPFOx0
import Derived.Test.YteamphcehoaleaaZPFAx6
import Derived.Test.YteamphcehoaleaaZPFEx2
namespace Go.Proofs.Yteamphcehoaleaa.PFO
open Go.Proofs.Yteamphcehoaleaa.PFA Go.Proofs.Yteamphcehoaleaa.PFE Go.Proofs.Yteamphcehoaleaa.PFK
open Go.RowKit Go.Proofs.YteamphcehoaleaaW.PrintWords Go.Proofs.YteamphcehoaleaaW.PrintLast Go.Proofs.YteamphcehoaleaaW.PrintMore
attribute [local go_sem] max2_int min2_int max_two min_two max_three min_three max_four min_four   -- for this text's walks alone
set_option linter.unusedVariables false
set_option linter.unusedSimpArgs false

def Cm.f (a0 : Int) : Option (Int) := if (wrap64 (a0)) < 2147483648 then (some ((wrap64 ((wrap64 (a0)) + 2147483648)) % 4294967296)) else (some ((wrap64 (4294967295 - (wrap64 (a0)))) % 4294967296))
set_option maxHeartbeats 8000000 in
set_option maxRecDepth 100000 in
theorem Cm.calls (a0 : Int) (r : Int) (w : World) (h : Cm.f a0 = some r) :
  Calls Try.prog 102 #[.int .u32 a0] w fun e w' => e = .returned (.int .u32 r) ∧ Drawn0 w w' := by
 have H : (if (wrap64 (a0)) < 2147483648 then (some ((wrap64 ((wrap64 (a0)) + 2147483648)) % 4294967296)) else (some ((wrap64 (4294967295 - (wrap64 (a0)))) % 4294967296))) = some r := h
 clear h
 by_cases c2 : (wrap64 (a0)) < 2147483648
 ·rw [if_pos c2] at H
  have c2b0 : decide ((wrap64 (a0)) < 2147483648) = true := decide_eq_true c2
  clear c2
  obtain rfl := Option.some.inj H
  go_enter Try.func102, Try.ntmps102
  go_wp2
  go_ret
  exact ⟨by first | rfl | (simp; done) | (simp [*]; done), by repeat (first | exact Drawn0.refl _ | apply Drawn0.step)⟩
 ·rw [if_neg c2] at H
  have c2b0 : decide ((wrap64 (a0)) < 2147483648) = false := decide_eq_false c2
  clear c2
  obtain rfl := Option.some.inj H
  go_enter Try.func102, Try.ntmps102
  go_wp2
  go_ret
  exact ⟨by first | rfl | (simp; done) | (simp [*]; done), by repeat (first | exact Drawn0.refl _ | apply Drawn0.step)⟩

def Co.f (a0 : Int) (a1 : Int) : Option (Int) := (Cm.f a1).bind fun t101 => ((Cm.f a0).bind fun t102 => (some (wrap64 ((wrap64 (t101)) - (wrap64 (t102))))))
set_option maxHeartbeats 8000000 in
set_option maxRecDepth 100000 in
theorem Co.calls (a0 : Int) (a1 : Int) (r : Int) (w : World) (h : Co.f a0 a1 = some r) :
  Calls Try.prog 81 #[.int .u32 a0, .int .u32 a1] w fun e w' => e = .returned (.int .i64 r) ∧ Drawn0 w w' := by
 have H : ((Cm.f a1).bind fun t101 => ((Cm.f a0).bind fun t102 => (some (wrap64 ((wrap64 (t101)) - (wrap64 (t102))))))) = some r := h
 clear h
 replace H := Option.bind_eq_some_iff.mp H
 obtain ⟨t101, A30, H⟩ := H
 replace H : ((Cm.f a0).bind fun t102 => (some (wrap64 ((wrap64 (t101)) - (wrap64 (t102)))))) = some r := H
 have A3 := Aa.mk A30
 clear A30
 replace H := Option.bind_eq_some_iff.mp H
 obtain ⟨t102, A40, H⟩ := H
 replace H : (some (wrap64 ((wrap64 (t101)) - (wrap64 (t102))))) = some r := H
 have A4 := Aa.mk A40
 clear A40
 obtain rfl := Option.some.inj H
 go_enter Try.func81, Try.ntmps81
 go_wp2_with (first | ((with_reducible refine Bn (f := 102) rfl ?_); refine Ca (some 6) rfl rfl Try.func102 (by kernel_rfl) rfl #[.int .u32 a1] rfl (by (try simp only [List.map_toArray, List.map_cons, List.map_nil]); first | done | rfl | (simp only [List.length_drop, List.length_take]; rfl)) ?_; (with_reducible refine (Cm.calls a1 t101 _ A3.out).mono ?_); rintro e w' ⟨rfl, ⟨nd, rfl⟩⟩; refine ⟨_, rfl, ?_⟩) | ((with_reducible refine Bn (f := 102) rfl ?_); refine Ca (some 9) rfl rfl Try.func102 (by kernel_rfl) rfl #[.int .u32 a0] rfl (by (try simp only [List.map_toArray, List.map_cons, List.map_nil]); first | done | rfl | (simp only [List.length_drop, List.length_take]; rfl)) ?_; (with_reducible refine (Cm.calls a0 t102 _ A4.out).mono ?_); rintro e w' ⟨rfl, ⟨nd, rfl⟩⟩; refine ⟨_, rfl, ?_⟩))
 go_ret
 exact ⟨by first | rfl | (simp; done) | (simp [*]; done), by repeat (first | exact Drawn0.refl _ | apply Drawn0.step)⟩

def Bv.l0 : Nat → Int → Int → Int → Int → Int → List Int → Int → Int → List Bool → Option (Int × Int × List Bool)
 | 0, _, _, _, _, _, _, _, _, _ => none
 | k + 1, x1, x2, x8, x104000, x104001, x104002, x111000, x111001, x111002 => if x8 < (x104002.length : Int) then (if 0 ≤ x1 then (if x1 < (x104002.length : Int) then (if 0 ≤ x8 then ((Co.f (rd x104002 x1) (rd x104002 x8)).bind fun t113 => (if x8 < (x111002.length : Int) then (Bv.l0 k x1 x2 (wrap64 (x8 + 1)) x104000 x104001 x104002 x111000 x111001 (x111002.set (x8 : Int).toNat (decide ((mx t113 (wrap64 (-t113))) ≤ x2)))) else (none))) else (none)) else (none)) else (none)) else (some (x111000, x111001, x111002))
def Bv.f (k : Nat) (a0_0 : Int) (a0_1 : Int) (l0_2 : List Int) (a1 : Int) (a2 : Int) : Option (Int × Int × List Bool) := (Bw.f a0_0 a0_1).bind fun bt105 => (Bv.l0 k a1 a2 0 a0_0 a0_1 l0_2 bt105.1 bt105.2.1 bt105.2.2)
set_option maxHeartbeats 8000000 in
set_option maxRecDepth 100000 in
theorem Bv.calls (k : Nat) (a0_0 : Int) (a0_1 : Int) (A0_2 : Option Addr) (c0_2 : Nat) (l0_2 : List Int) (a1 : Int) (a2 : Int) (r1 : Int) (r2 : Int) (r3 : List Bool) (w : World) (hr0_2 : Kd.C (Kd.int .u32) w A0_2 l0_2.length l0_2) (hc0_2 : l0_2.length ≤ c0_2) (h : Bv.f k a0_0 a0_1 l0_2 a1 a2 = some (r1, r2, r3)) :
  Calls Try.prog 34 #[.agg #[.int .i64 a0_0, .int .i64 a0_1, .slice A0_2 l0_2.length c0_2], .int .i64 a1, .int .i64 a2] w fun e w' => ∃ v2_ : Value, e = .returned (.agg #[.int .i64 r1, .int .i64 r2, v2_]) ∧ Kd.R Kd.bool 4 w' w.heap.size (fun _ => True) v2_ r3 ∧ Below w.heap.size w w' := by
 have hu24 := Try.underlying24
 have hu50 := Try.underlying50
 have HR0_2 := Aa.mk hr0_2
 have HC0_2 := Aa.mk hc0_2
 clear hr0_2 hc0_2
 have HB := Aa.mk (Below.refl w.heap.size w)
 have H : ((Bw.f a0_0 a0_1).bind fun bt105 => (Bv.l0 k a1 a2 0 a0_0 a0_1 l0_2 bt105.1 bt105.2.1 bt105.2.2)) = some (r1, r2, r3) := h
 clear h
 replace H := Option.bind_eq_some_iff.mp H
 obtain ⟨⟨t105, t106, t107⟩, A40, H⟩ := H
 replace H : (Bv.l0 k a1 a2 0 a0_0 a0_1 l0_2 t105 t106 t107) = some (r1, r2, r3) := H
 have A4 := Aa.mk A40
 clear A40
 have H' := Aa.mk H
 clear H
 go_enter Try.func34, Try.ntmps34
 go_wp2_with (first | ((with_reducible refine Bk (N := 3) rfl ?_); refine Bp ?hg (N := 3) ?hd (cs := #[.int .i64 a0_0, .int .i64 a0_1, .slice A0_2 l0_2.length c0_2]) (t := 24) ?hr ?_; (case hd => rfl); (case hg => rfl); (case hr => first | (go_simp; done) | (go_simp; rfl)); intro gb103 hg w5 hbox hb; have n0_ := Aa.mk (Ar (lU HB.out) hb); have n1_ := Aa.mk (hbox); have n2_ := Aa.mk ((by rw [hg]; exact (Ak (lU HB.out)) : w.heap.size ≤ gb103)); have n3_ := Aa.mk ((by rw [hg]; exact (Ak (lU HB.out)) : w.heap.size ≤ gb103)); clear HB; have HB := n0_; have BK103 := n1_; have GW103 := n2_; have GE103 := n3_; clear n0_ n1_ n2_ n3_; clear hb hbox hg) | ((with_reducible refine Bk (N := 6) rfl ?_); refine Bp ?hg (N := 6) ?hd (cs := #[.int .i64 0, .int .i64 0, .slice none 0 0]) (t := 50) ?hr ?_; (case hd => rfl); (case hg => rfl); (case hr => first | (go_simp; done) | (go_simp; rfl)); intro gb104 hg w6 hbox hb; have n0_ := Aa.mk (An (g := gb103) (o := .cells #[.int .i64 a0_0, .int .i64 a0_1, .slice A0_2 l0_2.length c0_2] 24 (0, 0)) (by exact bU <| BK103.out) hb); have n1_ := Aa.mk (Ar (by repeat (first | (with_reducible first | exact HB.out | apply Ad | apply Ac | apply Ah | refine Af ?_ GE103.out) | exact HB.out)) hb); have n2_ := Aa.mk (hbox); have n3_ := Aa.mk ((by rw [hg]; exact (Ak (by repeat (first | (with_reducible first | exact HB.out | apply Ad | apply Ac | apply Ah | refine Af ?_ GE103.out) | exact HB.out))) : w.heap.size ≤ gb104)); have n4_ := Aa.mk ((by rw [hg]; exact (Ak (by repeat (first | (with_reducible first | exact HB.out | apply Ad | apply Ac | apply Ah | refine Af ?_ GE103.out) | exact HB.out))) : w.heap.size ≤ gb104)); have n5_ := Aa.mk ((by rw [hg]; exact Nat.ne_of_lt (Br (g := gb103) (o := .cells #[.int .i64 a0_0, .int .i64 a0_1, .slice A0_2 l0_2.length c0_2] 24 (0, 0)) (by exact bU <| BK103.out)) : gb103 ≠ gb104)); have n6_ := Aa.mk ((by rw [hg]; exact Nat.ne_of_gt (Br (g := gb103) (o := .cells #[.int .i64 a0_0, .int .i64 a0_1, .slice A0_2 l0_2.length c0_2] 24 (0, 0)) (by exact bU <| BK103.out)) : gb104 ≠ gb103)); clear BK103; clear HB; have BK103 := n0_; have HB := n1_; have BK104 := n2_; have GW104 := n3_; have GE104 := n4_; have NB103_104 := n5_; have NB104_103 := n6_; clear n0_ n1_ n2_ n3_ n4_ n5_ n6_; clear hb hbox hg; have hnb7 := NB103_104.out; have hnc7 := NB104_103.out; have hcz8_0 : w6.cell? ⟨gb103, 0, none⟩ = some (.int .i64 a0_0) := (Ae BK103.out 0).trans rfl; have hcz8_1 : w6.cell? ⟨gb103, 1, none⟩ = some (.int .i64 a0_1) := (Ae BK103.out 1).trans rfl; have hcz8_2 : w6.cell? ⟨gb103, 2, none⟩ = some (.slice A0_2 l0_2.length c0_2) := (Ae BK103.out 2).trans rfl; have hfz8_0 := Ag BK103.out 0; have hfz8_1 := Ag BK103.out 1; have hfz8_2 := Ag BK103.out 2) | (go_at_call 58; (with_reducible refine (Bw.calls a0_0 a0_1 t105 t106 t107 _ A4.out).mono ?_); rintro e w9 ⟨v108, rfl, ho0, hb⟩; have n0_ := Aa.mk (Kd.B6 ho0 (Ak (by repeat (first | (with_reducible first | exact HB.out | apply Ad | apply Ac | apply Ah | refine Af ?_ GE103.out | refine Af ?_ GE104.out) | exact HB.out)))); have n1_ := Aa.mk (An (g := gb103) (o := .cells #[.int .i64 a0_0, .int .i64 a0_1, .slice A0_2 l0_2.length c0_2] 24 (0, 0)) (by exact bU <| BK103.out) hb); have n2_ := Aa.mk (An (g := gb104) (o := .cells #[.int .i64 0, .int .i64 0, .slice none 0 0] 50 (0, 0)) (by exact bU <| BK104.out) hb); have n3_ := Aa.mk (Ar (by repeat (first | (with_reducible first | exact HB.out | apply Ad | apply Ac | apply Ah | refine Af ?_ GE103.out | refine Af ?_ GE104.out) | exact HB.out)) hb); clear BK103; clear BK104; clear HB; have HO109 := n0_; have BK103 := n1_; have BK104 := n2_; have HB := n3_; clear n0_ n1_ n2_ n3_; (try clear hb); (try clear hb2); (try clear hk); (try clear hi); (try clear ho0)) | ((with_reducible refine Bk (N := 7) rfl ?_); refine Bp ?hg (N := 7) ?hd (cs := #[.int .i64 0, .int .i64 0, .slice none 0 0]) (t := 50) ?hr ?_; (case hd => rfl); (case hg => rfl); (case hr => first | (go_simp; done) | (go_simp; rfl)); intro gb110 hg w10 hbox hb; have n0_ := Aa.mk (Kd.Au (by exact rU <| HO109.out) hb); have n1_ := Aa.mk (An (g := gb103) (o := .cells #[.int .i64 a0_0, .int .i64 a0_1, .slice A0_2 l0_2.length c0_2] 24 (0, 0)) (by exact bU <| BK103.out) hb); have n2_ := Aa.mk (An (g := gb104) (o := .cells #[.int .i64 0, .int .i64 0, .slice none 0 0] 50 (0, 0)) (by exact bU <| BK104.out) hb); have n3_ := Aa.mk (Ar (by repeat (first | (with_reducible first | exact HB.out | apply Ad | apply Ac | apply Ah | refine Af ?_ GE103.out | refine Af ?_ GE104.out) | exact HB.out)) hb); have n4_ := Aa.mk (hbox); have n5_ := Aa.mk ((by rw [hg]; exact (Ak (by repeat (first | (with_reducible first | exact HB.out | apply Ad | apply Ac | apply Ah | refine Af ?_ GE103.out | refine Af ?_ GE104.out) | exact HB.out))) : w.heap.size ≤ gb110)); have n6_ := Aa.mk ((by rw [hg]; exact (Ak (by repeat (first | (with_reducible first | exact HB.out | apply Ad | apply Ac | apply Ah | refine Af ?_ GE103.out | refine Af ?_ GE104.out) | exact HB.out))) : w.heap.size ≤ gb110)); have n7_ := Aa.mk ((by rw [hg]; exact Nat.ne_of_lt (Br (g := gb103) (o := .cells #[.int .i64 a0_0, .int .i64 a0_1, .slice A0_2 l0_2.length c0_2] 24 (0, 0)) (by exact bU <| BK103.out)) : gb103 ≠ gb110)); have n8_ := Aa.mk ((by rw [hg]; exact Nat.ne_of_gt (Br (g := gb103) (o := .cells #[.int .i64 a0_0, .int .i64 a0_1, .slice A0_2 l0_2.length c0_2] 24 (0, 0)) (by exact bU <| BK103.out)) : gb110 ≠ gb103)); have n9_ := Aa.mk ((by rw [hg]; exact Nat.ne_of_lt (Br (g := gb104) (o := .cells #[.int .i64 0, .int .i64 0, .slice none 0 0] 50 (0, 0)) (by exact bU <| BK104.out)) : gb104 ≠ gb110)); have n10_ := Aa.mk ((by rw [hg]; exact Nat.ne_of_gt (Br (g := gb104) (o := .cells #[.int .i64 0, .int .i64 0, .slice none 0 0] 50 (0, 0)) (by exact bU <| BK104.out)) : gb110 ≠ gb104)); clear HO109; clear BK103; clear BK104; clear HB; have HO109 := n0_; have BK103 := n1_; have BK104 := n2_; have HB := n3_; have BK110 := n4_; have GW110 := n5_; have GE110 := n6_; have NB103_110 := n7_; have NB110_103 := n8_; have NB104_110 := n9_; have NB110_104 := n10_; clear n0_ n1_ n2_ n3_ n4_ n5_ n6_ n7_ n8_ n9_ n10_; clear hb hbox hg; have hnb11 := NB110_103.out; have hnc11 := NB103_110.out; have hnb12 := NB110_104.out; have hnc12 := NB104_110.out; have hcz13_0 : w10.cell? ⟨gb110, 0, none⟩ = some (.int .i64 0) := (Ae BK110.out 0).trans rfl; have hcz13_1 : w10.cell? ⟨gb110, 1, none⟩ = some (.int .i64 0) := (Ae BK110.out 1).trans rfl; have hcz13_2 : w10.cell? ⟨gb110, 2, none⟩ = some (.slice none 0 0) := (Ae BK110.out 2).trans rfl; have hfz13_0 := Ag BK110.out 0; have hfz13_1 := Ag BK110.out 1; have hfz13_2 := Ag BK110.out 2; obtain ⟨Ao14, co14, eo14⟩ := Kd.Bz HO109.out; subst eo14))
 repeat (go_quiet (first | ((with_reducible refine Bk (N := 3) rfl ?_); refine Bp ?hg (N := 3) ?hd (cs := #[.int .i64 a0_0, .int .i64 a0_1, .slice A0_2 l0_2.length c0_2]) (t := 24) ?hr ?_; (case hd => rfl); (case hg => rfl); (case hr => first | (go_simp; done) | (go_simp; rfl)); intro gb103 hg w5 hbox hb; have n0_ := Aa.mk (Ar (lU HB.out) hb); have n1_ := Aa.mk (hbox); have n2_ := Aa.mk ((by rw [hg]; exact (Ak (lU HB.out)) : w.heap.size ≤ gb103)); have n3_ := Aa.mk ((by rw [hg]; exact (Ak (lU HB.out)) : w.heap.size ≤ gb103)); clear HB; have HB := n0_; have BK103 := n1_; have GW103 := n2_; have GE103 := n3_; clear n0_ n1_ n2_ n3_; clear hb hbox hg) | ((with_reducible refine Bk (N := 6) rfl ?_); refine Bp ?hg (N := 6) ?hd (cs := #[.int .i64 0, .int .i64 0, .slice none 0 0]) (t := 50) ?hr ?_; (case hd => rfl); (case hg => rfl); (case hr => first | (go_simp; done) | (go_simp; rfl)); intro gb104 hg w6 hbox hb; have n0_ := Aa.mk (An (g := gb103) (o := .cells #[.int .i64 a0_0, .int .i64 a0_1, .slice A0_2 l0_2.length c0_2] 24 (0, 0)) (by exact bU <| BK103.out) hb); have n1_ := Aa.mk (Ar (by repeat (first | (with_reducible first | exact HB.out | apply Ad | apply Ac | apply Ah | refine Af ?_ GE103.out) | exact HB.out)) hb); have n2_ := Aa.mk (hbox); have n3_ := Aa.mk ((by rw [hg]; exact (Ak (by repeat (first | (with_reducible first | exact HB.out | apply Ad | apply Ac | apply Ah | refine Af ?_ GE103.out) | exact HB.out))) : w.heap.size ≤ gb104)); have n4_ := Aa.mk ((by rw [hg]; exact (Ak (by repeat (first | (with_reducible first | exact HB.out | apply Ad | apply Ac | apply Ah | refine Af ?_ GE103.out) | exact HB.out))) : w.heap.size ≤ gb104)); have n5_ := Aa.mk ((by rw [hg]; exact Nat.ne_of_lt (Br (g := gb103) (o := .cells #[.int .i64 a0_0, .int .i64 a0_1, .slice A0_2 l0_2.length c0_2] 24 (0, 0)) (by exact bU <| BK103.out)) : gb103 ≠ gb104)); have n6_ := Aa.mk ((by rw [hg]; exact Nat.ne_of_gt (Br (g := gb103) (o := .cells #[.int .i64 a0_0, .int .i64 a0_1, .slice A0_2 l0_2.length c0_2] 24 (0, 0)) (by exact bU <| BK103.out)) : gb104 ≠ gb103)); clear BK103; clear HB; have BK103 := n0_; have HB := n1_; have BK104 := n2_; have GW104 := n3_; have GE104 := n4_; have NB103_104 := n5_; have NB104_103 := n6_; clear n0_ n1_ n2_ n3_ n4_ n5_ n6_; clear hb hbox hg; have hnb7 := NB103_104.out; have hnc7 := NB104_103.out; have hcz8_0 : w6.cell? ⟨gb103, 0, none⟩ = some (.int .i64 a0_0) := (Ae BK103.out 0).trans rfl; have hcz8_1 : w6.cell? ⟨gb103, 1, none⟩ = some (.int .i64 a0_1) := (Ae BK103.out 1).trans rfl; have hcz8_2 : w6.cell? ⟨gb103, 2, none⟩ = some (.slice A0_2 l0_2.length c0_2) := (Ae BK103.out 2).trans rfl; have hfz8_0 := Ag BK103.out 0; have hfz8_1 := Ag BK103.out 1; have hfz8_2 := Ag BK103.out 2) | (go_at_call 58; (with_reducible refine (Bw.calls a0_0 a0_1 t105 t106 t107 _ A4.out).mono ?_); rintro e w9 ⟨v108, rfl, ho0, hb⟩; have n0_ := Aa.mk (Kd.B6 ho0 (Ak (by repeat (first | (with_reducible first | exact HB.out | apply Ad | apply Ac | apply Ah | refine Af ?_ GE103.out | refine Af ?_ GE104.out) | exact HB.out)))); have n1_ := Aa.mk (An (g := gb103) (o := .cells #[.int .i64 a0_0, .int .i64 a0_1, .slice A0_2 l0_2.length c0_2] 24 (0, 0)) (by exact bU <| BK103.out) hb); have n2_ := Aa.mk (An (g := gb104) (o := .cells #[.int .i64 0, .int .i64 0, .slice none 0 0] 50 (0, 0)) (by exact bU <| BK104.out) hb); have n3_ := Aa.mk (Ar (by repeat (first | (with_reducible first | exact HB.out | apply Ad | apply Ac | apply Ah | refine Af ?_ GE103.out | refine Af ?_ GE104.out) | exact HB.out)) hb); clear BK103; clear BK104; clear HB; have HO109 := n0_; have BK103 := n1_; have BK104 := n2_; have HB := n3_; clear n0_ n1_ n2_ n3_; (try clear hb); (try clear hb2); (try clear hk); (try clear hi); (try clear ho0)) | ((with_reducible refine Bk (N := 7) rfl ?_); refine Bp ?hg (N := 7) ?hd (cs := #[.int .i64 0, .int .i64 0, .slice none 0 0]) (t := 50) ?hr ?_; (case hd => rfl); (case hg => rfl); (case hr => first | (go_simp; done) | (go_simp; rfl)); intro gb110 hg w10 hbox hb; have n0_ := Aa.mk (Kd.Au (by exact rU <| HO109.out) hb); have n1_ := Aa.mk (An (g := gb103) (o := .cells #[.int .i64 a0_0, .int .i64 a0_1, .slice A0_2 l0_2.length c0_2] 24 (0, 0)) (by exact bU <| BK103.out) hb); have n2_ := Aa.mk (An (g := gb104) (o := .cells #[.int .i64 0, .int .i64 0, .slice none 0 0] 50 (0, 0)) (by exact bU <| BK104.out) hb); have n3_ := Aa.mk (Ar (by repeat (first | (with_reducible first | exact HB.out | apply Ad | apply Ac | apply Ah | refine Af ?_ GE103.out | refine Af ?_ GE104.out) | exact HB.out)) hb); have n4_ := Aa.mk (hbox); have n5_ := Aa.mk ((by rw [hg]; exact (Ak (by repeat (first | (with_reducible first | exact HB.out | apply Ad | apply Ac | apply Ah | refine Af ?_ GE103.out | refine Af ?_ GE104.out) | exact HB.out))) : w.heap.size ≤ gb110)); have n6_ := Aa.mk ((by rw [hg]; exact (Ak (by repeat (first | (with_reducible first | exact HB.out | apply Ad | apply Ac | apply Ah | refine Af ?_ GE103.out | refine Af ?_ GE104.out) | exact HB.out))) : w.heap.size ≤ gb110)); have n7_ := Aa.mk ((by rw [hg]; exact Nat.ne_of_lt (Br (g := gb103) (o := .cells #[.int .i64 a0_0, .int .i64 a0_1, .slice A0_2 l0_2.length c0_2] 24 (0, 0)) (by exact bU <| BK103.out)) : gb103 ≠ gb110)); have n8_ := Aa.mk ((by rw [hg]; exact Nat.ne_of_gt (Br (g := gb103) (o := .cells #[.int .i64 a0_0, .int .i64 a0_1, .slice A0_2 l0_2.length c0_2] 24 (0, 0)) (by exact bU <| BK103.out)) : gb110 ≠ gb103)); have n9_ := Aa.mk ((by rw [hg]; exact Nat.ne_of_lt (Br (g := gb104) (o := .cells #[.int .i64 0, .int .i64 0, .slice none 0 0] 50 (0, 0)) (by exact bU <| BK104.out)) : gb104 ≠ gb110)); have n10_ := Aa.mk ((by rw [hg]; exact Nat.ne_of_gt (Br (g := gb104) (o := .cells #[.int .i64 0, .int .i64 0, .slice none 0 0] 50 (0, 0)) (by exact bU <| BK104.out)) : gb110 ≠ gb104)); clear HO109; clear BK103; clear BK104; clear HB; have HO109 := n0_; have BK103 := n1_; have BK104 := n2_; have HB := n3_; have BK110 := n4_; have GW110 := n5_; have GE110 := n6_; have NB103_110 := n7_; have NB110_103 := n8_; have NB104_110 := n9_; have NB110_104 := n10_; clear n0_ n1_ n2_ n3_ n4_ n5_ n6_ n7_ n8_ n9_ n10_; clear hb hbox hg; have hnb11 := NB110_103.out; have hnc11 := NB103_110.out; have hnb12 := NB110_104.out; have hnc12 := NB104_110.out; have hcz13_0 : w10.cell? ⟨gb110, 0, none⟩ = some (.int .i64 0) := (Ae BK110.out 0).trans rfl; have hcz13_1 : w10.cell? ⟨gb110, 1, none⟩ = some (.int .i64 0) := (Ae BK110.out 1).trans rfl; have hcz13_2 : w10.cell? ⟨gb110, 2, none⟩ = some (.slice none 0 0) := (Ae BK110.out 2).trans rfl; have hfz13_0 := Ag BK110.out 0; have hfz13_1 := Ag BK110.out 1; have hfz13_2 := Ag BK110.out 2; obtain ⟨Ao14, co14, eo14⟩ := Kd.Bz HO109.out; subst eo14)); try go_wp2_with (first | ((with_reducible refine Bk (N := 3) rfl ?_); refine Bp ?hg (N := 3) ?hd (cs := #[.int .i64 a0_0, .int .i64 a0_1, .slice A0_2 l0_2.length c0_2]) (t := 24) ?hr ?_; (case hd => rfl); (case hg => rfl); (case hr => first | (go_simp; done) | (go_simp; rfl)); intro gb103 hg w5 hbox hb; have n0_ := Aa.mk (Ar (lU HB.out) hb); have n1_ := Aa.mk (hbox); have n2_ := Aa.mk ((by rw [hg]; exact (Ak (lU HB.out)) : w.heap.size ≤ gb103)); have n3_ := Aa.mk ((by rw [hg]; exact (Ak (lU HB.out)) : w.heap.size ≤ gb103)); clear HB; have HB := n0_; have BK103 := n1_; have GW103 := n2_; have GE103 := n3_; clear n0_ n1_ n2_ n3_; clear hb hbox hg) | ((with_reducible refine Bk (N := 6) rfl ?_); refine Bp ?hg (N := 6) ?hd (cs := #[.int .i64 0, .int .i64 0, .slice none 0 0]) (t := 50) ?hr ?_; (case hd => rfl); (case hg => rfl); (case hr => first | (go_simp; done) | (go_simp; rfl)); intro gb104 hg w6 hbox hb; have n0_ := Aa.mk (An (g := gb103) (o := .cells #[.int .i64 a0_0, .int .i64 a0_1, .slice A0_2 l0_2.length c0_2] 24 (0, 0)) (by exact bU <| BK103.out) hb); have n1_ := Aa.mk (Ar (by repeat (first | (with_reducible first | exact HB.out | apply Ad | apply Ac | apply Ah | refine Af ?_ GE103.out) | exact HB.out)) hb); have n2_ := Aa.mk (hbox); have n3_ := Aa.mk ((by rw [hg]; exact (Ak (by repeat (first | (with_reducible first | exact HB.out | apply Ad | apply Ac | apply Ah | refine Af ?_ GE103.out) | exact HB.out))) : w.heap.size ≤ gb104)); have n4_ := Aa.mk ((by rw [hg]; exact (Ak (by repeat (first | (with_reducible first | exact HB.out | apply Ad | apply Ac | apply Ah | refine Af ?_ GE103.out) | exact HB.out))) : w.heap.size ≤ gb104)); have n5_ := Aa.mk ((by rw [hg]; exact Nat.ne_of_lt (Br (g := gb103) (o := .cells #[.int .i64 a0_0, .int .i64 a0_1, .slice A0_2 l0_2.length c0_2] 24 (0, 0)) (by exact bU <| BK103.out)) : gb103 ≠ gb104)); have n6_ := Aa.mk ((by rw [hg]; exact Nat.ne_of_gt (Br (g := gb103) (o := .cells #[.int .i64 a0_0, .int .i64 a0_1, .slice A0_2 l0_2.length c0_2] 24 (0, 0)) (by exact bU <| BK103.out)) : gb104 ≠ gb103)); clear BK103; clear HB; have BK103 := n0_; have HB := n1_; have BK104 := n2_; have GW104 := n3_; have GE104 := n4_; have NB103_104 := n5_; have NB104_103 := n6_; clear n0_ n1_ n2_ n3_ n4_ n5_ n6_; clear hb hbox hg; have hnb7 := NB103_104.out; have hnc7 := NB104_103.out; have hcz8_0 : w6.cell? ⟨gb103, 0, none⟩ = some (.int .i64 a0_0) := (Ae BK103.out 0).trans rfl; have hcz8_1 : w6.cell? ⟨gb103, 1, none⟩ = some (.int .i64 a0_1) := (Ae BK103.out 1).trans rfl; have hcz8_2 : w6.cell? ⟨gb103, 2, none⟩ = some (.slice A0_2 l0_2.length c0_2) := (Ae BK103.out 2).trans rfl; have hfz8_0 := Ag BK103.out 0; have hfz8_1 := Ag BK103.out 1; have hfz8_2 := Ag BK103.out 2) | (go_at_call 58; (with_reducible refine (Bw.calls a0_0 a0_1 t105 t106 t107 _ A4.out).mono ?_); rintro e w9 ⟨v108, rfl, ho0, hb⟩; have n0_ := Aa.mk (Kd.B6 ho0 (Ak (by repeat (first | (with_reducible first | exact HB.out | apply Ad | apply Ac | apply Ah | refine Af ?_ GE103.out | refine Af ?_ GE104.out) | exact HB.out)))); have n1_ := Aa.mk (An (g := gb103) (o := .cells #[.int .i64 a0_0, .int .i64 a0_1, .slice A0_2 l0_2.length c0_2] 24 (0, 0)) (by exact bU <| BK103.out) hb); have n2_ := Aa.mk (An (g := gb104) (o := .cells #[.int .i64 0, .int .i64 0, .slice none 0 0] 50 (0, 0)) (by exact bU <| BK104.out) hb); have n3_ := Aa.mk (Ar (by repeat (first | (with_reducible first | exact HB.out | apply Ad | apply Ac | apply Ah | refine Af ?_ GE103.out | refine Af ?_ GE104.out) | exact HB.out)) hb); clear BK103; clear BK104; clear HB; have HO109 := n0_; have BK103 := n1_; have BK104 := n2_; have HB := n3_; clear n0_ n1_ n2_ n3_; (try clear hb); (try clear hb2); (try clear hk); (try clear hi); (try clear ho0)) | ((with_reducible refine Bk (N := 7) rfl ?_); refine Bp ?hg (N := 7) ?hd (cs := #[.int .i64 0, .int .i64 0, .slice none 0 0]) (t := 50) ?hr ?_; (case hd => rfl); (case hg => rfl); (case hr => first | (go_simp; done) | (go_simp; rfl)); intro gb110 hg w10 hbox hb; have n0_ := Aa.mk (Kd.Au (by exact rU <| HO109.out) hb); have n1_ := Aa.mk (An (g := gb103) (o := .cells #[.int .i64 a0_0, .int .i64 a0_1, .slice A0_2 l0_2.length c0_2] 24 (0, 0)) (by exact bU <| BK103.out) hb); have n2_ := Aa.mk (An (g := gb104) (o := .cells #[.int .i64 0, .int .i64 0, .slice none 0 0] 50 (0, 0)) (by exact bU <| BK104.out) hb); have n3_ := Aa.mk (Ar (by repeat (first | (with_reducible first | exact HB.out | apply Ad | apply Ac | apply Ah | refine Af ?_ GE103.out | refine Af ?_ GE104.out) | exact HB.out)) hb); have n4_ := Aa.mk (hbox); have n5_ := Aa.mk ((by rw [hg]; exact (Ak (by repeat (first | (with_reducible first | exact HB.out | apply Ad | apply Ac | apply Ah | refine Af ?_ GE103.out | refine Af ?_ GE104.out) | exact HB.out))) : w.heap.size ≤ gb110)); have n6_ := Aa.mk ((by rw [hg]; exact (Ak (by repeat (first | (with_reducible first | exact HB.out | apply Ad | apply Ac | apply Ah | refine Af ?_ GE103.out | refine Af ?_ GE104.out) | exact HB.out))) : w.heap.size ≤ gb110)); have n7_ := Aa.mk ((by rw [hg]; exact Nat.ne_of_lt (Br (g := gb103) (o := .cells #[.int .i64 a0_0, .int .i64 a0_1, .slice A0_2 l0_2.length c0_2] 24 (0, 0)) (by exact bU <| BK103.out)) : gb103 ≠ gb110)); have n8_ := Aa.mk ((by rw [hg]; exact Nat.ne_of_gt (Br (g := gb103) (o := .cells #[.int .i64 a0_0, .int .i64 a0_1, .slice A0_2 l0_2.length c0_2] 24 (0, 0)) (by exact bU <| BK103.out)) : gb110 ≠ gb103)); have n9_ := Aa.mk ((by rw [hg]; exact Nat.ne_of_lt (Br (g := gb104) (o := .cells #[.int .i64 0, .int .i64 0, .slice none 0 0] 50 (0, 0)) (by exact bU <| BK104.out)) : gb104 ≠ gb110)); have n10_ := Aa.mk ((by rw [hg]; exact Nat.ne_of_gt (Br (g := gb104) (o := .cells #[.int .i64 0, .int .i64 0, .slice none 0 0] 50 (0, 0)) (by exact bU <| BK104.out)) : gb110 ≠ gb104)); clear HO109; clear BK103; clear BK104; clear HB; have HO109 := n0_; have BK103 := n1_; have BK104 := n2_; have HB := n3_; have BK110 := n4_; have GW110 := n5_; have GE110 := n6_; have NB103_110 := n7_; have NB110_103 := n8_; have NB104_110 := n9_; have NB110_104 := n10_; clear n0_ n1_ n2_ n3_ n4_ n5_ n6_ n7_ n8_ n9_ n10_; clear hb hbox hg; have hnb11 := NB110_103.out; have hnc11 := NB103_110.out; have hnb12 := NB110_104.out; have hnc12 := NB104_110.out; have hcz13_0 : w10.cell? ⟨gb110, 0, none⟩ = some (.int .i64 0) := (Ae BK110.out 0).trans rfl; have hcz13_1 : w10.cell? ⟨gb110, 1, none⟩ = some (.int .i64 0) := (Ae BK110.out 1).trans rfl; have hcz13_2 : w10.cell? ⟨gb110, 2, none⟩ = some (.slice none 0 0) := (Ae BK110.out 2).trans rfl; have hfz13_0 := Ag BK110.out 0; have hfz13_1 := Ag BK110.out 1; have hfz13_2 := Ag BK110.out 2; obtain ⟨Ao14, co14, eo14⟩ := Kd.Bz HO109.out; subst eo14)))
 go_loopg [8] k (fun kq v8 w' => ∃ (x8_1 : Int) (x111002_1 : List Bool) (u111002 : Value), v8 = .int .i64 x8_1 ∧ Aa (Bv.l0 kq a1 a2 x8_1 a0_0 a0_1 l0_2 t105 t106 x111002_1 = some (r1, r2, r3)) ∧ Aa (kq ≤ k) ∧ Aa (Kd.R Kd.bool 4 w' w.heap.size (fun _ => True) u111002 x111002_1) ∧ Aa (w'.heap[gb103]? = some (.cells #[.int .i64 a0_0, .int .i64 a0_1, (.slice A0_2 l0_2.length c0_2)] 24 (0, 0))) ∧ Aa (w'.heap[gb104]? = some (.cells #[.int .i64 0, .int .i64 0, (.slice none 0 0)] 50 (0, 0))) ∧ Aa (w'.heap[gb110]? = some (.cells #[.int .i64 t105, .int .i64 t106, u111002] 50 (0, 0))) ∧ Aa (Below w.heap.size w w'))
 case atStart => exact ⟨(0), (t107), (.slice Ao14 t107.length co14), (by first | rfl | (simp; done) | (simp [*]; done)), H', ⟨Nat.le_refl _⟩, ⟨by exact rU <| Kd.Bj (Kd.Be (p := ⟨gb110, 2, none⟩) (Kd.Be (p := ⟨gb110, 1, none⟩) (Kd.Be (p := ⟨gb110, 0, none⟩) (Kd.B4 HO109.out BK110.out (by decide)) (fun _ hk => hk.2) (.int .i64 t105)) (fun _ hk => hk.2) (.int .i64 t106)) (fun _ hk => hk.2) (.slice Ao14 t107.length co14)) (fun _ hk => trivial)⟩, ⟨by (with_reducible repeat (first | refine As ?_ _ | refine At ?_ | refine Aj ?_ _)); refine Bf ?_ NB103_110.out _; (with_reducible repeat (first | refine As ?_ _ | refine At ?_ | refine Aj ?_ _)); refine Bf ?_ NB103_110.out _; (with_reducible repeat (first | refine As ?_ _ | refine At ?_ | refine Aj ?_ _)); refine Bf ?_ NB103_110.out _; exact bU <| BK103.out⟩, ⟨by (with_reducible repeat (first | refine As ?_ _ | refine At ?_ | refine Aj ?_ _)); refine Bf ?_ NB104_110.out _; (with_reducible repeat (first | refine As ?_ _ | refine At ?_ | refine Aj ?_ _)); refine Bf ?_ NB104_110.out _; (with_reducible repeat (first | refine As ?_ _ | refine At ?_ | refine Aj ?_ _)); refine Bf ?_ NB104_110.out _; exact bU <| BK104.out⟩, ⟨by (with_reducible repeat (first | refine As ?_ _ | refine At ?_ | refine Aj ?_ _)); refine Bd (cs := #[.int .i64 t105, .int .i64 t106, .slice none 0 0]) ?_ 2 _ rfl; (with_reducible repeat (first | refine As ?_ _ | refine At ?_ | refine Aj ?_ _)); refine Bd (cs := #[.int .i64 t105, .int .i64 0, .slice none 0 0]) ?_ 1 _ rfl; (with_reducible repeat (first | refine As ?_ _ | refine At ?_ | refine Aj ?_ _)); refine Bd (cs := #[.int .i64 0, .int .i64 0, .slice none 0 0]) ?_ 0 _ rfl; exact bU <| BK110.out⟩, ⟨by repeat (first | (with_reducible first | exact HB.out | apply Ad | apply Ac | apply Ah | refine Af ?_ GE103.out | refine Af ?_ GE104.out | refine Af ?_ GE110.out) | exact HB.out)⟩⟩
 case round =>
  clear H'
  try clear c1
  try clear p2
  try clear c3
  try clear c7
  try clear c11
  try clear c12
  try clear hcz13_0
  try clear hcz13_1
  try clear hcz13_2
  try clear hcz8_0
  try clear hcz8_1
  try clear hcz8_2
  try clear hfz13_0
  try clear hfz13_1
  try clear hfz13_2
  try clear hfz8_0
  try clear hfz8_1
  try clear hfz8_2
  obtain ⟨x8_1, x111002_1, u111002, rfl, HA, HK1, HO_111002, BK103, BK104, BK110, HB⟩ := hrel
  cases gk with
  | zero => exact absurd HA.out (by simp [Bv.l0])
  | succ k1 =>
   have H := HA.out
   clear HA
   simp only [Bv.l0] at H
   by_cases c15 : x8_1 < (l0_2.length : Int)
   ·rw [if_pos c15] at H
    have c15b0 : decide (x8_1 < (l0_2.length : Int)) = true := decide_eq_true c15
    clear c15
    by_cases c16 : 0 ≤ a1
    ·rw [if_pos c16] at H
     have c16b0 : decide (0 ≤ a1) = true := decide_eq_true c16
     clear c16
     by_cases c17 : a1 < (l0_2.length : Int)
     ·rw [if_pos c17] at H
      have c17b0 : decide (a1 < (l0_2.length : Int)) = true := decide_eq_true c17
      clear c17
      by_cases c18 : 0 ≤ x8_1
      ·rw [if_pos c18] at H
       have c18b0 : decide (0 ≤ x8_1) = true := decide_eq_true c18
       clear c18
       replace H := Option.bind_eq_some_iff.mp H
       obtain ⟨t113, A190, H⟩ := H
       replace H : (if x8_1 < (x111002_1.length : Int) then (Bv.l0 k1 a1 a2 (wrap64 (x8_1 + 1)) a0_0 a0_1 l0_2 t105 t106 (x111002_1.set (x8_1 : Int).toNat (decide ((mx t113 (wrap64 (-t113))) ≤ a2)))) else (none)) = some (r1, r2, r3) := H
       have A19 := Aa.mk A190
       clear A190
       obtain ⟨ji20, hji20⟩ : ∃ j_ : Int, (mx t113 (wrap64 (-t113))) = j_ := ⟨_, rfl⟩
       replace H : (if x8_1 < (x111002_1.length : Int) then (Bv.l0 k1 a1 a2 (wrap64 (x8_1 + 1)) a0_0 a0_1 l0_2 t105 t106 (x111002_1.set (x8_1 : Int).toNat (decide ((ji20) ≤ a2)))) else (none)) = some (r1, r2, r3) := by first | (rw [hji20] at H; exact H) | (simp only [hji20] at H ⊢; exact H)
       (try rw [hji20] at A19)
       have hji20_ : (if t113 < (wrap64 (-t113)) then (wrap64 (-t113)) else t113) = ji20 := hji20
       by_cases c21 : x8_1 < (x111002_1.length : Int)
       ·rw [if_pos c21] at H
        have c21b0 : decide (x8_1 < (x111002_1.length : Int)) = true := decide_eq_true c21
        clear c21
        obtain ⟨y114, hy114⟩ : ∃ y_ : List Bool, y_ = (x111002_1.set (x8_1 : Int).toNat (decide ((ji20) ≤ a2))) := ⟨_, rfl⟩
        replace H : (Bv.l0 k1 a1 a2 (wrap64 (x8_1 + 1)) a0_0 a0_1 l0_2 t105 t106 y114) = some (r1, r2, r3) := by first | (rw [hy114]; with_reducible exact H) | (have H2_ := (Option.bind_some _ _).symm.trans H; rw [hy114]; with_reducible exact H2_) | (have H2_ := (Option.bind_some _ _).symm.trans H; with_reducible exact H2_) | with_reducible exact H | (rw [hy114]; exact H) | exact H
        have Ny114 := Aa.mk hy114
        clear hy114
        have H' := Aa.mk H
        clear H
        have hnb23 := NB103_104.out
        have hnc23 := NB104_103.out
        have hnb24 := NB103_110.out
        have hnc24 := NB110_103.out
        have hcz25_0 : wr.cell? ⟨gb103, 0, none⟩ = some (.int .i64 a0_0) := (Ae BK103.out 0).trans rfl
        have hcz25_1 : wr.cell? ⟨gb103, 1, none⟩ = some (.int .i64 a0_1) := (Ae BK103.out 1).trans rfl
        have hcz25_2 : wr.cell? ⟨gb103, 2, none⟩ = some (.slice A0_2 l0_2.length c0_2) := (Ae BK103.out 2).trans rfl
        have hfz25_0 := Ag BK103.out 0
        have hfz25_1 := Ag BK103.out 1
        have hfz25_2 := Ag BK103.out 2
        have p111 : 0 ≤ (a1 : Int) := of_decide_eq_true (by first | (with_reducible assumption) | assumption)
        have q111 : a1 < (l0_2.length : Int) := of_decide_eq_true (by first | (with_reducible assumption) | assumption)
        obtain ⟨ad111, e111, hx111_0⟩ := Kd.at_int HR0_2.out a1 p111 q111
        cases e111
        replace hx111_0 := (HB.out.cell (World.block_lt_of_cell? w _ hx111_0)).trans hx111_0
        replace p111 := eq_true p111
        replace q111 := eq_true q111
        have p112 : 0 ≤ (x8_1 : Int) := of_decide_eq_true (by first | (with_reducible assumption) | assumption)
        have q112 : x8_1 < (l0_2.length : Int) := of_decide_eq_true (by first | (with_reducible assumption) | assumption)
        obtain ⟨ad112, e112, hx112_0⟩ := Kd.at_int HR0_2.out x8_1 p112 q112
        obtain rfl : ad111 = ad112 := (by injection e112)
        replace hx112_0 := (HB.out.cell (World.block_lt_of_cell? w _ hx112_0)).trans hx112_0
        replace p112 := eq_true p112
        replace q112 := eq_true q112
        go_wp2_with (first | (go_at_call 81; (with_reducible refine (Co.calls (rd l0_2 a1) (rd l0_2 x8_1) t113 _ A19.out).mono ?_); rintro e w' ⟨rfl, ⟨nd, rfl⟩⟩; (try first | exact ⟨rfl, _, World.drewN_drewN _ _ _⟩ | exact ⟨rfl, _, Eq.trans (World.drewN_drewN _ _ _) (congrArg (World.drewN _) (Nat.add_assoc _ _ _))⟩); have hnb26 := NB110_104.out; have hnc26 := NB104_110.out; have hcz27_0 : wr.cell? ⟨gb110, 0, none⟩ = some (.int .i64 t105) := (Ae BK110.out 0).trans rfl; have hcz27_1 : wr.cell? ⟨gb110, 1, none⟩ = some (.int .i64 t106) := (Ae BK110.out 1).trans rfl; have hcz27_2 : wr.cell? ⟨gb110, 2, none⟩ = some (u111002) := (Ae BK110.out 2).trans rfl; have hfz27_0 := Ag BK110.out 0; have hfz27_1 := Ag BK110.out 1; have hfz27_2 := Ag BK110.out 2; have p22 : 0 ≤ (x8_1 : Int) := of_decide_eq_true (by first | (with_reducible assumption) | assumption); have q22 : (x8_1 : Int) < ((x111002_1.length : Int) : Int) := of_decide_eq_true (by first | (with_reducible assumption) | assumption); obtain ⟨go22, co22, eo22, gb22, gl22, cl22, HG22⟩ := Kd.Df HO_111002.out (by omega); (first | cases eo22 | (injection eo22 with ea_ en_ ec_; (first | subst ea_ | (injection ea_ with ea_; subst ea_)); subst ec_; clear en_)); have GB22 := Aa.mk gb22; have GG22 := Aa.mk HG22; clear gb22 gl22 HG22; obtain ⟨hx22_0, hf22_0⟩ := Kd.Ct false HO_111002.out (x8_1 : Int) p22 q22; replace p22 := eq_true p22; replace q22 := eq_true q22; obtain ⟨hy28_, hz28_⟩ := Kd.Ct false HO_111002.out (x8_1 : Int) (of_decide_eq_true (by first | (with_reducible assumption) | assumption)) (of_decide_eq_true (by first | (with_reducible assumption) | assumption)); have HP28 := Kd.C6 HO_111002.out (x8_1 : Int) (decide ((ji20) ≤ a2))) | ((with_reducible refine Cq (t := 4) (p := 42) rfl ?_); (try (rw [drewN_self wr]; generalize hq_ : World.drewN wr _ = wr; have n0_ := Aa.mk (Kd.R_at hq_ HO_111002.out); have n1_ := Aa.mk (blk_at hq_ BK103.out); have n2_ := Aa.mk (blk_at hq_ BK104.out); have n3_ := Aa.mk (blk_at hq_ BK110.out); have n4_ := Aa.mk (below_at hq_ HB.out); clear hq_ HO_111002 BK103 BK104 BK110 HB; have HO_111002 := n0_; have BK103 := n1_; have BK104 := n2_; have BK110 := n3_; have HB := n4_; clear n0_ n1_ n2_ n3_ n4_; (try (obtain ⟨hy28_, hz28_⟩ := Kd.Ct false HO_111002.out (x8_1 : Int) (of_decide_eq_true (by first | (with_reducible assumption) | assumption)) (of_decide_eq_true (by first | (with_reducible assumption) | assumption)))); (try (have HP28 := Kd.C6 HO_111002.out (x8_1 : Int) (decide ((ji20) ≤ a2)))))); refine store_event (t := 4) (p := 42) (v := ?vo_w29) (w1 := (wr.setCell ⟨go22, (x8_1 : Int).toNat, none⟩ (.bool (decide ((ji20) ≤ a2))))) ?hg ?ho ?hn ?hr ?_; (case ho => rfl); (case hg => rfl); (case hn => rfl); (case hr => first | (go_simp; done) | (go_simp; rfl)); intro w29 hw; have hg : wr.grownBy w29 (some go22) := (by rw [hw]; exact HP28.2); have hp_ : Kd.R Kd.bool 4 w29 w.heap.size (fun _ => True) (.slice (some ⟨go22, 0, none⟩) x111002_1.length co22) y114 := (by rw [hw, Ny114.out]; exact HP28.1); clear HP28; have n0_ := Aa.mk (hp_); have n1_ := Aa.mk (Bs (g := gb103) (o := .cells #[.int .i64 a0_0, .int .i64 a0_1, .slice (some ad111) l0_2.length c0_2] 24 (0, 0)) (by exact bU <| BK103.out) hg (Kd.Db HO_111002.out BK103.out (by decide))); have n2_ := Aa.mk (Bs (g := gb104) (o := .cells #[.int .i64 0, .int .i64 0, .slice none 0 0] 50 (0, 0)) (by exact bU <| BK104.out) hg (Kd.Db HO_111002.out BK104.out (by decide))); have n3_ := Aa.mk (Bs (g := gb110) (o := .cells #[.int .i64 t105, .int .i64 t106, .slice (some ⟨go22, 0, none⟩) x111002_1.length co22] 50 (0, 0)) (by exact bU <| BK110.out) hg (Kd.Db HO_111002.out BK110.out (by decide))); have n4_ := Aa.mk ((by rw [hw]; exact Af (HB.out) GB22.out : Below w.heap.size w w29)); clear HO_111002; clear BK103; clear BK104; clear BK110; clear HB; have HO_111002 := n0_; have BK103 := n1_; have BK104 := n2_; have BK110 := n3_; have HB := n4_; clear n0_ n1_ n2_ n3_ n4_; clear hg hw hp_))
        repeat (go_quiet (first | (go_at_call 81; (with_reducible refine (Co.calls (rd l0_2 a1) (rd l0_2 x8_1) t113 _ A19.out).mono ?_); rintro e w' ⟨rfl, ⟨nd, rfl⟩⟩; (try first | exact ⟨rfl, _, World.drewN_drewN _ _ _⟩ | exact ⟨rfl, _, Eq.trans (World.drewN_drewN _ _ _) (congrArg (World.drewN _) (Nat.add_assoc _ _ _))⟩); have hnb26 := NB110_104.out; have hnc26 := NB104_110.out; have hcz27_0 : wr.cell? ⟨gb110, 0, none⟩ = some (.int .i64 t105) := (Ae BK110.out 0).trans rfl; have hcz27_1 : wr.cell? ⟨gb110, 1, none⟩ = some (.int .i64 t106) := (Ae BK110.out 1).trans rfl; have hcz27_2 : wr.cell? ⟨gb110, 2, none⟩ = some (u111002) := (Ae BK110.out 2).trans rfl; have hfz27_0 := Ag BK110.out 0; have hfz27_1 := Ag BK110.out 1; have hfz27_2 := Ag BK110.out 2; have p22 : 0 ≤ (x8_1 : Int) := of_decide_eq_true (by first | (with_reducible assumption) | assumption); have q22 : (x8_1 : Int) < ((x111002_1.length : Int) : Int) := of_decide_eq_true (by first | (with_reducible assumption) | assumption); obtain ⟨go22, co22, eo22, gb22, gl22, cl22, HG22⟩ := Kd.Df HO_111002.out (by omega); (first | cases eo22 | (injection eo22 with ea_ en_ ec_; (first | subst ea_ | (injection ea_ with ea_; subst ea_)); subst ec_; clear en_)); have GB22 := Aa.mk gb22; have GG22 := Aa.mk HG22; clear gb22 gl22 HG22; obtain ⟨hx22_0, hf22_0⟩ := Kd.Ct false HO_111002.out (x8_1 : Int) p22 q22; replace p22 := eq_true p22; replace q22 := eq_true q22; obtain ⟨hy28_, hz28_⟩ := Kd.Ct false HO_111002.out (x8_1 : Int) (of_decide_eq_true (by first | (with_reducible assumption) | assumption)) (of_decide_eq_true (by first | (with_reducible assumption) | assumption)); have HP28 := Kd.C6 HO_111002.out (x8_1 : Int) (decide ((ji20) ≤ a2))) | ((with_reducible refine Cq (t := 4) (p := 42) rfl ?_); (try (rw [drewN_self wr]; generalize hq_ : World.drewN wr _ = wr; have n0_ := Aa.mk (Kd.R_at hq_ HO_111002.out); have n1_ := Aa.mk (blk_at hq_ BK103.out); have n2_ := Aa.mk (blk_at hq_ BK104.out); have n3_ := Aa.mk (blk_at hq_ BK110.out); have n4_ := Aa.mk (below_at hq_ HB.out); clear hq_ HO_111002 BK103 BK104 BK110 HB; have HO_111002 := n0_; have BK103 := n1_; have BK104 := n2_; have BK110 := n3_; have HB := n4_; clear n0_ n1_ n2_ n3_ n4_; (try (obtain ⟨hy28_, hz28_⟩ := Kd.Ct false HO_111002.out (x8_1 : Int) (of_decide_eq_true (by first | (with_reducible assumption) | assumption)) (of_decide_eq_true (by first | (with_reducible assumption) | assumption)))); (try (have HP28 := Kd.C6 HO_111002.out (x8_1 : Int) (decide ((ji20) ≤ a2)))))); refine store_event (t := 4) (p := 42) (v := ?vo_w29) (w1 := (wr.setCell ⟨go22, (x8_1 : Int).toNat, none⟩ (.bool (decide ((ji20) ≤ a2))))) ?hg ?ho ?hn ?hr ?_; (case ho => rfl); (case hg => rfl); (case hn => rfl); (case hr => first | (go_simp; done) | (go_simp; rfl)); intro w29 hw; have hg : wr.grownBy w29 (some go22) := (by rw [hw]; exact HP28.2); have hp_ : Kd.R Kd.bool 4 w29 w.heap.size (fun _ => True) (.slice (some ⟨go22, 0, none⟩) x111002_1.length co22) y114 := (by rw [hw, Ny114.out]; exact HP28.1); clear HP28; have n0_ := Aa.mk (hp_); have n1_ := Aa.mk (Bs (g := gb103) (o := .cells #[.int .i64 a0_0, .int .i64 a0_1, .slice (some ad111) l0_2.length c0_2] 24 (0, 0)) (by exact bU <| BK103.out) hg (Kd.Db HO_111002.out BK103.out (by decide))); have n2_ := Aa.mk (Bs (g := gb104) (o := .cells #[.int .i64 0, .int .i64 0, .slice none 0 0] 50 (0, 0)) (by exact bU <| BK104.out) hg (Kd.Db HO_111002.out BK104.out (by decide))); have n3_ := Aa.mk (Bs (g := gb110) (o := .cells #[.int .i64 t105, .int .i64 t106, .slice (some ⟨go22, 0, none⟩) x111002_1.length co22] 50 (0, 0)) (by exact bU <| BK110.out) hg (Kd.Db HO_111002.out BK110.out (by decide))); have n4_ := Aa.mk ((by rw [hw]; exact Af (HB.out) GB22.out : Below w.heap.size w w29)); clear HO_111002; clear BK103; clear BK104; clear BK110; clear HB; have HO_111002 := n0_; have BK103 := n1_; have BK104 := n2_; have BK110 := n3_; have HB := n4_; clear n0_ n1_ n2_ n3_ n4_; clear hg hw hp_)); try go_wp2_with (first | (go_at_call 81; (with_reducible refine (Co.calls (rd l0_2 a1) (rd l0_2 x8_1) t113 _ A19.out).mono ?_); rintro e w' ⟨rfl, ⟨nd, rfl⟩⟩; (try first | exact ⟨rfl, _, World.drewN_drewN _ _ _⟩ | exact ⟨rfl, _, Eq.trans (World.drewN_drewN _ _ _) (congrArg (World.drewN _) (Nat.add_assoc _ _ _))⟩); have hnb26 := NB110_104.out; have hnc26 := NB104_110.out; have hcz27_0 : wr.cell? ⟨gb110, 0, none⟩ = some (.int .i64 t105) := (Ae BK110.out 0).trans rfl; have hcz27_1 : wr.cell? ⟨gb110, 1, none⟩ = some (.int .i64 t106) := (Ae BK110.out 1).trans rfl; have hcz27_2 : wr.cell? ⟨gb110, 2, none⟩ = some (u111002) := (Ae BK110.out 2).trans rfl; have hfz27_0 := Ag BK110.out 0; have hfz27_1 := Ag BK110.out 1; have hfz27_2 := Ag BK110.out 2; have p22 : 0 ≤ (x8_1 : Int) := of_decide_eq_true (by first | (with_reducible assumption) | assumption); have q22 : (x8_1 : Int) < ((x111002_1.length : Int) : Int) := of_decide_eq_true (by first | (with_reducible assumption) | assumption); obtain ⟨go22, co22, eo22, gb22, gl22, cl22, HG22⟩ := Kd.Df HO_111002.out (by omega); (first | cases eo22 | (injection eo22 with ea_ en_ ec_; (first | subst ea_ | (injection ea_ with ea_; subst ea_)); subst ec_; clear en_)); have GB22 := Aa.mk gb22; have GG22 := Aa.mk HG22; clear gb22 gl22 HG22; obtain ⟨hx22_0, hf22_0⟩ := Kd.Ct false HO_111002.out (x8_1 : Int) p22 q22; replace p22 := eq_true p22; replace q22 := eq_true q22; obtain ⟨hy28_, hz28_⟩ := Kd.Ct false HO_111002.out (x8_1 : Int) (of_decide_eq_true (by first | (with_reducible assumption) | assumption)) (of_decide_eq_true (by first | (with_reducible assumption) | assumption)); have HP28 := Kd.C6 HO_111002.out (x8_1 : Int) (decide ((ji20) ≤ a2))) | ((with_reducible refine Cq (t := 4) (p := 42) rfl ?_); (try (rw [drewN_self wr]; generalize hq_ : World.drewN wr _ = wr; have n0_ := Aa.mk (Kd.R_at hq_ HO_111002.out); have n1_ := Aa.mk (blk_at hq_ BK103.out); have n2_ := Aa.mk (blk_at hq_ BK104.out); have n3_ := Aa.mk (blk_at hq_ BK110.out); have n4_ := Aa.mk (below_at hq_ HB.out); clear hq_ HO_111002 BK103 BK104 BK110 HB; have HO_111002 := n0_; have BK103 := n1_; have BK104 := n2_; have BK110 := n3_; have HB := n4_; clear n0_ n1_ n2_ n3_ n4_; (try (obtain ⟨hy28_, hz28_⟩ := Kd.Ct false HO_111002.out (x8_1 : Int) (of_decide_eq_true (by first | (with_reducible assumption) | assumption)) (of_decide_eq_true (by first | (with_reducible assumption) | assumption)))); (try (have HP28 := Kd.C6 HO_111002.out (x8_1 : Int) (decide ((ji20) ≤ a2)))))); refine store_event (t := 4) (p := 42) (v := ?vo_w29) (w1 := (wr.setCell ⟨go22, (x8_1 : Int).toNat, none⟩ (.bool (decide ((ji20) ≤ a2))))) ?hg ?ho ?hn ?hr ?_; (case ho => rfl); (case hg => rfl); (case hn => rfl); (case hr => first | (go_simp; done) | (go_simp; rfl)); intro w29 hw; have hg : wr.grownBy w29 (some go22) := (by rw [hw]; exact HP28.2); have hp_ : Kd.R Kd.bool 4 w29 w.heap.size (fun _ => True) (.slice (some ⟨go22, 0, none⟩) x111002_1.length co22) y114 := (by rw [hw, Ny114.out]; exact HP28.1); clear HP28; have n0_ := Aa.mk (hp_); have n1_ := Aa.mk (Bs (g := gb103) (o := .cells #[.int .i64 a0_0, .int .i64 a0_1, .slice (some ad111) l0_2.length c0_2] 24 (0, 0)) (by exact bU <| BK103.out) hg (Kd.Db HO_111002.out BK103.out (by decide))); have n2_ := Aa.mk (Bs (g := gb104) (o := .cells #[.int .i64 0, .int .i64 0, .slice none 0 0] 50 (0, 0)) (by exact bU <| BK104.out) hg (Kd.Db HO_111002.out BK104.out (by decide))); have n3_ := Aa.mk (Bs (g := gb110) (o := .cells #[.int .i64 t105, .int .i64 t106, .slice (some ⟨go22, 0, none⟩) x111002_1.length co22] 50 (0, 0)) (by exact bU <| BK110.out) hg (Kd.Db HO_111002.out BK110.out (by decide))); have n4_ := Aa.mk ((by rw [hw]; exact Af (HB.out) GB22.out : Below w.heap.size w w29)); clear HO_111002; clear BK103; clear BK104; clear BK110; clear HB; have HO_111002 := n0_; have BK103 := n1_; have BK104 := n2_; have BK110 := n3_; have HB := n4_; clear n0_ n1_ n2_ n3_ n4_; clear hg hw hp_)))
        go_roundg k1
        case measure => have := HK1.out; omega
        case rel => exact ⟨(wrap64 (x8_1 + 1)), (y114), (.slice (some ⟨go22, 0, none⟩) x111002_1.length co22), (by first | rfl | (simp; done) | (simp [*]; done)), H', ⟨by have := HK1.out; omega⟩, ⟨by exact rU <| HO_111002.out⟩, ⟨by exact bU <| BK103.out⟩, ⟨by exact bU <| BK104.out⟩, ⟨by exact bU <| BK110.out⟩, ⟨by repeat (first | (with_reducible first | exact HB.out | apply Ad | apply Ac | apply Ah | refine Af ?_ GE103.out | refine Af ?_ GE104.out | refine Af ?_ GE110.out) | exact HB.out)⟩⟩
       ·rw [if_neg c21] at H
        exact absurd H (by simp)
      ·rw [if_neg c18] at H
       exact absurd H (by simp)
     ·rw [if_neg c17] at H
      exact absurd H (by simp)
    ·rw [if_neg c16] at H
     exact absurd H (by simp)
   ·rw [if_neg c15] at H
    have c15b0 : decide (x8_1 < (l0_2.length : Int)) = false := decide_eq_false c15
    clear c15
    simp only [Option.some.injEq, Prod.mk.injEq] at H
    obtain ⟨rfl, rfl, rfl⟩ := H
    have hnb30 := NB103_104.out
    have hnc30 := NB104_103.out
    have hnb31 := NB103_110.out
    have hnc31 := NB110_103.out
    have hcz32_0 : wr.cell? ⟨gb103, 0, none⟩ = some (.int .i64 a0_0) := (Ae BK103.out 0).trans rfl
    have hcz32_1 : wr.cell? ⟨gb103, 1, none⟩ = some (.int .i64 a0_1) := (Ae BK103.out 1).trans rfl
    have hcz32_2 : wr.cell? ⟨gb103, 2, none⟩ = some (.slice A0_2 l0_2.length c0_2) := (Ae BK103.out 2).trans rfl
    have hfz32_0 := Ag BK103.out 0
    have hfz32_1 := Ag BK103.out 1
    have hfz32_2 := Ag BK103.out 2
    have hnb33 := NB110_104.out
    have hnc33 := NB104_110.out
    have hcz34_0 : wr.cell? ⟨gb110, 0, none⟩ = some (.int .i64 t105) := (Ae BK110.out 0).trans rfl
    have hcz34_1 : wr.cell? ⟨gb110, 1, none⟩ = some (.int .i64 t106) := (Ae BK110.out 1).trans rfl
    have hcz34_2 : wr.cell? ⟨gb110, 2, none⟩ = some (u111002) := (Ae BK110.out 2).trans rfl
    have hfz34_0 := Ag BK110.out 0
    have hfz34_1 := Ag BK110.out 1
    have hfz34_2 := Ag BK110.out 2
    have hcz35_0 : wr.cell? ⟨gb104, 0, none⟩ = some (.int .i64 0) := (Ae BK104.out 0).trans rfl
    have hcz35_1 : wr.cell? ⟨gb104, 1, none⟩ = some (.int .i64 0) := (Ae BK104.out 1).trans rfl
    have hcz35_2 : wr.cell? ⟨gb104, 2, none⟩ = some (.slice none 0 0) := (Ae BK104.out 2).trans rfl
    have hfz35_0 := Ag BK104.out 0
    have hfz35_1 := Ag BK104.out 1
    have hfz35_2 := Ag BK104.out 2
    obtain ⟨Ao36, co36, eo36⟩ := Kd.Bz HO_111002.out
    subst eo36
    go_wp2
    repeat (go_quiet (fail); try go_wp2)
    refine bodyPost_ret (results_cell_row rfl _ _ gb104 50 #[.int .i64 t105, .int .i64 t106, .slice Ao36 x111002_1.length co36] (0, 0) _ rfl (by (with_reducible repeat (first | refine As ?_ _ | refine At ?_ | refine Aj ?_ _)); refine Bd (cs := #[.int .i64 t105, .int .i64 t106, .slice none 0 0]) ?_ 2 _ rfl; (with_reducible repeat (first | refine As ?_ _ | refine At ?_ | refine Aj ?_ _)); refine Bd (cs := #[.int .i64 t105, .int .i64 0, .slice none 0 0]) ?_ 1 _ rfl; (with_reducible repeat (first | refine As ?_ _ | refine At ?_ | refine Aj ?_ _)); refine Bd (cs := #[.int .i64 0, .int .i64 0, .slice none 0 0]) ?_ 0 _ rfl; exact bU <| BK104.out) Try.underlying50 rfl (by kernel_rfl)) rfl ?_
    exact ⟨_, by first | rfl | (simp [Az, Ba] <;> rfl) | (simp [*, Az, Ba] <;> rfl), by exact rU <| Kd.Bj (Kd.Be (p := ⟨gb104, 2, none⟩) (Kd.Be (p := ⟨gb104, 1, none⟩) (Kd.Be (p := ⟨gb104, 0, none⟩) (Kd.B4 HO_111002.out BK104.out (by decide)) (fun _ hk => hk.2) (.int .i64 t105)) (fun _ hk => hk.2) (.int .i64 t106)) (fun _ hk => hk.2) (.slice Ao36 x111002_1.length co36)) (fun _ hk => trivial), by repeat (first | (with_reducible first | exact HB.out | apply Ad | apply Ac | apply Ah | refine Af ?_ GE103.out | refine Af ?_ GE104.out | refine Af ?_ GE110.out) | exact HB.out)⟩

def Cw.f (a0 : Int) (a1 : Int) : Option (Bool) := if a0 ≥ 1 then (if a0 ≤ 1024 then (if a1 ≥ 1 then (if a1 ≤ 1024 then (some (decide ((wrap64 (a0 * a1)) ≤ 65536))) else (some false)) else (some false)) else (some false)) else (some false)
set_option maxHeartbeats 8000000 in
set_option maxRecDepth 100000 in
theorem Cw.calls (a0 : Int) (a1 : Int) (r : Bool) (w : World) (h : Cw.f a0 a1 = some r) :
  Calls Try.prog 90 #[.int .i64 a0, .int .i64 a1] w fun e w' => e = .returned (.bool r) ∧ Drawn0 w w' := by
 have H : (if a0 ≥ 1 then (if a0 ≤ 1024 then (if a1 ≥ 1 then (if a1 ≤ 1024 then (some (decide ((wrap64 (a0 * a1)) ≤ 65536))) else (some false)) else (some false)) else (some false)) else (some false)) = some r := h
 clear h
 by_cases c3 : a0 ≥ 1
 ·rw [if_pos c3] at H
  have c3b0 : decide (1 ≤ a0) = true := decide_eq_true c3
  clear c3
  by_cases c4 : a0 ≤ 1024
  ·rw [if_pos c4] at H
   have c4b0 : decide (a0 ≤ 1024) = true := decide_eq_true c4
   clear c4
   by_cases c5 : a1 ≥ 1
   ·rw [if_pos c5] at H
    have c5b0 : decide (1 ≤ a1) = true := decide_eq_true c5
    clear c5
    by_cases c6 : a1 ≤ 1024
    ·rw [if_pos c6] at H
     have c6b0 : decide (a1 ≤ 1024) = true := decide_eq_true c6
     clear c6
     obtain rfl := Option.some.inj H
     go_enter Try.func90, Try.ntmps90
     go_wp2
     go_ret
     exact ⟨by first | rfl | (simp; done) | (simp [*]; done), by repeat (first | exact Drawn0.refl _ | apply Drawn0.step)⟩
    ·rw [if_neg c6] at H
     have c6b0 : decide (a1 ≤ 1024) = false := decide_eq_false c6
     clear c6
     obtain rfl := Option.some.inj H
     go_enter Try.func90, Try.ntmps90
     go_wp2
     go_ret
     exact ⟨by first | rfl | (simp; done) | (simp [*]; done), by repeat (first | exact Drawn0.refl _ | apply Drawn0.step)⟩
   ·rw [if_neg c5] at H
    have c5b0 : decide (1 ≤ a1) = false := decide_eq_false c5
    clear c5
    obtain rfl := Option.some.inj H
    go_enter Try.func90, Try.ntmps90
    go_wp2
    go_ret
    exact ⟨by first | rfl | (simp; done) | (simp [*]; done), by repeat (first | exact Drawn0.refl _ | apply Drawn0.step)⟩
  ·rw [if_neg c4] at H
   have c4b0 : decide (a0 ≤ 1024) = false := decide_eq_false c4
   clear c4
   obtain rfl := Option.some.inj H
   go_enter Try.func90, Try.ntmps90
   go_wp2
   go_ret
   exact ⟨by first | rfl | (simp; done) | (simp [*]; done), by repeat (first | exact Drawn0.refl _ | apply Drawn0.step)⟩
 ·rw [if_neg c3] at H
  have c3b0 : decide (1 ≤ a0) = false := decide_eq_false c3
  clear c3
  obtain rfl := Option.some.inj H
  go_enter Try.func90, Try.ntmps90
  go_wp2
  go_ret
  exact ⟨by first | rfl | (simp; done) | (simp [*]; done), by repeat (first | exact Drawn0.refl _ | apply Drawn0.step)⟩

def Ci.f (a0_0 : Int) (a0_1 : Int) (l0_2 : List Int) : Option (Int) := (Cw.f a0_0 a0_1).bind fun t116 => (if t116 = true then (if (l0_2.length : Int) = (wrap64 (a0_0 * a0_1)) then (some 0) else (some 51)) else (some 50))
set_option maxHeartbeats 8000000 in
set_option maxRecDepth 100000 in
theorem Ci.calls (a0_0 : Int) (a0_1 : Int) (A0_2 : Option Addr) (c0_2 : Nat) (l0_2 : List Int) (r : Int) (w : World) (hr0_2 : Kd.C (Kd.int .u32) w A0_2 l0_2.length l0_2) (hc0_2 : l0_2.length ≤ c0_2) (h : Ci.f a0_0 a0_1 l0_2 = some r) :
  Calls Try.prog 62 #[.agg #[.int .i64 a0_0, .int .i64 a0_1, .slice A0_2 l0_2.length c0_2]] w fun e w' => e = .returned (.int .i64 r) ∧ Below w.heap.size w w' := by
 have hu24 := Try.underlying24
 have HR0_2 := Aa.mk hr0_2
 have HC0_2 := Aa.mk hc0_2
 clear hr0_2 hc0_2
 have HB := Aa.mk (Below.refl w.heap.size w)
 have H : ((Cw.f a0_0 a0_1).bind fun t116 => (if t116 = true then (if (l0_2.length : Int) = (wrap64 (a0_0 * a0_1)) then (some 0) else (some 51)) else (some 50))) = some r := h
 clear h
 replace H := Option.bind_eq_some_iff.mp H
 obtain ⟨t116, A20, H⟩ := H
 replace H : (if t116 = true then (if (l0_2.length : Int) = (wrap64 (a0_0 * a0_1)) then (some 0) else (some 51)) else (some 50)) = some r := H
 have A2 := Aa.mk A20
 clear A20
 by_cases c3 : t116 = true
 ·subst c3
  have H1 : (if (l0_2.length : Int) = (wrap64 (a0_0 * a0_1)) then (some 0) else (some 51)) = some r := by rw [if_pos rfl] at H; exact H
  clear H
  have H := H1
  clear H1
  by_cases c4 : (l0_2.length : Int) = (wrap64 (a0_0 * a0_1))
  ·rw [if_pos c4] at H
   have c4b0 : ((l0_2.length : Int) == (wrap64 (a0_0 * a0_1))) = true := beq_iff_eq.mpr c4
   have c4b1 : ((l0_2.length : Int) != (wrap64 (a0_0 * a0_1))) = false := bne_eq_false_iff_eq.mpr c4
   clear c4
   obtain rfl := Option.some.inj H
   go_enter Try.func62, Try.ntmps62
   go_wp2_with (first | ((with_reducible refine Bk (N := 1) rfl ?_); refine Bp ?hg (N := 1) ?hd (cs := #[.int .i64 a0_0, .int .i64 a0_1, .slice A0_2 l0_2.length c0_2]) (t := 24) ?hr ?_; (case hd => rfl); (case hg => rfl); (case hr => first | (go_simp; done) | (go_simp; rfl)); intro gb115 hg w5 hbox hb; have n0_ := Aa.mk (Ar (lU HB.out) hb); have n1_ := Aa.mk (hbox); have n2_ := Aa.mk ((by rw [hg]; exact (Ak (lU HB.out)) : w.heap.size ≤ gb115)); have n3_ := Aa.mk ((by rw [hg]; exact (Ak (lU HB.out)) : w.heap.size ≤ gb115)); clear HB; have HB := n0_; have BK115 := n1_; have GW115 := n2_; have GE115 := n3_; clear n0_ n1_ n2_ n3_; clear hb hbox hg; have hcz6_0 : w5.cell? ⟨gb115, 0, none⟩ = some (.int .i64 a0_0) := (Ae BK115.out 0).trans rfl; have hcz6_1 : w5.cell? ⟨gb115, 1, none⟩ = some (.int .i64 a0_1) := (Ae BK115.out 1).trans rfl; have hcz6_2 : w5.cell? ⟨gb115, 2, none⟩ = some (.slice A0_2 l0_2.length c0_2) := (Ae BK115.out 2).trans rfl; have hfz6_0 := Ag BK115.out 0; have hfz6_1 := Ag BK115.out 1; have hfz6_2 := Ag BK115.out 2) | ((with_reducible refine Bn (f := 90) rfl ?_); refine Ca (some 7) rfl rfl Try.func90 (by kernel_rfl) rfl #[.int .i64 a0_0, .int .i64 a0_1] rfl (by (try simp only [List.map_toArray, List.map_cons, List.map_nil]); first | done | rfl | (simp only [List.length_drop, List.length_take]; rfl)) ?_; (with_reducible refine (Cw.calls a0_0 a0_1 true _ A2.out).mono ?_); rintro e w' ⟨rfl, ⟨nd, rfl⟩⟩; refine ⟨_, rfl, ?_⟩))
   go_ret
   exact ⟨by first | rfl | (simp [Az, Ba] <;> rfl) | (simp [*, Az, Ba] <;> rfl), by repeat (first | (with_reducible first | exact HB.out | apply Ad | apply Ac | apply Ah | refine Af ?_ GE115.out) | exact HB.out)⟩
  ·rw [if_neg c4] at H
   have c4b0 : ((l0_2.length : Int) == (wrap64 (a0_0 * a0_1))) = false := beq_eq_false_iff_ne.mpr c4
   have c4b1 : ((l0_2.length : Int) != (wrap64 (a0_0 * a0_1))) = true := bne_iff_ne.mpr c4
   obtain rfl := Option.some.inj H
   go_enter Try.func62, Try.ntmps62
   go_wp2_with (first | ((with_reducible refine Bk (N := 1) rfl ?_); refine Bp ?hg (N := 1) ?hd (cs := #[.int .i64 a0_0, .int .i64 a0_1, .slice A0_2 l0_2.length c0_2]) (t := 24) ?hr ?_; (case hd => rfl); (case hg => rfl); (case hr => first | (go_simp; done) | (go_simp; rfl)); intro gb115 hg w7 hbox hb; have n0_ := Aa.mk (Ar (lU HB.out) hb); have n1_ := Aa.mk (hbox); have n2_ := Aa.mk ((by rw [hg]; exact (Ak (lU HB.out)) : w.heap.size ≤ gb115)); have n3_ := Aa.mk ((by rw [hg]; exact (Ak (lU HB.out)) : w.heap.size ≤ gb115)); clear HB; have HB := n0_; have BK115 := n1_; have GW115 := n2_; have GE115 := n3_; clear n0_ n1_ n2_ n3_; clear hb hbox hg; have hcz8_0 : w7.cell? ⟨gb115, 0, none⟩ = some (.int .i64 a0_0) := (Ae BK115.out 0).trans rfl; have hcz8_1 : w7.cell? ⟨gb115, 1, none⟩ = some (.int .i64 a0_1) := (Ae BK115.out 1).trans rfl; have hcz8_2 : w7.cell? ⟨gb115, 2, none⟩ = some (.slice A0_2 l0_2.length c0_2) := (Ae BK115.out 2).trans rfl; have hfz8_0 := Ag BK115.out 0; have hfz8_1 := Ag BK115.out 1; have hfz8_2 := Ag BK115.out 2) | ((with_reducible refine Bn (f := 90) rfl ?_); refine Ca (some 7) rfl rfl Try.func90 (by kernel_rfl) rfl #[.int .i64 a0_0, .int .i64 a0_1] rfl (by (try simp only [List.map_toArray, List.map_cons, List.map_nil]); first | done | rfl | (simp only [List.length_drop, List.length_take]; rfl)) ?_; (with_reducible refine (Cw.calls a0_0 a0_1 true _ A2.out).mono ?_); rintro e w' ⟨rfl, ⟨nd, rfl⟩⟩; refine ⟨_, rfl, ?_⟩))
   go_ret
   exact ⟨by first | rfl | (simp [Az, Ba] <;> rfl) | (simp [*, Az, Ba] <;> rfl), by repeat (first | (with_reducible first | exact HB.out | apply Ad | apply Ac | apply Ah | refine Af ?_ GE115.out) | exact HB.out)⟩
 ·replace c3 := Bool.eq_false_iff.mpr c3
  subst c3
  have H1 : (some 50) = some r := by rw [if_neg (show ¬ (false = true) by decide)] at H; exact H
  clear H
  have H := H1
  clear H1
  obtain rfl := Option.some.inj H
  go_enter Try.func62, Try.ntmps62
  go_wp2_with (first | ((with_reducible refine Bk (N := 1) rfl ?_); refine Bp ?hg (N := 1) ?hd (cs := #[.int .i64 a0_0, .int .i64 a0_1, .slice A0_2 l0_2.length c0_2]) (t := 24) ?hr ?_; (case hd => rfl); (case hg => rfl); (case hr => first | (go_simp; done) | (go_simp; rfl)); intro gb115 hg w9 hbox hb; have n0_ := Aa.mk (Ar (lU HB.out) hb); have n1_ := Aa.mk (hbox); have n2_ := Aa.mk ((by rw [hg]; exact (Ak (lU HB.out)) : w.heap.size ≤ gb115)); have n3_ := Aa.mk ((by rw [hg]; exact (Ak (lU HB.out)) : w.heap.size ≤ gb115)); clear HB; have HB := n0_; have BK115 := n1_; have GW115 := n2_; have GE115 := n3_; clear n0_ n1_ n2_ n3_; clear hb hbox hg; have hcz10_0 : w9.cell? ⟨gb115, 0, none⟩ = some (.int .i64 a0_0) := (Ae BK115.out 0).trans rfl; have hcz10_1 : w9.cell? ⟨gb115, 1, none⟩ = some (.int .i64 a0_1) := (Ae BK115.out 1).trans rfl; have hcz10_2 : w9.cell? ⟨gb115, 2, none⟩ = some (.slice A0_2 l0_2.length c0_2) := (Ae BK115.out 2).trans rfl; have hfz10_0 := Ag BK115.out 0; have hfz10_1 := Ag BK115.out 1; have hfz10_2 := Ag BK115.out 2) | ((with_reducible refine Bn (f := 90) rfl ?_); refine Ca (some 7) rfl rfl Try.func90 (by kernel_rfl) rfl #[.int .i64 a0_0, .int .i64 a0_1] rfl (by (try simp only [List.map_toArray, List.map_cons, List.map_nil]); first | done | rfl | (simp only [List.length_drop, List.length_take]; rfl)) ?_; (with_reducible refine (Cw.calls a0_0 a0_1 false _ A2.out).mono ?_); rintro e w' ⟨rfl, ⟨nd, rfl⟩⟩; refine ⟨_, rfl, ?_⟩))
  go_ret
  exact ⟨by first | rfl | (simp [Az, Ba] <;> rfl) | (simp [*, Az, Ba] <;> rfl), by repeat (first | (with_reducible first | exact HB.out | apply Ad | apply Ac | apply Ah | refine Af ?_ GE115.out) | exact HB.out)⟩

def Cg.f (a0 : Int) : Option (Bool) := if a0 = 4 then (some true) else (some (a0 == 8))
set_option maxHeartbeats 8000000 in
set_option maxRecDepth 100000 in
theorem Cg.calls (a0 : Int) (r : Bool) (w : World) (h : Cg.f a0 = some r) :
  Calls Try.prog 63 #[.int .i64 a0] w fun e w' => e = .returned (.bool r) ∧ Drawn0 w w' := by
 have H : (if a0 = 4 then (some true) else (some (a0 == 8))) = some r := h
 clear h
 by_cases c2 : a0 = 4
 ·rw [if_pos c2] at H
  have c2b0 : (a0 == 4) = true := beq_iff_eq.mpr c2
  have c2b1 : (a0 != 4) = false := bne_eq_false_iff_eq.mpr c2
  clear c2
  obtain rfl := Option.some.inj H
  go_enter Try.func63, Try.ntmps63
  go_wp2
  go_ret
  exact ⟨by first | rfl | (simp; done) | (simp [*]; done), by repeat (first | exact Drawn0.refl _ | apply Drawn0.step)⟩
 ·rw [if_neg c2] at H
  have c2b0 : (a0 == 4) = false := beq_eq_false_iff_ne.mpr c2
  have c2b1 : (a0 != 4) = true := bne_iff_ne.mpr c2
  obtain rfl := Option.some.inj H
  go_enter Try.func63, Try.ntmps63
  go_wp2
  go_ret
  exact ⟨by first | rfl | (simp; done) | (simp [*]; done), by repeat (first | exact Drawn0.refl _ | apply Drawn0.step)⟩

def Ay.j0 : Nat → Int → Int → Int → Int → Bool → Int → Int → List Int → Option (List Int × List Int × Int)
 | 0, _, _, _, _, _, _, _, _ => none
 | k + 1, x1, x2, x3, x4, x42, x118000, x118001, x118002 => if x42 = true then (some (([] : List Int), ([] : List Int), 303)) else (if x3 < 0 then (some (([] : List Int), ([] : List Int), 304)) else ((Bv.f k x118000 x118001 x118002 (wrap64 ((wrap64 (x2 * x118000)) + x1)) x3).bind fun bt120 => ((Ao.f k bt120.1 bt120.2.1 bt120.2.2 (([wrap64 ((wrap64 (x2 * x118000)) + x1)] : List Int)) x4).bind fun bt128 => (some (bt128.1, bt128.2, 0)))))
def Ay.f (k : Nat) (a0_0 : Int) (a0_1 : Int) (l0_2 : List Int) (a1 : Int) (a2 : Int) (a3 : Int) (a4 : Int) : Option (List Int × List Int × Int) := (Ci.f a0_0 a0_1 l0_2).bind fun t118 => (if t118 = 0 then ((Cg.f a4).bind fun t119 => (if t119 = true then (if a1 < 0 then (Ay.j0 k a1 a2 a3 a4 true a0_0 a0_1 l0_2) else (if a1 ≥ a0_0 then (Ay.j0 k a1 a2 a3 a4 true a0_0 a0_1 l0_2) else (if a2 < 0 then (Ay.j0 k a1 a2 a3 a4 true a0_0 a0_1 l0_2) else (Ay.j0 k a1 a2 a3 a4 (decide (a2 ≥ a0_1)) a0_0 a0_1 l0_2)))) else (some (([] : List Int), ([] : List Int), 302)))) else (some (([] : List Int), ([] : List Int), t118)))
set_option maxHeartbeats 8000000 in
set_option maxRecDepth 100000 in
theorem Ay.calls (k : Nat) (a0_0 : Int) (a0_1 : Int) (A0_2 : Option Addr) (c0_2 : Nat) (l0_2 : List Int) (a1 : Int) (a2 : Int) (a3 : Int) (a4 : Int) (r1 : List Int) (r2 : List Int) (r3 : Int) (w : World) (hr0_2 : Kd.C (Kd.int .u32) w A0_2 l0_2.length l0_2) (hc0_2 : l0_2.length ≤ c0_2) (h : Ay.f k a0_0 a0_1 l0_2 a1 a2 a3 a4 = some (r1, r2, r3)) :
  Calls Try.prog 15 #[.agg #[.int .i64 a0_0, .int .i64 a0_1, .slice A0_2 l0_2.length c0_2], .int .i64 a1, .int .i64 a2, .int .i64 a3, .int .i64 a4] w fun e w' => ∃ v0_ v1_ : Value, e = .returned (.tuple #[v0_, v1_, .int .i64 r3]) ∧ Kd.R (Kd.int .i64) 3 w' w.heap.size (fun k_ => some k_ ≠ (v1_ : Value).ownBlock) v0_ r1 ∧ Kd.R (Kd.int .i64) 3 w' w.heap.size (fun k_ => some k_ ≠ (v0_ : Value).ownBlock) v1_ r2 ∧ Below w.heap.size w w' := by
 have hu24 := Try.underlying24
 have HR0_2 := Aa.mk hr0_2
 have HC0_2 := Aa.mk hc0_2
 clear hr0_2 hc0_2
 have HB := Aa.mk (Below.refl w.heap.size w)
 have H : ((Ci.f a0_0 a0_1 l0_2).bind fun t118 => (if t118 = 0 then ((Cg.f a4).bind fun t119 => (if t119 = true then (if a1 < 0 then (Ay.j0 k a1 a2 a3 a4 true a0_0 a0_1 l0_2) else (if a1 ≥ a0_0 then (Ay.j0 k a1 a2 a3 a4 true a0_0 a0_1 l0_2) else (if a2 < 0 then (Ay.j0 k a1 a2 a3 a4 true a0_0 a0_1 l0_2) else (Ay.j0 k a1 a2 a3 a4 (decide (a2 ≥ a0_1)) a0_0 a0_1 l0_2)))) else (some (([] : List Int), ([] : List Int), 302)))) else (some (([] : List Int), ([] : List Int), t118)))) = some (r1, r2, r3) := h
 clear h
 replace H := Option.bind_eq_some_iff.mp H
 obtain ⟨t118, A60, H⟩ := H
 replace H : (if t118 = 0 then ((Cg.f a4).bind fun t119 => (if t119 = true then (if a1 < 0 then (Ay.j0 k a1 a2 a3 a4 true a0_0 a0_1 l0_2) else (if a1 ≥ a0_0 then (Ay.j0 k a1 a2 a3 a4 true a0_0 a0_1 l0_2) else (if a2 < 0 then (Ay.j0 k a1 a2 a3 a4 true a0_0 a0_1 l0_2) else (Ay.j0 k a1 a2 a3 a4 (decide (a2 ≥ a0_1)) a0_0 a0_1 l0_2)))) else (some (([] : List Int), ([] : List Int), 302)))) else (some (([] : List Int), ([] : List Int), t118))) = some (r1, r2, r3) := H
 have A6 := Aa.mk A60
 clear A60
 by_cases c7 : t118 = 0
 ·rw [if_pos c7] at H
  have c7b0 : (t118 == 0) = true := beq_iff_eq.mpr c7
  have c7b1 : (t118 != 0) = false := bne_eq_false_iff_eq.mpr c7
  clear c7
  replace H := Option.bind_eq_some_iff.mp H
  obtain ⟨t119, A80, H⟩ := H
  replace H : (if t119 = true then (if a1 < 0 then (Ay.j0 k a1 a2 a3 a4 true a0_0 a0_1 l0_2) else (if a1 ≥ a0_0 then (Ay.j0 k a1 a2 a3 a4 true a0_0 a0_1 l0_2) else (if a2 < 0 then (Ay.j0 k a1 a2 a3 a4 true a0_0 a0_1 l0_2) else (Ay.j0 k a1 a2 a3 a4 (decide (a2 ≥ a0_1)) a0_0 a0_1 l0_2)))) else (some (([] : List Int), ([] : List Int), 302))) = some (r1, r2, r3) := H
  have A8 := Aa.mk A80
  clear A80
  by_cases c9 : t119 = true
  ·subst c9
   have H1 : (if a1 < 0 then (Ay.j0 k a1 a2 a3 a4 true a0_0 a0_1 l0_2) else (if a1 ≥ a0_0 then (Ay.j0 k a1 a2 a3 a4 true a0_0 a0_1 l0_2) else (if a2 < 0 then (Ay.j0 k a1 a2 a3 a4 true a0_0 a0_1 l0_2) else (Ay.j0 k a1 a2 a3 a4 (decide (a2 ≥ a0_1)) a0_0 a0_1 l0_2)))) = some (r1, r2, r3) := by rw [if_pos rfl] at H; exact H
   clear H
   have H := H1
   clear H1
   have HC10 := Aa.mk H
   clear H
   go_enter Try.func15, Try.ntmps15
   go_upto_region 6 with (first | ((with_reducible refine Bk (N := 5) rfl ?_); refine Bp ?hg (N := 5) ?hd (cs := #[.int .i64 a0_0, .int .i64 a0_1, .slice A0_2 l0_2.length c0_2]) (t := 24) ?hr ?_; (case hd => rfl); (case hg => rfl); (case hr => first | (go_simp; done) | (go_simp; rfl)); intro gb117 hg w11 hbox hb; have n0_ := Aa.mk (Ar (lU HB.out) hb); have n1_ := Aa.mk (hbox); have n2_ := Aa.mk ((by rw [hg]; exact (Ak (lU HB.out)) : w.heap.size ≤ gb117)); have n3_ := Aa.mk ((by rw [hg]; exact (Ak (lU HB.out)) : w.heap.size ≤ gb117)); clear HB; have HB := n0_; have BK117 := n1_; have GW117 := n2_; have GE117 := n3_; clear n0_ n1_ n2_ n3_; clear hb hbox hg; have hcz12_0 : w11.cell? ⟨gb117, 0, none⟩ = some (.int .i64 a0_0) := (Ae BK117.out 0).trans rfl; have hcz12_1 : w11.cell? ⟨gb117, 1, none⟩ = some (.int .i64 a0_1) := (Ae BK117.out 1).trans rfl; have hcz12_2 : w11.cell? ⟨gb117, 2, none⟩ = some (.slice A0_2 l0_2.length c0_2) := (Ae BK117.out 2).trans rfl; have hfz12_0 := Ag BK117.out 0; have hfz12_1 := Ag BK117.out 1; have hfz12_2 := Ag BK117.out 2) | ((with_reducible refine Bn (f := 62) rfl ?_); refine Ca (some 18) rfl rfl Try.func62 (by kernel_rfl) rfl #[.agg #[.int .i64 a0_0, .int .i64 a0_1, .slice A0_2 l0_2.length c0_2]] rfl (by (try simp only [List.map_toArray, List.map_cons, List.map_nil]); first | done | rfl | (simp only [List.length_drop, List.length_take]; rfl)) ?_; (with_reducible refine (Ci.calls a0_0 a0_1 _ _ l0_2 t118 _ ?side1 ?side2 A6.out).mono ?_); (case side1 => repeat (first | exact (Kd.Ce HR0_2.out HB.out) | (with_reducible refine Kd.Bt ?_ _) | (with_reducible refine Kd.B3 ?_ _) | (with_reducible refine Kd.B8 ?_))); (case side2 => exact HC0_2.out); rintro e w13 ⟨rfl, hb⟩; refine ⟨_, rfl, ?_⟩; have n0_ := Aa.mk (An (g := gb117) (o := .cells #[.int .i64 a0_0, .int .i64 a0_1, .slice A0_2 l0_2.length c0_2] 24 (0, 0)) (by exact bU <| BK117.out) hb); have n1_ := Aa.mk (Ar (by repeat (first | (with_reducible first | exact HB.out | apply Ad | apply Ac | apply Ah | refine Af ?_ GE117.out) | exact HB.out)) hb); clear BK117; clear HB; have BK117 := n0_; have HB := n1_; clear n0_ n1_; (try clear hb); (try clear hb2); (try clear hk); (try clear hi)) | ((with_reducible refine Bn (f := 63) rfl ?_); refine Ca (some 23) rfl rfl Try.func63 (by kernel_rfl) rfl #[.int .i64 a4] rfl (by (try simp only [List.map_toArray, List.map_cons, List.map_nil]); first | done | rfl | (simp only [List.length_drop, List.length_take]; rfl)) ?_; (with_reducible refine (Cg.calls a4 true _ A8.out).mono ?_); rintro e w' ⟨rfl, ⟨nd, rfl⟩⟩; refine ⟨_, rfl, ?_⟩))
   (try simp only [Act.put, sA, sB, sC])
   go_cut [42] (fun v42 wc => ∃ (kq : Nat) (x42_9 : Bool), v42 = .bool x42_9 ∧ Aa (Ay.j0 kq a1 a2 a3 a4 x42_9 a0_0 a0_1 l0_2 = some (r1, r2, r3)) ∧ Aa (kq ≤ k) ∧ Aa (wc.heap[gb117]? = some (.cells #[.int .i64 a0_0, .int .i64 a0_1, (.slice A0_2 l0_2.length c0_2)] 24 (0, 0))) ∧ Aa (Below w.heap.size w wc))
   case first =>
    have H := HC10.out
    clear HC10
    by_cases c14 : a1 < 0
    ·rw [if_pos c14] at H
     have c14b0 : decide (a1 < 0) = true := decide_eq_true c14
     clear c14
     (first | rw [c14b0] | (simp only [i64_w, i32_w]; rw [c14b0]) | skip)
     have H' := Aa.mk H
     clear H
     go_wp2
     go_meet
     case rel => exact ⟨_, (true), (by first | rfl | (simp; done) | (simp [*]; done)), H', ⟨by first | omega | exact Nat.le_refl _⟩, ⟨by exact bU <| BK117.out⟩, ⟨by repeat (first | (with_reducible first | exact HB.out | apply Ad | apply Ac | apply Ah | refine Af ?_ GE117.out) | exact HB.out)⟩⟩
    ·rw [if_neg c14] at H
     have c14b0 : decide (a1 < 0) = false := decide_eq_false c14
     clear c14
     (first | rw [c14b0] | (simp only [i64_w, i32_w]; rw [c14b0]) | skip)
     by_cases c15 : a1 ≥ a0_0
     ·rw [if_pos c15] at H
      have c15b0 : decide (a0_0 ≤ a1) = true := decide_eq_true c15
      clear c15
      have H' := Aa.mk H
      clear H
      have hcz16_0 : w13.cell? ⟨gb117, 0, none⟩ = some (.int .i64 a0_0) := (Ae BK117.out 0).trans rfl
      have hcz16_1 : w13.cell? ⟨gb117, 1, none⟩ = some (.int .i64 a0_1) := (Ae BK117.out 1).trans rfl
      have hcz16_2 : w13.cell? ⟨gb117, 2, none⟩ = some (.slice A0_2 l0_2.length c0_2) := (Ae BK117.out 2).trans rfl
      have hfz16_0 := Ag BK117.out 0
      have hfz16_1 := Ag BK117.out 1
      have hfz16_2 := Ag BK117.out 2
      go_wp2
      go_meet
      case rel => exact ⟨_, (true), (by first | rfl | (simp; done) | (simp [*]; done)), H', ⟨by first | omega | exact Nat.le_refl _⟩, ⟨by exact bU <| BK117.out⟩, ⟨by repeat (first | (with_reducible first | exact HB.out | apply Ad | apply Ac | apply Ah | refine Af ?_ GE117.out) | exact HB.out)⟩⟩
     ·rw [if_neg c15] at H
      have c15b0 : decide (a0_0 ≤ a1) = false := decide_eq_false c15
      clear c15
      by_cases c17 : a2 < 0
      ·rw [if_pos c17] at H
       have c17b0 : decide (a2 < 0) = true := decide_eq_true c17
       clear c17
       have H' := Aa.mk H
       clear H
       have hcz18_0 : w13.cell? ⟨gb117, 0, none⟩ = some (.int .i64 a0_0) := (Ae BK117.out 0).trans rfl
       have hcz18_1 : w13.cell? ⟨gb117, 1, none⟩ = some (.int .i64 a0_1) := (Ae BK117.out 1).trans rfl
       have hcz18_2 : w13.cell? ⟨gb117, 2, none⟩ = some (.slice A0_2 l0_2.length c0_2) := (Ae BK117.out 2).trans rfl
       have hfz18_0 := Ag BK117.out 0
       have hfz18_1 := Ag BK117.out 1
       have hfz18_2 := Ag BK117.out 2
       go_wp2
       go_meet
       case rel => exact ⟨_, (true), (by first | rfl | (simp; done) | (simp [*]; done)), H', ⟨by first | omega | exact Nat.le_refl _⟩, ⟨by exact bU <| BK117.out⟩, ⟨by repeat (first | (with_reducible first | exact HB.out | apply Ad | apply Ac | apply Ah | refine Af ?_ GE117.out) | exact HB.out)⟩⟩
      ·rw [if_neg c17] at H
       have c17b0 : decide (a2 < 0) = false := decide_eq_false c17
       clear c17
       have H' := Aa.mk H
       clear H
       have hcz19_0 : w13.cell? ⟨gb117, 0, none⟩ = some (.int .i64 a0_0) := (Ae BK117.out 0).trans rfl
       have hcz19_1 : w13.cell? ⟨gb117, 1, none⟩ = some (.int .i64 a0_1) := (Ae BK117.out 1).trans rfl
       have hcz19_2 : w13.cell? ⟨gb117, 2, none⟩ = some (.slice A0_2 l0_2.length c0_2) := (Ae BK117.out 2).trans rfl
       have hfz19_0 := Ag BK117.out 0
       have hfz19_1 := Ag BK117.out 1
       have hfz19_2 := Ag BK117.out 2
       go_wp2
       go_meet
       case rel => exact ⟨_, (decide (a2 ≥ a0_1)), (by first | rfl | (simp; done) | (simp [*]; done)), H', ⟨by first | omega | exact Nat.le_refl _⟩, ⟨by exact bU <| BK117.out⟩, ⟨by repeat (first | (with_reducible first | exact HB.out | apply Ad | apply Ac | apply Ah | refine Af ?_ GE117.out) | exact HB.out)⟩⟩
   case rest =>
    clear HC10
    try clear c1
    try clear p2
    try clear c6
    try clear c7
    try clear c7b0
    try clear c7b1
    try clear c9
    try clear c14
    try clear c14b0
    try clear c15
    try clear c15b0
    try clear c17
    try clear c17b0
    try clear hcz12_0
    try clear hcz12_1
    try clear hcz12_2
    try clear hcz16_0
    try clear hcz16_1
    try clear hcz16_2
    try clear hcz18_0
    try clear hcz18_1
    try clear hcz18_2
    try clear hcz19_0
    try clear hcz19_1
    try clear hcz19_2
    try clear hfz12_0
    try clear hfz12_1
    try clear hfz12_2
    try clear hfz16_0
    try clear hfz16_1
    try clear hfz16_2
    try clear hfz18_0
    try clear hfz18_1
    try clear hfz18_2
    try clear hfz19_0
    try clear hfz19_1
    try clear hfz19_2
    obtain ⟨kq, x42_9, rfl, HA, HJ9, BK117, HB⟩ := hcut
    cases kq with
    | zero => exact absurd HA.out (by simp [Ay.j0])
    | succ kj9 =>
     have H := HA.out
     clear HA
     simp only [Ay.j0] at H
     by_cases c20 : x42_9 = true
     ·subst c20
      have H1 : (some (([] : List Int), ([] : List Int), 303)) = some (r1, r2, r3) := by rw [if_pos rfl] at H; exact H
      clear H
      have H := H1
      clear H1
      simp only [Option.some.injEq, Prod.mk.injEq] at H
      obtain ⟨rfl, rfl, rfl⟩ := H
      go_wp2
      go_ret3
      exact ⟨_, _, by first | rfl | (simp [Az, Ba] <;> rfl) | (simp [*, Az, Ba] <;> rfl), by first | exact Kd.Cu _ _ _ _ _ | exact Kd.N_nil _ _ _ _ _ | exact Kd.V_nil _ _ _ _ _ | exact Kd.Q_nil _ _ _ _ _ | exact Kd.S_nil _ _ _ _ _, by first | exact Kd.Cu _ _ _ _ _ | exact Kd.N_nil _ _ _ _ _ | exact Kd.V_nil _ _ _ _ _ | exact Kd.Q_nil _ _ _ _ _ | exact Kd.S_nil _ _ _ _ _, by repeat (first | (with_reducible first | exact HB.out | apply Ad | apply Ac | apply Ah | refine Af ?_ GE117.out) | exact HB.out)⟩
     ·replace c20 := Bool.eq_false_iff.mpr c20
      subst c20
      have H1 : (if a3 < 0 then (some (([] : List Int), ([] : List Int), 304)) else ((Bv.f kj9 a0_0 a0_1 l0_2 (wrap64 ((wrap64 (a2 * a0_0)) + a1)) a3).bind fun bt120 => ((Ao.f kj9 bt120.1 bt120.2.1 bt120.2.2 (([wrap64 ((wrap64 (a2 * a0_0)) + a1)] : List Int)) a4).bind fun bt128 => (some (bt128.1, bt128.2, 0))))) = some (r1, r2, r3) := by rw [if_neg (show ¬ (false = true) by decide)] at H; exact H
      clear H
      have H := H1
      clear H1
      by_cases c21 : a3 < 0
      ·rw [if_pos c21] at H
       have c21b0 : decide (a3 < 0) = true := decide_eq_true c21
       clear c21
       simp only [Option.some.injEq, Prod.mk.injEq] at H
       obtain ⟨rfl, rfl, rfl⟩ := H
       go_wp2
       go_ret3
       exact ⟨_, _, by first | rfl | (simp [Az, Ba] <;> rfl) | (simp [*, Az, Ba] <;> rfl), by first | exact Kd.Cu _ _ _ _ _ | exact Kd.N_nil _ _ _ _ _ | exact Kd.V_nil _ _ _ _ _ | exact Kd.Q_nil _ _ _ _ _ | exact Kd.S_nil _ _ _ _ _, by first | exact Kd.Cu _ _ _ _ _ | exact Kd.N_nil _ _ _ _ _ | exact Kd.V_nil _ _ _ _ _ | exact Kd.Q_nil _ _ _ _ _ | exact Kd.S_nil _ _ _ _ _, by repeat (first | (with_reducible first | exact HB.out | apply Ad | apply Ac | apply Ah | refine Af ?_ GE117.out) | exact HB.out)⟩
      ·rw [if_neg c21] at H
       have c21b0 : decide (a3 < 0) = false := decide_eq_false c21
       clear c21
       replace H := Option.bind_eq_some_iff.mp H
       obtain ⟨⟨t120, t121, t122⟩, A220, H⟩ := H
       replace H : ((Ao.f kj9 t120 t121 t122 (([wrap64 ((wrap64 (a2 * a0_0)) + a1)] : List Int)) a4).bind fun bt128 => (some (bt128.1, bt128.2, 0))) = some (r1, r2, r3) := H
       have A22 := Aa.mk A220
       clear A220
       obtain ⟨y125, hy125⟩ : ∃ y_ : List Int, y_ = (([wrap64 ((wrap64 (a2 * a0_0)) + a1)] : List Int)) := ⟨_, rfl⟩
       replace H : ((Ao.f kj9 t120 t121 t122 y125 a4).bind fun bt128 => (some (bt128.1, bt128.2, 0))) = some (r1, r2, r3) := by first | (rw [hy125]; with_reducible exact H) | (have H2_ := (Option.bind_some _ _).symm.trans H; rw [hy125]; with_reducible exact H2_) | (have H2_ := (Option.bind_some _ _).symm.trans H; with_reducible exact H2_) | with_reducible exact H | (rw [hy125]; exact H) | exact H
       have Ny125 := Aa.mk hy125
       clear hy125
       replace H := Option.bind_eq_some_iff.mp H
       obtain ⟨⟨t128, t131⟩, A230, H⟩ := H
       replace H : (some (t128, t131, 0)) = some (r1, r2, r3) := H
       have A23 := Aa.mk A230
       clear A230
       simp only [Option.some.injEq, Prod.mk.injEq] at H
       obtain ⟨rfl, rfl, rfl⟩ := H
       have hcz24_0 : wc.cell? ⟨gb117, 0, none⟩ = some (.int .i64 a0_0) := (Ae BK117.out 0).trans rfl
       have hcz24_1 : wc.cell? ⟨gb117, 1, none⟩ = some (.int .i64 a0_1) := (Ae BK117.out 1).trans rfl
       have hcz24_2 : wc.cell? ⟨gb117, 2, none⟩ = some (.slice A0_2 l0_2.length c0_2) := (Ae BK117.out 2).trans rfl
       have hfz24_0 := Ag BK117.out 0
       have hfz24_1 := Ag BK117.out 1
       have hfz24_2 := Ag BK117.out 2
       go_wp2_with (first | ((with_reducible refine Bn (f := 34) rfl ?_); refine Ca (some 55) rfl rfl Try.func34 (by kernel_rfl) rfl #[.agg #[.int .i64 a0_0, .int .i64 a0_1, .slice A0_2 l0_2.length c0_2], .int .i64 (wrap64 ((wrap64 (a2 * a0_0)) + a1)), .int .i64 a3] rfl (by (try simp only [List.map_toArray, List.map_cons, List.map_nil]); first | done | rfl | (simp only [List.length_drop, List.length_take]; rfl)) ?_; (with_reducible refine (Bv.calls kj9 a0_0 a0_1 _ _ l0_2 (wrap64 ((wrap64 (a2 * a0_0)) + a1)) a3 t120 t121 t122 _ ?side1 ?side2 A22.out).mono ?_); (case side1 => repeat (first | exact (Kd.Ce HR0_2.out HB.out) | (with_reducible refine Kd.Bt ?_ _) | (with_reducible refine Kd.B3 ?_ _) | (with_reducible refine Kd.B8 ?_))); (case side2 => exact HC0_2.out); rintro e w25 ⟨v123, rfl, ho0, hb⟩; refine ⟨_, rfl, ?_⟩; have n0_ := Aa.mk (Kd.B6 ho0 (Ak (by repeat (first | (with_reducible first | exact HB.out | apply Ad | apply Ac | apply Ah | refine Af ?_ GE117.out) | exact HB.out)))); have n1_ := Aa.mk (An (g := gb117) (o := .cells #[.int .i64 a0_0, .int .i64 a0_1, .slice A0_2 l0_2.length c0_2] 24 (0, 0)) (by exact bU <| BK117.out) hb); have n2_ := Aa.mk (Ar (by repeat (first | (with_reducible first | exact HB.out | apply Ad | apply Ac | apply Ah | refine Af ?_ GE117.out) | exact HB.out)) hb); clear BK117; clear HB; have HO124 := n0_; have BK117 := n1_; have HB := n2_; clear n0_ n1_ n2_; (try clear hb); (try clear hb2); (try clear hk); (try clear hi); (try clear ho0)) | ((with_reducible refine Bk (N := 57) rfl ?_); refine Kd.R_lit (Kd.int .i64) _ 3 ?hg (N := 57) ?hd (xs := ([wrap64 ((wrap64 (a2 * a0_0)) + a1)] : List Int)) (inner := [.int .i64 (wrap64 ((wrap64 (a2 * a0_0)) + a1))]) (ok := fun _ => True) (okp := fun _ => True) ?hr ?hp (fun _ hk => hk) trivial (Below.refl _ _) (Nat.le_refl _) (by simp) ?_; (case hd => rfl); (case hg => rfl); (case hr => first | (go_simp; done) | (go_simp; rfl)); (case hp => exact (Reps.one (show Kd.M (Kd.int .i64) _ _ _ (wrap64 ((wrap64 (a2 * a0_0)) + a1)) [.int .i64 (wrap64 ((wrap64 (a2 * a0_0)) + a1))] from rfl) (Reps.none _ _))); intro v126 w26 ho27 hb hg_ hnew_; clear hg_ hnew_; (first | rw [← Ny125.out] at ho27 | (simp only [Int.reduceToNat] at ho27; rw [← Ny125.out] at ho27)); have n0_ := Aa.mk (Kd.Au (by exact rU <| HO124.out) hb); have n1_ := Aa.mk (Kd.B6 ho27 (Ak (by repeat (first | (with_reducible first | exact HB.out | apply Ad | apply Ac | apply Ah | refine Af ?_ GE117.out) | exact HB.out)))); have n2_ := Aa.mk (An (g := gb117) (o := .cells #[.int .i64 a0_0, .int .i64 a0_1, .slice A0_2 l0_2.length c0_2] 24 (0, 0)) (by exact bU <| BK117.out) hb); have n3_ := Aa.mk (Ar (by repeat (first | (with_reducible first | exact HB.out | apply Ad | apply Ac | apply Ah | refine Af ?_ GE117.out) | exact HB.out)) hb); clear HO124; clear BK117; clear HB; have HO124 := n0_; have HO127 := n1_; have BK117 := n2_; have HB := n3_; clear n0_ n1_ n2_ n3_; clear hb ho27; obtain ⟨Ao28, co28, eo28⟩ := Kd.Bz HO124.out; subst eo28; obtain ⟨Ao29, co29, eo29⟩ := Kd.Bz HO127.out; subst eo29) | ((with_reducible refine Bn (f := 64) rfl ?_); refine Ca (some 59) rfl rfl Try.func64 (by kernel_rfl) rfl #[.agg #[.int .i64 t120, .int .i64 t121, .slice Ao28 t122.length co28], .slice Ao29 y125.length co29, .int .i64 a4] rfl (by (try simp only [List.map_toArray, List.map_cons, List.map_nil]); first | done | rfl | (simp only [List.length_drop, List.length_take]; rfl)) ?_; (with_reducible refine (Ao.calls kj9 t120 t121 _ _ t122 _ _ y125 a4 t128 t131 _ ?side1 ?side2 ?side3 ?side4 A23.out).mono ?_); (case side1 => repeat (first | exact (Kd.Aw HO124.out).2.2 | (with_reducible refine Kd.Bt ?_ _) | (with_reducible refine Kd.B3 ?_ _) | (with_reducible refine Kd.B8 ?_))); (case side2 => exact (Kd.Aw HO124.out).2.1); (case side3 => repeat (first | exact (Kd.Aw HO127.out).2.2 | (with_reducible refine Kd.Bt ?_ _) | (with_reducible refine Kd.B3 ?_ _) | (with_reducible refine Kd.B8 ?_))); (case side4 => exact (Kd.Aw HO127.out).2.1); rintro e w30 ⟨v129, v132, rfl, ho0, ho1, hb⟩; refine ⟨_, rfl, ?_⟩; have n0_ := Aa.mk (Kd.Au (by exact rU <| HO124.out) hb); have n1_ := Aa.mk (Kd.Bj (Kd.R_told (Kd.R_told (Kd.R_old (by exact rU <| HO127.out) hb) (Kd.Cd ho0)) (Kd.Cd ho1)) (fun _ h_ => h_.1)); have n2_ := Aa.mk (Kd.B6 (Kd.Cc ho0 (Kd.Cs (by exact rU <| HO127.out))) (Ak (by repeat (first | (with_reducible first | exact HB.out | apply Ad | apply Ac | apply Ah | refine Af ?_ GE117.out) | exact HB.out)))); have n3_ := Aa.mk (Kd.B6 (Kd.Cc ho1 (Kd.Cs (by exact rU <| HO127.out))) (Ak (by repeat (first | (with_reducible first | exact HB.out | apply Ad | apply Ac | apply Ah | refine Af ?_ GE117.out) | exact HB.out)))); have n4_ := Aa.mk (An (g := gb117) (o := .cells #[.int .i64 a0_0, .int .i64 a0_1, .slice A0_2 l0_2.length c0_2] 24 (0, 0)) (by exact bU <| BK117.out) hb); have n5_ := Aa.mk (Ar (by repeat (first | (with_reducible first | exact HB.out | apply Ad | apply Ac | apply Ah | refine Af ?_ GE117.out) | exact HB.out)) hb); clear HO124; clear HO127; clear BK117; clear HB; have HO124 := n0_; have HO127 := n1_; have HO130 := n2_; have HO133 := n3_; have BK117 := n4_; have HB := n5_; clear n0_ n1_ n2_ n3_ n4_ n5_; (try clear hb); (try clear hb2); (try clear hk); (try clear hi); (try clear ho0); (try clear ho1)))
       go_ret3
       exact ⟨_, _, by first | rfl | (simp [Az, Ba] <;> rfl) | (simp [*, Az, Ba] <;> rfl), by exact rU <| Kd.Bj HO130.out (fun _ hk => hk.1), by exact rU <| Kd.Bj HO133.out (fun _ hk => hk.1), by repeat (first | (with_reducible first | exact HB.out | apply Ad | apply Ac | apply Ah | refine Af ?_ GE117.out) | exact HB.out)⟩
  ·replace c9 := Bool.eq_false_iff.mpr c9
   subst c9
   have H1 : (some (([] : List Int), ([] : List Int), 302)) = some (r1, r2, r3) := by rw [if_neg (show ¬ (false = true) by decide)] at H; exact H
   clear H
   have H := H1
   clear H1
   simp only [Option.some.injEq, Prod.mk.injEq] at H
   obtain ⟨rfl, rfl, rfl⟩ := H
   go_enter Try.func15, Try.ntmps15
   go_wp2_with (first | ((with_reducible refine Bk (N := 5) rfl ?_); refine Bp ?hg (N := 5) ?hd (cs := #[.int .i64 a0_0, .int .i64 a0_1, .slice A0_2 l0_2.length c0_2]) (t := 24) ?hr ?_; (case hd => rfl); (case hg => rfl); (case hr => first | (go_simp; done) | (go_simp; rfl)); intro gb117 hg w31 hbox hb; have n0_ := Aa.mk (Ar (lU HB.out) hb); have n1_ := Aa.mk (hbox); have n2_ := Aa.mk ((by rw [hg]; exact (Ak (lU HB.out)) : w.heap.size ≤ gb117)); have n3_ := Aa.mk ((by rw [hg]; exact (Ak (lU HB.out)) : w.heap.size ≤ gb117)); clear HB; have HB := n0_; have BK117 := n1_; have GW117 := n2_; have GE117 := n3_; clear n0_ n1_ n2_ n3_; clear hb hbox hg; have hcz32_0 : w31.cell? ⟨gb117, 0, none⟩ = some (.int .i64 a0_0) := (Ae BK117.out 0).trans rfl; have hcz32_1 : w31.cell? ⟨gb117, 1, none⟩ = some (.int .i64 a0_1) := (Ae BK117.out 1).trans rfl; have hcz32_2 : w31.cell? ⟨gb117, 2, none⟩ = some (.slice A0_2 l0_2.length c0_2) := (Ae BK117.out 2).trans rfl; have hfz32_0 := Ag BK117.out 0; have hfz32_1 := Ag BK117.out 1; have hfz32_2 := Ag BK117.out 2) | ((with_reducible refine Bn (f := 62) rfl ?_); refine Ca (some 18) rfl rfl Try.func62 (by kernel_rfl) rfl #[.agg #[.int .i64 a0_0, .int .i64 a0_1, .slice A0_2 l0_2.length c0_2]] rfl (by (try simp only [List.map_toArray, List.map_cons, List.map_nil]); first | done | rfl | (simp only [List.length_drop, List.length_take]; rfl)) ?_; (with_reducible refine (Ci.calls a0_0 a0_1 _ _ l0_2 t118 _ ?side1 ?side2 A6.out).mono ?_); (case side1 => repeat (first | exact (Kd.Ce HR0_2.out HB.out) | (with_reducible refine Kd.Bt ?_ _) | (with_reducible refine Kd.B3 ?_ _) | (with_reducible refine Kd.B8 ?_))); (case side2 => exact HC0_2.out); rintro e w33 ⟨rfl, hb⟩; refine ⟨_, rfl, ?_⟩; have n0_ := Aa.mk (An (g := gb117) (o := .cells #[.int .i64 a0_0, .int .i64 a0_1, .slice A0_2 l0_2.length c0_2] 24 (0, 0)) (by exact bU <| BK117.out) hb); have n1_ := Aa.mk (Ar (by repeat (first | (with_reducible first | exact HB.out | apply Ad | apply Ac | apply Ah | refine Af ?_ GE117.out) | exact HB.out)) hb); clear BK117; clear HB; have BK117 := n0_; have HB := n1_; clear n0_ n1_; (try clear hb); (try clear hb2); (try clear hk); (try clear hi)) | ((with_reducible refine Bn (f := 63) rfl ?_); refine Ca (some 23) rfl rfl Try.func63 (by kernel_rfl) rfl #[.int .i64 a4] rfl (by (try simp only [List.map_toArray, List.map_cons, List.map_nil]); first | done | rfl | (simp only [List.length_drop, List.length_take]; rfl)) ?_; (with_reducible refine (Cg.calls a4 false _ A8.out).mono ?_); rintro e w' ⟨rfl, ⟨nd, rfl⟩⟩; refine ⟨_, rfl, ?_⟩))
   go_ret3
   exact ⟨_, _, by first | rfl | (simp [Az, Ba] <;> rfl) | (simp [*, Az, Ba] <;> rfl), by first | exact Kd.Cu _ _ _ _ _ | exact Kd.N_nil _ _ _ _ _ | exact Kd.V_nil _ _ _ _ _ | exact Kd.Q_nil _ _ _ _ _ | exact Kd.S_nil _ _ _ _ _, by first | exact Kd.Cu _ _ _ _ _ | exact Kd.N_nil _ _ _ _ _ | exact Kd.V_nil _ _ _ _ _ | exact Kd.Q_nil _ _ _ _ _ | exact Kd.S_nil _ _ _ _ _, by repeat (first | (with_reducible first | exact HB.out | apply Ad | apply Ac | apply Ah | refine Af ?_ GE117.out) | exact HB.out)⟩
 ·rw [if_neg c7] at H
  have c7b0 : (t118 == 0) = false := beq_eq_false_iff_ne.mpr c7
  have c7b1 : (t118 != 0) = true := bne_iff_ne.mpr c7
  simp only [Option.some.injEq, Prod.mk.injEq] at H
  obtain ⟨rfl, rfl, rfl⟩ := H
  go_enter Try.func15, Try.ntmps15
  go_wp2_with (first | ((with_reducible refine Bk (N := 5) rfl ?_); refine Bp ?hg (N := 5) ?hd (cs := #[.int .i64 a0_0, .int .i64 a0_1, .slice A0_2 l0_2.length c0_2]) (t := 24) ?hr ?_; (case hd => rfl); (case hg => rfl); (case hr => first | (go_simp; done) | (go_simp; rfl)); intro gb117 hg w34 hbox hb; have n0_ := Aa.mk (Ar (lU HB.out) hb); have n1_ := Aa.mk (hbox); have n2_ := Aa.mk ((by rw [hg]; exact (Ak (lU HB.out)) : w.heap.size ≤ gb117)); have n3_ := Aa.mk ((by rw [hg]; exact (Ak (lU HB.out)) : w.heap.size ≤ gb117)); clear HB; have HB := n0_; have BK117 := n1_; have GW117 := n2_; have GE117 := n3_; clear n0_ n1_ n2_ n3_; clear hb hbox hg; have hcz35_0 : w34.cell? ⟨gb117, 0, none⟩ = some (.int .i64 a0_0) := (Ae BK117.out 0).trans rfl; have hcz35_1 : w34.cell? ⟨gb117, 1, none⟩ = some (.int .i64 a0_1) := (Ae BK117.out 1).trans rfl; have hcz35_2 : w34.cell? ⟨gb117, 2, none⟩ = some (.slice A0_2 l0_2.length c0_2) := (Ae BK117.out 2).trans rfl; have hfz35_0 := Ag BK117.out 0; have hfz35_1 := Ag BK117.out 1; have hfz35_2 := Ag BK117.out 2) | ((with_reducible refine Bn (f := 62) rfl ?_); refine Ca (some 18) rfl rfl Try.func62 (by kernel_rfl) rfl #[.agg #[.int .i64 a0_0, .int .i64 a0_1, .slice A0_2 l0_2.length c0_2]] rfl (by (try simp only [List.map_toArray, List.map_cons, List.map_nil]); first | done | rfl | (simp only [List.length_drop, List.length_take]; rfl)) ?_; (with_reducible refine (Ci.calls a0_0 a0_1 _ _ l0_2 t118 _ ?side1 ?side2 A6.out).mono ?_); (case side1 => repeat (first | exact (Kd.Ce HR0_2.out HB.out) | (with_reducible refine Kd.Bt ?_ _) | (with_reducible refine Kd.B3 ?_ _) | (with_reducible refine Kd.B8 ?_))); (case side2 => exact HC0_2.out); rintro e w36 ⟨rfl, hb⟩; refine ⟨_, rfl, ?_⟩; have n0_ := Aa.mk (An (g := gb117) (o := .cells #[.int .i64 a0_0, .int .i64 a0_1, .slice A0_2 l0_2.length c0_2] 24 (0, 0)) (by exact bU <| BK117.out) hb); have n1_ := Aa.mk (Ar (by repeat (first | (with_reducible first | exact HB.out | apply Ad | apply Ac | apply Ah | refine Af ?_ GE117.out) | exact HB.out)) hb); clear BK117; clear HB; have BK117 := n0_; have HB := n1_; clear n0_ n1_; (try clear hb); (try clear hb2); (try clear hk); (try clear hi)))
  go_ret3
  exact ⟨_, _, by first | rfl | (simp [Az, Ba] <;> rfl) | (simp [*, Az, Ba] <;> rfl), by first | exact Kd.Cu _ _ _ _ _ | exact Kd.N_nil _ _ _ _ _ | exact Kd.V_nil _ _ _ _ _ | exact Kd.Q_nil _ _ _ _ _ | exact Kd.S_nil _ _ _ _ _, by first | exact Kd.Cu _ _ _ _ _ | exact Kd.N_nil _ _ _ _ _ | exact Kd.V_nil _ _ _ _ _ | exact Kd.Q_nil _ _ _ _ _ | exact Kd.S_nil _ _ _ _ _, by repeat (first | (with_reducible first | exact HB.out | apply Ad | apply Ac | apply Ah | refine Af ?_ GE117.out) | exact HB.out)⟩

end Go.Proofs.Yteamphcehoaleaa.PFO

