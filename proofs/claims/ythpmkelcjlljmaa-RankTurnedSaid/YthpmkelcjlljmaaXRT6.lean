import Derived.Test.YthpmkelcjlljmaaXRT3
import Derived.Test.YthpmkelcjlljmaaXRT5
import Derived.Test.YthpmkelcjlljmaaXRMK
import Derived.Deep.DrawnRows
import Derived.Test.YthpmkelcjlljmaaXWTab
open Go Go.RowKit Go.Proofs.YthpmkelcjlljmaaW.PrintWords Go.Proofs.YthpmkelcjlljmaaW.PrintLast Go.Proofs.YthpmkelcjlljmaaW.PrintMore
attribute [local go_sem ↓] Go.wp_at_zero Go.wp_at_succ
set_option linter.unusedVariables false
set_option linter.unusedSimpArgs false
namespace Go.Proofs.Ythpmkelcjlljmaa
open PRA PRB PRK
namespace RT
theorem row_newN {W : World} {base N : Nat} {v : Value} {l : List Int} (h : (Kd.int .u32).R 41 W base (fun _ => True) v l) (hN : l.length = N) (hn : 0 < N) : ∃ b c, v = .slice (some ⟨b, 0, none⟩) N c ∧ base ≤ b ∧ b < W.heap.size ∧ (Kd.int .u32).R 41 W base (fun k => k = b) (.slice (some ⟨b, 0, none⟩) N c) l := by
  subst hN
  exact row_new h hn
structure Laid (w5 w' : World) (l : List Int) (g1 g2 b1 c1 b2 c2 : Nat) : Prop where
  bel : Below w5.heap.size w5 w'
  t : w'.heap[g1]? = some (.cells #[.int .i64 0, .int .i64 0, .slice none 0 0] 25 (0, 0))
  u : w'.heap[g2]? = some (.cells #[.int .i64 0, .int .i64 0, .slice none 0 0] 25 (0, 0))
  r1 : (Kd.int .u32).R 41 w' w5.heap.size (fun k => k = b1) (.slice (some ⟨b1, 0, none⟩) l.length c1) l
  r2 : (Kd.int .u32).R 41 w' w5.heap.size (fun k => k = b2) (.slice (some ⟨b2, 0, none⟩) l.length c2) l
  n : w5.heap.size ≤ g1 ∧ w5.heap.size ≤ g2 ∧ w5.heap.size ≤ b1 ∧ w5.heap.size ≤ b2 ∧ g1 ≠ g2 ∧ b1 ≠ b2 ∧ b1 ≠ g1 ∧ b1 ≠ g2 ∧ b2 ≠ g1 ∧ b2 ≠ g2
structure LI (w5 w' : World) (W H n : Nat) (l1 l2 : List Int) (g1 g2 b1 c1 b2 c2 : Nat) : Prop where
  bel : Below w5.heap.size w5 w'
  t : w'.heap[g1]? = some (.cells #[.int .i64 W, .int .i64 H, .slice (some ⟨b1, 0, none⟩) n c1] 25 (0, 0))
  u : w'.heap[g2]? = some (.cells #[.int .i64 W, .int .i64 H, .slice (some ⟨b2, 0, none⟩) n c2] 25 (0, 0))
  r1 : (Kd.int .u32).R 41 w' w5.heap.size (fun k => k = b1) (.slice (some ⟨b1, 0, none⟩) n c1) l1
  r2 : (Kd.int .u32).R 41 w' w5.heap.size (fun k => k = b2) (.slice (some ⟨b2, 0, none⟩) n c2) l2
  n : w5.heap.size ≤ g1 ∧ w5.heap.size ≤ g2 ∧ w5.heap.size ≤ b1 ∧ w5.heap.size ≤ b2 ∧ g1 ≠ g2 ∧ b1 ≠ b2 ∧ b1 ≠ g1 ∧ b1 ≠ g2 ∧ b2 ≠ g1 ∧ b2 ≠ g2
theorem LI.step {w5 w8 w9 : World} {W H n : Nat} {l1 l2 : List Int} {g1 g2 b1 c1 b2 c2 : Nat} (h : LI w5 w8 W H n l1 l2 g1 g2 b1 c1 b2 c2) (hb : Below w8.heap.size w8 w9) (i : Nat) (x y : Int) :
    LI w5 ((w9.setCell ⟨b1, i, none⟩ (.int .u32 x)).setCell ⟨b2, i, none⟩ (.int .u32 y)) W H n (l1.set i x) (l2.set i y) g1 g2 b1 c1 b2 c2 := by
  obtain ⟨n1, n2, n3, n4, n5, n6, n7, n8, n9, n10⟩ := h.n
  have r1 := Kd.Bf h.r1 hb
  have r2 := Kd.Bf h.r2 hb
  refine ⟨((h.bel.trans (hb.mono h.bel.size)).setCell (p := ⟨b1, i, none⟩) n3 _).setCell (p := ⟨b2, i, none⟩) n4 _, ?_, ?_, ?_, ?_, h.n⟩
  · rw [set_far _ _ _ _ (show g1 ≠ b2 from fun e => n9 e.symm), set_far _ _ _ _ (show g1 ≠ b1 from fun e => n7 e.symm)]; exact Ak h.t hb
  · rw [set_far _ _ _ _ (show g2 ≠ b2 from fun e => n10 e.symm), set_far _ _ _ _ (show g2 ≠ b1 from fun e => n8 e.symm)]; exact Ak h.u hb
  · exact row_move (row_set r1 i x) (set_far _ _ _ _ n6)
  · exact row_set (row_move r2 (set_far _ _ _ _ (Ne.symm n6))) i y
theorem meas (n i : Nat) (h : i < n) (hn : n ≤ 2000) : n - (intOf (.int .i64 (wrap64 ((i : Int) + 1)))).toNat < n - (intOf (.int .i64 (i : Int))).toNat := by
  rw [w_succ i (by omega)]
  show n - (((i + 1 : Nat) : Int)).toNat < n - ((i : Int)).toNat
  rw [Int.toNat_natCast, Int.toNat_natCast]
  omega
theorem row_C {W : World} {base n c : Nat} {ok : Nat → Prop} {A : Option Addr} {xs : List Int} (h : (Kd.int .u32).R 41 W base ok (.slice A n c) xs) : Kd.C (Kd.int .u32) W A n xs ∧ n ≤ c ∧ xs.length = n := by
  obtain ⟨h1, h2, h3⟩ := Kd.Bs h
  subst h1
  exact ⟨h3, h2, rfl⟩
theorem back_place (m n q : Nat) (hm : m ≤ 15) (hn : n ≤ 15) (hq : q < m * n) : wrap64 (wrap64 (wrap64 ((m : Int) * (n : Int)) - 1) - (q : Int)) = ((m * n - 1 - q : Nat) : Int) := by
  have h := Nat.mul_le_mul hm hn
  rw [show (m : Int) * (n : Int) = ((m * n : Nat) : Int) by push_cast; rfl]
  generalize m * n = z at *
  unfold wrap64
  omega
theorem sized_true (W H : Int) (x y : List Int) (h : x.length = y.length) : Cb.f W H x W H y = some true := by
  unfold Cb.f
  rw [if_pos rfl, if_pos rfl, h]
  simp
theorem drop_ok (d : Int) : 0 ≤ (wrap64 (d.tmod 32 + 32)).tmod 32 ∧ (wrap64 (d.tmod 32 + 32)).tmod 32 < 32 := by
  have h1 := Int.tmod_lt_of_pos d (show (0 : Int) < 32 by decide)
  have h2 : -32 < d.tmod 32 := by
    have := Int.tmod_lt_of_pos (-d) (show (0 : Int) < 32 by decide)
    rw [Int.neg_tmod] at this; omega
  have e : wrap64 (d.tmod 32 + 32) = d.tmod 32 + 32 := by unfold wrap64; omega
  rw [e]
  exact ⟨Int.tmod_nonneg 32 (by omega), Int.tmod_lt_of_pos _ (by decide)⟩
set_option maxRecDepth 100000 in
set_option maxHeartbeats 4000000 in
theorem turned_small (a b bk m n k lo hi dr : Int) (A0 : Option Addr) (c0 : Nat) (l : List Int) (w : World) (hr0 : Kd.C (Kd.int .u32) w A0 l.length l) (hc0 : l.length ≤ c0) (hs : B2.f a b l = some false) :
    Calls Try.prog 8 #[.agg #[.int .i64 a, .int .i64 b, .slice A0 l.length c0], .int .i64 bk, .int .i64 m, .int .i64 n, .int .i64 k, .int .u32 lo, .int .u32 hi, .int .i64 dr] w fun e w' => e = .returned (.bool true) ∧ Below w.heap.size w w' := by
  have HC := Ac.mk hr0
  have HCC := Ac.mk hc0
  have HSM := Ac.mk hs
  clear hr0 hc0 hs
  go_enter Try.func8, Try.ntmps8
  go_upto_region 3 with (go_at_call 10; refine (Au.calls 100 true _ known_true).mono ?_; rintro e w1 ⟨rfl, hb1⟩; have HB1 := Ac.mk hb1; clear hb1)
  have hp1 : w1.heap[w.heap.size]? = some (.cells #[.int .i64 a, .int .i64 b, .slice A0 l.length c0] 25 (0, 0)) := Ak (B5 w (.cells #[.int .i64 a, .int .i64 b, .slice A0 l.length c0] 25)) HB1.out
  have hW1 : Below w.heap.size w w1 := (Ai (Below.refl _ w) _).trans (HB1.out.mono (by simp))
  have cp0 : w1.cell? ⟨w.heap.size, 0, none⟩ = some (.int .i64 a) := (Ag hp1 0).trans rfl
  have cp1 : w1.cell? ⟨w.heap.size, 1, none⟩ = some (.int .i64 b) := (Ag hp1 1).trans rfl
  have cp2 : w1.cell? ⟨w.heap.size, 2, none⟩ = some (.slice A0 l.length c0) := (Ag hp1 2).trans rfl
  have HP1 := Ac.mk hp1
  have HW1 := Ac.mk hW1
  have HC1 := Ac.mk (Kd.Bo HC.out hW1)
  clear hp1 hW1 HB1
  go_wp2_with (go_at_call 11; refine (B2.calls a b A0 c0 l false w1 HC1.out HCC.out HSM.out).mono ?_; rintro e w2 ⟨rfl, hb⟩; have HB2 := Ac.mk hb; clear hb)
  go_ret
  exact ⟨rfl, HW1.out.trans (HB2.out.mono HW1.out.size)⟩
set_option maxRecDepth 100000 in
set_option maxHeartbeats 4000000 in
theorem turned_bad (K : Nat) (a b bk m n k lo hi dr e0 : Int) (A0 : Option Addr) (c0 : Nat) (l : List Int) (w : World) (hr0 : Kd.C (Kd.int .u32) w A0 l.length l) (hc0 : l.length ≤ c0) (hs : B2.f a b l = some true) (he : e0 ≠ 0) (hp : Bi.f K a b l bk m n k = some (0, 0, [], e0)) :
    Calls Try.prog 8 #[.agg #[.int .i64 a, .int .i64 b, .slice A0 l.length c0], .int .i64 bk, .int .i64 m, .int .i64 n, .int .i64 k, .int .u32 lo, .int .u32 hi, .int .i64 dr] w fun e w' => e = .returned (.bool true) ∧ Below w.heap.size w w' := by
  have HC := Ac.mk hr0
  have HCC := Ac.mk hc0
  have HSM := Ac.mk hs
  have HPL := Ac.mk hp
  have x1 : (e0 == 0) = false := by simpa using he
  have x2 : (e0 != 0) = true := by simpa using he
  clear hr0 hc0 hs hp he
  go_enter Try.func8, Try.ntmps8
  go_upto_region 3 with (go_at_call 10; refine (Au.calls 100 true _ known_true).mono ?_; rintro e w1 ⟨rfl, hb1⟩; have HB1 := Ac.mk hb1; clear hb1)
  have hp1 : w1.heap[w.heap.size]? = some (.cells #[.int .i64 a, .int .i64 b, .slice A0 l.length c0] 25 (0, 0)) := Ak (B5 w (.cells #[.int .i64 a, .int .i64 b, .slice A0 l.length c0] 25)) HB1.out
  have hW1 : Below w.heap.size w w1 := (Ai (Below.refl _ w) _).trans (HB1.out.mono (by simp))
  have cp0 : w1.cell? ⟨w.heap.size, 0, none⟩ = some (.int .i64 a) := (Ag hp1 0).trans rfl
  have cp1 : w1.cell? ⟨w.heap.size, 1, none⟩ = some (.int .i64 b) := (Ag hp1 1).trans rfl
  have cp2 : w1.cell? ⟨w.heap.size, 2, none⟩ = some (.slice A0 l.length c0) := (Ag hp1 2).trans rfl
  have HP1 := Ac.mk hp1
  have HW1 := Ac.mk hW1
  have HC1 := Ac.mk (Kd.Bo HC.out hW1)
  clear hp1 hW1 HB1
  go_upto_region 5 with (go_at_call 11; refine (B2.calls a b A0 c0 l true w1 HC1.out HCC.out HSM.out).mono ?_; rintro e w2 ⟨rfl, hb⟩; have HB2 := Ac.mk hb; clear hb)
  clear cp0 cp1 cp2
  have hp2 := Ak HP1.out HB2.out
  have hW2 := HW1.out.trans (HB2.out.mono HW1.out.size)
  have cp0 : w2.cell? ⟨w.heap.size, 0, none⟩ = some (.int .i64 a) := (Ag hp2 0).trans rfl
  have cp1 : w2.cell? ⟨w.heap.size, 1, none⟩ = some (.int .i64 b) := (Ag hp2 1).trans rfl
  have cp2 : w2.cell? ⟨w.heap.size, 2, none⟩ = some (.slice A0 l.length c0) := (Ag hp2 2).trans rfl
  have HP2 := Ac.mk hp2
  have HW2 := Ac.mk hW2
  have HC2 := Ac.mk (Kd.Bo HC.out hW2)
  clear hp2 hW2 HB2 HP1 HW1 HC1
  go_upto_region 6 with (go_at_call 14; refine (Bi.calls K a b A0 c0 l bk m n k 0 0 [] e0 w2 HC2.out HCC.out HPL.out).mono ?_; rintro e w3 ⟨v3, rfl, h1, h2⟩; obtain ⟨A3, c3, e3⟩ := Kd.Bw h1; subst e3; have HB3 := Ac.mk h2; clear h1 h2)
  go_wp2
  go_ret
  exact ⟨rfl, Ai (HW2.out.trans (HB3.out.mono HW2.out.size)) _⟩
def tt.T9 : Bool × List (List Nat × List Nat) := (true, [([], []), ([0], [0]), ([], []), ([2, 1], [2]), ([], []), ([], []), ([4, 1, 3, 0, 1, 4, 5], [1, 4]), ([5, 3, 6, 0, 1, 2, 3, 4, 5, 6], [3, 5])])
def tt.B9 : List Nat := [0, 1, 0, 7, 0, 0, 63, 127]
theorem tt.tab9 : rtab .any (opsOf Try.f8 9) = tt.T9 := by kernel_rfl
theorem tt.bits9 : waitsOk tt.T9.2 tt.B9 = true := by kernel_rfl
def tt.T13 : Bool × List (List Nat × List Nat) := (true, [([], []), ([0], [0]), ([], []), ([], []), ([3], [3]), ([], []), ([], []), ([6], [6]), ([], []), ([7, 8], [7, 8]), ([9], [9]), ([10], [10]), ([], []), ([12], [12]), ([], []), ([13, 14], [13, 14]), ([15], [15]), ([], []), ([], []), ([], []), ([16, 17, 18, 19], [16, 17, 18, 19]), ([1, 2, 0, 1, 2, 6, 7, 8, 9, 10, 11, 16, 20], [1, 2]), ([21, 11, 20, 0, 1, 2, 6, 7, 8, 9, 10, 11, 16, 20], [11, 21]), ([4, 5, 0, 1, 2, 3, 4, 5, 6, 7, 8, 9, 10, 11, 12, 13, 14, 15, 16, 17, 18, 19, 20, 21, 22], [4, 5]), ([23, 20, 22, 0, 1, 2, 3, 4, 5, 6, 7, 8, 9, 10, 11, 12, 13, 14, 15, 16, 17, 18, 19, 20, 21, 22], [20, 23])])
def tt.B13 : List Nat := [0, 1, 0, 0, 8, 0, 0, 64, 0, 448, 960, 1984, 0, 4096, 0, 28672, 61440, 0, 0, 0, 1044480, 2097095, 4194247, 8388607, 16777215]
theorem tt.tab13 : rtab .any (opsOf Try.f8 13) = tt.T13 := by kernel_rfl
theorem tt.bits13 : waitsOk tt.T13.2 tt.B13 = true := by kernel_rfl
def tt.T21 : Bool × List (List Nat × List Nat) := (true, [([], []), ([0], [0]), ([], []), ([1, 2], [1, 2]), ([3], [3]), ([], []), ([5], [5]), ([], []), ([6, 7], [6, 7]), ([8], [8]), ([9], [9]), ([4, 10], [4, 10]), ([11], [11]), ([12], [12]), ([13, 12], [12, 13]), ([12], [12]), ([14, 15, 12], [12, 14, 15]), ([16, 12], [12, 16]), ([12], [12]), ([18, 12], [12, 18]), ([12], [12]), ([19, 20, 12], [12, 19, 20]), ([21, 12], [12, 21]), ([12], [12]), ([12], [12]), ([12], [12]), ([22, 23, 24, 25, 12, 12], [12, 22, 23, 24, 25]), ([17, 26, 12], [12, 17, 26]), ([12, 27], [12, 27])])
def tt.B21 : List Nat := [0, 1, 0, 7, 15, 0, 32, 0, 224, 480, 992, 2047, 4095, 8191, 16383, 8191, 65535, 131071, 8191, 270335, 8191, 1843199, 3940351, 8191, 8191, 8191, 66854911, 134217727, 268435455]
theorem tt.tab21 : rtab .any (opsOf Try.f8 21) = tt.T21 := by kernel_rfl
theorem tt.bits21 : waitsOk tt.T21.2 tt.B21 = true := by kernel_rfl
set_option maxRecDepth 100000 in
set_option maxHeartbeats 8000000 in
theorem turned_good (W H m n q : Nat) (bk lo hi dr : Int) (A0 : Option Addr) (c0 : Nat) (l : List Int) (w : World) (hr0 : Kd.C (Kd.int .u32) w A0 l.length l) (hc0 : l.length ≤ c0) (g : Good W H l bk m n W H m n) (hq : q < m * n) (hu : U32 l) (hlo : u32 lo) (hhi : u32 hi) (hs : B2.f W H l = some true) :
    Calls Try.prog 8 #[.agg #[.int .i64 W, .int .i64 H, .slice A0 l.length c0], .int .i64 bk, .int .i64 m, .int .i64 n, .int .i64 q, .int .u32 lo, .int .u32 hi, .int .i64 dr] w fun e w' => e = .returned (.bool true) ∧ Below w.heap.size w w' := by
  have hN : 0 < l.length := by rw [g.len]; exact Nat.mul_pos g.W1 g.H1
  obtain ⟨LA, hLA⟩ : ∃ LA, LA = allP bk W H l m n q 0 0 W H 0 := ⟨_, rfl⟩
  have hp := g.plane l g.len hu m n q g.w1 g.w2 g.h1 g.h2 hq 10000 (Nat.le_refl _)
  rw [← hLA] at hp
  have hLN : LA.length = l.length := by rw [hLA, allP_len, g.len]
  have HN := Ac.mk hN
  have HLN := Ac.mk hLN
  have HLA := Ac.mk hLA
  have HPL := Ac.mk hp
  have HG := Ac.mk g
  have HU := Ac.mk hu
  have HLO := Ac.mk hlo
  have HHI := Ac.mk hhi
  have HQ := Ac.mk hq
  have HC := Ac.mk hr0
  have HCC := Ac.mk hc0
  have HSM := Ac.mk hs
  clear hr0 hc0 hs hp hN hLN hLA g hu hlo hhi hq
  go_enter Try.func8, Try.ntmps8
  go_upto_region 3 with (go_at_call 10; refine (Au.calls 100 true _ known_true).mono ?_; rintro e w1 ⟨rfl, hb1⟩; have HB1 := Ac.mk hb1; clear hb1)
  have hp1 : w1.heap[w.heap.size]? = some (.cells #[.int .i64 W, .int .i64 H, .slice A0 l.length c0] 25 (0, 0)) := Ak (B5 w (.cells #[.int .i64 W, .int .i64 H, .slice A0 l.length c0] 25)) HB1.out
  have hW1 : Below w.heap.size w w1 := (Ai (Below.refl _ w) _).trans (HB1.out.mono (by simp))
  have cp0 : w1.cell? ⟨w.heap.size, 0, none⟩ = some (.int .i64 W) := (Ag hp1 0).trans rfl
  have cp1 : w1.cell? ⟨w.heap.size, 1, none⟩ = some (.int .i64 H) := (Ag hp1 1).trans rfl
  have cp2 : w1.cell? ⟨w.heap.size, 2, none⟩ = some (.slice A0 l.length c0) := (Ag hp1 2).trans rfl
  have HP1 := Ac.mk hp1
  have HW1 := Ac.mk hW1
  have HC1 := Ac.mk (Kd.Bo HC.out hW1)
  clear hp1 hW1 HB1
  go_upto_region 5 with (go_at_call 11; refine (B2.calls W H A0 c0 l true w1 HC1.out HCC.out HSM.out).mono ?_; rintro e w2 ⟨rfl, hb⟩; have HB2 := Ac.mk hb; clear hb)
  clear cp0 cp1 cp2
  have hp2 := Ak HP1.out HB2.out
  have hW2 := HW1.out.trans (HB2.out.mono HW1.out.size)
  have cp0 : w2.cell? ⟨w.heap.size, 0, none⟩ = some (.int .i64 W) := (Ag hp2 0).trans rfl
  have cp1 : w2.cell? ⟨w.heap.size, 1, none⟩ = some (.int .i64 H) := (Ag hp2 1).trans rfl
  have cp2 : w2.cell? ⟨w.heap.size, 2, none⟩ = some (.slice A0 l.length c0) := (Ag hp2 2).trans rfl
  have HP2 := Ac.mk hp2
  have HW2 := Ac.mk hW2
  have HC2 := Ac.mk (Kd.Bo HC.out hW2)
  clear hp2 hW2 HB2 HP1 HW1 HC1
  go_upto_region 6 with (go_at_call 14; refine (Bi.calls 10000 W H A0 c0 l bk m n q W H LA 0 w2 HC2.out HCC.out HPL.out).mono ?_; rintro e w3 ⟨v3, rfl, h1, h2⟩; obtain ⟨b3, c3, e3, hb3a, hb3b, hr3⟩ := row_newN h1 HLN.out HN.out; subst e3; have HR3 := Ac.mk hr3; have HB3 := Ac.mk h2; clear h1 h2 hb3a hb3b hr3)
  clear cp0 cp1 cp2
  obtain ⟨w4, hw4⟩ : ∃ y, y = w3.alloc (.cells #[.int .i64 W, .int .i64 H, .slice (some ⟨b3, 0, none⟩) l.length c3] 25) := ⟨_, rfl⟩
  rw [← hw4]
  have hb34 : Below w3.heap.size w3 w4 := by rw [hw4]; exact Ai (Below.refl _ _) _
  have HA4 := Ac.mk (show w4.heap[w3.heap.size]? = some (.cells #[.int .i64 W, .int .i64 H, .slice (some ⟨b3, 0, none⟩) l.length c3] 25 (0, 0)) by rw [hw4]; exact B5 _ _)
  have HR4 := Ac.mk (Kd.Br (Kd.Bf HR3.out hb34) (show w.heap.size ≤ w2.heap.size from HW2.out.size))
  have HP4 := Ac.mk (Ak (Ak HP2.out HB3.out) hb34)
  have HW4 := Ac.mk ((HW2.out.trans (HB3.out.mono HW2.out.size)).trans (hb34.mono (Nat.le_trans HW2.out.size HB3.out.size)))
  have HC4 := Ac.mk (Kd.Bo HC.out HW4.out)
  have HZ4 := Ac.mk (show w.heap.size ≤ w4.heap.size from HW4.out.size)
  clear hw4 hb34 HR3 HB3 HP2 HW2 HC2 HPL
  go_upto_region 9 with fail
  have HD := Ac.mk (drop_ok dr)
  generalize (wrap64 (dr.tmod 32 + 32)).tmod 32 = D at HD ⊢
  have HCP : Ac (Bm.f W H l = some ((W : Int), (H : Int), l)) := ⟨by
    have h1 := HG.out.few
    unfold Bm.f; rw [if_pos (by simp; omega), List.nil_append]⟩
  refine start_ (n := 8) (S := fun w' => w'.cell? ⟨w.heap.size, 0, none⟩ = some (.int .i64 (W : Int)) ∧ w'.cell? ⟨w.heap.size, 1, none⟩ = some (.int .i64 (H : Int)) ∧ w'.cell? ⟨w.heap.size, 2, none⟩ = some (.slice A0 l.length c0)) (ds := [7]) #[false, false, false, false, false, false, false, false] (by kernel_rfl) rfl rfl ⟨(Ag (Ad HP4.out) 0).trans rfl, (Ag (Ad HP4.out) 1).trans rfl, (Ag (Ad HP4.out) 2).trans rfl⟩ (fun hHeld => ?_)
  refine with_tabW tt.tab9 tt.bits9 (fun HT_ HW_ => ?_)
  have HP5 := Ac.mk (Ad HP4.out)
  have HA5 := Ac.mk (Ad HA4.out)
  have HR5 := Ac.mk (Kd.Ar HR4.out)
  have HW5 := Ac.mk (Aj HW4.out)
  have HZ5 := Ac.mk (show w.heap.size ≤ w4.drew.heap.size from HZ4.out)
  clear HP4 HA4 HR4 HW4 HC4 HZ4
  generalize w4.drew = w5 at HP5 HA5 HR5 HW5 HZ5 hHeld ⊢
  have HBw5 := Ac.mk (Below.refl w5.heap.size w5)
  refine take_ (i := 0) (N := some 47) (v := ?_) (a' := ?_) #[true, false, false, false, false, false, false, false] rfl rfl (take_ofW HT_.out HW_.out (by kernel_rfl)) (fun _ _ _ h => h) (Or.inl ⟨by rfl, ?_⟩) hHeld ?_ ?_
  rotate_left
  · rintro w' ⟨s0, s1, s2⟩
    go_simp
    with_reducible rfl
  rotate_left
  · simp only [Act.put, List.setIfInBounds_toArray, List.set_cons_zero, List.set_cons_succ, i64_w, i32_w]
    rfl
  refine take_ (i := 2) (N := some 49) (v := ?_) (a' := ?_) #[true, false, true, false, false, false, false, false] rfl rfl (take_ofW HT_.out HW_.out (by kernel_rfl)) (fun _ _ _ h => h) (Or.inl ⟨by rfl, ?_⟩) hHeld ?_ ?_
  rotate_left
  · rintro w' ⟨s0, s1, s2⟩
    go_simp
    with_reducible rfl
  rotate_left
  · simp only [Act.put, List.setIfInBounds_toArray, List.set_cons_zero, List.set_cons_succ, i64_w, i32_w]
    rfl
  refine join_ (σ := Nat × Nat × Nat × Nat × Nat × Nat) 2 #[true, true, true, true, true, true, false, false] (fun s => [(48, .agg #[.int .i64 (W : Int), .int .i64 (H : Int), .slice (some ⟨s.2.2.1, 0, none⟩) l.length s.2.2.2.1]), (50, .agg #[.int .i64 (W : Int), .int .i64 (H : Int), .slice (some ⟨s.2.2.2.2.1, 0, none⟩) l.length s.2.2.2.2.2]), (19, .pointer (some ⟨s.1, 0, none⟩)), (20, .pointer (some ⟨s.2.1, 0, none⟩))]) (fun s w' => Laid w5 w' l s.1 s.2.1 s.2.2.1 s.2.2.2.1 s.2.2.2.2.1 s.2.2.2.2.2) ?_ ?_
  rotate_left
  · intro hCont
    refine three_ (i := 1) (j := 4) (k := 5) (Ni := some 48) (Nj := some 19) (Nk := some 20) #[true, true, true, false, false, false, false, false] #[true, false, true, false, true, false, false, false] #[true, false, true, false, false, true, false, false] rfl rfl rfl rfl rfl rfl (three_of HT_.out (by kernel_rfl)) (by decide) (by decide) (by decide) (fun K hK => ?_) (fun K hK => ?_) (fun K hK => ?_)
    · skip
      refine Ck Try.func12 (by kernel_rfl) rfl #[.agg #[.int .i64 W, .int .i64 H, .slice A0 l.length c0]] (by rfl) rfl rfl (by simp only [List.map_toArray, List.map_cons, List.map_nil]; rfl) ?_
      with_reducible refine (Bm.calls W H A0 c0 l W H l w5 (Kd.Bo HC.out (HW5.out.trans (HBw5.out.mono HZ5.out))) HCC.out HCP.out).mono ?_
      rintro e x1 ⟨v, rfl, h1, h2⟩
      obtain ⟨b1, c1, e1, n1, n2, h3⟩ := row_newN h1 rfl HN.out
      subst e1
      refine ⟨_, rfl, ?_⟩
      have HX1 := Ac.mk (And.intro n1 n2)
      have HBx1 := Ac.mk (HBw5.out.trans (h2.mono HBw5.out.size))
      have HSx1 := Ac.mk (show w5.heap.size ≤ x1.heap.size from h2.size)
      have HR1x1 := Ac.mk (Kd.Br h3 HBw5.out.size)
      have HPx1 := Ac.mk (Ak HP5.out HBx1.out)
      clear h1 h2 h3 n1 n2
      refine hK.out _ _ ⟨(Ag HPx1.out 0).trans rfl, (Ag HPx1.out 1).trans rfl, (Ag HPx1.out 2).trans rfl⟩ (fun hHeld => ?_)
      clear hK K
      refine norm_ (a' := ?_) ?_ ?_
      rotate_left
      · show Act.put _ (some 48) _ = _
        simp only [Act.put, List.setIfInBounds_toArray, List.set_cons_zero, List.set_cons_succ, i64_w, i32_w]
        rfl
      refine three_ (i := 3) (j := 4) (k := 5) (Ni := some 50) (Nj := some 19) (Nk := some 20) #[true, true, true, true, false, false, false, false] #[true, true, true, false, true, false, false, false] #[true, true, true, false, false, true, false, false] rfl rfl rfl rfl rfl rfl (three_of HT_.out (by kernel_rfl)) (by decide) (by decide) (by decide) (fun K hK => ?_) (fun K hK => ?_) (fun K hK => ?_)
      · skip
        refine Ck Try.func12 (by kernel_rfl) rfl #[.agg #[.int .i64 W, .int .i64 H, .slice A0 l.length c0]] (by rfl) rfl rfl (by simp only [List.map_toArray, List.map_cons, List.map_nil]; rfl) ?_
        with_reducible refine (Bm.calls W H A0 c0 l W H l x1 (Kd.Bo HC.out (HW5.out.trans (HBx1.out.mono HZ5.out))) HCC.out HCP.out).mono ?_
        rintro e x13 ⟨v, rfl, h1, h2⟩
        obtain ⟨b3, c3, e1, n1, n2, h3⟩ := row_newN h1 rfl HN.out
        subst e1
        refine ⟨_, rfl, ?_⟩
        have HX3 := Ac.mk (And.intro n1 n2)
        have HBx13 := Ac.mk (HBx1.out.trans (h2.mono HBx1.out.size))
        have HSx13 := Ac.mk (show x1.heap.size ≤ x13.heap.size from h2.size)
        have HR1x13 := Ac.mk (Kd.Bf HR1x1.out h2)
        have HR3x13 := Ac.mk (Kd.Br h3 HBx1.out.size)
        have HPx13 := Ac.mk (Ak HP5.out HBx13.out)
        clear h1 h2 h3 n1 n2
        refine hK.out _ _ ⟨(Ag HPx13.out 0).trans rfl, (Ag HPx13.out 1).trans rfl, (Ag HPx13.out 2).trans rfl⟩ (fun hHeld => ?_)
        clear hK K
        refine norm_ (a' := ?_) ?_ ?_
        rotate_left
        · show Act.put _ (some 50) _ = _
          simp only [Act.put, List.setIfInBounds_toArray, List.set_cons_zero, List.set_cons_succ, i64_w, i32_w]
          rfl
        refine two_ (i := 4) (j := 5) (Ni := some 19) (Nj := some 20) #[true, true, true, true, true, false, false, false] #[true, true, true, true, false, true, false, false] rfl rfl rfl rfl (two_of HT_.out (by kernel_rfl)) (by decide) (by decide) (fun K hK => ?_) (fun K hK => ?_)
        · skip
          refine value_ (v := .pointer (some ⟨x13.heap.size, 0, none⟩)) (w1 := x13.alloc (.cells #[.int .i64 0, .int .i64 0, .slice none 0 0] 25)) (by rfl) rfl (by go_simp) ?_
          have h0 := B5 x13 (.cells #[.int .i64 0, .int .i64 0, .slice none 0 0] 25)
          have h2 : Below x13.heap.size x13 (x13.alloc (.cells #[.int .i64 0, .int .i64 0, .slice none 0 0] 25)) := Ai (Below.refl _ _) _
          have n2 := Av h0
          generalize x13.alloc (.cells #[.int .i64 0, .int .i64 0, .slice none 0 0] 25) = x134 at h0 h2 n2 ⊢
          have HX4 := Ac.mk n2
          have HBx134 := Ac.mk (HBx13.out.trans (h2.mono HBx13.out.size))
          have HSx134 := Ac.mk (show x13.heap.size ≤ x134.heap.size from h2.size)
          have HR1x134 := Ac.mk (Kd.Bf HR1x13.out h2)
          have HR3x134 := Ac.mk (Kd.Bf HR3x13.out h2)
          have HG4x134 := Ac.mk h0
          have HPx134 := Ac.mk (Ak HP5.out HBx134.out)
          clear h0 h2 n2
          refine hK.out _ _ ⟨(Ag HPx134.out 0).trans rfl, (Ag HPx134.out 1).trans rfl, (Ag HPx134.out 2).trans rfl⟩ (fun hHeld => ?_)
          clear hK K
          refine norm_ (a' := ?_) ?_ ?_
          rotate_left
          · show Act.put _ (some 19) _ = _
            simp only [Act.put, List.setIfInBounds_toArray, List.set_cons_zero, List.set_cons_succ, i64_w, i32_w]
            rfl
          refine one_ (i := 5) (N := some 20) #[true, true, true, true, true, true, false, false] rfl rfl (one_of HT_.out (by kernel_rfl)) (by decide) (fun K hK => ?_)
          refine value_ (v := .pointer (some ⟨x134.heap.size, 0, none⟩)) (w1 := x134.alloc (.cells #[.int .i64 0, .int .i64 0, .slice none 0 0] 25)) (by rfl) rfl (by go_simp) ?_
          have h0 := B5 x134 (.cells #[.int .i64 0, .int .i64 0, .slice none 0 0] 25)
          have h2 : Below x134.heap.size x134 (x134.alloc (.cells #[.int .i64 0, .int .i64 0, .slice none 0 0] 25)) := Ai (Below.refl _ _) _
          have n2 := Av h0
          generalize x134.alloc (.cells #[.int .i64 0, .int .i64 0, .slice none 0 0] 25) = x1345 at h0 h2 n2 ⊢
          have HX5 := Ac.mk n2
          have HBx1345 := Ac.mk (HBx134.out.trans (h2.mono HBx134.out.size))
          have HSx1345 := Ac.mk (show x134.heap.size ≤ x1345.heap.size from h2.size)
          have HR1x1345 := Ac.mk (Kd.Bf HR1x134.out h2)
          have HR3x1345 := Ac.mk (Kd.Bf HR3x134.out h2)
          have HG4x1345 := Ac.mk (Ak HG4x134.out h2)
          have HG5x1345 := Ac.mk h0
          have HPx1345 := Ac.mk (Ak HP5.out HBx1345.out)
          clear h0 h2 n2
          refine hK.out _ _ ⟨(Ag HPx1345.out 0).trans rfl, (Ag HPx1345.out 1).trans rfl, (Ag HPx1345.out 2).trans rfl⟩ (fun hHeld => ?_)
          clear hK K
          refine norm_ (a' := ?_) ?_ ?_
          rotate_left
          · show Act.put _ (some 20) _ = _
            simp only [Act.put, List.setIfInBounds_toArray, List.set_cons_zero, List.set_cons_succ, i64_w, i32_w]
            rfl
          exact norm_ (by simp only [putAll, Act.put, List.setIfInBounds_toArray, List.set_cons_zero, List.set_cons_succ]) (hCont (x13.heap.size, x134.heap.size, b1, c1, b3, c3) _ ⟨HBx1345.out, HG4x1345.out, HG5x1345.out, HR1x1345.out, HR3x1345.out, by (try dsimp only); have z1 := HX1.out; have z3 := HX3.out; have z4 := HX4.out; have z5 := HX5.out; have y1 := HSx1.out; have y2 := HSx13.out; have y3 := HSx134.out; have y4 := HSx1345.out; have y0 := HBx1.out.size; have u1 := HBx1.out.size; have u2 := HBx13.out.size; have u3 := HBx134.out.size; have u4 := HBx1345.out.size; omega⟩)
        · skip
          refine value_ (v := .pointer (some ⟨x13.heap.size, 0, none⟩)) (w1 := x13.alloc (.cells #[.int .i64 0, .int .i64 0, .slice none 0 0] 25)) (by rfl) rfl (by go_simp) ?_
          have h0 := B5 x13 (.cells #[.int .i64 0, .int .i64 0, .slice none 0 0] 25)
          have h2 : Below x13.heap.size x13 (x13.alloc (.cells #[.int .i64 0, .int .i64 0, .slice none 0 0] 25)) := Ai (Below.refl _ _) _
          have n2 := Av h0
          generalize x13.alloc (.cells #[.int .i64 0, .int .i64 0, .slice none 0 0] 25) = x135 at h0 h2 n2 ⊢
          have HX5 := Ac.mk n2
          have HBx135 := Ac.mk (HBx13.out.trans (h2.mono HBx13.out.size))
          have HSx135 := Ac.mk (show x13.heap.size ≤ x135.heap.size from h2.size)
          have HR1x135 := Ac.mk (Kd.Bf HR1x13.out h2)
          have HR3x135 := Ac.mk (Kd.Bf HR3x13.out h2)
          have HG5x135 := Ac.mk h0
          have HPx135 := Ac.mk (Ak HP5.out HBx135.out)
          clear h0 h2 n2
          refine hK.out _ _ ⟨(Ag HPx135.out 0).trans rfl, (Ag HPx135.out 1).trans rfl, (Ag HPx135.out 2).trans rfl⟩ (fun hHeld => ?_)
          clear hK K
          refine norm_ (a' := ?_) ?_ ?_
          rotate_left
          · show Act.put _ (some 20) _ = _
            simp only [Act.put, List.setIfInBounds_toArray, List.set_cons_zero, List.set_cons_succ, i64_w, i32_w]
            rfl
          refine one_ (i := 4) (N := some 19) #[true, true, true, true, true, true, false, false] rfl rfl (one_of HT_.out (by kernel_rfl)) (by decide) (fun K hK => ?_)
          refine value_ (v := .pointer (some ⟨x135.heap.size, 0, none⟩)) (w1 := x135.alloc (.cells #[.int .i64 0, .int .i64 0, .slice none 0 0] 25)) (by rfl) rfl (by go_simp) ?_
          have h0 := B5 x135 (.cells #[.int .i64 0, .int .i64 0, .slice none 0 0] 25)
          have h2 : Below x135.heap.size x135 (x135.alloc (.cells #[.int .i64 0, .int .i64 0, .slice none 0 0] 25)) := Ai (Below.refl _ _) _
          have n2 := Av h0
          generalize x135.alloc (.cells #[.int .i64 0, .int .i64 0, .slice none 0 0] 25) = x1354 at h0 h2 n2 ⊢
          have HX4 := Ac.mk n2
          have HBx1354 := Ac.mk (HBx135.out.trans (h2.mono HBx135.out.size))
          have HSx1354 := Ac.mk (show x135.heap.size ≤ x1354.heap.size from h2.size)
          have HR1x1354 := Ac.mk (Kd.Bf HR1x135.out h2)
          have HR3x1354 := Ac.mk (Kd.Bf HR3x135.out h2)
          have HG5x1354 := Ac.mk (Ak HG5x135.out h2)
          have HG4x1354 := Ac.mk h0
          have HPx1354 := Ac.mk (Ak HP5.out HBx1354.out)
          clear h0 h2 n2
          refine hK.out _ _ ⟨(Ag HPx1354.out 0).trans rfl, (Ag HPx1354.out 1).trans rfl, (Ag HPx1354.out 2).trans rfl⟩ (fun hHeld => ?_)
          clear hK K
          refine norm_ (a' := ?_) ?_ ?_
          rotate_left
          · show Act.put _ (some 19) _ = _
            simp only [Act.put, List.setIfInBounds_toArray, List.set_cons_zero, List.set_cons_succ, i64_w, i32_w]
            rfl
          exact norm_ (by simp only [putAll, Act.put, List.setIfInBounds_toArray, List.set_cons_zero, List.set_cons_succ]) (hCont (x135.heap.size, x13.heap.size, b1, c1, b3, c3) _ ⟨HBx1354.out, HG4x1354.out, HG5x1354.out, HR1x1354.out, HR3x1354.out, by (try dsimp only); have z1 := HX1.out; have z3 := HX3.out; have z4 := HX4.out; have z5 := HX5.out; have y1 := HSx1.out; have y2 := HSx13.out; have y3 := HSx135.out; have y4 := HSx1354.out; have y0 := HBx1.out.size; have u1 := HBx1.out.size; have u2 := HBx13.out.size; have u3 := HBx135.out.size; have u4 := HBx1354.out.size; omega⟩)
      · skip
        refine value_ (v := .pointer (some ⟨x1.heap.size, 0, none⟩)) (w1 := x1.alloc (.cells #[.int .i64 0, .int .i64 0, .slice none 0 0] 25)) (by rfl) rfl (by go_simp) ?_
        have h0 := B5 x1 (.cells #[.int .i64 0, .int .i64 0, .slice none 0 0] 25)
        have h2 : Below x1.heap.size x1 (x1.alloc (.cells #[.int .i64 0, .int .i64 0, .slice none 0 0] 25)) := Ai (Below.refl _ _) _
        have n2 := Av h0
        generalize x1.alloc (.cells #[.int .i64 0, .int .i64 0, .slice none 0 0] 25) = x14 at h0 h2 n2 ⊢
        have HX4 := Ac.mk n2
        have HBx14 := Ac.mk (HBx1.out.trans (h2.mono HBx1.out.size))
        have HSx14 := Ac.mk (show x1.heap.size ≤ x14.heap.size from h2.size)
        have HR1x14 := Ac.mk (Kd.Bf HR1x1.out h2)
        have HG4x14 := Ac.mk h0
        have HPx14 := Ac.mk (Ak HP5.out HBx14.out)
        clear h0 h2 n2
        refine hK.out _ _ ⟨(Ag HPx14.out 0).trans rfl, (Ag HPx14.out 1).trans rfl, (Ag HPx14.out 2).trans rfl⟩ (fun hHeld => ?_)
        clear hK K
        refine norm_ (a' := ?_) ?_ ?_
        rotate_left
        · show Act.put _ (some 19) _ = _
          simp only [Act.put, List.setIfInBounds_toArray, List.set_cons_zero, List.set_cons_succ, i64_w, i32_w]
          rfl
        refine two_ (i := 3) (j := 5) (Ni := some 50) (Nj := some 20) #[true, true, true, true, true, false, false, false] #[true, true, true, false, true, true, false, false] rfl rfl rfl rfl (two_of HT_.out (by kernel_rfl)) (by decide) (by decide) (fun K hK => ?_) (fun K hK => ?_)
        · skip
          refine Ck Try.func12 (by kernel_rfl) rfl #[.agg #[.int .i64 W, .int .i64 H, .slice A0 l.length c0]] (by rfl) rfl rfl (by simp only [List.map_toArray, List.map_cons, List.map_nil]; rfl) ?_
          with_reducible refine (Bm.calls W H A0 c0 l W H l x14 (Kd.Bo HC.out (HW5.out.trans (HBx14.out.mono HZ5.out))) HCC.out HCP.out).mono ?_
          rintro e x143 ⟨v, rfl, h1, h2⟩
          obtain ⟨b3, c3, e1, n1, n2, h3⟩ := row_newN h1 rfl HN.out
          subst e1
          refine ⟨_, rfl, ?_⟩
          have HX3 := Ac.mk (And.intro n1 n2)
          have HBx143 := Ac.mk (HBx14.out.trans (h2.mono HBx14.out.size))
          have HSx143 := Ac.mk (show x14.heap.size ≤ x143.heap.size from h2.size)
          have HR1x143 := Ac.mk (Kd.Bf HR1x14.out h2)
          have HG4x143 := Ac.mk (Ak HG4x14.out h2)
          have HR3x143 := Ac.mk (Kd.Br h3 HBx14.out.size)
          have HPx143 := Ac.mk (Ak HP5.out HBx143.out)
          clear h1 h2 h3 n1 n2
          refine hK.out _ _ ⟨(Ag HPx143.out 0).trans rfl, (Ag HPx143.out 1).trans rfl, (Ag HPx143.out 2).trans rfl⟩ (fun hHeld => ?_)
          clear hK K
          refine norm_ (a' := ?_) ?_ ?_
          rotate_left
          · show Act.put _ (some 50) _ = _
            simp only [Act.put, List.setIfInBounds_toArray, List.set_cons_zero, List.set_cons_succ, i64_w, i32_w]
            rfl
          refine one_ (i := 5) (N := some 20) #[true, true, true, true, true, true, false, false] rfl rfl (one_of HT_.out (by kernel_rfl)) (by decide) (fun K hK => ?_)
          refine value_ (v := .pointer (some ⟨x143.heap.size, 0, none⟩)) (w1 := x143.alloc (.cells #[.int .i64 0, .int .i64 0, .slice none 0 0] 25)) (by rfl) rfl (by go_simp) ?_
          have h0 := B5 x143 (.cells #[.int .i64 0, .int .i64 0, .slice none 0 0] 25)
          have h2 : Below x143.heap.size x143 (x143.alloc (.cells #[.int .i64 0, .int .i64 0, .slice none 0 0] 25)) := Ai (Below.refl _ _) _
          have n2 := Av h0
          generalize x143.alloc (.cells #[.int .i64 0, .int .i64 0, .slice none 0 0] 25) = x1435 at h0 h2 n2 ⊢
          have HX5 := Ac.mk n2
          have HBx1435 := Ac.mk (HBx143.out.trans (h2.mono HBx143.out.size))
          have HSx1435 := Ac.mk (show x143.heap.size ≤ x1435.heap.size from h2.size)
          have HR1x1435 := Ac.mk (Kd.Bf HR1x143.out h2)
          have HG4x1435 := Ac.mk (Ak HG4x143.out h2)
          have HR3x1435 := Ac.mk (Kd.Bf HR3x143.out h2)
          have HG5x1435 := Ac.mk h0
          have HPx1435 := Ac.mk (Ak HP5.out HBx1435.out)
          clear h0 h2 n2
          refine hK.out _ _ ⟨(Ag HPx1435.out 0).trans rfl, (Ag HPx1435.out 1).trans rfl, (Ag HPx1435.out 2).trans rfl⟩ (fun hHeld => ?_)
          clear hK K
          refine norm_ (a' := ?_) ?_ ?_
          rotate_left
          · show Act.put _ (some 20) _ = _
            simp only [Act.put, List.setIfInBounds_toArray, List.set_cons_zero, List.set_cons_succ, i64_w, i32_w]
            rfl
          exact norm_ (by simp only [putAll, Act.put, List.setIfInBounds_toArray, List.set_cons_zero, List.set_cons_succ]) (hCont (x1.heap.size, x143.heap.size, b1, c1, b3, c3) _ ⟨HBx1435.out, HG4x1435.out, HG5x1435.out, HR1x1435.out, HR3x1435.out, by (try dsimp only); have z1 := HX1.out; have z3 := HX3.out; have z4 := HX4.out; have z5 := HX5.out; have y1 := HSx1.out; have y2 := HSx14.out; have y3 := HSx143.out; have y4 := HSx1435.out; have y0 := HBx1.out.size; have u1 := HBx1.out.size; have u2 := HBx14.out.size; have u3 := HBx143.out.size; have u4 := HBx1435.out.size; omega⟩)
        · skip
          refine value_ (v := .pointer (some ⟨x14.heap.size, 0, none⟩)) (w1 := x14.alloc (.cells #[.int .i64 0, .int .i64 0, .slice none 0 0] 25)) (by rfl) rfl (by go_simp) ?_
          have h0 := B5 x14 (.cells #[.int .i64 0, .int .i64 0, .slice none 0 0] 25)
          have h2 : Below x14.heap.size x14 (x14.alloc (.cells #[.int .i64 0, .int .i64 0, .slice none 0 0] 25)) := Ai (Below.refl _ _) _
          have n2 := Av h0
          generalize x14.alloc (.cells #[.int .i64 0, .int .i64 0, .slice none 0 0] 25) = x145 at h0 h2 n2 ⊢
          have HX5 := Ac.mk n2
          have HBx145 := Ac.mk (HBx14.out.trans (h2.mono HBx14.out.size))
          have HSx145 := Ac.mk (show x14.heap.size ≤ x145.heap.size from h2.size)
          have HR1x145 := Ac.mk (Kd.Bf HR1x14.out h2)
          have HG4x145 := Ac.mk (Ak HG4x14.out h2)
          have HG5x145 := Ac.mk h0
          have HPx145 := Ac.mk (Ak HP5.out HBx145.out)
          clear h0 h2 n2
          refine hK.out _ _ ⟨(Ag HPx145.out 0).trans rfl, (Ag HPx145.out 1).trans rfl, (Ag HPx145.out 2).trans rfl⟩ (fun hHeld => ?_)
          clear hK K
          refine norm_ (a' := ?_) ?_ ?_
          rotate_left
          · show Act.put _ (some 20) _ = _
            simp only [Act.put, List.setIfInBounds_toArray, List.set_cons_zero, List.set_cons_succ, i64_w, i32_w]
            rfl
          refine one_ (i := 3) (N := some 50) #[true, true, true, true, true, true, false, false] rfl rfl (one_of HT_.out (by kernel_rfl)) (by decide) (fun K hK => ?_)
          refine Ck Try.func12 (by kernel_rfl) rfl #[.agg #[.int .i64 W, .int .i64 H, .slice A0 l.length c0]] (by rfl) rfl rfl (by simp only [List.map_toArray, List.map_cons, List.map_nil]; rfl) ?_
          with_reducible refine (Bm.calls W H A0 c0 l W H l x145 (Kd.Bo HC.out (HW5.out.trans (HBx145.out.mono HZ5.out))) HCC.out HCP.out).mono ?_
          rintro e x1453 ⟨v, rfl, h1, h2⟩
          obtain ⟨b3, c3, e1, n1, n2, h3⟩ := row_newN h1 rfl HN.out
          subst e1
          refine ⟨_, rfl, ?_⟩
          have HX3 := Ac.mk (And.intro n1 n2)
          have HBx1453 := Ac.mk (HBx145.out.trans (h2.mono HBx145.out.size))
          have HSx1453 := Ac.mk (show x145.heap.size ≤ x1453.heap.size from h2.size)
          have HR1x1453 := Ac.mk (Kd.Bf HR1x145.out h2)
          have HG4x1453 := Ac.mk (Ak HG4x145.out h2)
          have HG5x1453 := Ac.mk (Ak HG5x145.out h2)
          have HR3x1453 := Ac.mk (Kd.Br h3 HBx145.out.size)
          have HPx1453 := Ac.mk (Ak HP5.out HBx1453.out)
          clear h1 h2 h3 n1 n2
          refine hK.out _ _ ⟨(Ag HPx1453.out 0).trans rfl, (Ag HPx1453.out 1).trans rfl, (Ag HPx1453.out 2).trans rfl⟩ (fun hHeld => ?_)
          clear hK K
          refine norm_ (a' := ?_) ?_ ?_
          rotate_left
          · show Act.put _ (some 50) _ = _
            simp only [Act.put, List.setIfInBounds_toArray, List.set_cons_zero, List.set_cons_succ, i64_w, i32_w]
            rfl
          exact norm_ (by simp only [putAll, Act.put, List.setIfInBounds_toArray, List.set_cons_zero, List.set_cons_succ]) (hCont (x1.heap.size, x14.heap.size, b1, c1, b3, c3) _ ⟨HBx1453.out, HG4x1453.out, HG5x1453.out, HR1x1453.out, HR3x1453.out, by (try dsimp only); have z1 := HX1.out; have z3 := HX3.out; have z4 := HX4.out; have z5 := HX5.out; have y1 := HSx1.out; have y2 := HSx14.out; have y3 := HSx145.out; have y4 := HSx1453.out; have y0 := HBx1.out.size; have u1 := HBx1.out.size; have u2 := HBx14.out.size; have u3 := HBx145.out.size; have u4 := HBx1453.out.size; omega⟩)
      · skip
        refine value_ (v := .pointer (some ⟨x1.heap.size, 0, none⟩)) (w1 := x1.alloc (.cells #[.int .i64 0, .int .i64 0, .slice none 0 0] 25)) (by rfl) rfl (by go_simp) ?_
        have h0 := B5 x1 (.cells #[.int .i64 0, .int .i64 0, .slice none 0 0] 25)
        have h2 : Below x1.heap.size x1 (x1.alloc (.cells #[.int .i64 0, .int .i64 0, .slice none 0 0] 25)) := Ai (Below.refl _ _) _
        have n2 := Av h0
        generalize x1.alloc (.cells #[.int .i64 0, .int .i64 0, .slice none 0 0] 25) = x15 at h0 h2 n2 ⊢
        have HX5 := Ac.mk n2
        have HBx15 := Ac.mk (HBx1.out.trans (h2.mono HBx1.out.size))
        have HSx15 := Ac.mk (show x1.heap.size ≤ x15.heap.size from h2.size)
        have HR1x15 := Ac.mk (Kd.Bf HR1x1.out h2)
        have HG5x15 := Ac.mk h0
        have HPx15 := Ac.mk (Ak HP5.out HBx15.out)
        clear h0 h2 n2
        refine hK.out _ _ ⟨(Ag HPx15.out 0).trans rfl, (Ag HPx15.out 1).trans rfl, (Ag HPx15.out 2).trans rfl⟩ (fun hHeld => ?_)
        clear hK K
        refine norm_ (a' := ?_) ?_ ?_
        rotate_left
        · show Act.put _ (some 20) _ = _
          simp only [Act.put, List.setIfInBounds_toArray, List.set_cons_zero, List.set_cons_succ, i64_w, i32_w]
          rfl
        refine two_ (i := 3) (j := 4) (Ni := some 50) (Nj := some 19) #[true, true, true, true, false, true, false, false] #[true, true, true, false, true, true, false, false] rfl rfl rfl rfl (two_of HT_.out (by kernel_rfl)) (by decide) (by decide) (fun K hK => ?_) (fun K hK => ?_)
        · skip
          refine Ck Try.func12 (by kernel_rfl) rfl #[.agg #[.int .i64 W, .int .i64 H, .slice A0 l.length c0]] (by rfl) rfl rfl (by simp only [List.map_toArray, List.map_cons, List.map_nil]; rfl) ?_
          with_reducible refine (Bm.calls W H A0 c0 l W H l x15 (Kd.Bo HC.out (HW5.out.trans (HBx15.out.mono HZ5.out))) HCC.out HCP.out).mono ?_
          rintro e x153 ⟨v, rfl, h1, h2⟩
          obtain ⟨b3, c3, e1, n1, n2, h3⟩ := row_newN h1 rfl HN.out
          subst e1
          refine ⟨_, rfl, ?_⟩
          have HX3 := Ac.mk (And.intro n1 n2)
          have HBx153 := Ac.mk (HBx15.out.trans (h2.mono HBx15.out.size))
          have HSx153 := Ac.mk (show x15.heap.size ≤ x153.heap.size from h2.size)
          have HR1x153 := Ac.mk (Kd.Bf HR1x15.out h2)
          have HG5x153 := Ac.mk (Ak HG5x15.out h2)
          have HR3x153 := Ac.mk (Kd.Br h3 HBx15.out.size)
          have HPx153 := Ac.mk (Ak HP5.out HBx153.out)
          clear h1 h2 h3 n1 n2
          refine hK.out _ _ ⟨(Ag HPx153.out 0).trans rfl, (Ag HPx153.out 1).trans rfl, (Ag HPx153.out 2).trans rfl⟩ (fun hHeld => ?_)
          clear hK K
          refine norm_ (a' := ?_) ?_ ?_
          rotate_left
          · show Act.put _ (some 50) _ = _
            simp only [Act.put, List.setIfInBounds_toArray, List.set_cons_zero, List.set_cons_succ, i64_w, i32_w]
            rfl
          refine one_ (i := 4) (N := some 19) #[true, true, true, true, true, true, false, false] rfl rfl (one_of HT_.out (by kernel_rfl)) (by decide) (fun K hK => ?_)
          refine value_ (v := .pointer (some ⟨x153.heap.size, 0, none⟩)) (w1 := x153.alloc (.cells #[.int .i64 0, .int .i64 0, .slice none 0 0] 25)) (by rfl) rfl (by go_simp) ?_
          have h0 := B5 x153 (.cells #[.int .i64 0, .int .i64 0, .slice none 0 0] 25)
          have h2 : Below x153.heap.size x153 (x153.alloc (.cells #[.int .i64 0, .int .i64 0, .slice none 0 0] 25)) := Ai (Below.refl _ _) _
          have n2 := Av h0
          generalize x153.alloc (.cells #[.int .i64 0, .int .i64 0, .slice none 0 0] 25) = x1534 at h0 h2 n2 ⊢
          have HX4 := Ac.mk n2
          have HBx1534 := Ac.mk (HBx153.out.trans (h2.mono HBx153.out.size))
          have HSx1534 := Ac.mk (show x153.heap.size ≤ x1534.heap.size from h2.size)
          have HR1x1534 := Ac.mk (Kd.Bf HR1x153.out h2)
          have HG5x1534 := Ac.mk (Ak HG5x153.out h2)
          have HR3x1534 := Ac.mk (Kd.Bf HR3x153.out h2)
          have HG4x1534 := Ac.mk h0
          have HPx1534 := Ac.mk (Ak HP5.out HBx1534.out)
          clear h0 h2 n2
          refine hK.out _ _ ⟨(Ag HPx1534.out 0).trans rfl, (Ag HPx1534.out 1).trans rfl, (Ag HPx1534.out 2).trans rfl⟩ (fun hHeld => ?_)
          clear hK K
          refine norm_ (a' := ?_) ?_ ?_
          rotate_left
          · show Act.put _ (some 19) _ = _
            simp only [Act.put, List.setIfInBounds_toArray, List.set_cons_zero, List.set_cons_succ, i64_w, i32_w]
            rfl
          exact norm_ (by simp only [putAll, Act.put, List.setIfInBounds_toArray, List.set_cons_zero, List.set_cons_succ]) (hCont (x153.heap.size, x1.heap.size, b1, c1, b3, c3) _ ⟨HBx1534.out, HG4x1534.out, HG5x1534.out, HR1x1534.out, HR3x1534.out, by (try dsimp only); have z1 := HX1.out; have z3 := HX3.out; have z4 := HX4.out; have z5 := HX5.out; have y1 := HSx1.out; have y2 := HSx15.out; have y3 := HSx153.out; have y4 := HSx1534.out; have y0 := HBx1.out.size; have u1 := HBx1.out.size; have u2 := HBx15.out.size; have u3 := HBx153.out.size; have u4 := HBx1534.out.size; omega⟩)
        · skip
          refine value_ (v := .pointer (some ⟨x15.heap.size, 0, none⟩)) (w1 := x15.alloc (.cells #[.int .i64 0, .int .i64 0, .slice none 0 0] 25)) (by rfl) rfl (by go_simp) ?_
          have h0 := B5 x15 (.cells #[.int .i64 0, .int .i64 0, .slice none 0 0] 25)
          have h2 : Below x15.heap.size x15 (x15.alloc (.cells #[.int .i64 0, .int .i64 0, .slice none 0 0] 25)) := Ai (Below.refl _ _) _
          have n2 := Av h0
          generalize x15.alloc (.cells #[.int .i64 0, .int .i64 0, .slice none 0 0] 25) = x154 at h0 h2 n2 ⊢
          have HX4 := Ac.mk n2
          have HBx154 := Ac.mk (HBx15.out.trans (h2.mono HBx15.out.size))
          have HSx154 := Ac.mk (show x15.heap.size ≤ x154.heap.size from h2.size)
          have HR1x154 := Ac.mk (Kd.Bf HR1x15.out h2)
          have HG5x154 := Ac.mk (Ak HG5x15.out h2)
          have HG4x154 := Ac.mk h0
          have HPx154 := Ac.mk (Ak HP5.out HBx154.out)
          clear h0 h2 n2
          refine hK.out _ _ ⟨(Ag HPx154.out 0).trans rfl, (Ag HPx154.out 1).trans rfl, (Ag HPx154.out 2).trans rfl⟩ (fun hHeld => ?_)
          clear hK K
          refine norm_ (a' := ?_) ?_ ?_
          rotate_left
          · show Act.put _ (some 19) _ = _
            simp only [Act.put, List.setIfInBounds_toArray, List.set_cons_zero, List.set_cons_succ, i64_w, i32_w]
            rfl
          refine one_ (i := 3) (N := some 50) #[true, true, true, true, true, true, false, false] rfl rfl (one_of HT_.out (by kernel_rfl)) (by decide) (fun K hK => ?_)
          refine Ck Try.func12 (by kernel_rfl) rfl #[.agg #[.int .i64 W, .int .i64 H, .slice A0 l.length c0]] (by rfl) rfl rfl (by simp only [List.map_toArray, List.map_cons, List.map_nil]; rfl) ?_
          with_reducible refine (Bm.calls W H A0 c0 l W H l x154 (Kd.Bo HC.out (HW5.out.trans (HBx154.out.mono HZ5.out))) HCC.out HCP.out).mono ?_
          rintro e x1543 ⟨v, rfl, h1, h2⟩
          obtain ⟨b3, c3, e1, n1, n2, h3⟩ := row_newN h1 rfl HN.out
          subst e1
          refine ⟨_, rfl, ?_⟩
          have HX3 := Ac.mk (And.intro n1 n2)
          have HBx1543 := Ac.mk (HBx154.out.trans (h2.mono HBx154.out.size))
          have HSx1543 := Ac.mk (show x154.heap.size ≤ x1543.heap.size from h2.size)
          have HR1x1543 := Ac.mk (Kd.Bf HR1x154.out h2)
          have HG5x1543 := Ac.mk (Ak HG5x154.out h2)
          have HG4x1543 := Ac.mk (Ak HG4x154.out h2)
          have HR3x1543 := Ac.mk (Kd.Br h3 HBx154.out.size)
          have HPx1543 := Ac.mk (Ak HP5.out HBx1543.out)
          clear h1 h2 h3 n1 n2
          refine hK.out _ _ ⟨(Ag HPx1543.out 0).trans rfl, (Ag HPx1543.out 1).trans rfl, (Ag HPx1543.out 2).trans rfl⟩ (fun hHeld => ?_)
          clear hK K
          refine norm_ (a' := ?_) ?_ ?_
          rotate_left
          · show Act.put _ (some 50) _ = _
            simp only [Act.put, List.setIfInBounds_toArray, List.set_cons_zero, List.set_cons_succ, i64_w, i32_w]
            rfl
          exact norm_ (by simp only [putAll, Act.put, List.setIfInBounds_toArray, List.set_cons_zero, List.set_cons_succ]) (hCont (x15.heap.size, x1.heap.size, b1, c1, b3, c3) _ ⟨HBx1543.out, HG4x1543.out, HG5x1543.out, HR1x1543.out, HR3x1543.out, by (try dsimp only); have z1 := HX1.out; have z3 := HX3.out; have z4 := HX4.out; have z5 := HX5.out; have y1 := HSx1.out; have y2 := HSx15.out; have y3 := HSx154.out; have y4 := HSx1543.out; have y0 := HBx1.out.size; have u1 := HBx1.out.size; have u2 := HBx15.out.size; have u3 := HBx154.out.size; have u4 := HBx1543.out.size; omega⟩)
    · skip
      refine value_ (v := .pointer (some ⟨w5.heap.size, 0, none⟩)) (w1 := w5.alloc (.cells #[.int .i64 0, .int .i64 0, .slice none 0 0] 25)) (by rfl) rfl (by go_simp) ?_
      have h0 := B5 w5 (.cells #[.int .i64 0, .int .i64 0, .slice none 0 0] 25)
      have h2 : Below w5.heap.size w5 (w5.alloc (.cells #[.int .i64 0, .int .i64 0, .slice none 0 0] 25)) := Ai (Below.refl _ _) _
      have n2 := Av h0
      generalize w5.alloc (.cells #[.int .i64 0, .int .i64 0, .slice none 0 0] 25) = x4 at h0 h2 n2 ⊢
      have HX4 := Ac.mk n2
      have HBx4 := Ac.mk (HBw5.out.trans (h2.mono HBw5.out.size))
      have HSx4 := Ac.mk (show w5.heap.size ≤ x4.heap.size from h2.size)
      have HG4x4 := Ac.mk h0
      have HPx4 := Ac.mk (Ak HP5.out HBx4.out)
      clear h0 h2 n2
      refine hK.out _ _ ⟨(Ag HPx4.out 0).trans rfl, (Ag HPx4.out 1).trans rfl, (Ag HPx4.out 2).trans rfl⟩ (fun hHeld => ?_)
      clear hK K
      refine norm_ (a' := ?_) ?_ ?_
      rotate_left
      · show Act.put _ (some 19) _ = _
        simp only [Act.put, List.setIfInBounds_toArray, List.set_cons_zero, List.set_cons_succ, i64_w, i32_w]
        rfl
      refine two_ (i := 1) (j := 5) (Ni := some 48) (Nj := some 20) #[true, true, true, false, true, false, false, false] #[true, false, true, false, true, true, false, false] rfl rfl rfl rfl (two_of HT_.out (by kernel_rfl)) (by decide) (by decide) (fun K hK => ?_) (fun K hK => ?_)
      · skip
        refine Ck Try.func12 (by kernel_rfl) rfl #[.agg #[.int .i64 W, .int .i64 H, .slice A0 l.length c0]] (by rfl) rfl rfl (by simp only [List.map_toArray, List.map_cons, List.map_nil]; rfl) ?_
        with_reducible refine (Bm.calls W H A0 c0 l W H l x4 (Kd.Bo HC.out (HW5.out.trans (HBx4.out.mono HZ5.out))) HCC.out HCP.out).mono ?_
        rintro e x41 ⟨v, rfl, h1, h2⟩
        obtain ⟨b1, c1, e1, n1, n2, h3⟩ := row_newN h1 rfl HN.out
        subst e1
        refine ⟨_, rfl, ?_⟩
        have HX1 := Ac.mk (And.intro n1 n2)
        have HBx41 := Ac.mk (HBx4.out.trans (h2.mono HBx4.out.size))
        have HSx41 := Ac.mk (show x4.heap.size ≤ x41.heap.size from h2.size)
        have HG4x41 := Ac.mk (Ak HG4x4.out h2)
        have HR1x41 := Ac.mk (Kd.Br h3 HBx4.out.size)
        have HPx41 := Ac.mk (Ak HP5.out HBx41.out)
        clear h1 h2 h3 n1 n2
        refine hK.out _ _ ⟨(Ag HPx41.out 0).trans rfl, (Ag HPx41.out 1).trans rfl, (Ag HPx41.out 2).trans rfl⟩ (fun hHeld => ?_)
        clear hK K
        refine norm_ (a' := ?_) ?_ ?_
        rotate_left
        · show Act.put _ (some 48) _ = _
          simp only [Act.put, List.setIfInBounds_toArray, List.set_cons_zero, List.set_cons_succ, i64_w, i32_w]
          rfl
        refine two_ (i := 3) (j := 5) (Ni := some 50) (Nj := some 20) #[true, true, true, true, true, false, false, false] #[true, true, true, false, true, true, false, false] rfl rfl rfl rfl (two_of HT_.out (by kernel_rfl)) (by decide) (by decide) (fun K hK => ?_) (fun K hK => ?_)
        · skip
          refine Ck Try.func12 (by kernel_rfl) rfl #[.agg #[.int .i64 W, .int .i64 H, .slice A0 l.length c0]] (by rfl) rfl rfl (by simp only [List.map_toArray, List.map_cons, List.map_nil]; rfl) ?_
          with_reducible refine (Bm.calls W H A0 c0 l W H l x41 (Kd.Bo HC.out (HW5.out.trans (HBx41.out.mono HZ5.out))) HCC.out HCP.out).mono ?_
          rintro e x413 ⟨v, rfl, h1, h2⟩
          obtain ⟨b3, c3, e1, n1, n2, h3⟩ := row_newN h1 rfl HN.out
          subst e1
          refine ⟨_, rfl, ?_⟩
          have HX3 := Ac.mk (And.intro n1 n2)
          have HBx413 := Ac.mk (HBx41.out.trans (h2.mono HBx41.out.size))
          have HSx413 := Ac.mk (show x41.heap.size ≤ x413.heap.size from h2.size)
          have HG4x413 := Ac.mk (Ak HG4x41.out h2)
          have HR1x413 := Ac.mk (Kd.Bf HR1x41.out h2)
          have HR3x413 := Ac.mk (Kd.Br h3 HBx41.out.size)
          have HPx413 := Ac.mk (Ak HP5.out HBx413.out)
          clear h1 h2 h3 n1 n2
          refine hK.out _ _ ⟨(Ag HPx413.out 0).trans rfl, (Ag HPx413.out 1).trans rfl, (Ag HPx413.out 2).trans rfl⟩ (fun hHeld => ?_)
          clear hK K
          refine norm_ (a' := ?_) ?_ ?_
          rotate_left
          · show Act.put _ (some 50) _ = _
            simp only [Act.put, List.setIfInBounds_toArray, List.set_cons_zero, List.set_cons_succ, i64_w, i32_w]
            rfl
          refine one_ (i := 5) (N := some 20) #[true, true, true, true, true, true, false, false] rfl rfl (one_of HT_.out (by kernel_rfl)) (by decide) (fun K hK => ?_)
          refine value_ (v := .pointer (some ⟨x413.heap.size, 0, none⟩)) (w1 := x413.alloc (.cells #[.int .i64 0, .int .i64 0, .slice none 0 0] 25)) (by rfl) rfl (by go_simp) ?_
          have h0 := B5 x413 (.cells #[.int .i64 0, .int .i64 0, .slice none 0 0] 25)
          have h2 : Below x413.heap.size x413 (x413.alloc (.cells #[.int .i64 0, .int .i64 0, .slice none 0 0] 25)) := Ai (Below.refl _ _) _
          have n2 := Av h0
          generalize x413.alloc (.cells #[.int .i64 0, .int .i64 0, .slice none 0 0] 25) = x4135 at h0 h2 n2 ⊢
          have HX5 := Ac.mk n2
          have HBx4135 := Ac.mk (HBx413.out.trans (h2.mono HBx413.out.size))
          have HSx4135 := Ac.mk (show x413.heap.size ≤ x4135.heap.size from h2.size)
          have HG4x4135 := Ac.mk (Ak HG4x413.out h2)
          have HR1x4135 := Ac.mk (Kd.Bf HR1x413.out h2)
          have HR3x4135 := Ac.mk (Kd.Bf HR3x413.out h2)
          have HG5x4135 := Ac.mk h0
          have HPx4135 := Ac.mk (Ak HP5.out HBx4135.out)
          clear h0 h2 n2
          refine hK.out _ _ ⟨(Ag HPx4135.out 0).trans rfl, (Ag HPx4135.out 1).trans rfl, (Ag HPx4135.out 2).trans rfl⟩ (fun hHeld => ?_)
          clear hK K
          refine norm_ (a' := ?_) ?_ ?_
          rotate_left
          · show Act.put _ (some 20) _ = _
            simp only [Act.put, List.setIfInBounds_toArray, List.set_cons_zero, List.set_cons_succ, i64_w, i32_w]
            rfl
          exact norm_ (by simp only [putAll, Act.put, List.setIfInBounds_toArray, List.set_cons_zero, List.set_cons_succ]) (hCont (w5.heap.size, x413.heap.size, b1, c1, b3, c3) _ ⟨HBx4135.out, HG4x4135.out, HG5x4135.out, HR1x4135.out, HR3x4135.out, by (try dsimp only); have z1 := HX1.out; have z3 := HX3.out; have z4 := HX4.out; have z5 := HX5.out; have y1 := HSx4.out; have y2 := HSx41.out; have y3 := HSx413.out; have y4 := HSx4135.out; have y0 := HBx4.out.size; have u1 := HBx4.out.size; have u2 := HBx41.out.size; have u3 := HBx413.out.size; have u4 := HBx4135.out.size; omega⟩)
        · skip
          refine value_ (v := .pointer (some ⟨x41.heap.size, 0, none⟩)) (w1 := x41.alloc (.cells #[.int .i64 0, .int .i64 0, .slice none 0 0] 25)) (by rfl) rfl (by go_simp) ?_
          have h0 := B5 x41 (.cells #[.int .i64 0, .int .i64 0, .slice none 0 0] 25)
          have h2 : Below x41.heap.size x41 (x41.alloc (.cells #[.int .i64 0, .int .i64 0, .slice none 0 0] 25)) := Ai (Below.refl _ _) _
          have n2 := Av h0
          generalize x41.alloc (.cells #[.int .i64 0, .int .i64 0, .slice none 0 0] 25) = x415 at h0 h2 n2 ⊢
          have HX5 := Ac.mk n2
          have HBx415 := Ac.mk (HBx41.out.trans (h2.mono HBx41.out.size))
          have HSx415 := Ac.mk (show x41.heap.size ≤ x415.heap.size from h2.size)
          have HG4x415 := Ac.mk (Ak HG4x41.out h2)
          have HR1x415 := Ac.mk (Kd.Bf HR1x41.out h2)
          have HG5x415 := Ac.mk h0
          have HPx415 := Ac.mk (Ak HP5.out HBx415.out)
          clear h0 h2 n2
          refine hK.out _ _ ⟨(Ag HPx415.out 0).trans rfl, (Ag HPx415.out 1).trans rfl, (Ag HPx415.out 2).trans rfl⟩ (fun hHeld => ?_)
          clear hK K
          refine norm_ (a' := ?_) ?_ ?_
          rotate_left
          · show Act.put _ (some 20) _ = _
            simp only [Act.put, List.setIfInBounds_toArray, List.set_cons_zero, List.set_cons_succ, i64_w, i32_w]
            rfl
          refine one_ (i := 3) (N := some 50) #[true, true, true, true, true, true, false, false] rfl rfl (one_of HT_.out (by kernel_rfl)) (by decide) (fun K hK => ?_)
          refine Ck Try.func12 (by kernel_rfl) rfl #[.agg #[.int .i64 W, .int .i64 H, .slice A0 l.length c0]] (by rfl) rfl rfl (by simp only [List.map_toArray, List.map_cons, List.map_nil]; rfl) ?_
          with_reducible refine (Bm.calls W H A0 c0 l W H l x415 (Kd.Bo HC.out (HW5.out.trans (HBx415.out.mono HZ5.out))) HCC.out HCP.out).mono ?_
          rintro e x4153 ⟨v, rfl, h1, h2⟩
          obtain ⟨b3, c3, e1, n1, n2, h3⟩ := row_newN h1 rfl HN.out
          subst e1
          refine ⟨_, rfl, ?_⟩
          have HX3 := Ac.mk (And.intro n1 n2)
          have HBx4153 := Ac.mk (HBx415.out.trans (h2.mono HBx415.out.size))
          have HSx4153 := Ac.mk (show x415.heap.size ≤ x4153.heap.size from h2.size)
          have HG4x4153 := Ac.mk (Ak HG4x415.out h2)
          have HR1x4153 := Ac.mk (Kd.Bf HR1x415.out h2)
          have HG5x4153 := Ac.mk (Ak HG5x415.out h2)
          have HR3x4153 := Ac.mk (Kd.Br h3 HBx415.out.size)
          have HPx4153 := Ac.mk (Ak HP5.out HBx4153.out)
          clear h1 h2 h3 n1 n2
          refine hK.out _ _ ⟨(Ag HPx4153.out 0).trans rfl, (Ag HPx4153.out 1).trans rfl, (Ag HPx4153.out 2).trans rfl⟩ (fun hHeld => ?_)
          clear hK K
          refine norm_ (a' := ?_) ?_ ?_
          rotate_left
          · show Act.put _ (some 50) _ = _
            simp only [Act.put, List.setIfInBounds_toArray, List.set_cons_zero, List.set_cons_succ, i64_w, i32_w]
            rfl
          exact norm_ (by simp only [putAll, Act.put, List.setIfInBounds_toArray, List.set_cons_zero, List.set_cons_succ]) (hCont (w5.heap.size, x41.heap.size, b1, c1, b3, c3) _ ⟨HBx4153.out, HG4x4153.out, HG5x4153.out, HR1x4153.out, HR3x4153.out, by (try dsimp only); have z1 := HX1.out; have z3 := HX3.out; have z4 := HX4.out; have z5 := HX5.out; have y1 := HSx4.out; have y2 := HSx41.out; have y3 := HSx415.out; have y4 := HSx4153.out; have y0 := HBx4.out.size; have u1 := HBx4.out.size; have u2 := HBx41.out.size; have u3 := HBx415.out.size; have u4 := HBx4153.out.size; omega⟩)
      · skip
        refine value_ (v := .pointer (some ⟨x4.heap.size, 0, none⟩)) (w1 := x4.alloc (.cells #[.int .i64 0, .int .i64 0, .slice none 0 0] 25)) (by rfl) rfl (by go_simp) ?_
        have h0 := B5 x4 (.cells #[.int .i64 0, .int .i64 0, .slice none 0 0] 25)
        have h2 : Below x4.heap.size x4 (x4.alloc (.cells #[.int .i64 0, .int .i64 0, .slice none 0 0] 25)) := Ai (Below.refl _ _) _
        have n2 := Av h0
        generalize x4.alloc (.cells #[.int .i64 0, .int .i64 0, .slice none 0 0] 25) = x45 at h0 h2 n2 ⊢
        have HX5 := Ac.mk n2
        have HBx45 := Ac.mk (HBx4.out.trans (h2.mono HBx4.out.size))
        have HSx45 := Ac.mk (show x4.heap.size ≤ x45.heap.size from h2.size)
        have HG4x45 := Ac.mk (Ak HG4x4.out h2)
        have HG5x45 := Ac.mk h0
        have HPx45 := Ac.mk (Ak HP5.out HBx45.out)
        clear h0 h2 n2
        refine hK.out _ _ ⟨(Ag HPx45.out 0).trans rfl, (Ag HPx45.out 1).trans rfl, (Ag HPx45.out 2).trans rfl⟩ (fun hHeld => ?_)
        clear hK K
        refine norm_ (a' := ?_) ?_ ?_
        rotate_left
        · show Act.put _ (some 20) _ = _
          simp only [Act.put, List.setIfInBounds_toArray, List.set_cons_zero, List.set_cons_succ, i64_w, i32_w]
          rfl
        refine one_ (i := 1) (N := some 48) #[true, true, true, false, true, true, false, false] rfl rfl (one_of HT_.out (by kernel_rfl)) (by decide) (fun K hK => ?_)
        refine Ck Try.func12 (by kernel_rfl) rfl #[.agg #[.int .i64 W, .int .i64 H, .slice A0 l.length c0]] (by rfl) rfl rfl (by simp only [List.map_toArray, List.map_cons, List.map_nil]; rfl) ?_
        with_reducible refine (Bm.calls W H A0 c0 l W H l x45 (Kd.Bo HC.out (HW5.out.trans (HBx45.out.mono HZ5.out))) HCC.out HCP.out).mono ?_
        rintro e x451 ⟨v, rfl, h1, h2⟩
        obtain ⟨b1, c1, e1, n1, n2, h3⟩ := row_newN h1 rfl HN.out
        subst e1
        refine ⟨_, rfl, ?_⟩
        have HX1 := Ac.mk (And.intro n1 n2)
        have HBx451 := Ac.mk (HBx45.out.trans (h2.mono HBx45.out.size))
        have HSx451 := Ac.mk (show x45.heap.size ≤ x451.heap.size from h2.size)
        have HG4x451 := Ac.mk (Ak HG4x45.out h2)
        have HG5x451 := Ac.mk (Ak HG5x45.out h2)
        have HR1x451 := Ac.mk (Kd.Br h3 HBx45.out.size)
        have HPx451 := Ac.mk (Ak HP5.out HBx451.out)
        clear h1 h2 h3 n1 n2
        refine hK.out _ _ ⟨(Ag HPx451.out 0).trans rfl, (Ag HPx451.out 1).trans rfl, (Ag HPx451.out 2).trans rfl⟩ (fun hHeld => ?_)
        clear hK K
        refine norm_ (a' := ?_) ?_ ?_
        rotate_left
        · show Act.put _ (some 48) _ = _
          simp only [Act.put, List.setIfInBounds_toArray, List.set_cons_zero, List.set_cons_succ, i64_w, i32_w]
          rfl
        refine one_ (i := 3) (N := some 50) #[true, true, true, true, true, true, false, false] rfl rfl (one_of HT_.out (by kernel_rfl)) (by decide) (fun K hK => ?_)
        refine Ck Try.func12 (by kernel_rfl) rfl #[.agg #[.int .i64 W, .int .i64 H, .slice A0 l.length c0]] (by rfl) rfl rfl (by simp only [List.map_toArray, List.map_cons, List.map_nil]; rfl) ?_
        with_reducible refine (Bm.calls W H A0 c0 l W H l x451 (Kd.Bo HC.out (HW5.out.trans (HBx451.out.mono HZ5.out))) HCC.out HCP.out).mono ?_
        rintro e x4513 ⟨v, rfl, h1, h2⟩
        obtain ⟨b3, c3, e1, n1, n2, h3⟩ := row_newN h1 rfl HN.out
        subst e1
        refine ⟨_, rfl, ?_⟩
        have HX3 := Ac.mk (And.intro n1 n2)
        have HBx4513 := Ac.mk (HBx451.out.trans (h2.mono HBx451.out.size))
        have HSx4513 := Ac.mk (show x451.heap.size ≤ x4513.heap.size from h2.size)
        have HG4x4513 := Ac.mk (Ak HG4x451.out h2)
        have HG5x4513 := Ac.mk (Ak HG5x451.out h2)
        have HR1x4513 := Ac.mk (Kd.Bf HR1x451.out h2)
        have HR3x4513 := Ac.mk (Kd.Br h3 HBx451.out.size)
        have HPx4513 := Ac.mk (Ak HP5.out HBx4513.out)
        clear h1 h2 h3 n1 n2
        refine hK.out _ _ ⟨(Ag HPx4513.out 0).trans rfl, (Ag HPx4513.out 1).trans rfl, (Ag HPx4513.out 2).trans rfl⟩ (fun hHeld => ?_)
        clear hK K
        refine norm_ (a' := ?_) ?_ ?_
        rotate_left
        · show Act.put _ (some 50) _ = _
          simp only [Act.put, List.setIfInBounds_toArray, List.set_cons_zero, List.set_cons_succ, i64_w, i32_w]
          rfl
        exact norm_ (by simp only [putAll, Act.put, List.setIfInBounds_toArray, List.set_cons_zero, List.set_cons_succ]) (hCont (w5.heap.size, x4.heap.size, b1, c1, b3, c3) _ ⟨HBx4513.out, HG4x4513.out, HG5x4513.out, HR1x4513.out, HR3x4513.out, by (try dsimp only); have z1 := HX1.out; have z3 := HX3.out; have z4 := HX4.out; have z5 := HX5.out; have y1 := HSx4.out; have y2 := HSx45.out; have y3 := HSx451.out; have y4 := HSx4513.out; have y0 := HBx4.out.size; have u1 := HBx4.out.size; have u2 := HBx45.out.size; have u3 := HBx451.out.size; have u4 := HBx4513.out.size; omega⟩)
    · skip
      refine value_ (v := .pointer (some ⟨w5.heap.size, 0, none⟩)) (w1 := w5.alloc (.cells #[.int .i64 0, .int .i64 0, .slice none 0 0] 25)) (by rfl) rfl (by go_simp) ?_
      have h0 := B5 w5 (.cells #[.int .i64 0, .int .i64 0, .slice none 0 0] 25)
      have h2 : Below w5.heap.size w5 (w5.alloc (.cells #[.int .i64 0, .int .i64 0, .slice none 0 0] 25)) := Ai (Below.refl _ _) _
      have n2 := Av h0
      generalize w5.alloc (.cells #[.int .i64 0, .int .i64 0, .slice none 0 0] 25) = x5 at h0 h2 n2 ⊢
      have HX5 := Ac.mk n2
      have HBx5 := Ac.mk (HBw5.out.trans (h2.mono HBw5.out.size))
      have HSx5 := Ac.mk (show w5.heap.size ≤ x5.heap.size from h2.size)
      have HG5x5 := Ac.mk h0
      have HPx5 := Ac.mk (Ak HP5.out HBx5.out)
      clear h0 h2 n2
      refine hK.out _ _ ⟨(Ag HPx5.out 0).trans rfl, (Ag HPx5.out 1).trans rfl, (Ag HPx5.out 2).trans rfl⟩ (fun hHeld => ?_)
      clear hK K
      refine norm_ (a' := ?_) ?_ ?_
      rotate_left
      · show Act.put _ (some 20) _ = _
        simp only [Act.put, List.setIfInBounds_toArray, List.set_cons_zero, List.set_cons_succ, i64_w, i32_w]
        rfl
      refine two_ (i := 1) (j := 4) (Ni := some 48) (Nj := some 19) #[true, true, true, false, false, true, false, false] #[true, false, true, false, true, true, false, false] rfl rfl rfl rfl (two_of HT_.out (by kernel_rfl)) (by decide) (by decide) (fun K hK => ?_) (fun K hK => ?_)
      · skip
        refine Ck Try.func12 (by kernel_rfl) rfl #[.agg #[.int .i64 W, .int .i64 H, .slice A0 l.length c0]] (by rfl) rfl rfl (by simp only [List.map_toArray, List.map_cons, List.map_nil]; rfl) ?_
        with_reducible refine (Bm.calls W H A0 c0 l W H l x5 (Kd.Bo HC.out (HW5.out.trans (HBx5.out.mono HZ5.out))) HCC.out HCP.out).mono ?_
        rintro e x51 ⟨v, rfl, h1, h2⟩
        obtain ⟨b1, c1, e1, n1, n2, h3⟩ := row_newN h1 rfl HN.out
        subst e1
        refine ⟨_, rfl, ?_⟩
        have HX1 := Ac.mk (And.intro n1 n2)
        have HBx51 := Ac.mk (HBx5.out.trans (h2.mono HBx5.out.size))
        have HSx51 := Ac.mk (show x5.heap.size ≤ x51.heap.size from h2.size)
        have HG5x51 := Ac.mk (Ak HG5x5.out h2)
        have HR1x51 := Ac.mk (Kd.Br h3 HBx5.out.size)
        have HPx51 := Ac.mk (Ak HP5.out HBx51.out)
        clear h1 h2 h3 n1 n2
        refine hK.out _ _ ⟨(Ag HPx51.out 0).trans rfl, (Ag HPx51.out 1).trans rfl, (Ag HPx51.out 2).trans rfl⟩ (fun hHeld => ?_)
        clear hK K
        refine norm_ (a' := ?_) ?_ ?_
        rotate_left
        · show Act.put _ (some 48) _ = _
          simp only [Act.put, List.setIfInBounds_toArray, List.set_cons_zero, List.set_cons_succ, i64_w, i32_w]
          rfl
        refine two_ (i := 3) (j := 4) (Ni := some 50) (Nj := some 19) #[true, true, true, true, false, true, false, false] #[true, true, true, false, true, true, false, false] rfl rfl rfl rfl (two_of HT_.out (by kernel_rfl)) (by decide) (by decide) (fun K hK => ?_) (fun K hK => ?_)
        · skip
          refine Ck Try.func12 (by kernel_rfl) rfl #[.agg #[.int .i64 W, .int .i64 H, .slice A0 l.length c0]] (by rfl) rfl rfl (by simp only [List.map_toArray, List.map_cons, List.map_nil]; rfl) ?_
          with_reducible refine (Bm.calls W H A0 c0 l W H l x51 (Kd.Bo HC.out (HW5.out.trans (HBx51.out.mono HZ5.out))) HCC.out HCP.out).mono ?_
          rintro e x513 ⟨v, rfl, h1, h2⟩
          obtain ⟨b3, c3, e1, n1, n2, h3⟩ := row_newN h1 rfl HN.out
          subst e1
          refine ⟨_, rfl, ?_⟩
          have HX3 := Ac.mk (And.intro n1 n2)
          have HBx513 := Ac.mk (HBx51.out.trans (h2.mono HBx51.out.size))
          have HSx513 := Ac.mk (show x51.heap.size ≤ x513.heap.size from h2.size)
          have HG5x513 := Ac.mk (Ak HG5x51.out h2)
          have HR1x513 := Ac.mk (Kd.Bf HR1x51.out h2)
          have HR3x513 := Ac.mk (Kd.Br h3 HBx51.out.size)
          have HPx513 := Ac.mk (Ak HP5.out HBx513.out)
          clear h1 h2 h3 n1 n2
          refine hK.out _ _ ⟨(Ag HPx513.out 0).trans rfl, (Ag HPx513.out 1).trans rfl, (Ag HPx513.out 2).trans rfl⟩ (fun hHeld => ?_)
          clear hK K
          refine norm_ (a' := ?_) ?_ ?_
          rotate_left
          · show Act.put _ (some 50) _ = _
            simp only [Act.put, List.setIfInBounds_toArray, List.set_cons_zero, List.set_cons_succ, i64_w, i32_w]
            rfl
          refine one_ (i := 4) (N := some 19) #[true, true, true, true, true, true, false, false] rfl rfl (one_of HT_.out (by kernel_rfl)) (by decide) (fun K hK => ?_)
          refine value_ (v := .pointer (some ⟨x513.heap.size, 0, none⟩)) (w1 := x513.alloc (.cells #[.int .i64 0, .int .i64 0, .slice none 0 0] 25)) (by rfl) rfl (by go_simp) ?_
          have h0 := B5 x513 (.cells #[.int .i64 0, .int .i64 0, .slice none 0 0] 25)
          have h2 : Below x513.heap.size x513 (x513.alloc (.cells #[.int .i64 0, .int .i64 0, .slice none 0 0] 25)) := Ai (Below.refl _ _) _
          have n2 := Av h0
          generalize x513.alloc (.cells #[.int .i64 0, .int .i64 0, .slice none 0 0] 25) = x5134 at h0 h2 n2 ⊢
          have HX4 := Ac.mk n2
          have HBx5134 := Ac.mk (HBx513.out.trans (h2.mono HBx513.out.size))
          have HSx5134 := Ac.mk (show x513.heap.size ≤ x5134.heap.size from h2.size)
          have HG5x5134 := Ac.mk (Ak HG5x513.out h2)
          have HR1x5134 := Ac.mk (Kd.Bf HR1x513.out h2)
          have HR3x5134 := Ac.mk (Kd.Bf HR3x513.out h2)
          have HG4x5134 := Ac.mk h0
          have HPx5134 := Ac.mk (Ak HP5.out HBx5134.out)
          clear h0 h2 n2
          refine hK.out _ _ ⟨(Ag HPx5134.out 0).trans rfl, (Ag HPx5134.out 1).trans rfl, (Ag HPx5134.out 2).trans rfl⟩ (fun hHeld => ?_)
          clear hK K
          refine norm_ (a' := ?_) ?_ ?_
          rotate_left
          · show Act.put _ (some 19) _ = _
            simp only [Act.put, List.setIfInBounds_toArray, List.set_cons_zero, List.set_cons_succ, i64_w, i32_w]
            rfl
          exact norm_ (by simp only [putAll, Act.put, List.setIfInBounds_toArray, List.set_cons_zero, List.set_cons_succ]) (hCont (x513.heap.size, w5.heap.size, b1, c1, b3, c3) _ ⟨HBx5134.out, HG4x5134.out, HG5x5134.out, HR1x5134.out, HR3x5134.out, by (try dsimp only); have z1 := HX1.out; have z3 := HX3.out; have z4 := HX4.out; have z5 := HX5.out; have y1 := HSx5.out; have y2 := HSx51.out; have y3 := HSx513.out; have y4 := HSx5134.out; have y0 := HBx5.out.size; have u1 := HBx5.out.size; have u2 := HBx51.out.size; have u3 := HBx513.out.size; have u4 := HBx5134.out.size; omega⟩)
        · skip
          refine value_ (v := .pointer (some ⟨x51.heap.size, 0, none⟩)) (w1 := x51.alloc (.cells #[.int .i64 0, .int .i64 0, .slice none 0 0] 25)) (by rfl) rfl (by go_simp) ?_
          have h0 := B5 x51 (.cells #[.int .i64 0, .int .i64 0, .slice none 0 0] 25)
          have h2 : Below x51.heap.size x51 (x51.alloc (.cells #[.int .i64 0, .int .i64 0, .slice none 0 0] 25)) := Ai (Below.refl _ _) _
          have n2 := Av h0
          generalize x51.alloc (.cells #[.int .i64 0, .int .i64 0, .slice none 0 0] 25) = x514 at h0 h2 n2 ⊢
          have HX4 := Ac.mk n2
          have HBx514 := Ac.mk (HBx51.out.trans (h2.mono HBx51.out.size))
          have HSx514 := Ac.mk (show x51.heap.size ≤ x514.heap.size from h2.size)
          have HG5x514 := Ac.mk (Ak HG5x51.out h2)
          have HR1x514 := Ac.mk (Kd.Bf HR1x51.out h2)
          have HG4x514 := Ac.mk h0
          have HPx514 := Ac.mk (Ak HP5.out HBx514.out)
          clear h0 h2 n2
          refine hK.out _ _ ⟨(Ag HPx514.out 0).trans rfl, (Ag HPx514.out 1).trans rfl, (Ag HPx514.out 2).trans rfl⟩ (fun hHeld => ?_)
          clear hK K
          refine norm_ (a' := ?_) ?_ ?_
          rotate_left
          · show Act.put _ (some 19) _ = _
            simp only [Act.put, List.setIfInBounds_toArray, List.set_cons_zero, List.set_cons_succ, i64_w, i32_w]
            rfl
          refine one_ (i := 3) (N := some 50) #[true, true, true, true, true, true, false, false] rfl rfl (one_of HT_.out (by kernel_rfl)) (by decide) (fun K hK => ?_)
          refine Ck Try.func12 (by kernel_rfl) rfl #[.agg #[.int .i64 W, .int .i64 H, .slice A0 l.length c0]] (by rfl) rfl rfl (by simp only [List.map_toArray, List.map_cons, List.map_nil]; rfl) ?_
          with_reducible refine (Bm.calls W H A0 c0 l W H l x514 (Kd.Bo HC.out (HW5.out.trans (HBx514.out.mono HZ5.out))) HCC.out HCP.out).mono ?_
          rintro e x5143 ⟨v, rfl, h1, h2⟩
          obtain ⟨b3, c3, e1, n1, n2, h3⟩ := row_newN h1 rfl HN.out
          subst e1
          refine ⟨_, rfl, ?_⟩
          have HX3 := Ac.mk (And.intro n1 n2)
          have HBx5143 := Ac.mk (HBx514.out.trans (h2.mono HBx514.out.size))
          have HSx5143 := Ac.mk (show x514.heap.size ≤ x5143.heap.size from h2.size)
          have HG5x5143 := Ac.mk (Ak HG5x514.out h2)
          have HR1x5143 := Ac.mk (Kd.Bf HR1x514.out h2)
          have HG4x5143 := Ac.mk (Ak HG4x514.out h2)
          have HR3x5143 := Ac.mk (Kd.Br h3 HBx514.out.size)
          have HPx5143 := Ac.mk (Ak HP5.out HBx5143.out)
          clear h1 h2 h3 n1 n2
          refine hK.out _ _ ⟨(Ag HPx5143.out 0).trans rfl, (Ag HPx5143.out 1).trans rfl, (Ag HPx5143.out 2).trans rfl⟩ (fun hHeld => ?_)
          clear hK K
          refine norm_ (a' := ?_) ?_ ?_
          rotate_left
          · show Act.put _ (some 50) _ = _
            simp only [Act.put, List.setIfInBounds_toArray, List.set_cons_zero, List.set_cons_succ, i64_w, i32_w]
            rfl
          exact norm_ (by simp only [putAll, Act.put, List.setIfInBounds_toArray, List.set_cons_zero, List.set_cons_succ]) (hCont (x51.heap.size, w5.heap.size, b1, c1, b3, c3) _ ⟨HBx5143.out, HG4x5143.out, HG5x5143.out, HR1x5143.out, HR3x5143.out, by (try dsimp only); have z1 := HX1.out; have z3 := HX3.out; have z4 := HX4.out; have z5 := HX5.out; have y1 := HSx5.out; have y2 := HSx51.out; have y3 := HSx514.out; have y4 := HSx5143.out; have y0 := HBx5.out.size; have u1 := HBx5.out.size; have u2 := HBx51.out.size; have u3 := HBx514.out.size; have u4 := HBx5143.out.size; omega⟩)
      · skip
        refine value_ (v := .pointer (some ⟨x5.heap.size, 0, none⟩)) (w1 := x5.alloc (.cells #[.int .i64 0, .int .i64 0, .slice none 0 0] 25)) (by rfl) rfl (by go_simp) ?_
        have h0 := B5 x5 (.cells #[.int .i64 0, .int .i64 0, .slice none 0 0] 25)
        have h2 : Below x5.heap.size x5 (x5.alloc (.cells #[.int .i64 0, .int .i64 0, .slice none 0 0] 25)) := Ai (Below.refl _ _) _
        have n2 := Av h0
        generalize x5.alloc (.cells #[.int .i64 0, .int .i64 0, .slice none 0 0] 25) = x54 at h0 h2 n2 ⊢
        have HX4 := Ac.mk n2
        have HBx54 := Ac.mk (HBx5.out.trans (h2.mono HBx5.out.size))
        have HSx54 := Ac.mk (show x5.heap.size ≤ x54.heap.size from h2.size)
        have HG5x54 := Ac.mk (Ak HG5x5.out h2)
        have HG4x54 := Ac.mk h0
        have HPx54 := Ac.mk (Ak HP5.out HBx54.out)
        clear h0 h2 n2
        refine hK.out _ _ ⟨(Ag HPx54.out 0).trans rfl, (Ag HPx54.out 1).trans rfl, (Ag HPx54.out 2).trans rfl⟩ (fun hHeld => ?_)
        clear hK K
        refine norm_ (a' := ?_) ?_ ?_
        rotate_left
        · show Act.put _ (some 19) _ = _
          simp only [Act.put, List.setIfInBounds_toArray, List.set_cons_zero, List.set_cons_succ, i64_w, i32_w]
          rfl
        refine one_ (i := 1) (N := some 48) #[true, true, true, false, true, true, false, false] rfl rfl (one_of HT_.out (by kernel_rfl)) (by decide) (fun K hK => ?_)
        refine Ck Try.func12 (by kernel_rfl) rfl #[.agg #[.int .i64 W, .int .i64 H, .slice A0 l.length c0]] (by rfl) rfl rfl (by simp only [List.map_toArray, List.map_cons, List.map_nil]; rfl) ?_
        with_reducible refine (Bm.calls W H A0 c0 l W H l x54 (Kd.Bo HC.out (HW5.out.trans (HBx54.out.mono HZ5.out))) HCC.out HCP.out).mono ?_
        rintro e x541 ⟨v, rfl, h1, h2⟩
        obtain ⟨b1, c1, e1, n1, n2, h3⟩ := row_newN h1 rfl HN.out
        subst e1
        refine ⟨_, rfl, ?_⟩
        have HX1 := Ac.mk (And.intro n1 n2)
        have HBx541 := Ac.mk (HBx54.out.trans (h2.mono HBx54.out.size))
        have HSx541 := Ac.mk (show x54.heap.size ≤ x541.heap.size from h2.size)
        have HG5x541 := Ac.mk (Ak HG5x54.out h2)
        have HG4x541 := Ac.mk (Ak HG4x54.out h2)
        have HR1x541 := Ac.mk (Kd.Br h3 HBx54.out.size)
        have HPx541 := Ac.mk (Ak HP5.out HBx541.out)
        clear h1 h2 h3 n1 n2
        refine hK.out _ _ ⟨(Ag HPx541.out 0).trans rfl, (Ag HPx541.out 1).trans rfl, (Ag HPx541.out 2).trans rfl⟩ (fun hHeld => ?_)
        clear hK K
        refine norm_ (a' := ?_) ?_ ?_
        rotate_left
        · show Act.put _ (some 48) _ = _
          simp only [Act.put, List.setIfInBounds_toArray, List.set_cons_zero, List.set_cons_succ, i64_w, i32_w]
          rfl
        refine one_ (i := 3) (N := some 50) #[true, true, true, true, true, true, false, false] rfl rfl (one_of HT_.out (by kernel_rfl)) (by decide) (fun K hK => ?_)
        refine Ck Try.func12 (by kernel_rfl) rfl #[.agg #[.int .i64 W, .int .i64 H, .slice A0 l.length c0]] (by rfl) rfl rfl (by simp only [List.map_toArray, List.map_cons, List.map_nil]; rfl) ?_
        with_reducible refine (Bm.calls W H A0 c0 l W H l x541 (Kd.Bo HC.out (HW5.out.trans (HBx541.out.mono HZ5.out))) HCC.out HCP.out).mono ?_
        rintro e x5413 ⟨v, rfl, h1, h2⟩
        obtain ⟨b3, c3, e1, n1, n2, h3⟩ := row_newN h1 rfl HN.out
        subst e1
        refine ⟨_, rfl, ?_⟩
        have HX3 := Ac.mk (And.intro n1 n2)
        have HBx5413 := Ac.mk (HBx541.out.trans (h2.mono HBx541.out.size))
        have HSx5413 := Ac.mk (show x541.heap.size ≤ x5413.heap.size from h2.size)
        have HG5x5413 := Ac.mk (Ak HG5x541.out h2)
        have HG4x5413 := Ac.mk (Ak HG4x541.out h2)
        have HR1x5413 := Ac.mk (Kd.Bf HR1x541.out h2)
        have HR3x5413 := Ac.mk (Kd.Br h3 HBx541.out.size)
        have HPx5413 := Ac.mk (Ak HP5.out HBx5413.out)
        clear h1 h2 h3 n1 n2
        refine hK.out _ _ ⟨(Ag HPx5413.out 0).trans rfl, (Ag HPx5413.out 1).trans rfl, (Ag HPx5413.out 2).trans rfl⟩ (fun hHeld => ?_)
        clear hK K
        refine norm_ (a' := ?_) ?_ ?_
        rotate_left
        · show Act.put _ (some 50) _ = _
          simp only [Act.put, List.setIfInBounds_toArray, List.set_cons_zero, List.set_cons_succ, i64_w, i32_w]
          rfl
        exact norm_ (by simp only [putAll, Act.put, List.setIfInBounds_toArray, List.set_cons_zero, List.set_cons_succ]) (hCont (x5.heap.size, w5.heap.size, b1, c1, b3, c3) _ ⟨HBx5413.out, HG4x5413.out, HG5x5413.out, HR1x5413.out, HR3x5413.out, by (try dsimp only); have z1 := HX1.out; have z3 := HX3.out; have z4 := HX4.out; have z5 := HX5.out; have y1 := HSx5.out; have y2 := HSx54.out; have y3 := HSx541.out; have y4 := HSx5413.out; have y0 := HBx5.out.size; have u1 := HBx5.out.size; have u2 := HBx54.out.size; have u3 := HBx541.out.size; have u4 := HBx5413.out.size; omega⟩)
  rintro ⟨g1, g2, b1, c1, b2, c2⟩ w6 hF
  have HF := Ac.mk (show Laid w5 w6 l g1 g2 b1 c1 b2 c2 from hF)
  have HP6 := Ac.mk (Ak HP5.out HF.out.bel)
  have hHeld : w6.cell? ⟨w.heap.size, 0, none⟩ = some (.int .i64 (W : Int)) ∧ w6.cell? ⟨w.heap.size, 1, none⟩ = some (.int .i64 (H : Int)) ∧ w6.cell? ⟨w.heap.size, 2, none⟩ = some (.slice A0 l.length c0) := ⟨(Ag HP6.out 0).trans rfl, (Ag HP6.out 1).trans rfl, (Ag HP6.out 2).trans rfl⟩
  clear hF
  refine norm_ (a' := ?_) ?_ ?_
  rotate_left
  · simp only [putAll, Act.put, List.setIfInBounds_toArray, List.set_cons_zero, List.set_cons_succ]
    rfl
  refine one_ (i := 6) (N := none) #[true, true, true, true, true, true, true, false] rfl rfl (one_of HT_.out (by kernel_rfl)) (by decide) (fun K hK => ?_)
  have ct0 : w6.cell? ⟨g1, 0, none⟩ = some (.int .i64 0) := (Ag HF.out.t 0).trans rfl
  have ct1 : w6.cell? ⟨g1, 1, none⟩ = some (.int .i64 0) := (Ag HF.out.t 1).trans rfl
  have ct2 : w6.cell? ⟨g1, 2, none⟩ = some (.slice none 0 0) := (Ag HF.out.t 2).trans rfl
  have ft0 := Ah HF.out.t 0
  have ft1 := Ah HF.out.t 1
  have ft2 := Ah HF.out.t 2
  refine skip_ (w1 := ?_) (by rfl) rfl ?_ ?_
  rotate_left
  · go_simp
    rfl
  obtain ⟨q1, q2, q3, q4⟩ := put3 (.int .i64 (W : Int)) (.int .i64 (H : Int)) (.slice (some ⟨b1, 0, none⟩) l.length c1) HF.out.t
  clear ct0 ct1 ct2 ft0 ft1 ft2
  generalize ((w6.setCell ⟨g1, 0, none⟩ (.int .i64 (W : Int))).setCell ⟨g1, 1, none⟩ (.int .i64 (H : Int))).setCell ⟨g1, 2, none⟩ (.slice (some ⟨b1, 0, none⟩) l.length c1) = w7 at q1 q2 q3 q4 ⊢
  have HT7 := Ac.mk q1
  have HM7 := Ac.mk q2
  have HB7 := Ac.mk (HF.out.bel.trans (q4.mono HF.out.n.1))
  have HU7 := Ac.mk ((q2 g2 (Ne.symm HF.out.n.2.2.2.2.1)).trans HF.out.u)
  clear q1 q2 q3 q4
  have HP7 := Ac.mk (Ak HP5.out HB7.out)
  refine hK.out _ _ ⟨(Ag HP7.out 0).trans rfl, (Ag HP7.out 1).trans rfl, (Ag HP7.out 2).trans rfl⟩ (fun hHeld => ?_)
  clear hK K
  refine last_ (i := 7) (N := none) #[true, true, true, true, true, true, true, true] rfl rfl (one_of HT_.out (by kernel_rfl)) (by decide) (fun K hK => ?_)
  have ct0 : w7.cell? ⟨g2, 0, none⟩ = some (.int .i64 0) := (Ag HU7.out 0).trans rfl
  have ct1 : w7.cell? ⟨g2, 1, none⟩ = some (.int .i64 0) := (Ag HU7.out 1).trans rfl
  have ct2 : w7.cell? ⟨g2, 2, none⟩ = some (.slice none 0 0) := (Ag HU7.out 2).trans rfl
  have ft0 := Ah HU7.out 0
  have ft1 := Ah HU7.out 1
  have ft2 := Ah HU7.out 2
  refine skip_ (w1 := ?_) (by rfl) rfl ?_ ?_
  rotate_left
  · go_simp
    rfl
  obtain ⟨q1, q2, q3, q4⟩ := put3 (.int .i64 (W : Int)) (.int .i64 (H : Int)) (.slice (some ⟨b2, 0, none⟩) l.length c2) HU7.out
  clear ct0 ct1 ct2 ft0 ft1 ft2
  generalize ((w7.setCell ⟨g2, 0, none⟩ (.int .i64 (W : Int))).setCell ⟨g2, 1, none⟩ (.int .i64 (H : Int))).setCell ⟨g2, 2, none⟩ (.slice (some ⟨b2, 0, none⟩) l.length c2) = w8 at q1 q2 q3 q4 ⊢
  have HLI : Ac (LI w5 w8 W H l.length ((l.take 0).map turnV ++ l.drop 0) ((l.take 0).map (riseV lo hi D) ++ l.drop 0) g1 g2 b1 c1 b2 c2) := ⟨HB7.out.trans (q4.mono HF.out.n.2.1), (q2 g1 HF.out.n.2.2.2.2.1).trans HT7.out, q1, by simpa using row_move HF.out.r1 ((q2 b1 HF.out.n.2.2.2.2.2.2.2.1).trans (HM7.out b1 HF.out.n.2.2.2.2.2.2.1)), by simpa using row_move HF.out.r2 ((q2 b2 HF.out.n.2.2.2.2.2.2.2.2.2).trans (HM7.out b2 HF.out.n.2.2.2.2.2.2.2.2.1)), HF.out.n⟩
  clear q1 q2 q3 q4
  refine hK.out _ _ ?_
  clear hK K
  refine done_ (done_of HT_.out (by kernel_rfl)) ?_
  clear HP6 HP7 HF HT7 HM7 HB7 HU7
  go_wp2
  go_loopw [21] (fun s wr => ∃ i : Nat, i ≤ l.length ∧ s = .int .i64 i ∧ Ac (LI w5 wr W H l.length ((l.take i).map turnV ++ l.drop i) ((l.take i).map (riseV lo hi D) ++ l.drop i) g1 g2 b1 c1 b2 c2)) (fun s _ => l.length - (intOf s).toNat)
  case atStart => exact ⟨0, Nat.zero_le _, rfl, HLI⟩
  case round => as_aux_lemma =>
    obtain ⟨i, hile, rfl, HI⟩ := hrel
    clear HLI
    have hpr := Ak HP5.out HI.out.bel
    have cp2 : wr.cell? ⟨w.heap.size, 2, none⟩ = some (.slice A0 l.length c0) := (Ag hpr 2).trans rfl
    by_cases hlt : i < l.length
    · as_aux_lemma =>
      obtain ⟨ad, rfl, hx0⟩ := Kd.at_int HC.out (i : Int) (by omega) (by omega)
      rw [Int.toNat_natCast] at hx0
      have hxe : rd l (i : Int) = l.getD i 0 := by unfold rd; rw [Int.toNat_natCast]
      rw [hxe] at hx0
      have hlm := HCC.out
      obtain ⟨x, hxx⟩ : ∃ x, x = l.getD i 0 := ⟨_, rfl⟩
      rw [← hxx] at hx0
      have HRV : Ac (B4.f x lo hi D = some (riseV lo hi D x)) := ⟨rises_val x lo hi D (by rw [hxx, List.getD_eq_getElem?_getD, List.getElem?_eq_getElem hlt]; exact HU.out _ (List.getElem_mem hlt)) HLO.out HHI.out HD.out⟩
      have HXX := Ac.mk hxx
      have HADB : Ac (b1 ≠ (ad.add i).block) := ⟨fun e => by
        have h1 := World.block_lt_of_cell? _ _ hx0
        have h2 := HI.out.n.2.2.1
        have h3 := HZ5.out
        omega⟩
      have HX1 := Ac.mk (Bt (HW5.out.trans (HI.out.bel.mono HZ5.out)) hx0)
      have HPR := Ac.mk hpr
      clear hxe hxx hpr hx0
      as_aux_lemma =>
      go_upto_region 13 with fail
      clear cp2

      refine start_ (n := 25) (S := fun w' => w'.cell? ⟨g1, 2, none⟩ = some (.slice (some ⟨b1, 0, none⟩) l.length c1) ∧ w'.cell? ⟨g2, 2, none⟩ = some (.slice (some ⟨b2, 0, none⟩) l.length c2) ∧ w'.cell? ⟨w.heap.size, 2, none⟩ = some (.slice (some ad) l.length c0) ∧ w'.cell? (ad.add i) = some (.int .u32 x)) (ds := [24]) #[false, false, false, false, false, false, false, false, false, false, false, false, false, false, false, false, false, false, false, false, false, false, false, false, false] (by kernel_rfl) rfl rfl ⟨(Ag (Ad HI.out.t) 2).trans rfl, (Ag (Ad HI.out.u) 2).trans rfl, (Ag (Ad HPR.out) 2).trans rfl, HX1.out⟩ (fun hHeld => ?_)
      refine with_tabW tt.tab13 tt.bits13 (fun HT_ HW_ => ?_)
      have HBD := Ac.mk (Aj (Below.refl wr.heap.size wr))
      have HPNE : Ac (b1 ≠ w.heap.size) := ⟨fun e => by have h1 := Av HP5.out; have h2 := HI.out.n.2.2.1; omega⟩
      generalize wr.drew = w9 at HBD hHeld ⊢
      refine pure_ (i := 0) (N := some 58) (v := ?_) (a' := ?_) #[true, false, false, false, false, false, false, false, false, false, false, false, false, false, false, false, false, false, false, false, false, false, false, false, false] rfl rfl (any_of HT_.out (by kernel_rfl)) (fun _ _ _ h => h) (Or.inl ⟨by rfl, ?_⟩) ?_ ?_
      rotate_left
      · intro w'
        go_simp
        with_reducible rfl
      rotate_left
      · simp only [Act.put, List.setIfInBounds_toArray, List.set_cons_zero, List.set_cons_succ, i64_w, i32_w]
        rfl
      refine pure_ (i := 2) (N := some 60) (v := ?_) (a' := ?_) #[true, false, true, false, false, false, false, false, false, false, false, false, false, false, false, false, false, false, false, false, false, false, false, false, false] rfl rfl (any_of HT_.out (by kernel_rfl)) (fun _ _ _ h => h) (Or.inl ⟨by rfl, ?_⟩) ?_ ?_
      rotate_left
      · intro w'
        go_simp
        with_reducible rfl
      rotate_left
      · simp only [Act.put, List.setIfInBounds_toArray, List.set_cons_zero, List.set_cons_succ, i64_w, i32_w]
        rfl
      refine pure_ (i := 3) (N := some 61) (v := ?_) (a' := ?_) #[true, false, true, true, false, false, false, false, false, false, false, false, false, false, false, false, false, false, false, false, false, false, false, false, false] rfl rfl (any_of HT_.out (by kernel_rfl)) (fun _ _ _ h => h) (Or.inl ⟨by rfl, ?_⟩) ?_ ?_
      rotate_left
      · intro w'
        go_simp
        with_reducible rfl
      rotate_left
      · simp only [Act.put, List.setIfInBounds_toArray, List.set_cons_zero, List.set_cons_succ, i64_w, i32_w]
        rfl
      refine pure_ (i := 5) (N := some 63) (v := ?_) (a' := ?_) #[true, false, true, true, false, true, false, false, false, false, false, false, false, false, false, false, false, false, false, false, false, false, false, false, false] rfl rfl (any_of HT_.out (by kernel_rfl)) (fun _ _ _ h => h) (Or.inl ⟨by rfl, ?_⟩) ?_ ?_
      rotate_left
      · intro w'
        go_simp
        with_reducible rfl
      rotate_left
      · simp only [Act.put, List.setIfInBounds_toArray, List.set_cons_zero, List.set_cons_succ, i64_w, i32_w]
        rfl
      as_aux_lemma =>
      refine pure_ (i := 6) (N := some 64) (v := ?_) (a' := ?_) #[true, false, true, true, false, true, true, false, false, false, false, false, false, false, false, false, false, false, false, false, false, false, false, false, false] rfl rfl (any_of HT_.out (by kernel_rfl)) (fun _ _ _ h => h) (Or.inl ⟨by rfl, ?_⟩) ?_ ?_
      rotate_left
      · intro w'
        go_simp
        with_reducible rfl
      rotate_left
      · simp only [Act.put, List.setIfInBounds_toArray, List.set_cons_zero, List.set_cons_succ, i64_w, i32_w]
        rfl
      refine pure_ (i := 8) (N := some 66) (v := ?_) (a' := ?_) #[true, false, true, true, false, true, true, false, true, false, false, false, false, false, false, false, false, false, false, false, false, false, false, false, false] rfl rfl (any_of HT_.out (by kernel_rfl)) (fun _ _ _ h => h) (Or.inl ⟨by rfl, ?_⟩) ?_ ?_
      rotate_left
      · intro w'
        go_simp
        with_reducible rfl
      rotate_left
      · simp only [Act.put, List.setIfInBounds_toArray, List.set_cons_zero, List.set_cons_succ, i64_w, i32_w]
        rfl
      refine pure_ (i := 12) (N := some 70) (v := ?_) (a' := ?_) #[true, false, true, true, false, true, true, false, true, false, false, false, true, false, false, false, false, false, false, false, false, false, false, false, false] rfl rfl (any_of HT_.out (by kernel_rfl)) (fun _ _ _ h => h) (Or.inl ⟨by rfl, ?_⟩) ?_ ?_
      rotate_left
      · intro w'
        go_simp
        with_reducible rfl
      rotate_left
      · simp only [Act.put, List.setIfInBounds_toArray, List.set_cons_zero, List.set_cons_succ, i64_w, i32_w]
        rfl
      refine pure_ (i := 14) (N := some 72) (v := ?_) (a' := ?_) #[true, false, true, true, false, true, true, false, true, false, false, false, true, false, true, false, false, false, false, false, false, false, false, false, false] rfl rfl (any_of HT_.out (by kernel_rfl)) (fun _ _ _ h => h) (Or.inl ⟨by rfl, ?_⟩) ?_ ?_
      rotate_left
      · intro w'
        go_simp
        with_reducible rfl
      rotate_left
      · simp only [Act.put, List.setIfInBounds_toArray, List.set_cons_zero, List.set_cons_succ, i64_w, i32_w]
        rfl
      refine pure_ (i := 17) (N := some 75) (v := ?_) (a' := ?_) #[true, false, true, true, false, true, true, false, true, false, false, false, true, false, true, false, false, true, false, false, false, false, false, false, false] rfl rfl (any_of HT_.out (by kernel_rfl)) (fun _ _ _ h => h) (Or.inl ⟨by rfl, ?_⟩) ?_ ?_
      rotate_left
      · intro w'
        go_simp
        with_reducible rfl
      rotate_left
      · simp only [Act.put, List.setIfInBounds_toArray, List.set_cons_zero, List.set_cons_succ, i64_w, i32_w]
        rfl
      as_aux_lemma =>
      refine pure_ (i := 18) (N := some 76) (v := ?_) (a' := ?_) #[true, false, true, true, false, true, true, false, true, false, false, false, true, false, true, false, false, true, true, false, false, false, false, false, false] rfl rfl (any_of HT_.out (by kernel_rfl)) (fun _ _ _ h => h) (Or.inl ⟨by rfl, ?_⟩) ?_ ?_
      rotate_left
      · intro w'
        go_simp
        with_reducible rfl
      rotate_left
      · simp only [Act.put, List.setIfInBounds_toArray, List.set_cons_zero, List.set_cons_succ, i64_w, i32_w]
        rfl
      refine pure_ (i := 19) (N := some 77) (v := ?_) (a' := ?_) #[true, false, true, true, false, true, true, false, true, false, false, false, true, false, true, false, false, true, true, true, false, false, false, false, false] rfl rfl (any_of HT_.out (by kernel_rfl)) (fun _ _ _ h => h) (Or.inl ⟨by rfl, ?_⟩) ?_ ?_
      rotate_left
      · intro w'
        go_simp
        with_reducible rfl
      rotate_left
      · simp only [Act.put, List.setIfInBounds_toArray, List.set_cons_zero, List.set_cons_succ, i64_w, i32_w]
        rfl
      refine take_ (i := 1) (N := some 59) (v := ?_) (a' := ?_) #[true, true, true, true, false, true, true, false, true, false, false, false, true, false, true, false, false, true, true, true, false, false, false, false, false] rfl rfl (take_ofW HT_.out HW_.out (by kernel_rfl)) (fun _ _ _ h => h) (Or.inl ⟨by rfl, ?_⟩) hHeld ?_ ?_
      rotate_left
      · rintro w' ⟨s0, s1, s2, s3⟩
        go_simp
        with_reducible rfl
      rotate_left
      · simp only [Act.put, List.setIfInBounds_toArray, List.set_cons_zero, List.set_cons_succ, i64_w, i32_w]
        rfl
      refine take_ (i := 4) (N := some 62) (v := ?_) (a' := ?_) #[true, true, true, true, true, true, true, false, true, false, false, false, true, false, true, false, false, true, true, true, false, false, false, false, false] rfl rfl (take_ofW HT_.out HW_.out (by kernel_rfl)) (fun _ _ _ h => h) (Or.inl ⟨by rfl, ?_⟩) hHeld ?_ ?_
      rotate_left
      · rintro w' ⟨s0, s1, s2, s3⟩
        go_simp
        with_reducible rfl
      rotate_left
      · simp only [Act.put, List.setIfInBounds_toArray, List.set_cons_zero, List.set_cons_succ, i64_w, i32_w]
        rfl
      refine take_ (i := 7) (N := some 65) (v := ?_) (a' := ?_) #[true, true, true, true, true, true, true, true, true, false, false, false, true, false, true, false, false, true, true, true, false, false, false, false, false] rfl rfl (take_ofW HT_.out HW_.out (by kernel_rfl)) (fun _ _ _ h => h) (Or.inl ⟨by rfl, ?_⟩) hHeld ?_ ?_
      rotate_left
      · rintro w' ⟨s0, s1, s2, s3⟩
        go_simp
        with_reducible rfl
      rotate_left
      · simp only [Act.put, List.setIfInBounds_toArray, List.set_cons_zero, List.set_cons_succ, i64_w, i32_w]
        rfl
      as_aux_lemma =>
      refine pure_ (i := 9) (N := some 67) (v := ?_) (a' := ?_) #[true, true, true, true, true, true, true, true, true, true, false, false, true, false, true, false, false, true, true, true, false, false, false, false, false] rfl rfl (any_of HT_.out (by kernel_rfl)) (fun _ _ _ h => h) (Or.inl ⟨by rfl, ?_⟩) ?_ ?_
      rotate_left
      · intro w'
        go_simp
        with_reducible rfl
      rotate_left
      · simp only [Act.put, List.setIfInBounds_toArray, List.set_cons_zero, List.set_cons_succ, i64_w, i32_w]
        rfl
      refine take_ (i := 10) (N := some 68) (v := ?_) (a' := ?_) #[true, true, true, true, true, true, true, true, true, true, true, false, true, false, true, false, false, true, true, true, false, false, false, false, false] rfl rfl (take_ofW HT_.out HW_.out (by kernel_rfl)) (fun _ _ _ h => h) (Or.inl ⟨by rfl, ?_⟩) hHeld ?_ ?_
      rotate_left
      · rintro w' ⟨s0, s1, s2, s3⟩
        go_simp
        with_reducible rfl
      rotate_left
      · simp only [Act.put, List.setIfInBounds_toArray, List.set_cons_zero, List.set_cons_succ, i64_w, i32_w]
        rfl
      refine pure_ (i := 11) (N := some 69) (v := ?_) (a' := ?_) #[true, true, true, true, true, true, true, true, true, true, true, true, true, false, true, false, false, true, true, true, false, false, false, false, false] rfl rfl (any_of HT_.out (by kernel_rfl)) (fun _ _ _ h => h) (Or.inl ⟨by rfl, ?_⟩) ?_ ?_
      rotate_left
      · intro w'
        go_simp
        with_reducible rfl
      rotate_left
      · simp only [Act.put, List.setIfInBounds_toArray, List.set_cons_zero, List.set_cons_succ, i64_w, i32_w]
        rfl
      refine take_ (i := 13) (N := some 71) (v := ?_) (a' := ?_) #[true, true, true, true, true, true, true, true, true, true, true, true, true, true, true, false, false, true, true, true, false, false, false, false, false] rfl rfl (take_ofW HT_.out HW_.out (by kernel_rfl)) (fun _ _ _ h => h) (Or.inl ⟨by rfl, ?_⟩) hHeld ?_ ?_
      rotate_left
      · rintro w' ⟨s0, s1, s2, s3⟩
        go_simp
        with_reducible rfl
      rotate_left
      · simp only [Act.put, List.setIfInBounds_toArray, List.set_cons_zero, List.set_cons_succ, i64_w, i32_w]
        rfl
      refine pure_ (i := 15) (N := some 73) (v := ?_) (a' := ?_) #[true, true, true, true, true, true, true, true, true, true, true, true, true, true, true, true, false, true, true, true, false, false, false, false, false] rfl rfl (any_of HT_.out (by kernel_rfl)) (fun _ _ _ h => h) (Or.inl ⟨by rfl, ?_⟩) ?_ ?_
      rotate_left
      · intro w'
        go_simp
        with_reducible rfl
      rotate_left
      · simp only [Act.put, List.setIfInBounds_toArray, List.set_cons_zero, List.set_cons_succ, i64_w, i32_w]
        rfl
      as_aux_lemma =>
      refine take_ (i := 16) (N := some 74) (v := ?_) (a' := ?_) #[true, true, true, true, true, true, true, true, true, true, true, true, true, true, true, true, true, true, true, true, false, false, false, false, false] rfl rfl (take_ofW HT_.out HW_.out (by kernel_rfl)) (fun _ _ _ h => h) (Or.inl ⟨by rfl, ?_⟩) hHeld ?_ ?_
      rotate_left
      · rintro w' ⟨s0, s1, s2, s3⟩
        go_simp
        with_reducible rfl
      rotate_left
      · simp only [Act.put, List.setIfInBounds_toArray, List.set_cons_zero, List.set_cons_succ, i64_w, i32_w]
        rfl
      refine one_ (i := 20) (N := some 78) #[true, true, true, true, true, true, true, true, true, true, true, true, true, true, true, true, true, true, true, true, true, false, false, false, false] rfl rfl (one_of HT_.out (by kernel_rfl)) (by decide) (fun K hK => ?_)
      refine Ck Try.func29 (by kernel_rfl) rfl #[.int .u32 x, .int .u32 lo, .int .u32 hi, .int .i64 D] (by rfl) rfl rfl (by simp only [List.map_toArray, List.map_cons, List.map_nil]; rfl) ?_
      with_reducible refine (B4.calls x lo hi D (riseV lo hi D x) w9 HRV.out).mono ?_
      rintro e w10 ⟨rfl, hb⟩
      refine ⟨_, rfl, ?_⟩
      have HB10 := Ac.mk (HBD.out.trans (hb.mono HBD.out.size))
      clear hb
      refine hK.out _ _ ⟨(Ag (Ak HI.out.t HB10.out) 2).trans rfl, (Ag (Ak HI.out.u HB10.out) 2).trans rfl, (Ag (Ak HPR.out HB10.out) 2).trans rfl, Bt HB10.out HX1.out⟩ (fun hHeld => ?_)
      clear hK K
      refine norm_ (a' := ?_) ?_ ?_
      rotate_left
      · show Act.put _ (some 78) _ = _
        simp only [Act.put, List.setIfInBounds_toArray, List.set_cons_zero, List.set_cons_succ, i64_w, i32_w]
        rfl
      refine pure_ (i := 21) (N := some 79) (v := ?_) (a' := ?_) #[true, true, true, true, true, true, true, true, true, true, true, true, true, true, true, true, true, true, true, true, true, true, false, false, false] rfl rfl (any_of HT_.out (by kernel_rfl)) (fun _ _ _ h => h) (Or.inl ⟨by rfl, ?_⟩) ?_ ?_
      rotate_left
      · intro w'
        go_simp
        with_reducible rfl
      rotate_left
      · simp only [Act.put, List.setIfInBounds_toArray, List.set_cons_zero, List.set_cons_succ, i64_w, i32_w]
        rfl
      refine one_ (i := 22) (N := none) #[true, true, true, true, true, true, true, true, true, true, true, true, true, true, true, true, true, true, true, true, true, true, true, false, false] rfl rfl (one_of HT_.out (by kernel_rfl)) (by decide) (fun K hK => ?_)
      obtain ⟨ra, rf⟩ := row_at (Kd.Bf HI.out.r1 HB10.out) i hlt
      refine skip_ (w1 := ?_) (by rfl) rfl ?_ ?_
      rotate_left
      · go_simp
        rfl
      clear ra rf
      refine hK.out _ _ ⟨(World.cell?_setCell_far _ _ _ _ HI.out.n.2.2.2.2.2.2.1).trans ((Ag (Ak HI.out.t HB10.out) 2).trans rfl), (World.cell?_setCell_far _ _ _ _ HI.out.n.2.2.2.2.2.2.2.1).trans ((Ag (Ak HI.out.u HB10.out) 2).trans rfl), (World.cell?_setCell_far _ _ _ _ HPNE.out).trans ((Ag (Ak HPR.out HB10.out) 2).trans rfl), (World.cell?_setCell_far _ _ _ _ HADB.out).trans (Bt HB10.out HX1.out)⟩ (fun hHeld => ?_)
      clear hK K
      refine pure_ (i := 23) (N := some 80) (v := ?_) (a' := ?_) #[true, true, true, true, true, true, true, true, true, true, true, true, true, true, true, true, true, true, true, true, true, true, true, true, false] rfl rfl (any_of HT_.out (by kernel_rfl)) (fun _ _ _ h => h) (Or.inl ⟨by rfl, ?_⟩) ?_ ?_
      rotate_left
      · intro w'
        go_simp
        with_reducible rfl
      rotate_left
      · simp only [Act.put, List.setIfInBounds_toArray, List.set_cons_zero, List.set_cons_succ, i64_w, i32_w]
        rfl
      as_aux_lemma =>
      refine last_ (i := 24) (N := none) #[true, true, true, true, true, true, true, true, true, true, true, true, true, true, true, true, true, true, true, true, true, true, true, true, true] rfl rfl (one_of HT_.out (by kernel_rfl)) (by decide) (fun K hK => ?_)
      obtain ⟨ra, rf⟩ := row_at (row_move (Kd.Bf HI.out.r2 HB10.out) (set_far w10 ⟨b1, i, none⟩ (.int .u32 (Go.bits .xor .u32 x 2147483648)) b2 (Ne.symm HI.out.n.2.2.2.2.2.1))) i hlt
      refine skip_ (w1 := ?_) (by rfl) rfl ?_ ?_
      rotate_left
      · go_simp
        rfl
      clear ra rf
      refine hK.out _ _ ?_
      clear hK K
      refine done_ (done_of HT_.out (by kernel_rfl)) ?_
      as_aux_lemma =>
      go_wp2
      go_roundw
      case rel =>
        have hfew := HG.out.few
        refine ⟨i + 1, by omega, by rw [w_succ i (by omega)], ⟨?_⟩⟩
        have h := HI.out.step HB10.out i (turnV (l.getD i 0)) (riseV lo hi D (l.getD i 0))
        rw [set_step _ _ _ hlt, set_step _ _ _ hlt, ← HXX.out] at h
        exact h
      case measure => exact meas l.length i hlt HG.out.few
    · as_aux_lemma =>
      obtain rfl : i = l.length := by omega
      have HE : Ac (LI w5 wr W H l.length (l.map turnV) (l.map (riseV lo hi D)) g1 g2 b1 c1 b2 c2) := ⟨by have h := HI.out; rw [List.take_length, List.drop_length, List.append_nil, List.append_nil] at h; exact h⟩
      obtain ⟨LB, hLB⟩ : ∃ LB, LB = allP bk W H (l.map turnV) m n (m * n - 1 - q) 0 0 W H 0 := ⟨_, rfl⟩
      obtain ⟨LC, hLC⟩ : ∃ LC, LC = allP bk W H (l.map (riseV lo hi D)) m n q 0 0 W H 0 := ⟨_, rfl⟩
      have hpb := HG.out.plane (l.map turnV) (by rw [List.length_map, HG.out.len]) (map_u32 HU.out turnV turn_u32) m n (m * n - 1 - q) HG.out.w1 HG.out.w2 HG.out.h1 HG.out.h2 (by have := HQ.out; omega) 10000 (Nat.le_refl _)
      have hpc := HG.out.plane (l.map (riseV lo hi D)) (by rw [List.length_map, HG.out.len]) (map_u32 HU.out (riseV lo hi D) (fun s hs => rise_u32 lo hi D s hs HLO.out HHI.out)) m n q HG.out.w1 HG.out.w2 HG.out.h1 HG.out.h2 HQ.out 10000 (Nat.le_refl _)
      rw [← hLB, ← back_place m n q HG.out.w2 HG.out.h2 HQ.out] at hpb
      rw [← hLC] at hpc
      have HPB := Ac.mk hpb
      have HPC := Ac.mk hpc
      have HLB : Ac (LB.length = l.length) := ⟨by rw [hLB, allP_len, HG.out.len]⟩
      have HLC : Ac (LC.length = l.length) := ⟨by rw [hLC, allP_len, HG.out.len]⟩
      have HVB : Ac (∀ i, i < l.length → LB.getD i 0 = Go.bits .xor .u32 (LA.getD i 0) 2147483648) := ⟨fun i hil => by rw [hLB, HLA.out]; exact HG.out.turn HU.out q HQ.out i (by rw [← HG.out.len]; exact hil)⟩
      have HVC : Ac (∀ i, i < l.length → LC.getD i 0 = riseV lo hi D (LA.getD i 0)) := ⟨fun i hil => by rw [hLC, HLA.out]; exact HG.out.rise HU.out q HQ.out lo hi D HLO.out HHI.out i (by rw [← HG.out.len]; exact hil)⟩
      have HVA : Ac (∀ i, i < l.length → u32 (LA.getD i 0)) := ⟨fun i hil => by
        have h1 : i < LA.length := by rw [HLN.out]; exact hil
        rw [List.getD_eq_getElem?_getD, List.getElem?_eq_getElem h1]
        have h2 : U32 LA := by rw [HLA.out]; exact allP_u32 _ _ _ _ _ _ _ _ _ _ HU.out _ _
        exact h2 _ (List.getElem_mem h1)⟩
      clear hpb hpc hLB hLC hpr
      have t0 : wr.cell? ⟨g1, 0, none⟩ = some (.int .i64 W) := (Ag HE.out.t 0).trans rfl
      have t1 : wr.cell? ⟨g1, 1, none⟩ = some (.int .i64 H) := (Ag HE.out.t 1).trans rfl
      have t2 : wr.cell? ⟨g1, 2, none⟩ = some (.slice (some ⟨b1, 0, none⟩) l.length c1) := (Ag HE.out.t 2).trans rfl
      clear HI
      as_aux_lemma =>
      go_upto_region 15 with (go_at_call 14; refine (plane_calls2 l.length 10000 W H (some ⟨b1, 0, none⟩) c1 (l.map turnV) bk m n _ W H LB 0 wr (row_C HE.out.r1).2.2 (row_C HE.out.r1).1 (row_C HE.out.r1).2.1 HPB.out).mono ?_; rintro e wa ⟨v, rfl, h1, h2⟩; obtain ⟨b4, c4, e4, z1, z2, hr4⟩ := row_newN h1 HLB.out HN.out; subst e4; have HRa := Ac.mk hr4; have HBa := Ac.mk h2; clear h1 h2 hr4 z1 z2)
      clear t0 t1 t2 cp2
      obtain ⟨wb, hwb⟩ : ∃ y, y = wa.alloc (.cells #[.int .i64 W, .int .i64 H, .slice (some ⟨b4, 0, none⟩) l.length c4] 25) := ⟨_, rfl⟩
      rw [← hwb]
      have hab : Below wa.heap.size wa wb := by rw [hwb]; exact Ai (Below.refl _ _) _
      have HBb := Ac.mk (HBa.out.trans (hab.mono HBa.out.size))
      have HGb := Ac.mk (show wb.heap[wa.heap.size]? = some (.cells #[.int .i64 W, .int .i64 H, .slice (some ⟨b4, 0, none⟩) l.length c4] 25 (0, 0)) by rw [hwb]; exact B5 _ _)
      have HRb := Ac.mk (Kd.Bf HRa.out hab)
      clear hwb hab HBa HRa
      have ub := Ak HE.out.u HBb.out
      have t0 : wb.cell? ⟨g2, 0, none⟩ = some (.int .i64 W) := (Ag ub 0).trans rfl
      have t1 : wb.cell? ⟨g2, 1, none⟩ = some (.int .i64 H) := (Ag ub 1).trans rfl
      have t2 : wb.cell? ⟨g2, 2, none⟩ = some (.slice (some ⟨b2, 0, none⟩) l.length c2) := (Ag ub 2).trans rfl
      clear ub
      have HRu := Ac.mk (row_C (Kd.Bf HE.out.r2 HBb.out))
      as_aux_lemma =>
      go_upto_region 16 with (go_at_call 14; refine (plane_calls2 l.length 10000 W H (some ⟨b2, 0, none⟩) c2 (l.map (riseV lo hi D)) bk m n q W H LC 0 wb HRu.out.2.2 HRu.out.1 HRu.out.2.1 HPC.out).mono ?_; rintro e wc ⟨v, rfl, h1, h2⟩; obtain ⟨b5, c5, e5, z1, z2, hr5⟩ := row_newN h1 HLC.out HN.out; subst e5; have HRc := Ac.mk hr5; have HBc := Ac.mk h2; clear h1 h2 hr5 z1 z2)
      clear t0 t1 t2
      obtain ⟨wd, hwd⟩ : ∃ y, y = wc.alloc (.cells #[.int .i64 W, .int .i64 H, .slice (some ⟨b5, 0, none⟩) l.length c5] 25) := ⟨_, rfl⟩
      rw [← hwd]
      have hcd : Below wc.heap.size wc wd := by rw [hwd]; exact Ai (Below.refl _ _) _
      have HBbd := Ac.mk (HBc.out.trans (hcd.mono HBc.out.size))
      have HGd := Ac.mk (show wd.heap[wc.heap.size]? = some (.cells #[.int .i64 W, .int .i64 H, .slice (some ⟨b5, 0, none⟩) l.length c5] 25 (0, 0)) by rw [hwd]; exact B5 _ _)
      have HRd := Ac.mk (Kd.Bf HRc.out hcd)
      clear hwd hcd HBc HRc
      have HGb2 := Ac.mk (Ak HGb.out HBbd.out)
      have HRb2 := Ac.mk (Kd.Bf HRb.out HBbd.out)
      have HB5d := Ac.mk (HE.out.bel.trans ((HBb.out.trans (HBbd.out.mono HBb.out.size)).mono HE.out.bel.size))
      have HA2 := Ac.mk (Ak HA5.out HB5d.out)
      have HRA2 := Ac.mk (Kd.Bf HR5.out HB5d.out)
      have HP2 := Ac.mk (Ak HP5.out HB5d.out)
      have HWd := Ac.mk (HW5.out.trans (HB5d.out.mono HZ5.out))
      clear HGb HRb HBbd HRu HBb

      have ya0 : wd.cell? ⟨w3.heap.size, 0, none⟩ = some (.int .i64 W) := (Ag HA2.out 0).trans rfl
      have ya1 : wd.cell? ⟨w3.heap.size, 1, none⟩ = some (.int .i64 H) := (Ag HA2.out 1).trans rfl
      have ya2 : wd.cell? ⟨w3.heap.size, 2, none⟩ = some (.slice (some ⟨b3, 0, none⟩) l.length c3) := (Ag HA2.out 2).trans rfl
      have yp0 : wd.cell? ⟨w.heap.size, 0, none⟩ = some (.int .i64 W) := (Ag HP2.out 0).trans rfl
      have yp1 : wd.cell? ⟨w.heap.size, 1, none⟩ = some (.int .i64 H) := (Ag HP2.out 1).trans rfl
      have yp2 : wd.cell? ⟨w.heap.size, 2, none⟩ = some (.slice A0 l.length c0) := (Ag HP2.out 2).trans rfl
      have yb0 : wd.cell? ⟨wa.heap.size, 0, none⟩ = some (.int .i64 W) := (Ag HGb2.out 0).trans rfl
      have yb1 : wd.cell? ⟨wa.heap.size, 1, none⟩ = some (.int .i64 H) := (Ag HGb2.out 1).trans rfl
      have yb2 : wd.cell? ⟨wa.heap.size, 2, none⟩ = some (.slice (some ⟨b4, 0, none⟩) l.length c4) := (Ag HGb2.out 2).trans rfl
      have yd0 : wd.cell? ⟨wc.heap.size, 0, none⟩ = some (.int .i64 W) := (Ag HGd.out 0).trans rfl
      have yd1 : wd.cell? ⟨wc.heap.size, 1, none⟩ = some (.int .i64 H) := (Ag HGd.out 1).trans rfl
      have yd2 : wd.cell? ⟨wc.heap.size, 2, none⟩ = some (.slice (some ⟨b5, 0, none⟩) l.length c5) := (Ag HGd.out 2).trans rfl
      have HSA := Ac.mk (sized_true W H LA l HLN.out)
      have HSB := Ac.mk (sized_true W H LB l HLB.out)
      have HSC := Ac.mk (sized_true W H LC l HLC.out)
      as_aux_lemma =>
      go_upto_region 18 with (first | (go_at_call 28; refine (sized_calls2 l.length l.length W H (some ⟨b5, 0, none⟩) c5 LC W H A0 c0 l true we2 HLC.out rfl (row_C (Kd.Bf HRd.out HBe2.out)).1 (row_C HRd.out).2.1 (Kd.Bo HC.out (HWd.out.trans (HBe2.out.mono HWd.out.size))) HCC.out HSC.out).mono ?_; rintro e we3 ⟨rfl, hb⟩; have HBe3 := Ac.mk (HBe2.out.trans (hb.mono HBe2.out.size)); clear hb) | (go_at_call 28; refine (sized_calls2 l.length l.length W H (some ⟨b4, 0, none⟩) c4 LB W H A0 c0 l true we1 HLB.out rfl (row_C (Kd.Bf HRb2.out HBe1.out)).1 (row_C HRb2.out).2.1 (Kd.Bo HC.out (HWd.out.trans (HBe1.out.mono HWd.out.size))) HCC.out HSB.out).mono ?_; rintro e we2 ⟨rfl, hb⟩; have HBe2 := Ac.mk (HBe1.out.trans (hb.mono HBe1.out.size)); clear hb; have yd0' := Bt HBe2.out yd0; have yd1' := Bt HBe2.out yd1; have yd2' := Bt HBe2.out yd2; have yp0'' := Bt HBe2.out yp0; have yp1'' := Bt HBe2.out yp1; have yp2'' := Bt HBe2.out yp2) | (go_at_call 28; refine (sized_calls2 l.length l.length W H (some ⟨b3, 0, none⟩) c3 LA W H A0 c0 l true wd HLN.out rfl (row_C HRA2.out).1 (row_C HRA2.out).2.1 (Kd.Bo HC.out HWd.out) HCC.out HSA.out).mono ?_; rintro e we1 ⟨rfl, hb⟩; have HBe1 := Ac.mk hb; clear hb; have yb0' := Bt HBe1.out yb0; have yb1' := Bt HBe1.out yb1; have yb2' := Bt HBe1.out yb2; have yp0' := Bt HBe1.out yp0; have yp1' := Bt HBe1.out yp1; have yp2' := Bt HBe1.out yp2))

      as_aux_lemma =>
      clear ya0 ya1 ya2 yp0 yp1 yp2 yb0 yb1 yb2 yd0 yd1 yd2 yb0' yb1' yb2' yp0' yp1' yp2' yd0' yd1' yd2' yp0'' yp1'' yp2''
      go_wp2
      go_loopw [26] (fun s wr2 => ∃ i : Nat, i ≤ l.length ∧ s = .int .i64 i ∧ Ac (Below wd.heap.size wd wr2)) (fun s _ => l.length - (intOf s).toNat)
      case atStart => exact ⟨0, Nat.zero_le _, rfl, HBe3⟩
      case round => as_aux_lemma =>
        obtain ⟨i, hile, rfl, HI⟩ := hrel
        clear HBe1 HBe2 HBe3
        have hpr := Ak HP2.out HI.out
        have cp2 : wr.cell? ⟨w.heap.size, 2, none⟩ = some (.slice A0 l.length c0) := (Ag hpr 2).trans rfl
        by_cases hlt : i < l.length
        · obtain ⟨x, hxx⟩ : ∃ x, x = LA.getD i 0 := ⟨_, rfl⟩
          have HRV : Ac (B4.f x lo hi D = some (riseV lo hi D x)) := ⟨rises_val x lo hi D (by rw [hxx]; exact HVA.out i hlt) HLO.out HHI.out HD.out⟩
          have hb0 := (row_at (Kd.Bf HRb2.out HI.out) i hlt).1
          have ha0 := (row_at (Kd.Bf HRA2.out HI.out) i hlt).1
          have hc0 := (row_at (Kd.Bf HRd.out HI.out) i hlt).1
          rw [HVB.out i hlt, ← hxx] at hb0
          rw [HVC.out i hlt, ← hxx] at hc0
          rw [← hxx] at ha0
          have HB0 := Ac.mk hb0
          have HA0 := Ac.mk ha0
          have HC0 := Ac.mk hc0
          have HGB := Ac.mk (Ak HGb2.out HI.out)
          have HGA := Ac.mk (Ak HA2.out HI.out)
          have HGC := Ac.mk (Ak HGd.out HI.out)
          clear hxx hb0 ha0 hc0 hpr
          as_aux_lemma =>
          go_upto_region 21 with fail
          clear cp2
          refine start_ (n := 29) (S := fun w' => w'.cell? ⟨wa.heap.size, 2, none⟩ = some (.slice (some ⟨b4, 0, none⟩) l.length c4) ∧ w'.cell? ⟨b4, i, none⟩ = some (.int .u32 (Go.bits .xor .u32 x 2147483648)) ∧ w'.cell? ⟨w3.heap.size, 2, none⟩ = some (.slice (some ⟨b3, 0, none⟩) l.length c3) ∧ w'.cell? ⟨b3, i, none⟩ = some (.int .u32 x) ∧ w'.cell? ⟨wc.heap.size, 2, none⟩ = some (.slice (some ⟨b5, 0, none⟩) l.length c5) ∧ w'.cell? ⟨b5, i, none⟩ = some (.int .u32 (riseV lo hi D x))) (ds := []) #[false, false, false, false, false, false, false, false, false, false, false, false, false, false, false, false, false, false, false, false, false, false, false, false, false, false, false, false, false] (by kernel_rfl) rfl rfl ⟨(Ag (Ad HGB.out) 2).trans rfl, HB0.out, (Ag (Ad HGA.out) 2).trans rfl, HA0.out, (Ag (Ad HGC.out) 2).trans rfl, HC0.out⟩ (fun hHeld => ?_)
          refine with_tabW tt.tab21 tt.bits21 (fun HT_ HW_ => ?_)
          have HBD := Ac.mk (Aj (Below.refl wr.heap.size wr))
          generalize wr.drew = w7 at HBD hHeld ⊢
          refine pure_ (i := 0) (N := some 133) (v := ?_) (a' := ?_) #[true, false, false, false, false, false, false, false, false, false, false, false, false, false, false, false, false, false, false, false, false, false, false, false, false, false, false, false, false] rfl rfl (any_of HT_.out (by kernel_rfl)) (fun _ _ _ h => h) (Or.inl ⟨by rfl, ?_⟩) ?_ ?_
          rotate_left
          · intro w'
            go_simp
            with_reducible rfl
          rotate_left
          · simp only [Act.put, List.setIfInBounds_toArray, List.set_cons_zero, List.set_cons_succ, i64_w, i32_w]
            rfl
          refine pure_ (i := 2) (N := some 135) (v := ?_) (a' := ?_) #[true, false, true, false, false, false, false, false, false, false, false, false, false, false, false, false, false, false, false, false, false, false, false, false, false, false, false, false, false] rfl rfl (any_of HT_.out (by kernel_rfl)) (fun _ _ _ h => h) (Or.inl ⟨by rfl, ?_⟩) ?_ ?_
          rotate_left
          · intro w'
            go_simp
            with_reducible rfl
          rotate_left
          · simp only [Act.put, List.setIfInBounds_toArray, List.set_cons_zero, List.set_cons_succ, i64_w, i32_w]
            rfl
          refine pure_ (i := 5) (N := some 138) (v := ?_) (a' := ?_) #[true, false, true, false, false, true, false, false, false, false, false, false, false, false, false, false, false, false, false, false, false, false, false, false, false, false, false, false, false] rfl rfl (any_of HT_.out (by kernel_rfl)) (fun _ _ _ h => h) (Or.inl ⟨by rfl, ?_⟩) ?_ ?_
          rotate_left
          · intro w'
            go_simp
            with_reducible rfl
          rotate_left
          · simp only [Act.put, List.setIfInBounds_toArray, List.set_cons_zero, List.set_cons_succ, i64_w, i32_w]
            rfl
          refine pure_ (i := 7) (N := some 140) (v := ?_) (a' := ?_) #[true, false, true, false, false, true, false, true, false, false, false, false, false, false, false, false, false, false, false, false, false, false, false, false, false, false, false, false, false] rfl rfl (any_of HT_.out (by kernel_rfl)) (fun _ _ _ h => h) (Or.inl ⟨by rfl, ?_⟩) ?_ ?_
          rotate_left
          · intro w'
            go_simp
            with_reducible rfl
          rotate_left
          · simp only [Act.put, List.setIfInBounds_toArray, List.set_cons_zero, List.set_cons_succ, i64_w, i32_w]
            rfl
          as_aux_lemma =>
          refine take_ (i := 1) (N := some 134) (v := ?_) (a' := ?_) #[true, true, true, false, false, true, false, true, false, false, false, false, false, false, false, false, false, false, false, false, false, false, false, false, false, false, false, false, false] rfl rfl (take_ofW HT_.out HW_.out (by kernel_rfl)) (fun _ _ _ h => h) (Or.inl ⟨by rfl, ?_⟩) hHeld ?_ ?_
          rotate_left
          · rintro w' ⟨s0, s1, s2, s3, s4, s5⟩
            go_simp
            with_reducible rfl
          rotate_left
          · simp only [Act.put, List.setIfInBounds_toArray, List.set_cons_zero, List.set_cons_succ, i64_w, i32_w]
            rfl
          refine pure_ (i := 3) (N := some 136) (v := ?_) (a' := ?_) #[true, true, true, true, false, true, false, true, false, false, false, false, false, false, false, false, false, false, false, false, false, false, false, false, false, false, false, false, false] rfl rfl (any_of HT_.out (by kernel_rfl)) (fun _ _ _ h => h) (Or.inl ⟨by rfl, ?_⟩) ?_ ?_
          rotate_left
          · intro w'
            go_simp
            with_reducible rfl
          rotate_left
          · simp only [Act.put, List.setIfInBounds_toArray, List.set_cons_zero, List.set_cons_succ, i64_w, i32_w]
            rfl
          refine take_ (i := 4) (N := some 137) (v := ?_) (a' := ?_) #[true, true, true, true, true, true, false, true, false, false, false, false, false, false, false, false, false, false, false, false, false, false, false, false, false, false, false, false, false] rfl rfl (take_ofW HT_.out HW_.out (by kernel_rfl)) (fun _ _ _ h => h) (Or.inl ⟨by rfl, ?_⟩) hHeld ?_ ?_
          rotate_left
          · rintro w' ⟨s0, s1, s2, s3, s4, s5⟩
            go_simp
            with_reducible rfl
          rotate_left
          · simp only [Act.put, List.setIfInBounds_toArray, List.set_cons_zero, List.set_cons_succ, i64_w, i32_w]
            rfl
          refine take_ (i := 6) (N := some 139) (v := ?_) (a' := ?_) #[true, true, true, true, true, true, true, true, false, false, false, false, false, false, false, false, false, false, false, false, false, false, false, false, false, false, false, false, false] rfl rfl (take_ofW HT_.out HW_.out (by kernel_rfl)) (fun _ _ _ h => h) (Or.inl ⟨by rfl, ?_⟩) hHeld ?_ ?_
          rotate_left
          · rintro w' ⟨s0, s1, s2, s3, s4, s5⟩
            go_simp
            with_reducible rfl
          rotate_left
          · simp only [Act.put, List.setIfInBounds_toArray, List.set_cons_zero, List.set_cons_succ, i64_w, i32_w]
            rfl
          refine pure_ (i := 8) (N := some 141) (v := ?_) (a' := ?_) #[true, true, true, true, true, true, true, true, true, false, false, false, false, false, false, false, false, false, false, false, false, false, false, false, false, false, false, false, false] rfl rfl (any_of HT_.out (by kernel_rfl)) (fun _ _ _ h => h) (Or.inl ⟨by rfl, ?_⟩) ?_ ?_
          rotate_left
          · intro w'
            go_simp
            with_reducible rfl
          rotate_left
          · simp only [Act.put, List.setIfInBounds_toArray, List.set_cons_zero, List.set_cons_succ, i64_w, i32_w]
            rfl
          as_aux_lemma =>
          refine take_ (i := 9) (N := some 142) (v := ?_) (a' := ?_) #[true, true, true, true, true, true, true, true, true, true, false, false, false, false, false, false, false, false, false, false, false, false, false, false, false, false, false, false, false] rfl rfl (take_ofW HT_.out HW_.out (by kernel_rfl)) (fun _ _ _ h => h) (Or.inl ⟨by rfl, ?_⟩) hHeld ?_ ?_
          rotate_left
          · rintro w' ⟨s0, s1, s2, s3, s4, s5⟩
            go_simp
            with_reducible rfl
          rotate_left
          · simp only [Act.put, List.setIfInBounds_toArray, List.set_cons_zero, List.set_cons_succ, i64_w, i32_w]
            rfl
          refine pure_ (i := 10) (N := some 143) (v := ?_) (a' := ?_) #[true, true, true, true, true, true, true, true, true, true, true, false, false, false, false, false, false, false, false, false, false, false, false, false, false, false, false, false, false] rfl rfl (any_of HT_.out (by kernel_rfl)) (fun _ _ _ h => h) (Or.inl ⟨by rfl, ?_⟩) ?_ ?_
          rotate_left
          · intro w'
            go_simp
            with_reducible rfl
          rotate_left
          · simp only [Act.put, List.setIfInBounds_toArray, List.set_cons_zero, List.set_cons_succ, i64_w, i32_w]
            rfl
          refine pure_ (i := 11) (N := some 144) (v := ?_) (a' := ?_) #[true, true, true, true, true, true, true, true, true, true, true, true, false, false, false, false, false, false, false, false, false, false, false, false, false, false, false, false, false] rfl rfl (any_of HT_.out (by kernel_rfl)) (fun _ _ _ h => h) (Or.inl ⟨by rfl, ?_⟩) ?_ ?_
          rotate_left
          · intro w'
            go_simp
            with_reducible rfl
          rotate_left
          · simp only [Act.put, List.setIfInBounds_toArray, List.set_cons_zero, List.set_cons_succ, i64_w, i32_w]
            rfl
          refine pure_ (i := 12) (N := some 145) (v := ?_) (a' := ?_) #[true, true, true, true, true, true, true, true, true, true, true, true, true, false, false, false, false, false, false, false, false, false, false, false, false, false, false, false, false] rfl rfl (any_of HT_.out (by kernel_rfl)) (fun _ _ _ h => h) (Or.inl ⟨by rfl, ?_⟩) ?_ ?_
          rotate_left
          · intro w'
            go_simp
            with_reducible rfl
          rotate_left
          · simp only [Act.put, List.setIfInBounds_toArray, List.set_cons_zero, List.set_cons_succ, i64_w, i32_w]
            rfl
          refine pure_ (i := 13) (N := some 146) (v := ?_) (a' := ?_) #[true, true, true, true, true, true, true, true, true, true, true, true, true, true, false, false, false, false, false, false, false, false, false, false, false, false, false, false, false] rfl rfl (any_of HT_.out (by kernel_rfl)) (fun _ _ _ h => h) (Or.inl ⟨by rfl, ?_⟩) ?_ ?_
          rotate_left
          · intro w'
            go_simp
            with_reducible rfl
          rotate_left
          · simp only [Act.put, List.setIfInBounds_toArray, List.set_cons_zero, List.set_cons_succ, i64_w, i32_w]
            rfl
          as_aux_lemma =>
          refine pure_ (i := 15) (N := some 148) (v := ?_) (a' := ?_) #[true, true, true, true, true, true, true, true, true, true, true, true, true, true, false, true, false, false, false, false, false, false, false, false, false, false, false, false, false] rfl rfl (any_of HT_.out (by kernel_rfl)) (fun _ _ _ h => h) (Or.inl ⟨by rfl, ?_⟩) ?_ ?_
          rotate_left
          · intro w'
            go_simp
            with_reducible rfl
          rotate_left
          · simp only [Act.put, List.setIfInBounds_toArray, List.set_cons_zero, List.set_cons_succ, i64_w, i32_w]
            rfl
          refine pure_ (i := 18) (N := some 151) (v := ?_) (a' := ?_) #[true, true, true, true, true, true, true, true, true, true, true, true, true, true, false, true, false, false, true, false, false, false, false, false, false, false, false, false, false] rfl rfl (any_of HT_.out (by kernel_rfl)) (fun _ _ _ h => h) (Or.inl ⟨by rfl, ?_⟩) ?_ ?_
          rotate_left
          · intro w'
            go_simp
            with_reducible rfl
          rotate_left
          · simp only [Act.put, List.setIfInBounds_toArray, List.set_cons_zero, List.set_cons_succ, i64_w, i32_w]
            rfl
          refine pure_ (i := 20) (N := some 153) (v := ?_) (a' := ?_) #[true, true, true, true, true, true, true, true, true, true, true, true, true, true, false, true, false, false, true, false, true, false, false, false, false, false, false, false, false] rfl rfl (any_of HT_.out (by kernel_rfl)) (fun _ _ _ h => h) (Or.inl ⟨by rfl, ?_⟩) ?_ ?_
          rotate_left
          · intro w'
            go_simp
            with_reducible rfl
          rotate_left
          · simp only [Act.put, List.setIfInBounds_toArray, List.set_cons_zero, List.set_cons_succ, i64_w, i32_w]
            rfl
          refine pure_ (i := 23) (N := some 156) (v := ?_) (a' := ?_) #[true, true, true, true, true, true, true, true, true, true, true, true, true, true, false, true, false, false, true, false, true, false, false, true, false, false, false, false, false] rfl rfl (any_of HT_.out (by kernel_rfl)) (fun _ _ _ h => h) (Or.inl ⟨by rfl, ?_⟩) ?_ ?_
          rotate_left
          · intro w'
            go_simp
            with_reducible rfl
          rotate_left
          · simp only [Act.put, List.setIfInBounds_toArray, List.set_cons_zero, List.set_cons_succ, i64_w, i32_w]
            rfl
          refine pure_ (i := 24) (N := some 157) (v := ?_) (a' := ?_) #[true, true, true, true, true, true, true, true, true, true, true, true, true, true, false, true, false, false, true, false, true, false, false, true, true, false, false, false, false] rfl rfl (any_of HT_.out (by kernel_rfl)) (fun _ _ _ h => h) (Or.inl ⟨by rfl, ?_⟩) ?_ ?_
          rotate_left
          · intro w'
            go_simp
            with_reducible rfl
          rotate_left
          · simp only [Act.put, List.setIfInBounds_toArray, List.set_cons_zero, List.set_cons_succ, i64_w, i32_w]
            rfl
          as_aux_lemma =>
          refine pure_ (i := 25) (N := some 158) (v := ?_) (a' := ?_) #[true, true, true, true, true, true, true, true, true, true, true, true, true, true, false, true, false, false, true, false, true, false, false, true, true, true, false, false, false] rfl rfl (any_of HT_.out (by kernel_rfl)) (fun _ _ _ h => h) (Or.inl ⟨by rfl, ?_⟩) ?_ ?_
          rotate_left
          · intro w'
            go_simp
            with_reducible rfl
          rotate_left
          · simp only [Act.put, List.setIfInBounds_toArray, List.set_cons_zero, List.set_cons_succ, i64_w, i32_w]
            rfl
          refine take_ (i := 14) (N := some 147) (v := ?_) (a' := ?_) #[true, true, true, true, true, true, true, true, true, true, true, true, true, true, true, true, false, false, true, false, true, false, false, true, true, true, false, false, false] rfl rfl (take_ofW HT_.out HW_.out (by kernel_rfl)) (fun _ _ _ h => h) (Or.inl ⟨by rfl, ?_⟩) hHeld ?_ ?_
          rotate_left
          · rintro w' ⟨s0, s1, s2, s3, s4, s5⟩
            go_simp
            with_reducible rfl
          rotate_left
          · simp only [Act.put, List.setIfInBounds_toArray, List.set_cons_zero, List.set_cons_succ, i64_w, i32_w]
            rfl
          refine pure_ (i := 16) (N := some 149) (v := ?_) (a' := ?_) #[true, true, true, true, true, true, true, true, true, true, true, true, true, true, true, true, true, false, true, false, true, false, false, true, true, true, false, false, false] rfl rfl (any_of HT_.out (by kernel_rfl)) (fun _ _ _ h => h) (Or.inl ⟨by rfl, ?_⟩) ?_ ?_
          rotate_left
          · intro w'
            go_simp
            with_reducible rfl
          rotate_left
          · simp only [Act.put, List.setIfInBounds_toArray, List.set_cons_zero, List.set_cons_succ, i64_w, i32_w]
            rfl
          refine take_ (i := 17) (N := some 150) (v := ?_) (a' := ?_) #[true, true, true, true, true, true, true, true, true, true, true, true, true, true, true, true, true, true, true, false, true, false, false, true, true, true, false, false, false] rfl rfl (take_ofW HT_.out HW_.out (by kernel_rfl)) (fun _ _ _ h => h) (Or.inl ⟨by rfl, ?_⟩) hHeld ?_ ?_
          rotate_left
          · rintro w' ⟨s0, s1, s2, s3, s4, s5⟩
            go_simp
            with_reducible rfl
          rotate_left
          · simp only [Act.put, List.setIfInBounds_toArray, List.set_cons_zero, List.set_cons_succ, i64_w, i32_w]
            rfl
          refine take_ (i := 19) (N := some 152) (v := ?_) (a' := ?_) #[true, true, true, true, true, true, true, true, true, true, true, true, true, true, true, true, true, true, true, true, true, false, false, true, true, true, false, false, false] rfl rfl (take_ofW HT_.out HW_.out (by kernel_rfl)) (fun _ _ _ h => h) (Or.inl ⟨by rfl, ?_⟩) hHeld ?_ ?_
          rotate_left
          · rintro w' ⟨s0, s1, s2, s3, s4, s5⟩
            go_simp
            with_reducible rfl
          rotate_left
          · simp only [Act.put, List.setIfInBounds_toArray, List.set_cons_zero, List.set_cons_succ, i64_w, i32_w]
            rfl
          as_aux_lemma =>
          refine pure_ (i := 21) (N := some 154) (v := ?_) (a' := ?_) #[true, true, true, true, true, true, true, true, true, true, true, true, true, true, true, true, true, true, true, true, true, true, false, true, true, true, false, false, false] rfl rfl (any_of HT_.out (by kernel_rfl)) (fun _ _ _ h => h) (Or.inl ⟨by rfl, ?_⟩) ?_ ?_
          rotate_left
          · intro w'
            go_simp
            with_reducible rfl
          rotate_left
          · simp only [Act.put, List.setIfInBounds_toArray, List.set_cons_zero, List.set_cons_succ, i64_w, i32_w]
            rfl
          refine take_ (i := 22) (N := some 155) (v := ?_) (a' := ?_) #[true, true, true, true, true, true, true, true, true, true, true, true, true, true, true, true, true, true, true, true, true, true, true, true, true, true, false, false, false] rfl rfl (take_ofW HT_.out HW_.out (by kernel_rfl)) (fun _ _ _ h => h) (Or.inl ⟨by rfl, ?_⟩) hHeld ?_ ?_
          rotate_left
          · rintro w' ⟨s0, s1, s2, s3, s4, s5⟩
            go_simp
            with_reducible rfl
          rotate_left
          · simp only [Act.put, List.setIfInBounds_toArray, List.set_cons_zero, List.set_cons_succ, i64_w, i32_w]
            rfl
          refine one_ (i := 26) (N := some 159) #[true, true, true, true, true, true, true, true, true, true, true, true, true, true, true, true, true, true, true, true, true, true, true, true, true, true, true, false, false] rfl rfl (one_of HT_.out (by kernel_rfl)) (by decide) (fun K hK => ?_)
          refine Ck Try.func29 (by kernel_rfl) rfl #[.int .u32 x, .int .u32 lo, .int .u32 hi, .int .i64 D] (by rfl) rfl rfl (by simp only [List.map_toArray, List.map_cons, List.map_nil]; rfl) ?_
          with_reducible refine (B4.calls x lo hi D (riseV lo hi D x) w7 HRV.out).mono ?_
          rintro e w8 ⟨rfl, hb⟩
          refine ⟨_, rfl, ?_⟩
          have HB8 := Ac.mk (HBD.out.trans (hb.mono HBD.out.size))
          clear hb
          refine hK.out _ _ ⟨(Ag (Ak HGB.out HB8.out) 2).trans rfl, Bt HB8.out HB0.out, (Ag (Ak HGA.out HB8.out) 2).trans rfl, Bt HB8.out HA0.out, (Ag (Ak HGC.out HB8.out) 2).trans rfl, Bt HB8.out HC0.out⟩ (fun hHeld => ?_)
          clear hK K
          refine norm_ (a' := ?_) ?_ ?_
          rotate_left
          · show Act.put _ (some 159) _ = _
            simp only [Act.put, List.setIfInBounds_toArray, List.set_cons_zero, List.set_cons_succ, i64_w, i32_w]
            rfl
          refine pure_ (i := 27) (N := some 160) (v := ?_) (a' := ?_) #[true, true, true, true, true, true, true, true, true, true, true, true, true, true, true, true, true, true, true, true, true, true, true, true, true, true, true, true, false] rfl rfl (any_of HT_.out (by kernel_rfl)) (fun _ _ _ h => h) (Or.inl ⟨by rfl, ?_⟩) ?_ ?_
          rotate_left
          · intro w'
            go_simp
            with_reducible rfl
          rotate_left
          · simp only [Act.put, List.setIfInBounds_toArray, List.set_cons_zero, List.set_cons_succ, i64_w, i32_w]
            rfl
          refine pure_ (i := 28) (N := some 161) (v := ?_) (a' := ?_) #[true, true, true, true, true, true, true, true, true, true, true, true, true, true, true, true, true, true, true, true, true, true, true, true, true, true, true, true, true] rfl rfl (any_of HT_.out (by kernel_rfl)) (fun _ _ _ h => h) (Or.inl ⟨by rfl, ?_⟩) ?_ ?_
          rotate_left
          · intro w'
            go_simp
            with_reducible rfl
          rotate_left
          · simp only [Act.put, List.setIfInBounds_toArray, List.set_cons_zero, List.set_cons_succ, i64_w, i32_w]
            rfl
          as_aux_lemma =>
          refine done_ (done_of HT_.out (by kernel_rfl)) ?_
          as_aux_lemma =>
          go_wp2
          go_roundw
          case rel => have hfew := HG.out.few; exact ⟨i + 1, by omega, by rw [w_succ i (by omega)], ⟨HI.out.trans (HB8.out.mono HI.out.size)⟩⟩
          case measure => exact meas l.length i hlt HG.out.few
        · obtain rfl : i = l.length := by omega
          go_wp2
          go_ret
          exact ⟨rfl, HWd.out.trans (HI.out.mono HWd.out.size)⟩
end RT
end Go.Proofs.Ythpmkelcjlljmaa

