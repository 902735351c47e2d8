/- Ordered of the program: walked by hand over tableOf, Units, rounded, Level. -/
import Derived.Test.YtmipbbkieadecaaH5
import Derived.Test.YtmipbbkieadecaaH1
import Derived.Test.YtmipbbkieadecaaH2
import Derived.BigQuiet
open Go Go.RowKit Go.Proofs.YtmipbbkieadecaaW.PrintWords Go.Proofs.YtmipbbkieadecaaW.PrintLast Go.Proofs.YtmipbbkieadecaaW.PrintMore
set_option linter.unusedVariables false
set_option linter.unusedSimpArgs false
namespace Go.Proofs.Ytmipbbkieadecaa
open PDA PDB

def ordPix (n x y : Int) (E W i : Nat) (s : Int) : Option Int :=
  (dither_Units.f s).bind fun u => (dither_rounded.f 1024 u n ((2 ^ E : Nat) : Int) (tb E ((y + ((i / W : Nat) : Int)) % ((2 ^ E : Nat) : Int)).toNat ((x + ((i % W : Nat) : Int)) % ((2 ^ E : Nat) : Int)).toNat)).bind fun k =>
    (dither_Level.f n k).bind fun p => some p.1
def ordL (n x y : Int) (E W : Nat) : Nat → List Int → Option (List Int)
  | _, [] => some []
  | i, s :: t => (ordPix n x y E W i s).bind fun p => (ordL n x y E W (i + 1) t).bind fun r => some (p :: r)
theorem ordL_spec (n x y : Int) (E W : Nat) : ∀ (l : List Int) (i : Nat) (r : List Int), ordL n x y E W i l = some r → r.length = l.length ∧ ∀ j, j < l.length → ordPix n x y E W (i + j) (l.getD j 0) = some (r.getD j 0)
  | [], i, r, h => by
    obtain rfl := Option.some.inj h
    exact ⟨rfl, fun j hj => by simp at hj⟩
  | s :: t, i, r, h => by
    unfold ordL at h
    obtain ⟨p, hp, h⟩ := Option.bind_eq_some_iff.mp h
    obtain ⟨r', hr, h⟩ := Option.bind_eq_some_iff.mp h
    obtain rfl := Option.some.inj h
    obtain ⟨h1, h2⟩ := ordL_spec n x y E W t (i + 1) r' hr
    refine ⟨by simp [h1], fun j hj => ?_⟩
    cases j with
    | zero => simpa using hp
    | succ j =>
      have := h2 j (by simpa using hj)
      rw [show i + (j + 1) = i + 1 + j by omega]
      simpa using this
theorem ordPix_parts {n x y : Int} {E W i : Nat} {s p : Int} (h : ordPix n x y E W i s = some p) :
    ∃ u k e2, dither_Units.f s = some u ∧ dither_rounded.f 1024 u n ((2 ^ E : Nat) : Int) (tb E ((y + ((i / W : Nat) : Int)) % ((2 ^ E : Nat) : Int)).toNat ((x + ((i % W : Nat) : Int)) % ((2 ^ E : Nat) : Int)).toNat) = some k ∧ dither_Level.f n k = some (p, e2) := by
  unfold ordPix at h
  obtain ⟨u, hu, h⟩ := Option.bind_eq_some_iff.mp h
  obtain ⟨k, hk, h⟩ := Option.bind_eq_some_iff.mp h
  obtain ⟨q, hq, h⟩ := Option.bind_eq_some_iff.mp h
  obtain rfl := Option.some.inj h
  exact ⟨u, k, q.2, hu, hk, hq⟩

def dither_Ordered.f (a0_0 a0_1 : Int) (l0_2 : List Int) (a1 a2 a3 a4 : Int) : Option (Int × Int × List Int × Int) :=
  (dither_levels.f a1).bind fun b => if b = true then
    match sideE a2 with
    | none => some (0, 0, [], 131)
    | some E => (plane_Check.f a0_0 a0_1 l0_2).bind fun e => if e = 0 then (ordL a1 a3 a4 E a0_0.toNat 0 l0_2).bind fun r => some (a0_0, a0_1, r, 0) else some (0, 0, [], e)
  else some (0, 0, [], 130)

/-- 'a & (side - 1)'. -/
theorem and_side (a : Int) (E : Nat) (hE : E ≤ 4) : Go.bits .and .i64 (wrap64 a) (wrap64 (((2 ^ E : Nat) : Int) - 1)) = a % ((2 ^ E : Nat) : Int) := by
  have h16 : 2 ^ E ≤ 16 := Nat.le_trans (Nat.pow_le_pow_right (by omega) hE) (Nat.le_refl 16)
  have hp : 0 < 2 ^ E := Nat.two_pow_pos E
  rw [w64 (((2 ^ E : Nat) : Int) - 1) (by omega) (by omega)]
  clear h16 hp
  have hd : ∀ b : Int, Go.bits .and .i64 (wrap64 a) b = IntKind.i64.wrap (((BitVec.ofInt 64 (wrap64 a)) &&& (BitVec.ofInt 64 b)).toNat : Int) := fun b => rfl
  rw [hd]
  have h1 : (BitVec.ofInt 64 (wrap64 a)).toNat = (a % 18446744073709551616).toNat := by
    rw [BitVec.toNat_ofInt]
    unfold wrap64
    congr 1
    omega
  have key : ∀ m : Nat, (BitVec.ofInt 64 (((2 ^ m : Nat) : Int) - 1)).toNat = 2 ^ m - 1 → m ≤ 4 → IntKind.i64.wrap (((BitVec.ofInt 64 (wrap64 a)) &&& (BitVec.ofInt 64 (((2 ^ m : Nat) : Int) - 1))).toNat : Int) = a % ((2 ^ m : Nat) : Int) := by
    intro m hm h4
    rw [BitVec.toNat_and, h1, hm, Nat.and_two_pow_sub_one_eq_mod, IntKind.wrap_i64]
    rcases (show m = 0 ∨ m = 1 ∨ m = 2 ∨ m = 3 ∨ m = 4 by omega) with rfl | rfl | rfl | rfl | rfl <;> simp <;> omega
  rcases (show E = 0 ∨ E = 1 ∨ E = 2 ∨ E = 3 ∨ E = 4 by omega) with rfl | rfl | rfl | rfl | rfl
  · exact key 0 (by decide) (by decide)
  · exact key 1 (by decide) (by decide)
  · exact key 2 (by decide) (by decide)
  · exact key 3 (by decide) (by decide)
  · exact key 4 (by decide) (by decide)

theorem rest_eq (a : Int) (E : Nat) (hE : E ≤ 4) : dither_rest.f (wrap64 a) ((2 ^ E : Nat) : Int) = some (a % ((2 ^ E : Nat) : Int)) := by
  unfold dither_rest.f
  rw [and_side a E hE]

theorem check_zero {a b : Int} {l : List Int} (h : plane_Check.f a b l = some 0) : 1 ≤ a ∧ a ≤ 1024 ∧ 1 ≤ b ∧ b ≤ 1024 ∧ a * b ≤ 65536 ∧ (l.length : Int) = a * b := by
  unfold plane_Check.f plane_size.f at h
  by_cases h1 : a ≥ 1
  · by_cases h2 : b ≥ 1
    · by_cases h3 : a ≤ 1024
      · by_cases h4 : b ≤ 1024
        · rw [if_pos h1, if_pos h2, if_pos h3, if_pos h4, Option.bind_some] at h
          have hb : a * b ≤ 1024 * 1024 := Int.mul_le_mul h3 h4 (by omega) (by omega)
          have hp : 0 ≤ a * b := Int.mul_nonneg (by omega) (by omega)
          rw [w64 _ (by omega) (by omega)] at h
          split at h
          · rename_i h5
            split at h
            · rename_i h6
              exact ⟨h1, h3, h2, h4, of_decide_eq_true h5, h6⟩
            · simp at h
          · simp at h
        · rw [if_pos h1, if_pos h2, if_pos h3, if_neg h4] at h; simp at h
      · rw [if_pos h1, if_pos h2, if_neg h3] at h; simp at h
    · rw [if_pos h1, if_neg h2] at h; simp at h
  · rw [if_neg h1] at h; simp at h


/-- The plane under way: i samples have come. -/
def OS (w : World) (B gt gq : Nat) (W H : Int) (A : Option Addr) (n c : Nat) (E : Nat) (r : List Int) (i : Nat) (wx : World) : Prop :=
  ∃ v, wx.heap[B]? = some (.cells #[.int .i64 W, .int .i64 H, .slice A n c] 35 (0, 0)) ∧ wx.heap[B + 1]? = some (.cells #[.int .i64 0, .int .i64 0, .slice none 0 0] 35 (0, 0)) ∧
    wx.heap[gt]? = some (.cells (arr (tf E)) 83 (0, 0)) ∧ wx.heap[gq]? = some (.cells #[.int .i64 W, .int .i64 H, v] 35 (0, 0)) ∧ w.heap.size = B ∧ B + 2 ≤ gt ∧ gt < gq ∧
    Kd.R (Kd.int .u32) 48 wx w.heap.size (fun _ => True) v (r.take i) ∧ Below w.heap.size w wx

theorem put3 {W : World} {g : Nat} (h : W.heap[g]? = some (.cells #[.int .i64 0, .int .i64 0, .slice none 0 0] 35 (0, 0))) :
    (((W.setCell ⟨g, 0, none⟩ (.int .i64 0)).setCell ⟨g, 1, none⟩ (.int .i64 0)).setCell ⟨g, 2, none⟩ (.slice none 0 0)).heap[g]? = some (.cells #[.int .i64 0, .int .i64 0, .slice none 0 0] 35 (0, 0)) :=
  blk_put (blk_put (blk_put h 0 _ rfl) 1 _ rfl) 2 _ rfl
theorem below3 {B : Nat} {w W : World} {g : Nat} {a b c : Value} (h : Below B w W) (hg : B ≤ g) :
    Below B w (((W.setCell ⟨g, 0, none⟩ a).setCell ⟨g, 1, none⟩ b).setCell ⟨g, 2, none⟩ c) := ((h.setCell hg _).setCell hg _).setCell hg _
theorem bnew2 {w : World} (o o' : Obj) : ((w.alloc o).alloc o').heap[w.heap.size + 1]? = some o' := by
  have := bnew' (w := w.alloc o) o'
  simpa using this
theorem OS_below {w : World} {B gt gq : Nat} {W H : Int} {A : Option Addr} {n c E : Nat} {r : List Int} {i : Nat} {wx w1 : World} (h : OS w B gt gq W H A n c E r i wx) (hb : Below wx.heap.size wx w1) : OS w B gt gq W H A n c E r i w1 := by
  obtain ⟨v, o1, o2, o3, o4, o5, o6, o7, o8, o9⟩ := h
  exact ⟨v, blk_below o1 hb, blk_below o2 hb, blk_below o3 hb, blk_below o4 hb, o5, o6, o7, Kd.R_below o8 hb, below_step o9 hb⟩

set_option maxHeartbeats 8000000 in
set_option maxRecDepth 100000 in
theorem dither_Ordered.calls (a0_0 a0_1 : Int) (A0_2 : Option Addr) (c0_2 : Nat) (l0_2 : List Int) (a1 a2 a3 a4 : Int) (r1 r2 : Int) (r3 : List Int) (r4 : Int) (w : World) (hr0_2 : Kd.C (Kd.int .u32) w A0_2 l0_2.length l0_2) (hc0_2 : l0_2.length ≤ c0_2) (h : dither_Ordered.f a0_0 a0_1 l0_2 a1 a2 a3 a4 = some (r1, r2, r3, r4)) :
    Calls Try.prog 16 #[.agg #[.int .i64 a0_0, .int .i64 a0_1, .slice A0_2 l0_2.length c0_2], .int .i64 a1, .int .i64 a2, .int .i64 a3, .int .i64 a4] w fun e w' => ∃ v2_ : Value, e = .returned (.tuple #[.agg #[.int .i64 r1, .int .i64 r2, v2_], .int .i64 r4]) ∧ Kd.R (Kd.int .u32) 48 w' w.heap.size (fun _ => True) v2_ r3 ∧ Below w.heap.size w w' := by
  unfold dither_Ordered.f at h
  replace h := Option.bind_eq_some_iff.mp h
  obtain ⟨b1, hb1, h⟩ := h
  cases b1 with
  | false =>
    simp only [Bool.false_eq_true, if_false, Option.some.injEq, Prod.mk.injEq] at h
    obtain ⟨rfl, rfl, rfl, rfl⟩ := h
    clear hr0_2 hc0_2
    go_enter Try.func16, Try.ntmps16
    go_wp2_with fail
    refine (dither_levels.calls _ false _ hb1).mono ?_
    rintro e w1 ⟨rfl, ⟨nd, rfl⟩⟩
    go_wp2
    refine bodyPost_ret (results_ct rfl _ _ (w.heap.size + 1) 35 #[.int .i64 0, .int .i64 0, .slice none 0 0] (0, 0) _ rfl ?_ Try.underlying35 rfl (by kernel_rfl)) rfl ?_
    · exact put3 (blk_drewN (bnew2 _ _) nd)
    · exact ⟨_, rfl, Kd.R_nil _ _ _ _ _, below3 (below_drewN (below_alloc (below_alloc (Below.refl _ _) _) _) nd) (by omega)⟩
  | true =>
    rw [if_pos rfl] at h
    have hs := side_eq a2
    split at h
    · rename_i hE
      rw [hE] at hs
      simp only [Option.some.injEq, Prod.mk.injEq] at h
      obtain ⟨rfl, rfl, rfl, rfl⟩ := h
      clear hr0_2 hc0_2 hE
      go_enter Try.func16, Try.ntmps16
      go_wp2_with fail
      refine (dither_levels.calls _ true _ hb1).mono ?_
      rintro e w1 ⟨rfl, ⟨nd, rfl⟩⟩
      go_wp2_with fail
      refine (dither_side.calls _ false _ hs).mono ?_
      rintro e w1 ⟨rfl, ⟨nd2, rfl⟩⟩
      go_wp2
      refine bodyPost_ret (results_ct rfl _ _ (w.heap.size + 1) 35 #[.int .i64 0, .int .i64 0, .slice none 0 0] (0, 0) _ rfl ?_ Try.underlying35 rfl (by kernel_rfl)) rfl ?_
      · exact put3 (blk_drewN (bnew2 _ _) (nd + nd2))
      · exact ⟨_, rfl, Kd.R_nil _ _ _ _ _, below3 (below_drewN (below_alloc (below_alloc (Below.refl _ _) _) _) (nd + nd2)) (by omega)⟩
    · rename_i E hE
      rw [hE] at hs
      replace h := Option.bind_eq_some_iff.mp h
      obtain ⟨e, he, h⟩ := h
      obtain ⟨hE4, ha⟩ := sideE_some hE
      clear hE
      subst ha
      obtain ⟨sd, hsd⟩ : ∃ sd, sd = 2 ^ E := ⟨_, rfl⟩
      have htab := fun w => tableOf E hE4 w
      rw [← hsd] at hs htab ⊢
      have HSD := Lib.hid hsd
      clear hsd
      have hbx : ((w.alloc (.cells #[.int .i64 a0_0, .int .i64 a0_1, .slice A0_2 l0_2.length c0_2] 35)).alloc (.cells #[.int .i64 0, .int .i64 0, .slice none 0 0] 35)).heap[w.heap.size]? = some (.cells #[.int .i64 a0_0, .int .i64 a0_1, .slice A0_2 l0_2.length c0_2] 35 (0, 0)) := blk_alloc (bnew' _) _
      have hzr : ((w.alloc (.cells #[.int .i64 a0_0, .int .i64 a0_1, .slice A0_2 l0_2.length c0_2] 35)).alloc (.cells #[.int .i64 0, .int .i64 0, .slice none 0 0] 35)).heap[w.heap.size + 1]? = some (.cells #[.int .i64 0, .int .i64 0, .slice none 0 0] 35 (0, 0)) := bnew2 _ _
      have hbw : Below w.heap.size w ((w.alloc (.cells #[.int .i64 a0_0, .int .i64 a0_1, .slice A0_2 l0_2.length c0_2] 35)).alloc (.cells #[.int .i64 0, .int .i64 0, .slice none 0 0] 35)) := below_alloc (below_alloc (Below.refl _ _) _) _
      have HBX := Aside0.mk hbx
      have HZR := Aside0.mk hzr
      have HBW := Aside0.mk hbw
      clear hbx hzr hbw
      by_cases he0 : e = 0
      · rw [if_pos he0] at h
        subst he0
        replace h := Option.bind_eq_some_iff.mp h
        obtain ⟨r, hr, h⟩ := h
        simp only [Option.some.injEq, Prod.mk.injEq] at h
        obtain ⟨rfl, rfl, rfl, rfl⟩ := h
        obtain ⟨q1, q2, q3, q4, q5, q6⟩ := check_zero he
        obtain ⟨W, rfl⟩ := Int.eq_ofNat_of_zero_le (show 0 ≤ a0_0 by omega)
        obtain ⟨rlen, rspec⟩ := ordL_spec _ _ _ _ _ _ _ _ hr
        rw [Int.toNat_natCast] at rspec
        have hNW : l0_2.length ≤ 65536 := by omega
        have Q6 := Aside0.mk q6
        have RL := Aside0.mk rlen
        have RS := Aside0.mk rspec
        have HE := Aside0.mk he
        have HR := Aside0.mk hr
        clear q5 q6 rlen rspec hr he
        go_enter Try.func16, Try.ntmps16
        go_wp2_with fail
        refine (dither_levels.calls _ true _ hb1).mono ?_
        rintro e w1 ⟨rfl, ⟨nd, rfl⟩⟩
        go_wp2_with fail
        refine (dither_side.calls _ true _ hs).mono ?_
        rintro e w1 ⟨rfl, ⟨nd2, rfl⟩⟩
        go_wp2_with fail
        refine (plane_Check.calls _ _ A0_2 c0_2 l0_2 0 _ (Kd.C_drewN (Kd.C_below hr0_2 HBW.out) _) hc0_2 HE.out).mono ?_
        rintro e w1 ⟨rfl, hb⟩
        have HB := Aside0.mk (below_step (below_drewN HBW.out (nd + nd2)) hb)
        have HZ := Aside0.mk (blk_below (blk_drewN HZR.out (nd + nd2)) hb)
        have HX := Aside0.mk (blk_below (blk_drewN HBX.out (nd + nd2)) hb)
        clear HBW HBX HZR hb
        go_wp2_with fail
        refine (htab _).mono ?_
        rintro e w2 ⟨c, rfl, hc, hb⟩
        have n0_ := Aside0.mk (below_step HB.out hb)
        have n1_ := Aside0.mk (blk_below HZ.out hb)
        have n2_ := Aside0.mk (blk_below HX.out hb)
        clear HB HZ HX hb htab
        have HB := n0_
        have HZ := n1_
        have HX := n2_
        clear n0_ n1_ n2_
        have hcs : c.size = 256 := by rw [hc]; exact arr_size _
        have hco : c.all (·.oneCell') = true := by rw [hc]; exact arr_one _
        have hzs := arr_size (fun _ => 0)
        have HC := Lib.hid hc
        clear hc
        obtain ⟨hz83, hs83⟩ := zero_of_info info83
        generalize arr (fun _ => 0) = c0 at hz83 hzs
        go_wp2_with (first
          | (with_reducible refine gate_store (t := 83) (p := 13) rfl ?_
             refine wpList_store_row rfl 83 (.tmp 13) (.tmp 37) rfl w2.heap.size c rfl rfl 83 c0 (bnew' _) (by rw [hs83, hcs]) (by rw [hzs, hcs]) hco ?_
             refine stopHere ?_))
        unfold StopHere
        have b1 : ((w2.alloc (.cells c0 83)).setRow w2.heap.size c).heap[w2.heap.size]? = some (.cells c 83 (0, 0)) := setRow_heap _ _ _ _ _ _ (bnew' _)
        have hb2 : Below w.heap.size w ((w2.alloc (.cells c0 83)).setRow w2.heap.size c) := below_setRow (below_alloc HB.out _) (HB.out.size) c
        have hge : w.heap.size + 2 ≤ w2.heap.size := by have := blk_lt HZ.out; omega
        have hx2 : ((w2.alloc (.cells c0 83)).setRow w2.heap.size c).heap[w.heap.size]? = some (.cells #[.int .i64 W, .int .i64 a0_1, .slice A0_2 l0_2.length c0_2] 35 (0, 0)) := by rw [setRow_other _ _ _ _ (by omega)]; exact blk_alloc HX.out _
        have hz2 : ((w2.alloc (.cells c0 83)).setRow w2.heap.size c).heap[w.heap.size + 1]? = some (.cells #[.int .i64 0, .int .i64 0, .slice none 0 0] 35 (0, 0)) := by rw [setRow_other _ _ _ _ (by omega)]; exact blk_alloc HZ.out _
        generalize (w2.alloc (.cells c0 83)).setRow w2.heap.size c = W2 at b1 hb2 hx2 hz2 ⊢
        generalize w2.heap.size = gt at b1 hge ⊢
        have hgt : gt < W2.heap.size := blk_lt b1
        rw [HC.out] at b1
        have x0 : W2.cell? ⟨w.heap.size, 0, none⟩ = some (.int .i64 W) := (blk_cell hx2 0).trans rfl
        have x1 : W2.cell? ⟨w.heap.size, 1, none⟩ = some (.int .i64 a0_1) := (blk_cell hx2 1).trans rfl
        have x2 : W2.cell? ⟨w.heap.size, 2, none⟩ = some (.slice A0_2 l0_2.length c0_2) := (blk_cell hx2 2).trans rfl
        have e2 : ∀ o, (W2.alloc o).cell? ⟨w.heap.size, 2, none⟩ = some (.slice A0_2 l0_2.length c0_2) := fun o => (blk_cell (blk_alloc hx2 o) 2).trans rfl
        have B1 := Aside0.mk b1
        have HB2 := Aside0.mk hb2
        have HX2 := Aside0.mk hx2
        have HZ2 := Aside0.mk hz2
        clear b1 hb2 hx2 hz2 HB HZ HX
        go_wp2
        have hst : OS w w.heap.size gt W2.heap.size W a0_1 A0_2 l0_2.length c0_2 E r 0 (W2.alloc (.cells #[.int .i64 W, .int .i64 a0_1, .slice none 0 0] 35)) :=
          ⟨_, blk_alloc HX2.out _, blk_alloc HZ2.out _, blk_alloc B1.out _, bnew' _, rfl, by omega, hgt, Kd.R_nil _ _ _ _ _, below_alloc HB2.out _⟩
        have HST := Aside0.mk hst
        clear hst HX2 HZ2 B1 HB2 x0 x1 x2 e2
        generalize W2.alloc (.cells #[.int .i64 W, .int .i64 a0_1, .slice none 0 0] 35) = W3 at HST ⊢
        generalize W2.heap.size = gq at hgt HST ⊢
        go_loopw [46] (fun v46 wr => ∃ i : Nat, i ≤ l0_2.length ∧ v46 = .int .i64 i ∧ OS w w.heap.size gt gq W a0_1 A0_2 l0_2.length c0_2 E r i wr) (fun v46 _ => l0_2.length - (intOf v46).toNat)
        case atStart => exact ⟨0, Nat.zero_le _, rfl, HST.out⟩
        case round =>
          obtain ⟨i, hi, rfl, hst⟩ := hrel
          clear HST
          by_cases hlt : i < l0_2.length
          · have HST := Aside0.mk hst
            obtain ⟨v, o1, o2, o3, o4, o5, o6, o7, o8, o9⟩ := hst
            have hC := Kd.C_below hr0_2 o9
            obtain ⟨ad, hA, hcell⟩ := (Kd.reads_of_C (enc := Value.int .u32) (d := (0 : Int)) (h1 := fun _ => rfl) hC).at_ (i : Int) (by omega) (by omega)
            subst hA
            obtain ⟨s, hs0⟩ : ∃ s, s = l0_2.getD i 0 := ⟨_, rfl⟩
            have hcell' : wr.cell? (ad.add i) = some (.int .u32 s) := by rw [hs0]; exact hcell
            clear hcell
            have x0 : wr.cell? ⟨w.heap.size, 0, none⟩ = some (.int .i64 W) := (blk_cell o1 0).trans rfl
            have hpix := RS.out i hlt
            rw [Nat.zero_add, ← hs0] at hpix
            obtain ⟨s', hs'⟩ : ∃ s', s' = r.getD i 0 := ⟨_, rfl⟩
            rw [← hs'] at hpix
            have HS' := Aside0.mk hs'
            clear hs'
            obtain ⟨u, k, e2, p1, p2, p3⟩ := ordPix_parts hpix
            obtain ⟨iy, hiy⟩ : ∃ iy, iy = i / W := ⟨_, rfl⟩
            obtain ⟨ix, hix⟩ : ∃ ix, ix = i % W := ⟨_, rfl⟩
            rw [← hiy, ← hix] at p2
            have hd1 : Int.tdiv (i : Int) (W : Int) = (iy : Int) := by rw [hiy, ← Int.ofNat_tdiv]
            have hd2 : Int.tmod (i : Int) (W : Int) = (ix : Int) := by rw [hix, ← Int.ofNat_tmod]
            have hiy2 : iy ≤ i := by rw [hiy]; exact Nat.div_le_self _ _
            have hd3 : IntKind.i64.wrap (iy : Int) = (iy : Int) := by rw [IntKind.wrap_i64]; omega
            have hW0 : (W = 0) = False := eq_false (by omega)
            have hW1 : ((W : Int) = 0) = False := eq_false (by omega)
            have sd1 : 1 ≤ sd := by rw [HSD.out]; exact Nat.two_pow_pos E
            have sd2 : sd ≤ 16 := by rw [HSD.out]; exact Nat.le_trans (Nat.pow_le_pow_right (by omega) hE4) (Nat.le_refl 16)
            rw [← HSD.out] at p2
            obtain ⟨ty, hty⟩ : ∃ ty : Nat, (ty : Int) = (a4 + (iy : Int)) % (sd : Int) := ⟨((a4 + (iy : Int)) % (sd : Int)).toNat, Int.toNat_of_nonneg (Int.emod_nonneg _ (by omega))⟩
            obtain ⟨tx, htx⟩ : ∃ tx : Nat, (tx : Int) = (a3 + (ix : Int)) % (sd : Int) := ⟨((a3 + (ix : Int)) % (sd : Int)).toNat, Int.toNat_of_nonneg (Int.emod_nonneg _ (by omega))⟩
            rw [← hty, ← htx, Int.toNat_natCast, Int.toNat_natCast] at p2
            have ty1 : ty < sd := by have := Int.emod_lt_of_pos (a4 + (iy : Int)) (show (0 : Int) < sd by omega); omega
            have tx1 : tx < sd := by have := Int.emod_lt_of_pos (a3 + (ix : Int)) (show (0 : Int) < sd by omega); omega
            obtain ⟨sy, hsy⟩ : ∃ sy, IntKind.i64.wrap (a4 + (iy : Int)) = sy := ⟨_, rfl⟩
            obtain ⟨sx, hsx⟩ : ∃ sx, IntKind.i64.wrap (a3 + (ix : Int)) = sx := ⟨_, rfl⟩
            have R1 : dither_rest.f sy (sd : Int) = some (ty : Int) := by rw [← hsy, i64_w, hty, HSD.out]; exact rest_eq _ E hE4
            have R2 : dither_rest.f sx (sd : Int) = some (tx : Int) := by rw [← hsx, i64_w, htx, HSD.out]; exact rest_eq _ E hE4
            obtain ⟨b, hb⟩ : ∃ b, b = tb E ty tx := ⟨_, rfl⟩
            rw [← hb] at p2
            have cb : wr.cell? ⟨gt, ty * 16 + tx, none⟩ = some (.int .i64 b) := (blk_cell o3 _).trans (by rw [arr_get _ _ (by omega), hb, tf_at E sd ty tx HSD.out ty1 tx1 sd2])
            have ty2 : (0 : Int) ≤ (ty : Int) := by omega
            have ty3 : (ty : Int) < 16 := by omega
            have ty4 : ty < 16 := by omega
            have tx2 : (0 : Int) ≤ (tx : Int) := by omega
            have tx3 : (tx : Int) < 16 := by omega
            have tx4 : tx < 16 := by omega
            have HS0 := Aside0.mk hs0
            have HIY := Aside0.mk hiy
            have HIX := Aside0.mk hix
            have HTY := Aside0.mk hty
            have HTX := Aside0.mk htx
            have HBB := Aside0.mk hb
            have HPX := Aside0.mk hpix
            clear o1 o2 o3 o4 o8 o9 hC hs0 hiy hix hty htx hb hpix
            go_upto_region 13 with fail
            go_quiet (first
              | exact Calls.quiet_of ((dither_rest.calls _ _ _ _ R1).mono (by rintro e w' ⟨rfl, ⟨m, rfl⟩⟩; exact ⟨rfl, m, rfl⟩))
              | exact Calls.quiet_of ((dither_rest.calls _ _ _ _ R2).mono (by rintro e w' ⟨rfl, ⟨m, rfl⟩⟩; exact ⟨rfl, m, rfl⟩)))
            go_wp2_with fail
            refine (dither_Units.calls s u _ p1).mono ?_
            rintro e w5 ⟨rfl, hb5⟩
            have n0_ := Aside0.mk (OS_below HST.out (below_then (below_drewN (Below.refl _ _) nq) (Nat.le_refl _) hb5))
            clear HST hb5 cb hcell' x0
            have HST := n0_
            clear n0_
            go_wp2_with fail
            refine (dither_rounded.calls 1024 u a1 sd b k _ p2).mono ?_
            rintro e w6 ⟨rfl, ⟨nd3, rfl⟩⟩
            go_wp2_with fail
            refine (dither_Level.calls a1 k s' e2 _ p3).mono ?_
            rintro e w7 ⟨rfl, ⟨nd4, rfl⟩⟩
            obtain ⟨v', o1, o2, o3, o4, o5, o6, o7, o8, o9⟩ := OS_below HST.out (below_drewN (Below.refl _ _) (nd3 + nd4))
            have y2 : (w5.drewN (nd3 + nd4)).cell? ⟨gq, 2, none⟩ = some v' := (blk_cell o4 2).trans rfl
            have hlen : (r.take i).length = i := by rw [List.length_take]; have := RL.out; omega
            have O1 := Aside0.mk o1
            have O2 := Aside0.mk o2
            have O3 := Aside0.mk o3
            have O4 := Aside0.mk o4
            have O8 := Aside0.mk o8
            have O9 := Aside0.mk o9
            have HL := Aside0.mk hlen
            clear HST o1 o2 o3 o4 o8 o9 hlen
            go_wp2_with (first
              | (with_reducible refine gate_builtin (b := .append) (xs := #[.tmp 82, .tmp 84]) rfl ?_
                 refine stopHere ?_))
            unfold StopHere
            at_builtin
            refine Kd.R_append (Kd.int .u32) (w0 := w) w.heap.size rfl (.tmp 82) (.tmp 84) 33 48 (.int .u32 0) 4 rfl Try.underlying33 info48 rfl (by decide) (by omega) v' (r.take i) s' [.int .u32 s'] (fun _ => True) (fun _ => False) rfl rfl rfl (fun _ hk => hk.elim) (fun _ _ => trivial) O8.out O9.out O9.out.size (by have := HL.out; omega) ?_
            intro v2 w8 ho hb hg hat
            have g1 := blk_grown O1.out hg (Kd.R_ne O8.out O1.out (by decide))
            have g2 := blk_grown O2.out hg (Kd.R_ne O8.out O2.out (by decide))
            have g3 := blk_grown O3.out hg (Kd.R_ne O8.out O3.out (by decide))
            have g4 := blk_grown O4.out hg (Kd.R_ne O8.out O4.out (by decide))
            obtain ⟨Ao, co, eo⟩ := Kd.R_slice ho
            have hln : (r.take i ++ [s']).length = i + 1 := by rw [List.length_append, HL.out]; rfl
            rw [hln] at eo
            clear hln
            subst eo
            have z2 : w8.cell? ⟨gq, 2, none⟩ = some v' := (blk_cell g4 2).trans rfl
            have zf := blk_frozen g4 2
            have e9 : r.take i ++ [s'] = r.take (i + 1) := by
              rw [HS'.out, List.take_add_one]
              have : i < r.length := by have := RL.out; omega
              simp [this]
            have G1 := Aside0.mk g1
            have G2 := Aside0.mk g2
            have G3 := Aside0.mk g3
            have G4 := Aside0.mk g4
            have HO := Aside0.mk ho
            have HB := Aside0.mk hb
            have E9 := Aside0.mk e9
            clear g1 g2 g3 g4 ho hb hg hat e9 O1 O2 O3 O4 O8 O9 y2
            go_wp2
            go_roundw
            case rel =>
              refine ⟨i + 1, by omega, by go_num, _, blk_far G1.out (show w.heap.size ≠ gq by omega) _, blk_far G2.out (show w.heap.size + 1 ≠ gq by omega) _, blk_far G3.out (show gt ≠ gq by omega) _, blk_put G4.out 2 _ rfl, rfl, o6, o7, ?_, HB.out.setCell (show w.heap.size ≤ gq by omega) _⟩
              rw [← E9.out]
              exact Kd.R_set HO.out G4.out (by decide) 2 _
            case measure => simp [intOf]; omega
          · obtain rfl : i = l0_2.length := by omega
            obtain ⟨v, o1, o2, o3, o4, o5, o6, o7, o8, o9⟩ := hst
            have hfull : r.take l0_2.length = r := List.take_of_length_le (by have := RL.out; omega)
            rw [hfull] at o8
            obtain ⟨Ao, co, rfl⟩ := Kd.R_slice o8
            have k0 : wr.cell? ⟨gq, 0, none⟩ = some (.int .i64 W) := (blk_cell o4 0).trans rfl
            have k1 : wr.cell? ⟨gq, 1, none⟩ = some (.int .i64 a0_1) := (blk_cell o4 1).trans rfl
            have k2 : wr.cell? ⟨gq, 2, none⟩ = some (.slice Ao r.length co) := (blk_cell o4 2).trans rfl
            have m0 : wr.cell? ⟨w.heap.size + 1, 0, none⟩ = some (.int .i64 0) := (blk_cell o2 0).trans rfl
            have m1 : wr.cell? ⟨w.heap.size + 1, 1, none⟩ = some (.int .i64 0) := (blk_cell o2 1).trans rfl
            have m2 : wr.cell? ⟨w.heap.size + 1, 2, none⟩ = some (.slice none 0 0) := (blk_cell o2 2).trans rfl
            have f0 := blk_frozen o2 0
            have f1 := blk_frozen o2 1
            have f2 := blk_frozen o2 2
            have O2 := Aside0.mk o2
            have O8 := Aside0.mk o8
            have O9 := Aside0.mk o9
            clear o1 o2 o3 o4 o8 o9 hfull
            go_wp2
            refine bodyPost_ret (results_ct rfl _ _ (w.heap.size + 1) 35 #[.int .i64 W, .int .i64 a0_1, .slice Ao r.length co] (0, 0) _ rfl ?_ Try.underlying35 rfl (by kernel_rfl)) rfl ?_
            · exact blk_put (blk_put (blk_put O2.out 0 _ rfl) 1 _ rfl) 2 _ rfl
            · refine ⟨_, rfl, ?_, below3 O9.out (by omega)⟩
              have h1 := Kd.R_set O8.out O2.out (by decide) 0 (.int .i64 W)
              have b1 := blk_put O2.out 0 (.int .i64 W) rfl
              have h2 := Kd.R_set h1 b1 (by decide) 1 (.int .i64 a0_1)
              have b2 := blk_put b1 1 (.int .i64 a0_1) rfl
              exact Kd.R_set h2 b2 (by decide) 2 (.slice Ao r.length co)
      · rw [if_neg he0] at h
        simp only [Option.some.injEq, Prod.mk.injEq] at h
        obtain ⟨rfl, rfl, rfl, rfl⟩ := h
        have he0b : (e == 0) = false := beq_eq_false_iff_ne.mpr he0
        have he0c : (e != 0) = true := bne_iff_ne.mpr he0
        go_enter Try.func16, Try.ntmps16
        go_wp2_with fail
        refine (dither_levels.calls _ true _ hb1).mono ?_
        rintro e w1 ⟨rfl, ⟨nd, rfl⟩⟩
        go_wp2_with fail
        refine (dither_side.calls _ true _ hs).mono ?_
        rintro e w1 ⟨rfl, ⟨nd2, rfl⟩⟩
        go_wp2_with fail
        refine (plane_Check.calls _ _ A0_2 c0_2 l0_2 e _ (Kd.C_drewN (Kd.C_below hr0_2 HBW.out) _) hc0_2 he).mono ?_
        rintro e w1 ⟨rfl, hb⟩
        have HB := Aside0.mk (below_step (below_drewN HBW.out (nd + nd2)) hb)
        have b1 := blk_below (blk_drewN HZR.out (nd + nd2)) hb
        clear HBW HBX HZR hb htab
        have B1 := Aside0.mk b1
        have m0 : w1.cell? ⟨w.heap.size + 1, 0, none⟩ = some (.int .i64 0) := (blk_cell b1 0).trans rfl
        have m1 : w1.cell? ⟨w.heap.size + 1, 1, none⟩ = some (.int .i64 0) := (blk_cell b1 1).trans rfl
        have m2 : w1.cell? ⟨w.heap.size + 1, 2, none⟩ = some (.slice none 0 0) := (blk_cell b1 2).trans rfl
        have f0 := blk_frozen b1 0
        have f1 := blk_frozen b1 1
        have f2 := blk_frozen b1 2
        clear b1
        go_wp2
        refine bodyPost_ret (results_ct rfl _ _ (w.heap.size + 1) 35 #[.int .i64 0, .int .i64 0, .slice none 0 0] (0, 0) _ rfl ?_ Try.underlying35 rfl (by kernel_rfl)) rfl ?_
        · exact put3 B1.out
        · exact ⟨_, rfl, Kd.R_nil _ _ _ _ _, below3 HB.out (by omega)⟩
end Go.Proofs.Ytmipbbkieadecaa
