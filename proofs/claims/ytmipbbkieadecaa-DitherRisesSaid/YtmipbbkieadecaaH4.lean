/- tableOf of the program: walked by hand: arrays of 16 times 16. -/
import Derived.Test.YtmipbbkieadecaaPDAx1
import Derived.BigRegion
import Derived.Deep.WholeRow
import Derived.WalkKit
import Derived.KernelRfl
import Derived.Deep.RegionHeld3
import Derived.Deep.RegionLaw
import Derived.Deep.DrawnRows
import Derived.Deep.AppendLies
import Derived.Deep.LoopGhost
import Derived.Deep.QuietTactic
import Derived.BigQuiet
import Derived.Lib.Hide
import Derived.Deep.DeepCutAuto
import Derived.WalkLawsBesides
import Derived.WalkSpells
open Go Go.RowKit Go.Proofs.YtmipbbkieadecaaW.PrintWords Go.Proofs.YtmipbbkieadecaaW.PrintLast
attribute [local go_sem ↓] Go.wp_at_zero Go.wp_at_succ
set_option linter.unusedVariables false
set_option linter.unusedSimpArgs false
namespace Go.Proofs.Ytmipbbkieadecaa

/-- 256 numbers, as a row of cells. -/
def arr (F : Nat → Int) : Array Value := ((List.range 256).map (fun i => Value.int .i64 (F i))).toArray
theorem arr_size (F : Nat → Int) : (arr F).size = 256 := by simp [arr]
theorem arr_get (F : Nat → Int) (i : Nat) (h : i < 256) : (arr F)[i]? = some (.int .i64 (F i)) := by simp [arr, h]
theorem arr_set (F : Nat → Int) (j : Nat) (v : Int) : (arr F).setIfInBounds j (.int .i64 v) = arr (fun i => if i = j then v else F i) := by
  apply Array.ext_getElem?
  intro i
  rw [Array.getElem?_setIfInBounds]
  by_cases h : i < 256
  · rw [arr_get _ i h, arr_size]
    by_cases hj : j = i
    · subst hj; rw [arr_get _ j h]; simp [h]
    · have : ¬ i = j := fun e => hj e.symm
      rw [arr_get _ i h]; simp [hj, this]
  · have h1 : (arr F)[i]? = none := by rw [Array.getElem?_eq_none_iff, arr_size]; omega
    have h2 : (arr (fun i => if i = j then v else F i))[i]? = none := by rw [Array.getElem?_eq_none_iff, arr_size]; omega
    rw [h1, h2, arr_size]
    by_cases hj : j = i
    · subst hj; simp [h]
    · simp [hj]
theorem arr_one (F : Nat → Int) : (arr F).all (·.oneCell') = true := by
  simp only [arr, List.all_toArray, List.all_map, List.all_eq_true]
  intro i _
  rfl
theorem arr_congr (F G : Nat → Int) (h : ∀ i, i < 256 → F i = G i) : arr F = arr G := by
  unfold arr
  congr 1
  apply List.map_congr_left
  intro i hi
  rw [h i (List.mem_range.mp hi)]

def nn : Nat → Nat → Int
  | 0, 0 => 0
  | 0, _ => 2
  | _, 0 => 3
  | _, _ => 1
/-- The table of side 2^e. -/
def tb : Nat → Nat → Nat → Int
  | 0, _, _ => 0
  | e + 1, y, x => 4 * tb e (y % 2 ^ e) (x % 2 ^ e) + nn (y / 2 ^ e) (x / 2 ^ e)
theorem tb_bound : ∀ e y x, 0 ≤ tb e y x ∧ tb e y x < 4 ^ e
  | 0, y, x => ⟨by simp [tb], by simp [tb]⟩
  | e + 1, y, x => by
    have ih := tb_bound e (y % 2 ^ e) (x % 2 ^ e)
    have hn : 0 ≤ nn (y / 2 ^ e) (x / 2 ^ e) ∧ nn (y / 2 ^ e) (x / 2 ^ e) ≤ 3 := by
      unfold nn; split <;> omega
    simp only [tb]
    rw [Int.pow_succ]
    omega
def tf (e : Nat) (i : Nat) : Int := if i / 16 < 2 ^ e ∧ i % 16 < 2 ^ e then tb e (i / 16) (i % 16) else 0
def pf (e y x : Nat) (i : Nat) : Int := if (i / 16 < 2 ^ e ∧ i % 16 < 2 ^ e) ∧ (i / 16 < y ∨ i / 16 = y ∧ i % 16 < x) then tb e (i / 16) (i % 16) else 0

theorem info83 : (Try.prog.info? 83).map (fun i => (i.zero, i.size)) = some (some (.agg (arr (fun _ => 0))), 256) := by kernel_rfl

theorem le_antisymm_pow {e E : Nat} (h : e ≤ E) (h2 : 2 ^ E ≤ 2 ^ e) : e = E := by
  have := (Nat.pow_le_pow_iff_right (show 1 < 2 by omega)).mp h2
  omega
theorem pow_le_of_lt {e E : Nat} (hE : E ≤ 4) (h : 2 ^ e < 2 ^ E) : 2 * 2 ^ e ≤ 16 := by
  have h1 : e < E := (Nat.pow_lt_pow_iff_right (show 1 < 2 by omega)).mp h
  have := Nat.pow_le_pow_right (show 0 < 2 by omega) (show e + 1 ≤ 4 by omega)
  rw [Nat.pow_succ] at this
  omega
theorem bnew' {w : World} (o : Obj) : (w.alloc o).heap[w.heap.size]? = some o := heap_alloc_new w o
theorem tb_256 (e y x : Nat) (h : 2 * 2 ^ e ≤ 16) : 0 ≤ tb e y x ∧ tb e y x < 256 := by
  have hb := tb_bound e y x
  have h1 : e < 4 := by
    have : 2 ^ e < 2 ^ 4 := by omega
    exact (Nat.pow_lt_pow_iff_right (show 1 < 2 by omega)).mp this
  have : (4 : Int) ^ e ≤ 64 := by
    rcases (show e = 0 ∨ e = 1 ∨ e = 2 ∨ e = 3 by omega) with rfl | rfl | rfl | rfl <;> decide
  omega
theorem below_setRow {B g : Nat} {w W : World} (h : Below B w W) (hg : B ≤ g) (cs : Array Value) : Below B w (W.setRow g cs) :=
  ⟨h.os, h.tape, h.output, by rw [setRow_size]; exact h.size, fun k hk => by rw [setRow_other _ _ _ _ (by omega)]; exact h.block k hk⟩

/-- The blocks under way: the answer's, the table's, the next one's. -/
def TS (B : Nat) (w : World) (e g : Nat) (F : Nat → Int) (wx : World) : Prop :=
  wx.heap[B]? = some (.cells (arr (fun _ => 0)) 83 (0, 0)) ∧ wx.heap[B + 1]? = some (.cells (arr (tf e)) 83 (0, 0)) ∧ wx.heap[g]? = some (.cells (arr F) 83 (0, 0)) ∧ B + 2 ≤ g ∧ Below B w wx

theorem tf_at (e s a b : Nat) (hs : s = 2 ^ e) (h1 : a < s) (h2 : b < s) (h : s ≤ 16) : tf e (a * 16 + b) = tb e a b := by
  unfold tf
  rw [← hs, show (a * 16 + b) / 16 = a by omega, show (a * 16 + b) % 16 = b by omega, if_pos ⟨h1, h2⟩]
theorem half (y s : Nat) (h : y < 2 * s) : y / s = 0 ∨ y / s = 1 := by
  have : y / s < 2 := Nat.div_lt_of_lt_mul (by omega)
  match y / s, this with
  | 0, _ => exact .inl rfl
  | 1, _ => exact .inr rfl
theorem TS_congr {B : Nat} {w wx : World} {e g : Nat} {F G : Nat → Int} (h : arr F = arr G) (hT : TS B w e g F wx) : TS B w e g G wx := by
  unfold TS at hT ⊢
  rw [← h]; exact hT
theorem TS_put {B : Nat} {w wx : World} {e g j : Nat} {F G : Nat → Int} {u v : Int} (hT : TS B w e g F wx) (h : (arr F).setIfInBounds j (.int .i64 v) = arr G) (hv : u = v) (h1 : g ≠ B + 1) (h2 : g ≠ B) : TS B w e g G (wx.setCell ⟨g, j, none⟩ (.int .i64 u)) := by
  subst hv
  obtain ⟨t1, t2, t3, t4, t5⟩ := hT
  exact ⟨blk_far t1 (fun e => h2 e.symm) _, blk_far t2 (fun e => h1 e.symm) _, blk_put t3 j _ h, t4, t5.setCell (show B ≤ g by omega) _⟩
theorem TS_drew {B : Nat} {w wx : World} {e g : Nat} {F : Nat → Int} (hT : TS B w e g F wx) : TS B w e g F wx.drew := by
  obtain ⟨t1, t2, t3, t4, t5⟩ := hT
  exact ⟨blk_drew t1, blk_drew t2, blk_drew t3, t4, below_drew t5⟩
theorem pf_start (e : Nat) : arr (pf e 0 0) = arr (fun _ => 0) := arr_congr _ _ (fun i _ => by unfold pf; rw [if_neg (by omega)])
theorem pf_row (e y s : Nat) (hs : s = 2 ^ e) : arr (pf (e + 1) y (2 * s)) = arr (pf (e + 1) (y + 1) 0) := arr_congr _ _ (fun i _ => by
  have h : 2 ^ (e + 1) = 2 * s := by rw [Nat.pow_succ, hs]; omega
  unfold pf
  rw [h]
  congr 1
  apply propext
  constructor <;> intro h <;> omega)
theorem pf_end (e s : Nat) (hs : s = 2 ^ e) : arr (pf (e + 1) (2 * s) 0) = arr (tf (e + 1)) := arr_congr _ _ (fun i _ => by
  have h : 2 ^ (e + 1) = 2 * s := by rw [Nat.pow_succ, hs]; omega
  unfold pf tf
  rw [h]
  congr 1
  apply propext
  constructor <;> intro h <;> omega)
theorem pf_put (e s y x : Nat) (hs : s = 2 ^ e) (h16 : 2 * s ≤ 16) (hy : y < 2 * s) (hx : x < 2 * s) :
    (arr (pf (e + 1) y x)).setIfInBounds (y * 16 + x) (.int .i64 (4 * tb e (y % s) (x % s) + nn (y / s) (x / s))) = arr (pf (e + 1) y (x + 1)) := by
  rw [arr_set]
  refine arr_congr _ _ (fun i _ => ?_)
  have h : 2 ^ (e + 1) = 2 * s := by rw [Nat.pow_succ, hs]; omega
  by_cases hi : i = y * 16 + x
  · rw [if_pos hi]
    unfold pf
    rw [h, if_pos (by omega), show i / 16 = y by omega, show i % 16 = x by omega]
    simp only [tb, ← hs]
  · rw [if_neg hi]
    unfold pf
    rw [h]
    congr 1
    apply propext
    constructor <;> intro h <;> omega

set_option maxHeartbeats 8000000 in
set_option maxRecDepth 100000 in
theorem tableOf (E : Nat) (hE : E ≤ 4) (w : World) :
    Calls Try.prog 40 #[.int .i64 ((2 ^ E : Nat) : Int)] w fun e w' => ∃ c, e = .returned (.agg c) ∧ c = arr (tf E) ∧ Below w.heap.size w w' := by
  obtain ⟨hz83, hs83⟩ := zero_of_info info83
  obtain ⟨side, hside⟩ : ∃ side : Nat, side = 2 ^ E := ⟨_, rfl⟩
  rw [← hside]
  have HSI := Lib.hid hside
  clear hside
  go_enter Try.func40, Try.ntmps40
  go_wp2
  go_loopw [4] (fun v4 wr => ∃ e : Nat, e ≤ E ∧ v4 = .int .i64 ((2 ^ e : Nat) : Int) ∧ wr.heap[w.heap.size]? = some (.cells (arr (fun _ => 0)) 83 (0, 0)) ∧ wr.heap[w.heap.size + 1]? = some (.cells (arr (tf e)) 83 (0, 0)) ∧ Below w.heap.size w wr) (fun v4 _ => 17 - (intOf v4).toNat)
  case atStart =>
    refine ⟨0, by omega, rfl, blk_alloc (bnew' _) _, ?_, below_alloc (below_alloc (Below.refl _ _) _) _⟩
    have h : arr (tf 0) = arr (fun _ => 0) := arr_congr _ _ (fun i _ => by unfold tf; simp [tb])
    rw [h]
    have h2 := bnew' (w := w.alloc (.cells (arr fun _ => 0) 83)) (.cells (arr fun _ => 0) 83)
    simpa using h2
  case round =>
    obtain ⟨e, he, rfl, h0, h1, hb⟩ := hrel
    obtain ⟨s, hs⟩ : ∃ s : Nat, s = 2 ^ e := ⟨_, rfl⟩
    rw [← hs]
    have s1 : 1 ≤ s := by rw [hs]; exact Nat.two_pow_pos e
    have s2 : s ≤ 16 := by rw [hs]; exact Nat.le_trans (Nat.pow_le_pow_right (by omega) (Nat.le_trans he hE)) (Nat.le_refl 16)
    have HS := Lib.hid hs
    have H0 := Lib.hid h0
    have H1 := Lib.hid h1
    have HB := Lib.hid hb
    clear hs h0 h1 hb
    by_cases hlt : s < side
    · have hw2 : IntKind.i64.wrap (2 * (s : Int)) = ((2 * s : Nat) : Int) := by rw [IntKind.wrap_i64]; omega
      have hw3 : IntKind.i64.wrap ((s : Int) * 2) = ((2 * s : Nat) : Int) := by rw [IntKind.wrap_i64]; omega
      go_wp2
      have hT : TS w.heap.size w e wr.heap.size (pf (e + 1) 0 0) (wr.alloc (.cells (arr fun _ => 0) 83)) :=
        ⟨blk_alloc H0.out _, blk_alloc H1.out _, by rw [pf_start]; exact bnew' _, by have := blk_lt H1.out; omega, below_alloc HB.out _⟩
      have HT := Lib.hid hT
      clear hT H0 H1 HB
      generalize wr.alloc (.cells (arr fun _ => 0) 83) = w1 at HT ⊢
      generalize wr.heap.size = g at HT ⊢
      have h16 : 2 * s ≤ 16 := by
        have := pow_le_of_lt hE (by rw [← HS.out, ← HSI.out]; exact hlt : 2 ^ e < 2 ^ E)
        rw [HS.out]; omega
      go_loopw [15] (fun v15 wr => ∃ y : Nat, y ≤ 2 * s ∧ v15 = .int .i64 y ∧ TS w.heap.size w e g (pf (e + 1) y 0) wr) (fun v15 _ => 2 * s - (intOf v15).toNat)
      case atStart => exact ⟨0, Nat.zero_le _, rfl, HT.out⟩
      case round =>
        obtain ⟨y, hy, rfl, hT⟩ := hrel
        clear HT
        have HT := Lib.hid hT
        clear hT
        by_cases hly : y < 2 * s
        · have hly' : (y : Int) < 2 * (s : Int) := by omega
          go_wp2
          obtain ⟨wo, hwo⟩ : ∃ wo : World, wo = wr := ⟨_, rfl⟩
          subst hwo
          go_loopw [20] (fun v20 wr => ∃ x : Nat, x ≤ 2 * s ∧ v20 = .int .i64 x ∧ TS w.heap.size w e g (pf (e + 1) y x) wr) (fun v20 _ => 2 * s - (intOf v20).toNat)
          case atStart => exact ⟨0, Nat.zero_le _, rfl, HT.out⟩
          case round =>
            obtain ⟨x, hx, rfl, hT⟩ := hrel
            clear HT
            have HT := Lib.hid hT
            clear hT
            by_cases hlx : x < 2 * s
            · have hlx' : (x : Int) < 2 * (s : Int) := by omega
              obtain ⟨ym, hym⟩ : ∃ m, m = y % s := ⟨_, rfl⟩
              obtain ⟨xm, hxm⟩ : ∃ m, m = x % s := ⟨_, rfl⟩
              obtain ⟨V, hV⟩ : ∃ V, V = tb e ym xm := ⟨_, rfl⟩
              have hV2 : 0 ≤ V ∧ V < 256 := by
                rw [hV]
                exact tb_256 e ym xm (by rw [← HS.out]; omega)
              have ym1 : ym < s := by rw [hym]; exact Nat.mod_lt _ (by omega)
              have xm1 : xm < s := by rw [hxm]; exact Nat.mod_lt _ (by omega)
              have hr1 : Int.tmod (y : Int) (s : Int) = (ym : Int) := by rw [hym, ← Int.ofNat_tmod]
              have hr2 : Int.tmod (x : Int) (s : Int) = (xm : Int) := by rw [hxm, ← Int.ofNat_tmod]
              have hT := HT.out
              have c1 : wr.cell? ⟨w.heap.size + 1, ym * 16 + xm, none⟩ = some (.int .i64 V) := (blk_cell hT.2.1 _).trans (by rw [arr_get _ _ (by omega), hV, tf_at e s ym xm HS.out ym1 xm1 s2])
              have c2 : wr.cell? ⟨g, y * 16 + x, none⟩ = some (.int .i64 (pf (e + 1) y x (y * 16 + x))) := (blk_cell hT.2.2.1 _).trans (arr_get _ _ (by omega))
              have c0 : wr.cell? ⟨w.heap.size, 0, none⟩ = some (.int .i64 0) := (blk_cell hT.1 _).trans (arr_get _ _ (by omega))
              have f2 : wr.frozen? ⟨g, y * 16 + x, none⟩ = false := blk_frozen hT.2.2.1 _
              have hg2 : w.heap.size + 2 ≤ g := hT.2.2.2.1
              have hne1 : g ≠ w.heap.size + 1 := by omega
              have hne2 : g ≠ w.heap.size := by omega
              clear hT
              have HV := Lib.hid hV
              have HYM := Lib.hid hym
              have HXM := Lib.hid hxm
              clear hV hym hxm
              have hs0 : (s = 0) = False := eq_false (by omega)
              have hs0' : ((s : Int) = 0) = False := eq_false (by omega)
              have iy0 : (0 : Int) ≤ (y : Int) := by omega
              have iy1 : (y : Int) < 16 := by omega
              have iy2 : y < 16 := by omega
              have ix0 : (0 : Int) ≤ (x : Int) := by omega
              have ix1 : (x : Int) < 16 := by omega
              have ix2 : x < 16 := by omega
              have jy0 : (0 : Int) ≤ (ym : Int) := by omega
              have jy1 : (ym : Int) < 16 := by omega
              have jy2 : ym < 16 := by omega
              have jx0 : (0 : Int) ≤ (xm : Int) := by omega
              have jx1 : (xm : Int) < 16 := by omega
              have jx2 : xm < 16 := by omega
              have wr0 : IntKind.i64.wrap 0 = 0 := rfl
              have wr1 : IntKind.i64.wrap 1 = 1 := rfl
              generalize pf (e + 1) y x (y * 16 + x) = old at c2
              have hw4 : IntKind.i64.wrap (4 * V) = 4 * V := by rw [IntKind.wrap_i64]; omega
              rcases half y s hly with hqy | hqy <;>
              rcases half x s hlx with hqx | hqx
              · have hq1 : Int.tdiv (y : Int) (s : Int) = 0 := by rw [← Int.ofNat_tdiv, hqy]; rfl
                have hq2 : Int.tdiv (x : Int) (s : Int) = 0 := by rw [← Int.ofNat_tdiv, hqx]; rfl
                have i1 : ∀ w : World, (Instr.index 101 (.agg #[.int .i64 0, .int .i64 2, .int .i64 3, .int .i64 1]) (.int .i64 0)).run Try.prog w = .ok (.agg #[.int .i64 0, .int .i64 2]) w := fun _ => by kernel_rfl
                have i2 : ∀ w : World, (Instr.index 100 (.agg #[.int .i64 0, .int .i64 2]) (.int .i64 0)).run Try.prog w = .ok (.int .i64 0) w := fun _ => by kernel_rfl
                have hw5 : IntKind.i64.wrap (4 * V + 0) = 4 * V + 0 := by rw [IntKind.wrap_i64]; omega
                have hv : 4 * V + 0 = 4 * tb e (y % s) (x % s) + nn (y / s) (x / s) := by rw [hqy, hqx, ← HYM.out, ← HXM.out, ← HV.out]; rfl
                have HVV := Lib.hid hv
                clear hv hqy hqx
                go_upto_region 12 with fail
                go_region_held3 (fun w' => w'.cell? ⟨w.heap.size + 1, ym * 16 + xm, none⟩ = some (.int .i64 V) ∧ w'.cell? ⟨w.heap.size, 0, none⟩ = some (.int .i64 0)) (go_keep) (fail)
                all_goals (go_wp2; go_roundw)
                case rel => exact ⟨x + 1, by omega, by go_num, TS_drew (TS_put HT.out (pf_put e s y x HS.out h16 hly hlx) (by have := HVV.out; omega) hne1 hne2)⟩
                case measure => simp [intOf]; omega
              · have hq1 : Int.tdiv (y : Int) (s : Int) = 0 := by rw [← Int.ofNat_tdiv, hqy]; rfl
                have hq2 : Int.tdiv (x : Int) (s : Int) = 1 := by rw [← Int.ofNat_tdiv, hqx]; rfl
                have i1 : ∀ w : World, (Instr.index 101 (.agg #[.int .i64 0, .int .i64 2, .int .i64 3, .int .i64 1]) (.int .i64 0)).run Try.prog w = .ok (.agg #[.int .i64 0, .int .i64 2]) w := fun _ => by kernel_rfl
                have i2 : ∀ w : World, (Instr.index 100 (.agg #[.int .i64 0, .int .i64 2]) (.int .i64 1)).run Try.prog w = .ok (.int .i64 2) w := fun _ => by kernel_rfl
                have hw5 : IntKind.i64.wrap (4 * V + 2) = 4 * V + 2 := by rw [IntKind.wrap_i64]; omega
                have hv : 4 * V + 2 = 4 * tb e (y % s) (x % s) + nn (y / s) (x / s) := by rw [hqy, hqx, ← HYM.out, ← HXM.out, ← HV.out]; rfl
                have HVV := Lib.hid hv
                clear hv hqy hqx
                go_upto_region 12 with fail
                go_region_held3 (fun w' => w'.cell? ⟨w.heap.size + 1, ym * 16 + xm, none⟩ = some (.int .i64 V) ∧ w'.cell? ⟨w.heap.size, 0, none⟩ = some (.int .i64 0)) (go_keep) (fail)
                all_goals (go_wp2; go_roundw)
                case rel => exact ⟨x + 1, by omega, by go_num, TS_drew (TS_put HT.out (pf_put e s y x HS.out h16 hly hlx) (by have := HVV.out; omega) hne1 hne2)⟩
                case measure => simp [intOf]; omega
              · have hq1 : Int.tdiv (y : Int) (s : Int) = 1 := by rw [← Int.ofNat_tdiv, hqy]; rfl
                have hq2 : Int.tdiv (x : Int) (s : Int) = 0 := by rw [← Int.ofNat_tdiv, hqx]; rfl
                have i1 : ∀ w : World, (Instr.index 101 (.agg #[.int .i64 0, .int .i64 2, .int .i64 3, .int .i64 1]) (.int .i64 1)).run Try.prog w = .ok (.agg #[.int .i64 3, .int .i64 1]) w := fun _ => by kernel_rfl
                have i2 : ∀ w : World, (Instr.index 100 (.agg #[.int .i64 3, .int .i64 1]) (.int .i64 0)).run Try.prog w = .ok (.int .i64 3) w := fun _ => by kernel_rfl
                have hw5 : IntKind.i64.wrap (4 * V + 3) = 4 * V + 3 := by rw [IntKind.wrap_i64]; omega
                have hv : 4 * V + 3 = 4 * tb e (y % s) (x % s) + nn (y / s) (x / s) := by rw [hqy, hqx, ← HYM.out, ← HXM.out, ← HV.out]; rfl
                have HVV := Lib.hid hv
                clear hv hqy hqx
                go_upto_region 12 with fail
                go_region_held3 (fun w' => w'.cell? ⟨w.heap.size + 1, ym * 16 + xm, none⟩ = some (.int .i64 V) ∧ w'.cell? ⟨w.heap.size, 0, none⟩ = some (.int .i64 0)) (go_keep) (fail)
                all_goals (go_wp2; go_roundw)
                case rel => exact ⟨x + 1, by omega, by go_num, TS_drew (TS_put HT.out (pf_put e s y x HS.out h16 hly hlx) (by have := HVV.out; omega) hne1 hne2)⟩
                case measure => simp [intOf]; omega
              · have hq1 : Int.tdiv (y : Int) (s : Int) = 1 := by rw [← Int.ofNat_tdiv, hqy]; rfl
                have hq2 : Int.tdiv (x : Int) (s : Int) = 1 := by rw [← Int.ofNat_tdiv, hqx]; rfl
                have i1 : ∀ w : World, (Instr.index 101 (.agg #[.int .i64 0, .int .i64 2, .int .i64 3, .int .i64 1]) (.int .i64 1)).run Try.prog w = .ok (.agg #[.int .i64 3, .int .i64 1]) w := fun _ => by kernel_rfl
                have i2 : ∀ w : World, (Instr.index 100 (.agg #[.int .i64 3, .int .i64 1]) (.int .i64 1)).run Try.prog w = .ok (.int .i64 1) w := fun _ => by kernel_rfl
                have hw5 : IntKind.i64.wrap (4 * V + 1) = 4 * V + 1 := by rw [IntKind.wrap_i64]; omega
                have hv : 4 * V + 1 = 4 * tb e (y % s) (x % s) + nn (y / s) (x / s) := by rw [hqy, hqx, ← HYM.out, ← HXM.out, ← HV.out]; rfl
                have HVV := Lib.hid hv
                clear hv hqy hqx
                go_upto_region 12 with fail
                go_region_held3 (fun w' => w'.cell? ⟨w.heap.size + 1, ym * 16 + xm, none⟩ = some (.int .i64 V) ∧ w'.cell? ⟨w.heap.size, 0, none⟩ = some (.int .i64 0)) (go_keep) (fail)
                all_goals (go_wp2; go_roundw)
                case rel => exact ⟨x + 1, by omega, by go_num, TS_drew (TS_put HT.out (pf_put e s y x HS.out h16 hly hlx) (by have := HVV.out; omega) hne1 hne2)⟩
                case measure => simp [intOf]; omega
            · obtain rfl : x = 2 * s := by omega
              go_wp2
              go_roundw
              case rel => exact ⟨y + 1, by omega, by go_num, TS_congr (pf_row e y s HS.out) HT.out⟩
              case measure => simp [intOf]; omega
        · obtain rfl : y = 2 * s := by omega
          obtain ⟨t1, t2, t3, t4, t5⟩ := HT.out
          rw [pf_end e s HS.out] at t3
          clear HT
          have hc := arr_size (tf (e + 1))
          have ho := arr_one (tf (e + 1))
          have hz := arr_size (tf e)
          obtain ⟨c, hcc⟩ : ∃ c, c = arr (tf (e + 1)) := ⟨_, rfl⟩
          rw [← hcc] at hc ho t3
          have HCC := Lib.hid hcc
          have T1 := Lib.hid t1
          have T2 := Lib.hid t2
          have T3 := Lib.hid t3
          have T5 := Lib.hid t5
          clear hcc t1 t2 t3 t5
          generalize arr (tf e) = c0 at hz T2
          go_wp2_with (first
            | (with_reducible refine gate_dst (N := 51) rfl ?_
               refine wpList_load_row rfl 83 (.tmp 5) rfl g rfl 83 c (0, 0) _ T3.out Try.underlying83 rfl (by rw [hs83, hc]) ?_)
            | (with_reducible refine gate_store (t := 83) (p := 3) rfl ?_
               refine wpList_store_row rfl 83 (.tmp 3) (.tmp 51) rfl (w.heap.size + 1) c rfl rfl 83 c0 T2.out (by rw [hs83, hc]) (by rw [hz, hc]) ho ?_))
          go_roundw
          case rel =>
            refine ⟨e + 1, ?_, ?_, ?_, ?_, below_setRow T5.out (by omega) c⟩
            · have : 2 ^ e < 2 ^ E := by rw [← HS.out, ← HSI.out]; exact hlt
              exact (Nat.pow_lt_pow_iff_right (show 1 < 2 by omega)).mp this
            · rw [Nat.pow_succ, ← HS.out]; congr 1; omega
            · rw [setRow_other _ _ _ _ (by omega)]; exact T1.out
            · rw [← HCC.out]; exact setRow_heap _ _ _ _ _ _ T2.out
          case measure => simp [intOf]; omega
    · have hc := arr_size (tf e)
      have ho := arr_one (tf e)
      have h0 := H0.out
      have h1 := H1.out
      clear H0 H1
      have hgoal : arr (tf e) = arr (tf E) := by
        rw [show e = E from le_antisymm_pow he (by rw [← HS.out, ← HSI.out]; omega)]
      have hz := arr_size (fun _ => 0)
      generalize arr (tf e) = c at hc ho h1 hgoal
      generalize arr (fun _ => 0) = c0 at h0 hz hz83
      go_wp2_with (first
        | (with_reducible refine gate_dst (N := 52) rfl ?_
           refine wpList_load_row rfl 83 (.tmp 3) rfl (w.heap.size + 1) rfl 83 c (0, 0) _ h1 Try.underlying83 rfl (by rw [hs83, hc]) ?_)
        | (with_reducible refine gate_store (t := 83) (p := 2) rfl ?_
           refine wpList_store_row rfl 83 (.tmp 2) (.tmp 52) rfl w.heap.size c rfl rfl 83 c0 h0 (by rw [hs83, hc]) (by rw [hz, hc]) ho ?_))
      refine bodyPost_ret (results_cell_row rfl _ _ w.heap.size 83 c (0, 0) _ rfl (setRow_heap _ _ _ _ _ _ h0) Try.underlying83 rfl (by rw [hs83, hc])) rfl ?_
      exact ⟨c, rfl, hgoal, below_setRow HB.out (Nat.le_refl _) c⟩
end Go.Proofs.Ytmipbbkieadecaa
