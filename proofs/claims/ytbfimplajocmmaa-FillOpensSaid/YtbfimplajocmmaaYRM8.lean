import Derived.Test.YtbfimplajocmmaaYRM7
import Derived.BigRegion
import Derived.Deep.WholeRow
import Derived.KernelRfl
import Derived.Deep.RegionHeld3
import Derived.Deep.RegionLaw
import Derived.Deep.DrawnRows
import Derived.Deep.AppendLies
import Derived.Deep.LoopGhost
import Derived.Deep.QuietTactic
import Derived.BigQuiet
import Derived.Lib.Hide
import Derived.Deep.DeepCutAuto
import Derived.Lib.OwnBridge
import Derived.WalkLawsBesides
import Derived.WalkSpells
import Derived.Test.YtbfimplajocmmaaYRM3
section
open Go Go.RowKit Go.Shelf Go.Proofs.YtbfimplajocmmaaW.PrintWords Go.Proofs.YtbfimplajocmmaaW.PrintLast Go.Proofs.YtbfimplajocmmaaW.PrintMore
attribute [local go_sem ↓] Go.wp_at_zero Go.wp_at_succ
set_option linter.unusedVariables false
set_option linter.unusedSimpArgs false
namespace Go.Proofs.Ytbfimplajocmmaa
open PFA PRA

def atRow (bk W : Int) (l : List Int) (y x0 : Int) : Nat → Nat → List Int → Option (List Int)
 | 0, _, acc => some acc
 | m + 1, i, acc => (B7.f 8 bk W (wrap64 (x0 + (i : Int)))).bind fun b =>
   if 0 ≤ wrap64 (wrap64 (y * W) + b.1) ∧ wrap64 (wrap64 (y * W) + b.1) < (l.length : Int) then atRow bk W l y x0 m (i + 1) (acc ++ [rd l (wrap64 (wrap64 (y * W) + b.1))]) else none
def atAll (bk W H : Int) (l : List Int) (x0 y0 : Int) (w : Nat) : Nat → Nat → List Int → Option (List Int)
 | 0, _, acc => some acc
 | m + 1, j, acc => (B7.f 8 bk H (wrap64 (y0 + (j : Int)))).bind fun b => (atRow bk W l b.1 x0 w 0 acc).bind fun acc2 => atAll bk W H l x0 y0 w m (j + 1) acc2
def Df.f (a0_0 a0_1 : Int) (l0_2 : List Int) (a0_3 a0_4 a0_5 a1 a2 a3 : Int) : Option Int :=
 if (0 ≤ a0_4 ∧ a0_4 ≤ 15 ∧ 0 ≤ a0_5 ∧ a0_5 ≤ 15 ∧ 0 ≤ a1 ∧ a1 < a0_4 * a0_5) ∧ (∀ s ∈ l0_2, 0 ≤ s ∧ s < 4294967296) then
  (atAll a0_3 a0_0 a0_1 l0_2 (wrap64 (a2 - a0_4 / 2)) (wrap64 (a3 - a0_5 / 2)) a0_4.toNat a0_5.toNat 0 []).bind fun acc => some ((isrt acc).getD a1.toNat 0)
 else none

theorem atRow_len (bk W : Int) (l : List Int) (y x0 : Int) : ∀ m i acc r, atRow bk W l y x0 m i acc = some r → r.length = acc.length + m ∧ (∀ s ∈ r, s ∈ acc ∨ s ∈ l)
 | 0, i, acc, r, h => by
  obtain rfl := Option.some.inj h; exact ⟨rfl, fun s hs => .inl hs⟩
 | m + 1, i, acc, r, h => by
  unfold atRow at h; obtain ⟨b, hb, h⟩ := Option.bind_eq_some_iff.mp h
  split at h
  ·rename_i hq
   obtain ⟨h1, h2⟩ := atRow_len bk W l y x0 m (i + 1) _ r h; refine ⟨by rw [h1, List.length_append]; simp; omega, fun s hs => ?_⟩
   rcases h2 s hs with h3 | h3
   ·rcases List.mem_append.mp h3 with h4 | h4
    ·exact .inl h4
    ·right
     rw [List.mem_singleton] at h4; rw [h4]; unfold rd; rw [List.getD_eq_getElem?_getD, List.getElem?_eq_getElem (by omega)]; exact List.getElem_mem _
   ·exact .inr h3
  ·cases h
theorem atAll_len (bk W H : Int) (l : List Int) (x0 y0 : Int) (w : Nat) : ∀ m j acc r, atAll bk W H l x0 y0 w m j acc = some r → r.length = acc.length + m * w ∧ (∀ s ∈ r, s ∈ acc ∨ s ∈ l)
 | 0, j, acc, r, h => by
  obtain rfl := Option.some.inj h; exact ⟨by simp, fun s hs => .inl hs⟩
 | m + 1, j, acc, r, h => by
  unfold atAll at h; obtain ⟨b, hb, h⟩ := Option.bind_eq_some_iff.mp h; obtain ⟨acc2, ha, h⟩ := Option.bind_eq_some_iff.mp h; obtain ⟨h1, h2⟩ := atRow_len _ _ _ _ _ _ _ _ _ ha; obtain ⟨h3, h4⟩ := atAll_len bk W H l x0 y0 w m (j + 1) acc2 r h; refine ⟨by rw [h3, h1, Nat.succ_mul]; omega, fun s hs => ?_⟩
  rcases h4 s hs with h5 | h5
  ·exact h2 s h5
  ·exact .inr h5

def arrU (acc : List Int) : Array Value := ((List.range 225).map (fun i => Value.int .u32 (acc.getD i 0))).toArray
theorem arrU_size (acc : List Int) : (arrU acc).size = 225 := by simp [arrU]
theorem arrU_get (acc : List Int) (i : Nat) (h : i < 225) : (arrU acc)[i]? = some (.int .u32 (acc.getD i 0)) := by simp [arrU, h]
theorem arrU_push (acc : List Int) (v : Int) (h : acc.length < 225) : (arrU acc).setIfInBounds acc.length (.int .u32 v) = arrU (acc ++ [v]) := by
 apply Array.ext_getElem?
 intro i; rw [Array.getElem?_setIfInBounds]
 by_cases hi : i < 225
 ·rw [arrU_get _ i hi, arrU_get _ i hi, arrU_size]
  by_cases hj : acc.length = i
  ·subst hj
   rw [if_pos rfl, if_pos h]
   simp [List.getD_eq_getElem?_getD]
  ·rw [if_neg hj]
   congr 2
   rw [List.getD_eq_getElem?_getD, List.getD_eq_getElem?_getD]
   rcases Nat.lt_or_ge i acc.length with h2 | h2
   ·rw [List.getElem?_append_left h2]
   ·rw [List.getElem?_eq_none (by omega), List.getElem?_eq_none (by simp; omega)]
 ·rw [if_neg (by omega), Array.getElem?_eq_none (by rw [arrU_size]; omega), Array.getElem?_eq_none (by rw [arrU_size]; omega)]

theorem info73 : (Try.prog.info? 137).map (fun i => (i.zero, i.size)) = some (some (.agg (arrU [])), 225) := by kernel_rfl

def AS (B : Nat) (w : World) (cs : Array Value) (acc : List Int) (wx : World) : Prop :=
 wx.heap[B]? = some (.cells cs 131 (0, 0)) ∧ wx.heap[B + 1]? = some (.cells (arrU acc) 137 (0, 0)) ∧ w.heap.size = B ∧ Below B w wx
theorem AS_below {B : Nat} {w wx w1 : World} {cs : Array Value} {acc : List Int} (h : AS B w cs acc wx) (hb : Below wx.heap.size wx w1) : AS B w cs acc w1 := by
 obtain ⟨h1, h2, h3, h4⟩ := h; exact ⟨An h1 hb, An h2 hb, h3, h4.trans (hb.mono (Nat.le_of_lt (Bh h1)))⟩
theorem AS_put {B : Nat} {w wx : World} {cs : Array Value} {acc : List Int} (h : AS B w cs acc wx) (v : Int) (hl : acc.length < 225) : AS B w cs (acc ++ [v]) (wx.setCell ⟨B + 1, acc.length, none⟩ (.int .u32 v)) := by
 obtain ⟨h1, h2, h3, h4⟩ := h; refine ⟨?_, ?_, h3, h4.setCell (show B ≤ B + 1 by omega) _⟩
 ·rw [Below.heap_setCell _ _ _ _ (by simp)]; exact h1
 ·rw [← arrU_push acc v hl]
  exact Ax h2 acc.length _ rfl

theorem encS_toS (x : Int) (h0 : 0 ≤ x) (h1 : x < 4294967296) : encS (toS x) = .int .u32 x := by
 have h : (toS x).val = x.toNat % 4294967296 := rfl; unfold encS; rw [h, Nat.mod_eq_of_lt (by omega), Int.toNat_of_nonneg h0]
theorem AS_holds {B : Nat} {w W : World} {cs : Array Value} {acc : List Int} (h : AS B w cs acc W) (hl : acc.length ≤ 225) (hu : ∀ s ∈ acc, 0 ≤ s ∧ s < 4294967296) : Sort.Holds encS W (B + 1) 0 (acc.map toS).toArray := by
 obtain ⟨h1, h2, h3, h4⟩ := h; intro j hj; have hj' : j < acc.length := by simpa using hj
 rw [Nat.zero_add]
 have hd : (acc.map toS).toArray[j]! = toS (acc.getD j 0) := by
  rw [getElem!_pos _ j hj]
  simp [List.getD_eq_getElem?_getD, hj']
 have hm : 0 ≤ acc.getD j 0 ∧ acc.getD j 0 < 4294967296 := hu _ (by rw [List.getD_eq_getElem?_getD, List.getElem?_eq_getElem hj']; exact List.getElem_mem _); rw [hd, encS_toS _ hm.1 hm.2]; exact ⟨(Ad h2 j).trans (arrU_get _ _ (by omega)), Af h2 j⟩
theorem srt_length (l : List Smp) : (srt l).length = l.length := by unfold srt; exact List.length_mergeSort l
theorem after_sort {B : Nat} {w W : World} {cs : Array Value} {acc : List Int} (h : AS B w cs acc W) (hl : acc.length ≤ 225) (hu : ∀ s ∈ acc, 0 ≤ s ∧ s < 4294967296) (n : Nat) (os : Array Obj) :
  Below B w (sortWorld encS W (B + 1) 0 n (srt (acc.map toS)).toArray os) ∧ ∀ k, k < acc.length → (sortWorld encS W (B + 1) 0 n (srt (acc.map toS)).toArray os).cell? ⟨B + 1, k, none⟩ = some (.int .u32 ((srtI acc).getD k 0)) := by
 have hH := AS_holds h hl hu; obtain ⟨h1, h2, h3, h4⟩ := h; have hH2 : Sort.Holds encS (Sort.ahead W n) (B + 1) 0 (acc.map toS).toArray := hH; have hp : Below B w (Sort.putRow encS (Sort.ahead W n) (B + 1) 0 (srt (acc.map toS)).toArray) := Lib.below_putRow h4 (by omega); have hb1 : B + 1 < (Sort.putRow encS (Sort.ahead W n) (B + 1) 0 (srt (acc.map toS)).toArray).heap.size := by rw [Sort.size_putRow]; exact Bh h2
 have hg : ∀ (V : World) (os : Array Obj), Below V.heap.size V (Sort.grow V os) := fun V os => ⟨rfl, rfl, rfl, by simp [Sort.grow], fun k hk => by simp [Sort.grow, Array.getElem?_append, hk]⟩
 have hg1 := hg (Sort.putRow encS (Sort.ahead W n) (B + 1) 0 (srt (acc.map toS)).toArray) os; unfold sortWorld; refine ⟨hp.trans (hg1.mono (by omega)), fun k hk => ?_⟩; rw [hg1.cell (p := ⟨B + 1, k, none⟩) hb1]; have hsz : (srt (acc.map toS)).toArray.size = (acc.map toS).toArray.size := by simp [srt_length]
 have hc := Sort.cell?_putRow encS (Sort.ahead W n) (B + 1) 0 _ (srt (acc.map toS)).toArray hH2 hsz k (by simp [srt_length]; exact hk); rw [Nat.zero_add] at hc; rw [hc]; have hk2 : k < (srt (acc.map toS)).length := by rw [srt_length, List.length_map]; exact hk
 rw [getElem!_pos _ k (by simpa using hk2)]; unfold srtI encS
 simp [List.getD_eq_getElem?_getD, hk2]

set_option maxHeartbeats 8000000 in
set_option maxRecDepth 100000 in
theorem Df.calls (a0_0 a0_1 : Int) (A0_2 : Option Addr) (c0_2 : Nat) (l0_2 : List Int) (a0_3 a0_4 a0_5 a1 a2 a3 : Int) (r : Int) (w : World) (hr0_2 : Kd.C (Kd.int .u32) w A0_2 l0_2.length l0_2) (hc0_2 : l0_2.length ≤ c0_2) (h : Df.f a0_0 a0_1 l0_2 a0_3 a0_4 a0_5 a1 a2 a3 = some r) :
  Calls Try.prog 100 #[.agg #[.int .i64 a0_0, .int .i64 a0_1, .slice A0_2 l0_2.length c0_2, .int .i64 a0_3, .int .i64 a0_4, .int .i64 a0_5], .int .i64 a1, .int .i64 a2, .int .i64 a3] w fun e w' => e = .returned (.int .u32 r) ∧ Below w.heap.size w w' := by
 unfold Df.f at h
 split at h
 ·rename_i hc
  obtain ⟨⟨c1, c2, c3, c4, c5, c6⟩, hu⟩ := hc; replace h := Option.bind_eq_some_iff.mp h; obtain ⟨acc, hacc, h⟩ := h; have hr := Option.some.inj h; clear h; obtain ⟨wn, rfl⟩ := Int.eq_ofNat_of_zero_le c1; obtain ⟨hn, rfl⟩ := Int.eq_ofNat_of_zero_le c3; obtain ⟨kn, rfl⟩ := Int.eq_ofNat_of_zero_le c5; rw [Int.toNat_natCast, Int.toNat_natCast] at hacc; rw [Int.toNat_natCast] at hr; have hq1 : Int.tdiv (wn : Int) 2 = (wn : Int) / 2 := by rw [show (2 : Int) = ((2 : Nat) : Int) from rfl, ← Int.ofNat_tdiv]; omega
  have hq2 : Int.tdiv (hn : Int) 2 = (hn : Int) / 2 := by rw [show (2 : Int) = ((2 : Nat) : Int) from rfl, ← Int.ofNat_tdiv]; omega
  have hq3 : IntKind.i64.wrap ((wn : Int) / 2) = (wn : Int) / 2 := by rw [IntKind.wrap_i64]; omega
  have hq4 : IntKind.i64.wrap ((hn : Int) / 2) = (hn : Int) / 2 := by rw [IntKind.wrap_i64]; omega
  obtain ⟨x0, hx0⟩ : ∃ x0, x0 = wrap64 (a2 - (wn : Int) / 2) := ⟨_, rfl⟩; obtain ⟨y0, hy0⟩ : ∃ y0, y0 = wrap64 (a3 - (hn : Int) / 2) := ⟨_, rfl⟩; rw [← hx0, ← hy0] at hacc; have hx1 : IntKind.i64.wrap (a2 - (wn : Int) / 2) = x0 := by rw [i64_w, hx0]
  have hy1 : IntKind.i64.wrap (a3 - (hn : Int) / 2) = y0 := by rw [i64_w, hy0]
  have hkw : kn < wn * hn := by exact_mod_cast c6
  have hwh : wn * hn ≤ 225 := Nat.le_trans (Nat.mul_le_mul (show wn ≤ 15 by omega) (show hn ≤ 15 by omega)) (by omega); have hw15 : wn ≤ 15 := by omega
  have hh15 : hn ≤ 15 := by omega
  obtain ⟨hal, hau⟩ := atAll_len _ _ _ _ _ _ _ _ _ _ _ hacc; rw [List.length_nil, Nat.zero_add] at hal
  have hau2 : ∀ s ∈ acc, 0 ≤ s ∧ s < 4294967296 := fun s hs => by
   rcases hau s hs with h1 | h1
   ·simp at h1
   ·exact hu s h1
  rw [isrt_eq acc hau2] at hr; obtain ⟨hz73, hs73⟩ := zero_of_info info73; obtain ⟨cs, hcs⟩ : ∃ cs : Array Value, cs = #[.int .i64 a0_0, .int .i64 a0_1, .slice A0_2 l0_2.length c0_2, .int .i64 a0_3, .int .i64 (wn : Int), .int .i64 (hn : Int)] := ⟨_, rfl⟩
  have hst : AS w.heap.size w cs [] ((w.alloc (.cells #[.int .i64 a0_0, .int .i64 a0_1, .slice A0_2 l0_2.length c0_2, .int .i64 a0_3, .int .i64 (wn : Int), .int .i64 (hn : Int)] 131)).alloc (.cells (arrU []) 137)) := by
   refine ⟨?_, ?_, rfl, Ah (Ah (Below.refl _ _) _) _⟩
   ·rw [hcs]; exact Aj (heap_alloc_new _ _) _
   ·have := heap_alloc_new (w.alloc (.cells #[.int .i64 a0_0, .int .i64 a0_1, .slice A0_2 l0_2.length c0_2, .int .i64 a0_3, .int .i64 (wn : Int), .int .i64 (hn : Int)] 131)) (.cells (arrU []) 137)
    simpa using this
  have m5 : ((w.alloc (.cells #[.int .i64 a0_0, .int .i64 a0_1, .slice A0_2 l0_2.length c0_2, .int .i64 a0_3, .int .i64 (wn : Int), .int .i64 (hn : Int)] 131)).alloc (.cells (arrU []) 137)).cell? ⟨w.heap.size, 5, none⟩ = some (.int .i64 (hn : Int)) := (Ad hst.1 5).trans (by rw [hcs]; rfl); have HST := Ac.mk hst; have HACC := Ac.mk hacc; have HAL := Ac.mk hal; have HAU := Ac.mk hau2; have HR := Ac.mk hr; have HU := Ac.mk hu; have HX0 := Ac.mk hx0; have HY0 := Ac.mk hy0; have HCS := Ac.mk hcs; have HCR := Ac.mk hr0_2; clear hst hacc hal hau hau2 hr hu hx0 hy0 c6 c1 c2 c3 c4 c5 hcs hr0_2; generalize arrU [] = z0 at hz73 hs73 HST m5; go_enter Try.func100, Try.ntmps100
  go_wp2
  clear m5; generalize (w.alloc (.cells #[.int .i64 a0_0, .int .i64 a0_1, .slice A0_2 l0_2.length c0_2, .int .i64 a0_3, .int .i64 (wn : Int), .int .i64 (hn : Int)] 131)).alloc (.cells z0 137) = wz at HST ⊢
  go_loopw [10, 19] (fun v10 v19 wr => ∃ (j : Nat) (acc1 : List Int), j ≤ hn ∧ v19 = .int .i64 (j : Int) ∧ v10 = .int .i64 (acc1.length : Int) ∧ Ac (atAll a0_3 a0_0 a0_1 l0_2 x0 y0 wn (hn - j) j acc1 = some acc) ∧ Ac (acc1.length = j * wn) ∧ Ac (AS w.heap.size w cs acc1 wr)) (fun _ v19 _ => hn - (intOf v19).toNat)
  case atStart => exact ⟨0, [], Nat.zero_le _, rfl, rfl, HACC, ⟨by simp⟩, HST⟩
  case round =>
   obtain ⟨j, acc1, hj, rfl, rfl, HA, HL, HS⟩ := hrel; clear HST HACC
   by_cases hlt : j < hn
   ·have ha := HA.out
    rw [show hn - j = (hn - (j + 1)) + 1 by omega, atAll] at ha; replace ha := Option.bind_eq_some_iff.mp ha; obtain ⟨⟨yb, ye⟩, hb, ha⟩ := ha; replace ha := Option.bind_eq_some_iff.mp ha; obtain ⟨acc2, hrow, ha⟩ := ha; have HROW := Ac.mk hrow; have HNEXT := Ac.mk ha; obtain ⟨z, hz⟩ : ∃ z, IntKind.i64.wrap (y0 + (j : Int)) = z := ⟨_, rfl⟩; have hb2 : B7.f 8 a0_3 a0_1 z = some (yb, ye) := by rw [← hz, i64_w]; exact hb
    have HB2 := Ac.mk hb2; have HL2 := Ac.mk (atRow_len _ _ _ _ _ _ _ _ _ hrow).1; clear HA hrow ha hb hb2; have hs := HS.out; have x1 : wr.cell? ⟨w.heap.size, 1, none⟩ = some (.int .i64 a0_1) := (Ad hs.1 1).trans (by rw [HCS.out]; rfl); have x3 : wr.cell? ⟨w.heap.size, 3, none⟩ = some (.int .i64 a0_3) := (Ad hs.1 3).trans (by rw [HCS.out]; rfl); have x5 : wr.cell? ⟨w.heap.size, 5, none⟩ = some (.int .i64 (hn : Int)) := (Ad hs.1 5).trans (by rw [HCS.out]; rfl); clear hs
    go_wp2_with fail
    refine (B7.calls 8 a0_3 a0_1 z yb ye _ HB2.out).mono ?_; rintro e w1 ⟨rfl, hb1⟩; have n0_ := Ac.mk (AS_below HS.out hb1); clear HS hb1 x1 x3 x5 HB2; have HS := n0_; clear n0_; have x4 : w1.cell? ⟨w.heap.size, 4, none⟩ = some (.int .i64 (wn : Int)) := (Ad HS.out.1 4).trans (by rw [HCS.out]; rfl)
    go_wp2
    clear x4; obtain ⟨wo, hwo⟩ : ∃ wo : World, wo = w1 := ⟨_, rfl⟩; subst hwo
    go_loopw [10, 40] (fun v10 v40 wr => ∃ (i : Nat) (acc3 : List Int), i ≤ wn ∧ v40 = .int .i64 (i : Int) ∧ v10 = .int .i64 (acc3.length : Int) ∧ Ac (atRow a0_3 a0_0 l0_2 yb x0 (wn - i) i acc3 = some acc2) ∧ Ac (acc3.length = j * wn + i) ∧ Ac (AS w.heap.size w cs acc3 wr)) (fun _ v40 _ => wn - (intOf v40).toNat)
    case atStart => exact ⟨0, acc1, Nat.zero_le _, rfl, rfl, HROW, ⟨by have := HL.out; omega⟩, HS⟩
    case round =>
     obtain ⟨i, acc3, hi, rfl, rfl, HA, HL3, HS3⟩ := hrel; clear HS HROW
     by_cases hli : i < wn
     ·have ha := HA.out
      rw [show wn - i = (wn - (i + 1)) + 1 by omega, atRow] at ha; replace ha := Option.bind_eq_some_iff.mp ha; obtain ⟨⟨ab, ae⟩, hb, ha⟩ := ha
      split at ha
      ·rename_i hqq
       obtain ⟨q0, q1⟩ := hqq; dsimp only at q0 q1 ha; have HNX := Ac.mk ha; obtain ⟨z2, hz2⟩ : ∃ z2, IntKind.i64.wrap (x0 + (i : Int)) = z2 := ⟨_, rfl⟩; have hb2 : B7.f 8 a0_3 a0_0 z2 = some (ab, ae) := by rw [← hz2, i64_w]; exact hb
       have HB2 := Ac.mk hb2; obtain ⟨q, hq⟩ : ∃ q : Nat, (q : Int) = wrap64 (wrap64 (yb * a0_0) + ab) := ⟨(wrap64 (wrap64 (yb * a0_0) + ab)).toNat, Int.toNat_of_nonneg q0⟩; obtain ⟨pm, hpm⟩ : ∃ pm, IntKind.i64.wrap (yb * a0_0) = pm := ⟨_, rfl⟩; have hq' : IntKind.i64.wrap (pm + ab) = (q : Int) := by rw [← hpm, i64_w, i64_w]; exact hq.symm
       have hql : q < l0_2.length := by omega
       have HQ := Ac.mk hq; have hmul : j * wn + wn ≤ hn * wn := by rw [← Nat.succ_mul]; exact Nat.mul_le_mul_right wn hlt
       have hl225 : acc3.length < 225 := by
        have h1 : acc3.length = j * wn + i := HL3.out; have h2 : hn * wn ≤ 225 := by rw [Nat.mul_comm]; exact hwh
        exact Nat.lt_of_lt_of_le (by rw [h1]; exact Nat.add_lt_add_left hli _) (Nat.le_trans hmul h2)
       clear HA ha hb hb2 q0 q1 hq hmul; have hs := HS3.out; have x0c : wr.cell? ⟨w.heap.size, 0, none⟩ = some (.int .i64 a0_0) := (Ad hs.1 0).trans (by rw [HCS.out]; rfl); have x3 : wr.cell? ⟨w.heap.size, 3, none⟩ = some (.int .i64 a0_3) := (Ad hs.1 3).trans (by rw [HCS.out]; rfl); have x4 : wr.cell? ⟨w.heap.size, 4, none⟩ = some (.int .i64 (wn : Int)) := (Ad hs.1 4).trans (by rw [HCS.out]; rfl); clear hs
       go_wp2_with fail
       refine (B7.calls 8 a0_3 a0_0 z2 ab ae _ HB2.out).mono ?_; rintro e w5 ⟨rfl, hb1⟩; have n0_ := Ac.mk (AS_below HS3.out hb1); clear HS3 hb1 x0c x3 x4 HB2; have HS3 := n0_; clear n0_; have hs := HS3.out; have x0c : w5.cell? ⟨w.heap.size, 0, none⟩ = some (.int .i64 a0_0) := (Ad hs.1 0).trans (by rw [HCS.out]; rfl); have x2 : w5.cell? ⟨w.heap.size, 2, none⟩ = some (.slice A0_2 l0_2.length c0_2) := (Ad hs.1 2).trans (by rw [HCS.out]; rfl); obtain ⟨ad, hA, hcell⟩ := (Kd.Cx (enc := Value.int .u32) (d := (0 : Int)) (h1 := fun _ => rfl) (Kd.B2 HCR.out hs.2.2.2)).at_ (q : Int) (by omega) (by omega); subst hA; obtain ⟨sv, hsv⟩ : ∃ sv, sv = l0_2.getD q 0 := ⟨_, rfl⟩; have hcell' : w5.cell? (ad.add q) = some (.int .u32 sv) := by rw [hsv]; exact hcell
       clear hcell; have c9 : w5.cell? ⟨w.heap.size + 1, acc3.length, none⟩ = some (.int .u32 (acc3.getD acc3.length 0)) := (Ad hs.2.1 _).trans (arrU_get _ _ hl225); have f9 := Af hs.2.1 acc3.length; generalize acc3.getD acc3.length 0 = old at c9; have HSV := Ac.mk hsv; have ql : (q : Int) < (l0_2.length : Int) := by omega
       have q00 : (0 : Int) ≤ (q : Int) := by omega
       have al : (acc3.length : Int) < 225 := by omega
       have a00 : (0 : Int) ≤ (acc3.length : Int) := by omega
       clear hs hsv
       go_wp2
       trace_state
       go_roundw
       case rel =>
        have e1 : acc3 ++ [rd l0_2 (wrap64 (wrap64 (yb * a0_0) + ab))] = acc3 ++ [sv] := by
         rw [HSV.out, ← HQ.out]; unfold rd; rw [Int.toNat_natCast]
        refine ⟨i + 1, acc3 ++ [sv], by omega, by go_num, ?_, ?_, ?_, ?_⟩
        ·rw [List.length_append, List.length_singleton]; go_num
        ·rw [← e1]; exact HNX
        ·exact ⟨by rw [List.length_append, List.length_singleton]; have := HL3.out; omega⟩
        ·exact ⟨AS_put HS3.out sv hl225⟩
       case measure => simp [intOf]; omega
      ·cases ha
     ·obtain rfl : i = wn := by omega
      have ha := HA.out; rw [Nat.sub_self, atRow] at ha; obtain rfl := Option.some.inj ha; clear HA ha
      go_wp2
      go_roundw
      case rel =>
       refine ⟨j + 1, acc3, by omega, by go_num, rfl, HNEXT, ⟨?_⟩, HS3⟩; rw [HL3.out, Nat.succ_mul]
      case measure => simp [intOf]; omega
   ·obtain rfl : j = hn := by omega
    have ha := HA.out; rw [Nat.sub_self, atAll] at ha; obtain rfl := Option.some.inj ha; clear HA ha; have al0 : (0 : Int) ≤ (acc1.length : Int) := by omega
    have al1 : (acc1.length : Int) ≤ 225 := by have h1 : acc1.length = j * wn := HL.out; rw [Nat.mul_comm wn j] at hwh; omega
    have al2 : acc1.length ≤ 225 := by omega
    have hsrt := sort_calls (w.heap.size + 1) 0 225 (acc1.map toS).toArray (by simp; omega) wr (AS_holds HS.out al2 HAU.out) (Bh HS.out.2.1); rw [show (acc1.map toS).toArray.size = acc1.length by simp] at hsrt; have hkl : kn < acc1.length := by rw [HL.out, Nat.mul_comm]; exact hkw
    have hk3 : (kn : Int) < 225 := by omega
    have hk4 : (0 : Int) ≤ (kn : Int) := by omega
    have hk5 : kn < 225 := by omega
    have HSRT := Ac.mk hsrt; clear hsrt
    go_wp2_with fail
    refine HSRT.out.mono ?_; rintro e w9 ⟨rfl, n9, os9, rfl⟩; have haf := after_sort HS.out al2 HAU.out n9 os9; have hcell := haf.2 kn hkl; rw [HR.out] at hcell; have HBF := Ac.mk haf.1; generalize sortWorld encS wr (w.heap.size + 1) 0 n9 (srt (acc1.map toS)).toArray os9 = w9 at hcell HBF ⊢; clear haf
    go_wp2
    go_ret
    exact ⟨rfl, HBF.out⟩
 ·cases h
end Go.Proofs.Ytbfimplajocmmaa
end
section
open Go Go.RowKit Go.Proofs.YtbfimplajocmmaaW.PrintWords Go.Proofs.YtbfimplajocmmaaW.PrintLast Go.Proofs.YtbfimplajocmmaaW.PrintMore
set_option linter.unusedVariables false
set_option linter.unusedSimpArgs false
namespace Go.Proofs.Ytbfimplajocmmaa
open PFA PRA

def rowL (bk : Int) (W : Nat) (l : List Int) (y : Nat) (x0 : Int) : Nat → Nat → List Int
  | 0, _ => []
  | m + 1, i => l.getD (y * W + bdr bk W (wrap64 (x0 + (i : Int)))) 0 :: rowL bk W l y x0 m (i + 1)
def allL (bk : Int) (W H : Nat) (l : List Int) (x0 y0 : Int) (w : Nat) : Nat → Nat → List Int
  | 0, _ => []
  | m + 1, j => rowL bk W l (bdr bk H (wrap64 (y0 + (j : Int)))) x0 w 0 ++ allL bk W H l x0 y0 w m (j + 1)
theorem idx_lt (W H y x : Nat) (hy : y < H) (hx : x < W) : y * W + x < W * H := by
  have h : (y + 1) * W ≤ H * W := Nat.mul_le_mul_right W hy; rw [Nat.succ_mul, Nat.mul_comm H W] at h
  omega
theorem idx_wrap (W H y x : Nat) (hW : W ≤ 1024) (hH : H ≤ 1024) (hy : y < H) (hx : x < W) : wrap64 (wrap64 ((y : Int) * (W : Int)) + (x : Int)) = ((y * W + x : Nat) : Int) := by
  have h := idx_lt W H y x hy hx; have hb : W * H ≤ 1024 * 1024 := Nat.mul_le_mul hW hH; have e : (y : Int) * (W : Int) = ((y * W : Nat) : Int) := by push_cast; rfl
  rw [e]; generalize y * W = a at *; generalize W * H = b at *; rw [wd (a : Int) (by omega) (by omega), wd _ (by omega) (by omega)]
  omega
theorem atRow_eq (bk : Int) (W H : Nat) (l : List Int) (y : Nat) (x0 : Int) (hk : 1 ≤ bk ∧ bk ≤ 3) (hW1 : 1 ≤ W) (hW : W ≤ 1024) (hH : H ≤ 1024) (hy : y < H) (hl : l.length = W * H) : ∀ m i acc,
    atRow bk W l y x0 m i acc = some (acc ++ rowL bk W l y x0 m i)
  | 0, i, acc => by rw [atRow, rowL, List.append_nil]
  | m + 1, i, acc => by
    have hb := bdr_lt bk W (wrap64 (x0 + (i : Int))) hW1; have hi := idx_lt W H y _ hy hb; rw [atRow, border_eq bk W _ hk hW1 hW 8 (by omega), Option.bind_some]; dsimp only; rw [idx_wrap W H y _ hW hH hy hb, if_pos (by omega), atRow_eq bk W H l y x0 hk hW1 hW hH hy hl m (i + 1), rowL, List.append_assoc]; unfold rd; rw [Int.toNat_natCast]; rfl
theorem atAll_eq (bk : Int) (W H : Nat) (l : List Int) (x0 y0 : Int) (w : Nat) (hk : 1 ≤ bk ∧ bk ≤ 3) (hW1 : 1 ≤ W) (hW : W ≤ 1024) (hH1 : 1 ≤ H) (hH : H ≤ 1024) (hl : l.length = W * H) : ∀ m j acc,
    atAll bk W H l x0 y0 w m j acc = some (acc ++ allL bk W H l x0 y0 w m j)
  | 0, j, acc => by rw [atAll, allL, List.append_nil]
  | m + 1, j, acc => by
    have hb := bdr_lt bk H (wrap64 (y0 + (j : Int))) hH1; rw [atAll, border_eq bk H _ hk hH1 hH 8 (by omega), Option.bind_some]; dsimp only; rw [atRow_eq bk W H l _ x0 hk hW1 hW hH hb hl, Option.bind_some, atAll_eq bk W H l x0 y0 w hk hW1 hW hH1 hH hl m (j + 1), allL, List.append_assoc]
def win (bk : Int) (W H : Nat) (l : List Int) (w h : Nat) (c r : Int) : List Int := allL bk W H l (wrap64 (c - ((w / 2 : Nat) : Int))) (wrap64 (r - ((h / 2 : Nat) : Int))) w h 0
def atV (bk : Int) (W H : Nat) (l : List Int) (w h k : Nat) (c r : Int) : Int := (isrt (win bk W H l w h c r)).getD k 0
theorem at_eq (bk : Int) (W H : Nat) (l : List Int) (w h k : Nat) (c r : Int) (hk : 1 ≤ bk ∧ bk ≤ 3) (hW1 : 1 ≤ W) (hW : W ≤ 1024) (hH1 : 1 ≤ H) (hH : H ≤ 1024) (hl : l.length = W * H)
    (hw : w ≤ 15) (hh : h ≤ 15) (hkw : k < w * h) (hu : ∀ s ∈ l, 0 ≤ s ∧ s < 4294967296) : Df.f W H l bk w h k c r = some (atV bk W H l w h k c r) := by
  unfold Df.f; rw [if_pos ⟨⟨by omega, by omega, by omega, by omega, by omega, by exact_mod_cast hkw⟩, hu⟩]; rw [Int.toNat_natCast, Int.toNat_natCast, Int.toNat_natCast, atAll_eq bk W H l _ _ w hk hW1 hW hH1 hH hl, Option.bind_some, List.nil_append]; unfold atV win; rw [show ((w : Int) / 2) = ((w / 2 : Nat) : Int) by omega, show ((h : Int) / 2) = ((h / 2 : Nat) : Int) by omega]
end Go.Proofs.Ytbfimplajocmmaa
end
section
open Go Go.RowKit
set_option linter.unusedVariables false
set_option linter.unusedSimpArgs false
namespace Go.Proofs.Ytbfimplajocmmaa

theorem rowL_length (bk : Int) (W : Nat) (l : List Int) (y : Nat) (x0 : Int) : ∀ m i, (rowL bk W l y x0 m i).length = m
  | 0, i => rfl
  | m + 1, i => by rw [rowL, List.length_cons, rowL_length bk W l y x0 m]
theorem allL_length (bk : Int) (W H : Nat) (l : List Int) (x0 y0 : Int) (w : Nat) : ∀ m j, (allL bk W H l x0 y0 w m j).length = m * w
  | 0, j => by rw [allL, Nat.zero_mul]; rfl
  | m + 1, j => by rw [allL, List.length_append, rowL_length, allL_length bk W H l x0 y0 w m, Nat.succ_mul]; omega
theorem getD_u32 {l : List Int} (hu : U32 l) (i : Nat) : 0 ≤ l.getD i 0 ∧ l.getD i 0 < 4294967296 := by
  rcases Nat.lt_or_ge i l.length with h | h
  · rw [List.getD_eq_getElem?_getD, List.getElem?_eq_getElem h]
    exact hu _ (List.getElem_mem _)
  · rw [List.getD_eq_getElem?_getD, List.getElem?_eq_none h]
    simp
theorem rowL_u32 (bk : Int) (W : Nat) (l : List Int) (y : Nat) (x0 : Int) (hu : U32 l) : ∀ m i, U32 (rowL bk W l y x0 m i)
  | 0, i => fun s hs => by simp [rowL] at hs
  | m + 1, i => fun s hs => by
    rw [rowL] at hs
    rcases List.mem_cons.mp hs with rfl | hs
    · exact getD_u32 hu _
    · exact rowL_u32 bk W l y x0 hu m (i + 1) s hs
theorem allL_u32 (bk : Int) (W H : Nat) (l : List Int) (x0 y0 : Int) (w : Nat) (hu : U32 l) : ∀ m j, U32 (allL bk W H l x0 y0 w m j)
  | 0, j => fun s hs => by simp [allL] at hs
  | m + 1, j => fun s hs => by
    rw [allL] at hs
    rcases List.mem_append.mp hs with hs | hs
    · exact rowL_u32 bk W l _ x0 hu w 0 s hs
    · exact allL_u32 bk W H l x0 y0 w hu m (j + 1) s hs
end Go.Proofs.Ytbfimplajocmmaa
end
