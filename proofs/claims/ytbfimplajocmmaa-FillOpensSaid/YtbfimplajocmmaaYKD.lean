import Derived.Test.YtbfimplajocmmaaYKP
import Derived.Laws.CopyOwn
section
open Go Go.RowKit Go.Proofs.YtbfimplajocmmaaW.PrintWords Go.Proofs.YtbfimplajocmmaaW.PrintLast Go.Proofs.YtbfimplajocmmaaW.PrintMore
attribute [local go_sem ↓] Go.wp_at_zero Go.wp_at_succ
set_option linter.unusedVariables false
set_option linter.unusedSimpArgs false
namespace Go.Proofs.Ytbfimplajocmmaa.BK
theorem info22 : (Try.prog.info? 22).map (fun i => (i.zero, i.size, i.bytes)) = some (some (.slice none 0 0), 1, 24) := by kernel_rfl
theorem info76 : (Try.prog.info? 28).map (fun i => (i.zero, i.size, i.bytes)) = some (some (.int .u32 0), 1, 4) := by kernel_rfl
def tv (i : Nat) : Int := (2141192202 + (i : Int)) % 4294967296
def lentOf (l : List Int) (j : Nat) : List Int := l ++ (List.range j).map (fun t => tv (l.length + t)) ++ List.replicate (5 - j) 0
theorem lentOf_len (l : List Int) (j : Nat) (h : j ≤ 5) : (lentOf l j).length = l.length + 5 := by simp [lentOf]; omega
theorem lentOf_put (l : List Int) (j : Nat) (h : j < 5) : (nums .u32 (lentOf l j)).toArray.setIfInBounds (l.length + j) (.int .u32 (tv (l.length + j))) = (nums .u32 (lentOf l (j + 1))).toArray := by
 unfold nums; rw [List.setIfInBounds_toArray]
 congr 1
 rw [show (Value.int IntKind.u32 (tv (l.length + j))) = (fun x => Value.int IntKind.u32 x) (tv (l.length + j)) from rfl, ← List.map_set]
 congr 1
 unfold lentOf; rw [List.set_append_right _ _ (by simp), List.length_append, List.length_map, List.length_range, Nat.sub_self, show 5 - j = (5 - (j + 1)) + 1 by omega, List.replicate_succ, List.set_cons_zero, List.range_succ]
 simp
theorem lentOf_take (l : List Int) (j : Nat) : (lentOf l j).take l.length = l := by simp [lentOf]
structure RM (w : World) (rb : Nat) (sv swv : Value) (L : List (List Int)) : Prop where
 b : w.heap[rb]? = some (.cells #[sv, swv, .slice none 0 0, .slice none 0 0, .slice none 0 0, .slice none 0 0, .slice none 0 0, .slice none 0 0] 41 (0, 0))
 r : (Kd.slice 28 (Kd.int .u32)).R 22 w rb (fun k => k ≠ rb ∧ some k ≠ swv.ownBlock) sv L
 q : (Kd.slice 28 (Kd.int .u32)).R 22 w rb (fun k => k ≠ rb ∧ some k ≠ sv.ownBlock) swv L
theorem RM.move {w W : World} {rb : Nat} {sv swv : Value} {L : List (List Int)} (h : RM w rb sv swv L) (hm : ∀ k, rb ≤ k → k < w.heap.size → W.heap[k]? = w.heap[k]?) : RM W rb sv swv L :=
 ⟨(hm rb (Nat.le_refl _) (Bh h.b)).trans h.b, Kd.Bu (Kd.Dv (Kd.Cp h.r) (fun k hk hl => hm k hk.2.1 hl)) (fun k hk => hk.1), Kd.Bu (Kd.Dv (Kd.Cp h.q) (fun k hk hl => hm k hk.2.1 hl)) (fun k hk => hk.1)⟩
theorem R_samples {w : World} {base g : Nat} {ok : Nat → Prop} (l : List Int) (h : w.heap[g]? = some (.cells (nums .u32 l).toArray 28 (0, 0))) (hb : base ≤ g) (hm : l.length ≤ 9223372036854775807) (hok : ok g) : (Kd.int .u32).R 28 w base ok (.slice (some ⟨g, 0, none⟩) l.length l.length) l := by
 refine Kd.Dt (enc := Value.int .u32) ⟨by simp [encs], .inr ⟨g, l.length, (nums .u32 l).toArray, rfl, hb, h, Nat.le_refl _, hm, by simp [nums], ?_⟩⟩ (fun k hk => ?_)
 ·simp only [Nat.mul_one, List.toList_toArray]
  exact List.take_of_length_le (by simp [nums])
 ·have : g = k := by simpa [Value.ownBlock] using hk
  exact this ▸ hok
set_option maxRecDepth 100000 in
set_option maxHeartbeats 4000000 in
theorem Samples_calls (w0 w : World) (rb : Nat) (sv swv : Value) (L : List (List Int)) (hR : RM w rb sv swv L) (hb0 : Below rb w0 w) (A : Option Addr) (c : Nat) (l : List Int) (hC : (Kd.int .u32).C w A l.length l) (hl : l.length ≤ 35184372087808) (hL : L.length ≤ 1000) :
  Calls Try.prog 43 #[.pointer (some ⟨rb, 0, none⟩), .slice A l.length c] w fun e w' => ∃ A' c', e = .returned (.slice A' l.length c') ∧ (Kd.int .u32).R 28 w' rb (fun k => k ≠ rb) (.slice A' l.length c') l ∧ (∃ sv' swv', RM w' rb sv' swv' (L ++ [lentOf l 5])) ∧ Below rb w0 w' ∧ ∀ k, k < w.heap.size → k ≠ rb → some k ≠ sv.ownBlock → some k ≠ swv.ownBlock → w'.heap[k]? = w.heap[k]? := by
 obtain ⟨i0, hi, hz0, hz1, hz2⟩ := info_parts info76; obtain ⟨n, hn⟩ : ∃ n, n = l.length := ⟨_, rfl⟩; rw [← hn] at hC hl ⊢
 have hmk : ∀ W0 : World, (Instr.makeSlice 22 (.int .i64 ((n : Int) + 5)) (.int .i64 ((n : Int) + 5))).run Try.prog W0 = .ok (.slice (some ⟨W0.heap.size, 0, none⟩) (n + 5) (n + 5)) (W0.alloc (.cells (nums .u32 (List.replicate (n + 5) 0)).toArray 28)) := by
  intro W0; have h := run_make (P := Try.prog) W0 22 28 i0 _ Try.underlying22 hi hz0 .i64 .i64 ((n : Int) + 5) ((n : Int) + 5) (by omega) (by omega) (by rw [hz2]; omega) (by omega); rw [hz1, Nat.mul_one] at h
  have e : madeCells (Value.int IntKind.u32 0).cells (((n : Int) + 5).toNat) = (nums .u32 (List.replicate (n + 5) 0)).toArray := by
   rw [show ((n : Int) + 5).toNat = n + 5 by omega]
   apply Array.toList_inj.mp
   apply List.ext_getElem
   ·simp [madeCells, nums, Value.cells]
   ·intro i h1 h2
    simp [madeCells, nums, Value.cells, Nat.mod_one]
  rw [e, show ((n : Int) + 5).toNat = n + 5 by omega] at h; exact h
 have HC := Ac.mk hC; have HR := Ac.mk hR; have HB0 := Ac.mk hb0; have HN := Ac.mk hn; clear hC hR hb0 hz0 hz1 hz2 hn; go_enter Try.func43, Try.ntmps43
 go_upto_region 2 with fail
 obtain ⟨w1, hw1⟩ : ∃ y, y = w.alloc (.cells (nums .u32 (List.replicate (n + 5) 0)).toArray 28) := ⟨_, rfl⟩; rw [← hw1]; have hg1 : w1.heap[w.heap.size]? = some (.cells (nums .u32 (List.replicate (n + 5) 0)).toArray 28 (0, 0)) := by rw [hw1]; exact Dm _ _
 have hb1 : Below w.heap.size w w1 := by rw [hw1]; exact Ah (Below.refl _ _) _
 have hpos : 0 < (nums .u32 l).length → (some ⟨w.heap.size, 0, none⟩ : Option Addr) = some ⟨w.heap.size, 0, none⟩ ∧ ∃ ad, A = some ad ∧ ∀ j v, (nums .u32 l)[j]? = some v → w1.cell? (ad.add j) = some v := fun h => by
  refine ⟨rfl, ?_⟩; obtain ⟨h1, h2, h3⟩ := Kd.Cx (d := 0) HC.out; obtain ⟨ad, e, h4⟩ := h3 (by have := HN.out; simp [nums] at h; omega); refine ⟨ad, e, fun j v hj => ?_⟩
  have hjl : j < l.length := by
   have := (List.getElem?_eq_some_iff.1 hj).1
   simpa [nums] using this
  have h5 := h4 j (by omega)
  have h6 : (nums .u32 l)[j]? = some (.int .u32 (l.getD j 0)) := by
   simp [nums, List.getD_eq_getElem?_getD, List.getElem?_eq_getElem hjl]
  rw [h6] at hj; injection hj with hj
  rw [← hj]; exact C8 hb1 h5
 have hnl : (nums .u32 l).length = Nat.min n (n + 5) := by simp [nums, HN.out]
 have hft : 0 + (nums .u32 l).length ≤ (nums .u32 (List.replicate (n + 5) 0)).length := by simp [nums, HN.out]
 have hone : ∀ v ∈ nums .u32 l, v.oneCell' = true := fun v hv => by
  obtain ⟨x, _, rfl⟩ := List.mem_map.mp hv; rfl
 have sz76 : (Try.prog.info? 28).map (·.size) = some 1 := by kernel_rfl
 have HG1 := Ac.mk hg1; have HB1 := Ac.mk hb1; have HPOS := Ac.mk hpos; have HNL := Ac.mk hnl; have HFT := Ac.mk hft; have HONE := Ac.mk hone; clear hmk hg1 hb1 hpos hnl hft hone hw1
 go_wp2_with (with_reducible refine wpList_copy_splice rfl (.tmp 11) (.tmp 12) 22 22 rfl 28 Try.underlying22 sz76 (some ⟨w.heap.size, 0, none⟩) A (n + 5) (n + 5) n c rfl rfl w.heap.size 0 (nums .u32 (List.replicate (n + 5) 0)) 28 HG1.out (nums .u32 l) HNL.out HPOS.out HFT.out HONE.out w.heap.size w HB1.out (Nat.le_refl _) ?_; intro w2 hh hb2)
 have hg2 : w2.heap[w.heap.size]? = some (.cells (nums .u32 (lentOf l 0)).toArray 28 (0, 0)) := by
  have h3 : w2.heap[w.heap.size]? = _ := hh; rw [h3]
  congr 3
  unfold splice lentOf nums
  simp [HN.out]
 have HB2 := Ac.mk hb2; have HG2 := Ac.mk hg2; have HST : Ac (w2.heap[w.heap.size]? = some (.cells (nums .u32 (lentOf l 0)).toArray 28 (0, 0)) ∧ Wr w.heap.size w2 w2) := ⟨HG2.out, Wr.refl _ _⟩; clear hh hb2 hg2
 go_loopw [6] (fun i wr => ∃ j : Nat, j ≤ 5 ∧ i = .int .i64 ((n : Int) + (j : Int)) ∧ Ac (wr.heap[w.heap.size]? = some (.cells (nums .u32 (lentOf l j)).toArray 28 (0, 0)) ∧ Wr w.heap.size w2 wr)) (fun i _ => n + 5 - (intOf i).toNat)
 case atStart => exact ⟨0, Nat.zero_le _, by simp, HST⟩
 case round =>
  obtain ⟨j, hj, rfl, hs⟩ := hrel; clear HST
  by_cases hlt : j < 5
  ·obtain ⟨hh, hw⟩ := hs.out
   have hln := lentOf_len l j hj
   obtain ⟨x, c1⟩ : ∃ x, wr.cell? ⟨w.heap.size, n + j, none⟩ = some x := by
    have h0 := HN.out; have h1 : n + j < (nums .u32 (lentOf l j)).length := by simp only [nums, List.length_map]; omega
    exact ⟨_, (Ad hh (n + j)).trans (by rw [List.getElem?_toArray]; exact List.getElem?_eq_getElem h1)⟩
   have f1 : wr.frozen? ⟨w.heap.size, n + j, none⟩ = false := Af hh (n + j)
   have hnew : Ac ((wr.setCell ⟨w.heap.size, n + j, none⟩ (.int .u32 (tv (n + j)))).heap[w.heap.size]? = some (.cells (nums .u32 (lentOf l (j + 1))).toArray 28 (0, 0)) ∧ Wr w.heap.size w2 (wr.setCell ⟨w.heap.size, n + j, none⟩ (.int .u32 (tv (n + j))))) := by
    refine ⟨Ax hh (n + j) _ ?_, hw.set (n + j) _⟩; rw [HN.out]; exact lentOf_put l j hlt
   have htv : (2141192202 + ((n : Int) + (j : Int))) % 4294967296 = tv (n + j) := by unfold tv; rw [Int.natCast_add]
   have hij : ((n : Int) + (j : Int)).toNat = n + j := by omega
   have HTV := Ac.mk htv; clear hh hw hs hln htv
   go_wp2
   rw [HTV.out]
   go_roundw
   case rel => exact ⟨j + 1, by omega, by congr 1, hnew⟩
   case measure => simp [intOf]; omega
  ·obtain rfl : j = 5 := by omega
   rw [show ((n : Int) + ((5 : Nat) : Int)) = (n : Int) + 5 from rfl]; obtain ⟨hh, hw⟩ := hs.out; have hwl : ∀ k, k < w.heap.size → wr.heap[k]? = w.heap[k]? := fun k hk => (hw.blk k (by omega)).trans (HB2.out.block k hk)
   have hR2 : RM wr rb sv swv L := HR.out.move (fun k _ hk => hwl k hk); have hz : w.heap.size ≤ wr.heap.size := by have h2 := HB2.out.size; have h3 := hw.sz; omega
   have hbw : Below rb w0 wr := by
    have h1 := Bh HR.out.b; exact (HB0.out.trans ((HB2.out).mono (show rb ≤ w.heap.size by omega))).trans (hw.below.mono (show rb ≤ w.heap.size by omega))
   have hrl : rb < w.heap.size := Bh HR.out.b; have hll := lentOf_len l 5 (by omega); have hln := HN.out
   have hRall : (Kd.int .u32).R 28 wr rb (fun k => w.heap.size ≤ k) (.slice (some ⟨w.heap.size, 0, none⟩) (n + 5) (n + 5)) (lentOf l 5) := by
    have h := R_samples (base := rb) (ok := fun k => w.heap.size ≤ k) (lentOf l 5) hh (by omega) (by omega) (Nat.le_refl _); rw [hll, ← hln] at h; exact h
   have hsvb : ∀ j, sv.ownBlock = some j → j < w.heap.size := fun j hj => ((Kd.Cp HR.out.r).1 j hj).2.2.1
   have hswb : ∀ j, swv.ownBlock = some j → j < w.heap.size := fun j hj => ((Kd.Cp HR.out.q).1 j hj).2.2.1
   have c0 : wr.cell? ⟨rb, 0, none⟩ = some sv := (Ad hR2.b 0).trans rfl; have HR2 := Ac.mk hR2; have HBW := Ac.mk hbw; have HALL := Ac.mk hRall; have HWL := Ac.mk hwl; clear hR2 hbw hRall hwl hs hh hw HR HB0 hlt hj HG1 HB1 HPOS HNL HFT HONE HB2 HG2 hln
   go_wp2_with (at_builtin; refine Kd.Ds (Kd.slice 28 (Kd.int .u32)) (w0 := w0) rb rfl (.tmp 32) (.tmp 34) 31 22 (.slice none 0 0) 24 rfl Try.underlying31 info22 rfl (by decide) (by omega) sv L (lentOf l 5) [.slice (some ⟨w.heap.size, 0, none⟩) (n + 5) (n + 5)] (fun j => j ≠ rb ∧ some j ≠ swv.ownBlock) (fun j => w.heap.size ≤ j) rfl rfl ?aP ?aO ?aF HR2.out.r HBW.out (by omega) (by omega) ?_)
   case aP => exact ⟨_, rfl, HALL.out⟩
   case aO => exact fun j hj => ⟨⟨by omega, fun e => by have := hswb j e.symm; omega⟩, fun e => by have := hsvb j e.symm; omega⟩
   case aF => exact fun j hj => ⟨by omega, fun e => by have := hswb j e.symm; omega⟩
   intro v1 w3 hR1 hB1 hg1 hat1; obtain ⟨Av, cv, ev⟩ := Kd.B0 hR1; subst ev; have e1 : (L ++ [lentOf l 5]).length = L.length + 1 := by simp
   rw [e1] at hR1 hat1; rw [e1]; have hrv : some rb ≠ sv.ownBlock := fun e => (HR2.out.r.1 rb e.symm).1 rfl
   have hrw : some rb ≠ swv.ownBlock := fun e => (HR2.out.q.1 rb e.symm).1 rfl
   have hb1 := B3 HR2.out.b hg1 hrv; have hq1 := Kd.Dw HR2.out.q hg1 (fun k hk => hk.2); have hvb1 : ∀ j, (Value.slice Av (L.length + 1) cv).ownBlock = some j → j < w3.heap.size := fun j hj => ((Kd.Cp hR1).1 j hj).2.2.1
   have hc0 : w3.cell? ⟨rb, 0, none⟩ = some sv := (Ad hb1 0).trans rfl; have hf0 := Af hb1 0; have hb3 := Ax hb1 0 (.slice Av (L.length + 1) cv) rfl; have hq3 := Kd.Bq hq1 (p := ⟨rb, 0, none⟩) (fun k hk e => hk.1 (show k = rb from e)) (.slice Av (L.length + 1) cv); have hr3 := Kd.Bq hR1 (p := ⟨rb, 0, none⟩) (fun k hk e => hk.1 (show k = rb from e)) (.slice Av (L.length + 1) cv); have hB3 := hB1.setCell (p := ⟨rb, 0, none⟩) (Nat.le_refl rb) (.slice Av (L.length + 1) cv); have hall1 := Kd.Bq (Kd.Dw HALL.out hg1 (fun k hk e => by have := hsvb k e.symm; omega)) (p := ⟨rb, 0, none⟩) (fun k hk e => by have e2 : k = rb := e; omega) (.slice Av (L.length + 1) cv)
   have hz3 : wr.heap.size ≤ (w3.setCell ⟨rb, 0, none⟩ (.slice Av (L.length + 1) cv)).heap.size := by
    show _ ≤ (w3.heap.modify _ _).size; rw [Array.size_modify]; exact hg1.size
   have hvb3 : ∀ j, (Value.slice Av (L.length + 1) cv).ownBlock = some j → j < (w3.setCell ⟨rb, 0, none⟩ (.slice Av (L.length + 1) cv)).heap.size := fun j hj => by
    show _ < (w3.heap.modify _ _).size; rw [Array.size_modify]; exact hvb1 j hj
   have hswv3 : ∀ j, swv.ownBlock = some j → j < wr.heap.size := fun j hj => by have := hswb j hj; omega
   have hne3 : ∀ j, swv.ownBlock = some j → (Value.slice Av (L.length + 1) cv).ownBlock ≠ some j := fun j hj e => (hR1.1 j e).2 hj.symm
   have hq3' : (Kd.slice 28 (Kd.int .u32)).R 22 (w3.setCell ⟨rb, 0, none⟩ (.slice Av (L.length + 1) cv)) rb (fun k => k ≠ rb ∧ some k ≠ (Value.slice Av (L.length + 1) cv).ownBlock) swv L := by
    have h9 := Kd.Bq (Kd.Dw (Kd.Cp HR2.out.q) hg1 (fun k hk => hk.1.2)) (p := ⟨rb, 0, none⟩) (fun k hk e => hk.1.1 (show k = rb from e)) (.slice Av (L.length + 1) cv); refine Kd.Bu h9 (fun k hk => ⟨hk.1.1, fun e => ?_⟩)
    rcases hat1 with h | ⟨b, h, hb9⟩
    ·exact hk.1.2 (e.trans h)
    ·have e3 := e.trans h
     injection e3 with e3
     have := hk.2.2.1
     omega
   have hF3 : ∀ j, j < w.heap.size → j ≠ rb → some j ≠ sv.ownBlock → (w3.setCell ⟨rb, 0, none⟩ (.slice Av (L.length + 1) cv)).heap[j]? = w.heap[j]? := fun j hj hk h1 => by
    rw [Below.heap_setCell _ _ _ _ hk, hg1.block j (by omega) h1, HWL.out j hj]
   have HF3 := Ac.mk hF3; have HB3 := Ac.mk hb3; have HQ3 := Ac.mk hq3'; have HR3 := Ac.mk hr3; have HW3 := Ac.mk hB3; have HA3 := Ac.mk hall1; clear hR1 hB1 hg1 hat1 hb1 hq1 hb3 hq3 hq3' hr3 hB3 hall1 hF3 HR2 HBW HALL HWL
   go_upto_region 8 with fail
   generalize w3.setCell ⟨rb, 0, none⟩ (.slice Av (L.length + 1) cv) = w4 at HB3 HQ3 HR3 HW3 HA3 HF3 hz3 hvb3 ⊢; clear hc0 hf0 c0; refine start_ (n := 12) (S := fun w' => w'.cell? ⟨rb, 1, none⟩ = some swv ∧ True) (ds := [11]) #[false, false, false, false, false, false, false, false, false, false, false, false] (by kernel_rfl) rfl rfl ⟨(Ad HB3.out 1).trans rfl, trivial⟩ (fun hHeld => ?_); have hb4 : w4.drew.heap[rb]? = _ := HB3.out; have hq4 : (Kd.slice 28 (Kd.int .u32)).R 22 w4.drew rb (fun k => k ≠ rb ∧ some k ≠ (Value.slice Av (L.length + 1) cv).ownBlock) swv L := HQ3.out; have hr4 : (Kd.slice 28 (Kd.int .u32)).R 22 w4.drew rb (fun k => k ≠ rb ∧ some k ≠ swv.ownBlock) (.slice Av (L.length + 1) cv) (L ++ [lentOf l 5]) := HR3.out; have hw4 : Below rb w0 w4.drew := Ai HW3.out; have ha4 : (Kd.int .u32).R 28 w4.drew rb (fun k => w.heap.size ≤ k) (.slice (some ⟨w.heap.size, 0, none⟩) (n + 5) (n + 5)) (lentOf l 5) := HA3.out; have hz4 : wr.heap.size ≤ w4.drew.heap.size := hz3; have hvb4 : ∀ j, (Value.slice Av (L.length + 1) cv).ownBlock = some j → j < w4.drew.heap.size := hvb3; have hF4 : ∀ j, j < w.heap.size → j ≠ rb → some j ≠ sv.ownBlock → w4.drew.heap[j]? = w.heap[j]? := HF3.out; have HF4 := Ac.mk hF4; have HB4 := Ac.mk hb4; have HQ4 := Ac.mk hq4; have HR4 := Ac.mk hr4; have HW4 := Ac.mk hw4; have HA4 := Ac.mk ha4; clear hb4 hq4 hr4 hw4 ha4 hF4 hz3 hvb3 HB3 HQ3 HR3 HW3 HA3 HF3; generalize w4.drew = w5 at HB4 HQ4 HR4 HW4 HA4 HF4 hz4 hvb4 hHeld ⊢; have hll5 : (lentOf l 5).length = n + 5 := by rw [hll, HN.out]
   have hcr : ReadsRow (fun x cs => cs = [Value.int .u32 x]) 1 w5 (some ⟨w.heap.size, 0, none⟩) (lentOf l 5).length (lentOf l 5) := (Kd.Bn HA4.out).2.2; rw [hll5] at hcr; have e6 : ([] ++ lentOf l 5).length = n + 5 := hll5; refine pure_ (i := 0) (N := (some 38)) (v := ?_) (a' := ?_) #[true, false, false, false, false, false, false, false, false, false, false, false] rfl rfl (by kernel_rfl) (fun _ _ _ h => h) (Or.inl ⟨by rfl, ?_⟩) ?_ ?_; rotate_left
   ·intro w'
    go_simp
    with_reducible rfl
   rotate_left
   ·simp only [Act.put, List.setIfInBounds_toArray, List.set_cons_zero, List.set_cons_succ, i64_w, i32_w]
    rfl
   refine pure_ (i := 1) (N := (some 39)) (v := ?_) (a' := ?_) #[true, true, false, false, false, false, false, false, false, false, false, false] rfl rfl (by kernel_rfl) (fun _ _ _ h => h) (Or.inl ⟨by rfl, ?_⟩) ?_ ?_; rotate_left
   ·intro w'
    go_simp
    with_reducible rfl
   rotate_left
   ·simp only [Act.put, List.setIfInBounds_toArray, List.set_cons_zero, List.set_cons_succ, i64_w, i32_w]
    rfl
   refine pure_ (i := 2) (N := (some 40)) (v := ?_) (a' := ?_) #[true, true, true, false, false, false, false, false, false, false, false, false] rfl rfl (by kernel_rfl) (fun _ _ _ h => h) (Or.inl ⟨by rfl, ?_⟩) ?_ ?_; rotate_left
   ·intro w'
    go_simp
    with_reducible rfl
   rotate_left
   ·simp only [Act.put, List.setIfInBounds_toArray, List.set_cons_zero, List.set_cons_succ, i64_w, i32_w]
    rfl
   refine pure_ (i := 3) (N := (some 41)) (v := ?_) (a' := ?_) #[true, true, true, true, false, false, false, false, false, false, false, false] rfl rfl (by kernel_rfl) (fun _ _ _ h => h) (Or.inl ⟨by rfl, ?_⟩) ?_ ?_; rotate_left
   ·intro w'
    go_simp
    with_reducible rfl
   rotate_left
   ·simp only [Act.put, List.setIfInBounds_toArray, List.set_cons_zero, List.set_cons_succ, i64_w, i32_w]
    rfl
   refine pure_ (i := 5) (N := (some 43)) (v := ?_) (a' := ?_) #[true, true, true, true, false, true, false, false, false, false, false, false] rfl rfl (by kernel_rfl) (fun _ _ _ h => h) (Or.inl ⟨by rfl, ?_⟩) ?_ ?_; rotate_left
   ·intro w'
    go_simp
    with_reducible rfl
   rotate_left
   ·simp only [Act.put, List.setIfInBounds_toArray, List.set_cons_zero, List.set_cons_succ, i64_w, i32_w]
    rfl
   refine take_ (i := 4) (N := (some 42)) (v := ?_) (a' := ?_) #[true, true, true, true, true, true, false, false, false, false, false, false] rfl rfl (by kernel_rfl) (fun _ _ _ h => h) (Or.inl ⟨by rfl, ?_⟩) hHeld ?_ ?_; rotate_left
   ·rintro w' ⟨s0, _⟩
    go_simp
    with_reducible rfl
   rotate_left
   ·simp only [Act.put, List.setIfInBounds_toArray, List.set_cons_zero, List.set_cons_succ, i64_w, i32_w]
    rfl
   refine one_ (i := 6) (N := (some 44)) #[true, true, true, true, true, true, true, false, false, false, false, false] rfl rfl (by kernel_rfl) (by decide) (fun K hK => ?_); refine Kd.R_append_rows_step (Kd.int .u32) (Rr := fun x cs => cs = [Value.int .u32 x]) (w0 := w0) rb (by rfl) (.const (.slice none 0 0)) (.tmp 43) 22 28 (.int .u32 0) 4 rfl Try.underlying22 info76 rfl (by decide) (by omega) (.slice none 0 0) [] (lentOf l 5) (some ⟨w.heap.size, 0, none⟩) (n + 5) (n + 5) (fun j => w5.heap.size ≤ j) (fun _ => False) rfl rfl (Kd.Ct _ _ _ _ _) hcr (fun x cs h => h) (fun _ hk => hk.elim) (fun j hj => hj) HW4.out (by omega) (by simp; omega) ?_; intro v2 w6 hR6 hB6 hg6 hat6; obtain ⟨A2, c2, e2⟩ := Kd.B0 hR6; subst e2; rw [e6] at hR6 hat6 ⊢; rw [List.nil_append] at hR6; have hb6 := B3 HB4.out hg6 (by simp [Value.ownBlock]); have hq6 := Kd.Dw HQ4.out hg6 (fun k hk => by simp [Value.ownBlock]); have hr6 := Kd.Dw HR4.out hg6 (fun k hk => by simp [Value.ownBlock]); have ha6 := Kd.Dw HA4.out hg6 (fun k hk => by simp [Value.ownBlock]); have hz6 := hg6.size; show K (Act.put _ (some 44) (.slice A2 (n + 5) c2)) w6; refine hK.out _ _ ⟨(Ad hb6 1).trans rfl, trivial⟩ (fun hHeld => ?_); clear hK K; refine norm_ (a' := ?_) ?_ ?_; rotate_left
   ·simp only [Act.put, List.setIfInBounds_toArray, List.set_cons_zero, List.set_cons_succ]
    rfl
   refine one_ (i := 7) (N := (some 45)) #[true, true, true, true, true, true, true, true, false, false, false, false] rfl rfl (by kernel_rfl) (by decide) (fun K hK => ?_); refine value_ (v := .slice (some ⟨w6.heap.size, 0, none⟩) 1 1) (w1 := w6.alloc (.cells #[.slice A2 (n + 5) c2] 22)) (by rfl) rfl (by go_simp) ?_; refine hK.out _ _ ⟨(Ad (Aj hb6 _) 1).trans rfl, trivial⟩ (fun hHeld => ?_); clear hK K; refine norm_ (a' := ?_) ?_ ?_; rotate_left
   ·simp only [Act.put, List.setIfInBounds_toArray, List.set_cons_zero, List.set_cons_succ]
    rfl
   refine one_ (i := 8) (N := (some 46)) #[true, true, true, true, true, true, true, true, true, false, false, false] rfl rfl (by kernel_rfl) (by decide) (fun K hK => ?_); refine Kd.R_append_step (Kd.slice 28 (Kd.int .u32)) (w0 := w0) rb (by rfl) (.tmp 42) (.tmp 45) 31 22 (.slice none 0 0) 24 rfl Try.underlying31 info22 rfl (by decide) (by omega) swv L (lentOf l 5) [.slice A2 (n + 5) c2] (fun j => j ≠ rb ∧ some j ≠ (Value.slice Av (L.length + 1) cv).ownBlock) (fun j => w5.heap.size ≤ j) rfl rfl ⟨_, rfl, hR6⟩ (fun j hj => ⟨⟨by omega, fun e => by have := hvb4 j e.symm; omega⟩, fun e => by have := hswv3 j e.symm; omega⟩) (fun j hj => ⟨by omega, fun e => by have := hvb4 j e.symm; omega⟩) hq6 hB6 (by omega) (by omega) ?_; intro v3 w7 hR7 hB7 hg7 hat7; obtain ⟨A3, c3, e3⟩ := Kd.B0 hR7; subst e3; have e5 : (L ++ [lentOf l 5]).length = L.length + 1 := by simp
   rw [e5] at hR7 hat7 ⊢; show K (Act.put _ (some 46) (.slice A3 (L.length + 1) c3)) w7; have hb7 := B3 hb6 hg7 hrw; have ha7 := Kd.Dw ha6 hg7 (fun k hk e => by have := hswb k e.symm; omega)
   have hr7 : (Kd.slice 28 (Kd.int .u32)).R 22 w7 rb (fun k => k ≠ rb ∧ some k ≠ (Value.slice A3 (L.length + 1) c3).ownBlock) (.slice Av (L.length + 1) cv) (L ++ [lentOf l 5]) := by
    refine Kd.Bu (Kd.Dw (Kd.Cp hr6) hg7 (fun k hk => hk.1.2)) (fun k hk => ⟨hk.1.1, fun e => ?_⟩)
    rcases hat7 with h | ⟨b, h, hb9⟩
    ·exact hk.1.2 (e.trans h)
    ·have e3 := e.trans h
     injection e3 with e3
     have := hk.2.2.1
     omega
   refine hK.out _ _ ⟨(Ad hb7 1).trans rfl, trivial⟩ (fun hHeld => ?_); clear hK K; refine norm_ (a' := ?_) ?_ ?_; rotate_left
   ·simp only [Act.put, List.setIfInBounds_toArray, List.set_cons_zero, List.set_cons_succ]
    rfl
   refine pure_ (i := 9) (N := (some 47)) (v := ?_) (a' := ?_) #[true, true, true, true, true, true, true, true, true, true, false, false] rfl rfl (by kernel_rfl) (fun _ _ _ h => h) (Or.inl ⟨by rfl, ?_⟩) ?_ ?_; rotate_left
   ·intro w'
    go_simp
    with_reducible rfl
   rotate_left
   ·simp only [Act.put, List.setIfInBounds_toArray, List.set_cons_zero, List.set_cons_succ, i64_w, i32_w]
    rfl
   refine pure_ (i := 10) (N := (some 48)) (v := ?_) (a' := ?_) #[true, true, true, true, true, true, true, true, true, true, true, false] rfl rfl (by kernel_rfl) (fun _ _ _ h => h) (Or.inl ⟨by rfl, ?_⟩) ?_ ?_; rotate_left
   ·intro w'
    go_simp
    with_reducible rfl
   rotate_left
   ·simp only [Act.put, List.setIfInBounds_toArray, List.set_cons_zero, List.set_cons_succ, i64_w, i32_w]
    rfl
   refine last_ (i := 11) (N := none) #[true, true, true, true, true, true, true, true, true, true, true, true] rfl rfl (by kernel_rfl) (by decide) (fun K hK => ?_); have cv7 : w7.cell? ⟨rb, 1, none⟩ = some swv := (Ad hb7 1).trans rfl; have fv7 := Af hb7 1; refine skip_ (w1 := ?_) (by rfl) rfl ?_ ?_; rotate_left
   ·go_simp
    rfl
   refine hK.out _ _ ?_; clear hK K; refine done_ (by kernel_rfl) ?_; have hcut := cut_to (P := Try.prog) 22 28 .i64 Try.underlying22 hi (some ⟨w.heap.size, 0, none⟩) (n + 5) (n + 5) (n : Int) (by omega) (by omega) (by omega); rw [Int.toNat_natCast] at hcut; have ha8 := Kd.Bq ha7 (p := ⟨rb, 1, none⟩) (fun k hk e => by have e2 : k = rb := e; omega) (.slice A3 (L.length + 1) c3); have hr8 := Kd.Bq hr7 (p := ⟨rb, 1, none⟩) (fun k hk e => hk.1 (show k = rb from e)) (.slice A3 (L.length + 1) c3); have hq8 := Kd.Bq hR7 (p := ⟨rb, 1, none⟩) (fun k hk e => hk.1 (show k = rb from e)) (.slice A3 (L.length + 1) c3); have hb8 := Ax hb7 1 (.slice A3 (L.length + 1) c3) rfl; have hB8 := hB7.setCell (p := ⟨rb, 1, none⟩) (Nat.le_refl rb) (.slice A3 (L.length + 1) c3); have hln := HN.out
   have hfin : (Kd.int .u32).R 28 (w7.setCell ⟨rb, 1, none⟩ (.slice A3 (L.length + 1) c3)) rb (fun k => k ≠ rb) (.slice (some ⟨w.heap.size, 0, none⟩) n (n + 5)) l := by
    have h := Kd.R_take (m := n) ha8 (by omega); rw [hln, lentOf_take, ← hln] at h; exact Kd.Bu h (fun k hk => by omega)
   have HF8 : Ac (∀ j, j < w.heap.size → j ≠ rb → some j ≠ sv.ownBlock → some j ≠ swv.ownBlock → (w7.setCell ⟨rb, 1, none⟩ (.slice A3 (L.length + 1) c3)).heap[j]? = w.heap[j]?) := ⟨fun j hj hk h1 h2 => by
    rw [Below.heap_setCell _ _ _ _ hk, hg7.block j (by omega) h2, hg6.block j (by omega) (by simp [Value.ownBlock]), HF4.out j hj hk h1]⟩
   have HFIN := Ac.mk hfin; have HB8 := Ac.mk hB8; have HRM : Ac (RM (w7.setCell ⟨rb, 1, none⟩ (.slice A3 (L.length + 1) c3)) rb (.slice Av (L.length + 1) cv) (.slice A3 (L.length + 1) c3) (L ++ [lentOf l 5])) := ⟨hb8, hr8, hq8⟩; clear ha8 hr8 hq8 hb8 hB8 hfin ha7 hr7 hR7 hb7 hg7 hat7 hB7 HN hln hcr hll hll5 e6 e5 e1 HA4 HB4 HQ4 HR4 HW4 HF4 hB6 hg6 hat6 hb6 hq6 hr6 ha6 hR6
   go_wp2
   go_ret
   exact ⟨_, _, rfl, HFIN.out, ⟨_, _, HRM.out⟩, HB8.out, HF8.out⟩
theorem R_off {α : Type} {d : Kd α} {e base : Nat} {ok : Nat → Prop} {w : World} {v : Value} {xs : List α} (h : d.R e w base ok v xs) {p : Addr} {t : Nat} {cs : Array Value} (hp : w.heap[p.block]? = some (.cells cs t (0, 0))) (ht : ∀ q, q ∈ e :: d.E → q ≠ t) (u : Value) : d.R e (w.setCell p u) base ok v xs := by
 refine Kd.Bu (Kd.Bq (Kd.Cp h) (fun k hk e2 => ?_) u) (fun _ hk => hk.1); obtain ⟨_, _, _, q, hq, cells, hc⟩ := hk; subst e2; rw [hp] at hc; injection hc with hc
 injection hc with _ h2
 exact ht q hq h2.symm
theorem RM.off {w : World} {rb : Nat} {sv swv : Value} {L : List (List Int)} (h : RM w rb sv swv L) {p : Addr} {cs : Array Value} (hp : w.heap[p.block]? = some (.cells cs 24 (0, 0))) (u : Value) : RM (w.setCell p u) rb sv swv L :=
 ⟨Bd h.b (fun e => by rw [← e, h.b] at hp; cases hp) _, R_off h.r hp (by intro q hq; simp [Kd.slice, Kd.int, Kd.scalar] at hq; omega) _, R_off h.q hp (by intro q hq; simp [Kd.slice, Kd.int, Kd.scalar] at hq; omega) _⟩
set_option maxRecDepth 100000 in
set_option maxHeartbeats 4000000 in
theorem Plane_calls (w0 w : World) (rb : Nat) (sv swv : Value) (L : List (List Int)) (hR : RM w rb sv swv L) (hb0 : Below rb w0 w) (a0 a1 : Int) (A : Option Addr) (c : Nat) (l : List Int) (hC : (Kd.int .u32).C w A l.length l) (hl : l.length ≤ 35184372087808) (hL : L.length ≤ 1000) :
  Calls Try.prog 7 #[.pointer (some ⟨rb, 0, none⟩), .agg #[.int .i64 a0, .int .i64 a1, .slice A l.length c]] w fun e w' => ∃ A' c', e = .returned (.agg #[.int .i64 a0, .int .i64 a1, .slice A' l.length c']) ∧ (Kd.int .u32).R 28 w' rb (fun k => k ≠ rb) (.slice A' l.length c') l ∧ (∃ sv' swv', RM w' rb sv' swv' (L ++ [lentOf l 5])) ∧ Below rb w0 w' := by
 have hrl := Bh hR.b; have hsvb : ∀ j, sv.ownBlock = some j → j < w.heap.size := fun j hj => ((Kd.Cp hR.r).1 j hj).2.2.1
 have hswb : ∀ j, swv.ownBlock = some j → j < w.heap.size := fun j hj => ((Kd.Cp hR.q).1 j hj).2.2.1
 have HC := Ac.mk hC; have HR := Ac.mk hR; have HB0 := Ac.mk hb0; clear hC hR hb0; go_enter Try.func7, Try.ntmps7
 go_upto_region 1 with fail
 obtain ⟨w1, hw1⟩ : ∃ y, y = (w.alloc (.cells #[.int .i64 a0, .int .i64 a1, .slice A l.length c] 24)).alloc (.cells #[.int .i64 0, .int .i64 0, .slice none 0 0] 24) := ⟨_, rfl⟩; rw [← hw1]; have hp : w1.heap[w.heap.size]? = some (.cells #[.int .i64 a0, .int .i64 a1, .slice A l.length c] 24 (0, 0)) := by rw [hw1]; exact Aj (Dm _ _) _
 have hq : w1.heap[w.heap.size + 1]? = some (.cells #[.int .i64 0, .int .i64 0, .slice none 0 0] 24 (0, 0)) := by rw [hw1]; exact Go.Proofs.Ytbfimplajocmmaa.H.bnew _ (by simp)
 have hbw : Below w.heap.size w w1 := by rw [hw1]; exact Ah (Ah (Below.refl _ _) _) _
 have hsz : w1.heap.size = w.heap.size + 2 := by rw [hw1]; simp
 have hc2 : w1.cell? ⟨w.heap.size, 2, none⟩ = some (.slice A l.length c) := (Ad hp 2).trans rfl; have hR1 : RM w1 rb sv swv L := HR.out.move (fun k _ hk => hbw.block k hk); have hC1 := Kd.B2 HC.out hbw; have hB1 : Below rb w0 w1 := HB0.out.trans (hbw.mono (by omega)); have HR1 := Ac.mk hR1; have HC1 := Ac.mk hC1; have HB1 := Ac.mk hB1; have HP := Ac.mk hp; have HQ := Ac.mk hq; clear hw1 hp hq hbw hR1 hC1 hB1 HC HR HB0
 go_wp2_with (go_at_call 43; refine (Samples_calls w0 w1 rb sv swv L HR1.out HB1.out A c l HC1.out hl hL).mono ?_; rintro e w2 ⟨A', c', rfl, h1, h2, h3, h4⟩; have hp2 := (h4 w.heap.size (by omega) (by omega) (fun e => by have := hsvb _ e.symm; omega) (fun e => by have := hswb _ e.symm; omega)).trans HP.out; have hq2 := (h4 (w.heap.size + 1) (by omega) (by omega) (fun e => by have := hsvb _ e.symm; omega) (fun e => by have := hswb _ e.symm; omega)).trans HQ.out; have cp0 := (Ad hp2 0).trans rfl; have cp1 := (Ad hp2 1).trans rfl; have cp2 := (Ad hp2 2).trans rfl; have fp2 := Af hp2 2; have cq0 := (Ad hq2 0).trans rfl; have cq1 := (Ad hq2 1).trans rfl; have cq2 := (Ad hq2 2).trans rfl; have fq0 := Af hq2 0; have fq1 := Af hq2 1; have fq2 := Af hq2 2; have X1 := Ac.mk h1; have X2 := Ac.mk h2; have X3 := Ac.mk h3; have XP := Ac.mk hp2; have XQ := Ac.mk hq2; clear h1 h2 h3 h4 hp2 hq2)
 have p1 := Ax XP.out 2 (.slice A' l.length c') rfl; have q1 := Bd XQ.out (p := ⟨w.heap.size, 2, none⟩) (show w.heap.size + 1 ≠ w.heap.size by omega) (.slice A' l.length c'); have q2 := Ax q1 0 (.int .i64 a0) rfl; have q3 := Ax q2 1 (.int .i64 a1) rfl; have q4 := Ax q3 2 (.slice A' l.length c') rfl; have ht : ∀ q, q ∈ 28 :: (Kd.int IntKind.u32).E → q ≠ 24 := by intro q hq; simp [Kd.int, Kd.scalar] at hq; omega
 refine bodyPost_ret (results_cell_row rfl _ _ (w.heap.size + 1) 24 #[.int .i64 a0, .int .i64 a1, .slice A' l.length c'] (0, 0) _ rfl q4 Try.underlying24 rfl (by kernel_rfl)) rfl ?_; obtain ⟨sv', swv', hrm⟩ := X2.out; refine ⟨A', c', rfl, R_off (R_off (R_off (R_off X1.out XP.out ht _) q1 ht _) q2 ht _) q3 ht _, ⟨sv', swv', (((hrm.off XP.out _).off q1 _).off q2 _).off q3 _⟩, ?_⟩; exact (((X3.out.setCell (p := ⟨w.heap.size, 2, none⟩) (show rb ≤ w.heap.size by omega) _).setCell (p := ⟨w.heap.size + 1, 0, none⟩) (show rb ≤ w.heap.size + 1 by omega) _).setCell (p := ⟨w.heap.size + 1, 1, none⟩) (show rb ≤ w.heap.size + 1 by omega) _).setCell (p := ⟨w.heap.size + 1, 2, none⟩) (show rb ≤ w.heap.size + 1 by omega) _
end Go.Proofs.Ytbfimplajocmmaa.BK
end
section
open Go Go.RowKit Go.Proofs.YtbfimplajocmmaaW.PrintWords Go.Proofs.YtbfimplajocmmaaW.PrintLast Go.Proofs.YtbfimplajocmmaaW.PrintMore
attribute [local go_sem ↓] Go.wp_at_zero Go.wp_at_succ
set_option linter.unusedVariables false
set_option linter.unusedSimpArgs false
namespace Go.Proofs.Ytbfimplajocmmaa.BK
end Go.Proofs.Ytbfimplajocmmaa.BK
end
section
open Go Go.RowKit Go.Proofs.YtbfimplajocmmaaW.PrintWords Go.Proofs.YtbfimplajocmmaaW.PrintLast Go.Proofs.YtbfimplajocmmaaW.PrintMore
set_option linter.unusedVariables false
set_option linter.unusedSimpArgs false
namespace Go.Proofs.Ytbfimplajocmmaa
structure Kq (w w5 W : World) (kb n : Nat) : Prop where
  le : w.heap.size ≤ kb
  lt : kb < w5.heap.size
  bk : ∃ v vm L ms, BS.BS W w.heap.size kb (fun k => w5.heap.size ≤ k) v vm L ms ∧ L.length = n
  bel : Below w.heap.size w W
  fr : ∀ k, k < w5.heap.size → k ≠ kb → W.heap[k]? = w5.heap[k]?
  sz : w5.heap.size ≤ W.heap.size
theorem Kq.start {w w5 : World} {kb : Nat} (le : w.heap.size ≤ kb) (hk : w5.heap[kb]? = some (.cells #[.slice none 0 0, .slice none 0 0, .slice none 0 0, .slice none 0 0, .slice none 0 0, .slice none 0 0, .slice none 0 0, .slice none 0 0] 38 (0, 0))) (bel : Below w.heap.size w w5) : Kq w w5 w5 kb 0 :=
  ⟨le, Bh hk, ⟨_, _, [], [], ⟨hk, le, fun h => by have := Bh hk; omega, Kd.Ct _ _ _ _ _, Kd.Ct _ _ _ _ _, rfl, fun j hj => by simp at hj⟩, rfl⟩, bel, fun _ _ _ => rfl, Nat.le_refl _⟩
theorem Kq.hold {w w5 W : World} {kb n : Nat} (h : Kq w w5 W kb n) (hn : n ≤ 1000) :
    Calls Try.prog 19 #[.pointer (some ⟨kb, 0, none⟩)] W fun e w' => e = .returned (.bool true) ∧ ∃ n, w' = W.drewN n := by
  obtain ⟨v, vm, L, ms, hB, hL⟩ := h.bk; exact BS.Hold_calls W w.heap.size kb _ v vm L ms hB (by omega)
theorem Kq.room {w w5 W : World} {kb n rb : Nat} (h : Kq w w5 W kb n) {sv swv : Value} {L : List (List Int)} (hr : kb < rb) (hR : BK.RM w5 rb sv swv L) : BK.RM W rb sv swv L := hR.move (fun k h1 h2 => h.fr k h2 (by omega))
theorem Kq.row {α : Type} {d : Kd α} {e base : Nat} {ok : Nat → Prop} {v : Value} {xs : List α} {w w5 W : World} {kb n : Nat} (h : Kq w w5 W kb n) (hb : kb < base) (hp : d.R e w5 base ok v xs) : d.R e W base ok v xs :=
  Kd.Bu (Kd.Dv (Kd.Cp hp) (fun k hk hl => h.fr k hl (by have := hk.2.1; omega))) (fun k hk => hk.1)
end Go.Proofs.Ytbfimplajocmmaa
end
section
open Go Go.RowKit Go.Proofs.YtbfimplajocmmaaW.PrintWords Go.Proofs.YtbfimplajocmmaaW.PrintLast Go.Proofs.YtbfimplajocmmaaW.PrintMore
attribute [local go_sem ↓] Go.wp_at_zero Go.wp_at_succ
set_option linter.unusedVariables false
set_option linter.unusedSimpArgs false
namespace Go.Proofs.Ytbfimplajocmmaa
set_option maxRecDepth 100000 in
set_option maxHeartbeats 4000000 in
theorem BS.Plane_gen (w0 w : World) (base kb : Nat) (P PB okl : Nat → Prop) (v vm : Value) (L : List (List Int)) (ms : List Int) (hB : BS.BS w base kb PB v vm L ms) (hb0 : Below base w0 w) (hPB : ∀ k, PB k → P k) (hnk : ¬ P kb) (hP : ∀ k, w.heap.size ≤ k → P k) (a0 a1 : Int) (l : Value) (xs : List Int) (hl : (Kd.int .u32).R 28 w base okl l xs) (hd : ∀ k, okl k → P k ∧ ¬ PB k) (m : Int) (hL : L.length ≤ 1000) :
    Calls Try.prog 18 #[.pointer (some ⟨kb, 0, none⟩), .agg #[.int .i64 a0, .int .i64 a1, l], .int .i64 m] w fun e w' => e = .returned (.tuple #[]) ∧ (∃ v' vm' n, BS.BS w' base kb P v' vm' (L ++ [BS.mks m n]) (ms ++ [m])) ∧ Below base w0 w' ∧ (∀ k, k < w.heap.size → ¬ P k → k ≠ kb → w'.heap[k]? = w.heap[k]?) ∧ w.heap.size ≤ w'.heap.size := by
  obtain ⟨Al, cl, rfl⟩ := Kd.B0 hl; have hab : Below w.heap.size w (w.alloc (.cells #[.int .i64 a0, .int .i64 a1, .slice Al xs.length cl] 24)) := Ah (Below.refl w.heap.size w) _; have HB := Ac.mk (hB.move (fun k hk => hab.block k hk)); have HL := Ac.mk (Kd.Az hl hab); have hz : base ≤ w.heap.size := Nat.le_trans hB.le (Nat.le_of_lt hB.lt); have H0 := Ac.mk (hb0.trans (hab.mono hz)); have HPB := Ac.mk hPB; have HP : Ac (∀ k, (w.alloc (.cells #[.int .i64 a0, .int .i64 a1, .slice Al xs.length cl] 24)).heap.size ≤ k → P k) := ⟨fun k hk => hP k (Nat.le_trans hab.size hk)⟩; have HDD := Ac.mk hd; have HAB := Ac.mk hab; clear hB hl hb0 hP hz hPB hd hab; go_enter Try.func18, Try.ntmps18
  go_wp2_with (go_at_call 56; refine (BS.Smps_gen w0 _ base kb P PB okl v vm L ms HB.out H0.out HPB.out hnk HP.out (.slice Al xs.length cl) xs HL.out HDD.out m hL).mono ?_; rintro e w2 ⟨rfl, h1, h2, h3, h4⟩; have HM1 := Ac.mk h1; have HM2 := Ac.mk h2; have HM3 := Ac.mk h3; have HM4 := Ac.mk h4; clear h1 h2 h3 h4)
  go_end0
  exact ⟨rfl, HM1.out, HM2.out, fun k hk hp hk2 => (HM3.out k (by have := HAB.out.size; omega) hp hk2).trans (HAB.out.block k hk), Nat.le_trans HAB.out.size HM4.out⟩
structure Kqm (w w5 W : World) (kb n : Nat) (v : Value) (ys : List Int) (g : Nat) (o : Obj) : Prop where
  le : w.heap.size ≤ kb
  lt : kb < w5.heap.size
  bk : ∃ v' vm L ms, BS.BS W w.heap.size kb (fun k => w5.heap.size ≤ k ∧ some k ≠ v.ownBlock ∧ k ≠ g) v' vm L ms ∧ L.length = n
  bel : Below w.heap.size w W
  fr : ∀ k, k < w5.heap.size → k ≠ kb → W.heap[k]? = w5.heap[k]?
  sz : w5.heap.size ≤ W.heap.size
  row : (Kd.int .u32).R 28 W w5.heap.size (fun k => some k = v.ownBlock) v ys
  box : W.heap[g]? = some o
  new : w5.heap.size ≤ g
theorem R_own {w : World} {base : Nat} {ok : Nat → Prop} {v : Value} {xs : List Int} (h : (Kd.int .u32).R 28 w base ok v xs) : (Kd.int .u32).R 28 w base (fun k => some k = v.ownBlock) v xs := by
  obtain ⟨h0, inner, ho, hr⟩ := h; exact Kd.Dt (enc := Value.int .u32) (Kd.own_of_R (enc := Value.int .u32) ⟨h0, inner, ho, hr⟩) (fun k hk => hk.symm)
theorem Kq.plane1 {w w5 W W' : World} {kb n : Nat} (h : Kq w w5 W kb n) (hb : Below W.heap.size W W') (a0 a1 : Int) (l : Value) (xs : List Int) (hl : (Kd.int .u32).R 28 W' W.heap.size (fun _ => True) l xs) (v : Value) (ys : List Int) (hv : (Kd.int .u32).R 28 W' W.heap.size (fun _ => True) v ys) (hd : ∀ k, l.ownBlock = some k → v.ownBlock ≠ some k) (g : Nat) (o : Obj) (hg : W'.heap[g]? = some o) (hgn : W.heap.size ≤ g) (hgl : l.ownBlock ≠ some g) (m : Int) (hn : n ≤ 1000) :
    Calls Try.prog 18 #[.pointer (some ⟨kb, 0, none⟩), .agg #[.int .i64 a0, .int .i64 a1, l], .int .i64 m] W' fun e w' => e = .returned (.tuple #[]) ∧ Kqm w w5 w' kb (n + 1) v ys g o := by
  obtain ⟨v0, vm, L, ms, hB, hL⟩ := h.bk; have hle := h.le; have hlt := h.lt; have hsz := h.sz; have hz : w.heap.size ≤ W.heap.size := h.bel.size; have hzz := hb.size
  have hvb : ∀ k, some k = v.ownBlock → W.heap.size ≤ k ∧ k < W'.heap.size := fun k hk => by
    have h1 := (Kd.Cp hv).1 k hk.symm; exact ⟨h1.2.1, h1.2.2.1⟩
  have hlb : ∀ k, some k = l.ownBlock → W.heap.size ≤ k ∧ k < W'.heap.size := fun k hk => by
    have h1 := (Kd.Cp hl).1 k hk.symm; exact ⟨h1.2.1, h1.2.2.1⟩
  have hmv : ∀ k, k < W.heap.size → W'.heap[k]? = W.heap[k]? := fun k hk => hb.block k hk
  have hBK : BS.BS W' w.heap.size kb (fun k => w5.heap.size ≤ k ∧ k < W.heap.size) v0 vm L ms := hB.later hmv |> fun x =>
    ⟨(hmv kb hB.lt).trans hB.b, hB.le, fun q => hB.nk q.1, Kd.Bu (Kd.Dv (Kd.Cp hB.r) (fun k _ hk => hmv k hk)) (fun k hk => ⟨⟨hk.1.1, hk.2.2.1⟩, hk.1.2⟩), Kd.Bu (Kd.Dv (Kd.Cp hB.m) (fun k _ hk => hmv k hk)) (fun k hk => ⟨hk.1, hk.2.2.1⟩), hB.len, hB.val⟩
  refine (BS.Plane_gen w W' w.heap.size kb (fun k => w5.heap.size ≤ k ∧ some k ≠ v.ownBlock ∧ k ≠ g) (fun k => w5.heap.size ≤ k ∧ k < W.heap.size) (fun k => some k = l.ownBlock) v0 vm L ms hBK (h.bel.trans (hb.mono hz)) (fun k hk => ⟨hk.1, fun e => by have := (hvb k e).1; have := hk.2; omega, fun e => by have := hk.2; omega⟩) (fun q => by have := q.1; omega) (fun k hk => ⟨by omega, fun e => by have := (hvb k e).2; omega, fun e => by have := Bh hg; omega⟩) a0 a1 l xs (Kd.B9 (R_own hl) hz) (fun k hk => ⟨⟨by have := (hlb k hk).1; omega, fun e => hd k hk.symm e.symm, fun e => hgl (e ▸ hk.symm)⟩, fun q => by have := (hlb k hk).1; have := q.2; omega⟩) m (by omega)).mono ?_; rintro e w' ⟨rfl, ⟨v', vm', n', h1⟩, h2, h3, h4⟩; refine ⟨rfl, hle, hlt, ⟨_, _, _, _, h1, by rw [List.length_append, hL]; rfl⟩, h2, fun k hk hk2 => (h3 k (by omega) (fun q => by have := q.1; omega) hk2).trans ((hmv k (by omega)).trans (h.fr k hk hk2)), by omega, ?_, (h3 g (Bh hg) (fun q => q.2.2 rfl) (by omega)).trans hg, by omega⟩; have hr : (Kd.int .u32).R 28 w' W.heap.size (fun k => some k = v.ownBlock) v ys := Kd.Bu (Kd.Dv (Kd.Cp (R_own hv)) (fun k hk hl2 => h3 k hl2 (fun q => q.2.1 hk.1) (by have := (hvb k hk.1).1; omega))) (fun k hk => hk.1); exact Kd.B9 hr hsz
theorem Kqm.plane {w w5 W : World} {kb n : Nat} {v : Value} {ys : List Int} {g : Nat} {o : Obj} (h : Kqm w w5 W kb n v ys g o) (a0 a1 m : Int) (hn : n ≤ 1000) :
    Calls Try.prog 18 #[.pointer (some ⟨kb, 0, none⟩), .agg #[.int .i64 a0, .int .i64 a1, v], .int .i64 m] W fun e w' => e = .returned (.tuple #[]) ∧ Kq w w5 w' kb (n + 1) := by
  obtain ⟨v0, vm, L, ms, hB, hL⟩ := h.bk; have hle := h.le; have hlt := h.lt; have hsz := h.sz; have hz : w.heap.size ≤ W.heap.size := h.bel.size; have hvb : ∀ k, some k = v.ownBlock → w5.heap.size ≤ k := fun k hk => ((Kd.Cp h.row).1 k hk.symm).2.1
  refine (BS.Plane_gen w W w.heap.size kb (fun k => w5.heap.size ≤ k) (fun k => w5.heap.size ≤ k ∧ some k ≠ v.ownBlock ∧ k ≠ g) (fun k => some k = v.ownBlock) v0 vm L ms hB h.bel (fun k hk => hk.1) (fun q => by omega) (fun k hk => by omega) a0 a1 v ys (Kd.B9 h.row (by omega)) (fun k hk => ⟨hvb k hk, fun q => q.2.1 hk⟩) m (by omega)).mono ?_; rintro e w' ⟨rfl, ⟨v', vm', n', h1⟩, h2, h3, h4⟩; exact ⟨rfl, hle, hlt, ⟨_, _, _, _, h1, by rw [List.length_append, hL]; rfl⟩, h2, fun k hk hk2 => (h3 k (by omega) (fun q => by omega) hk2).trans (h.fr k hk hk2), by omega⟩
end Go.Proofs.Ytbfimplajocmmaa
end
