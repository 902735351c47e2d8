import Derived.Test.YtbfimplajocmmaaXH1
import Derived.Laws.CopyOwn
open Go Go.RowKit Go.Proofs.YtbfimplajocmmaaW.PrintWords Go.Proofs.YtbfimplajocmmaaW.PrintLast Go.Proofs.YtbfimplajocmmaaW.PrintMore
attribute [local go_sem ↓] Go.wp_at_zero Go.wp_at_succ
set_option linter.unusedVariables false
set_option linter.unusedSimpArgs false
namespace Go.Proofs.Ytbfimplajocmmaa
namespace RC
theorem infoU : (Try.prog.info? 28).map (fun i => (i.zero, i.size, i.bytes)) = some (some (.int .u32 0), 1, 4) := by kernel_rfl
theorem szU : (Try.prog.info? 28).map (·.size) = some 1 := by kernel_rfl
theorem R_words {w : World} {base g : Nat} {ok : Nat → Prop} (l : List Int) (h : w.heap[g]? = some (.cells (nums .u32 l).toArray 28 (0, 0))) (hb : base ≤ g) (hm : l.length ≤ 9223372036854775807) (hok : ok g) : (Kd.int .u32).R 28 w base ok (.slice (some ⟨g, 0, none⟩) l.length l.length) l := by
  refine Kd.Dq (enc := Value.int .u32) ⟨by simp [encs], .inr ⟨g, l.length, (nums .u32 l).toArray, rfl, hb, h, Nat.le_refl _, hm, by simp [nums], ?_⟩⟩ (fun k hk => ?_)
  · simp only [Nat.mul_one, List.toList_toArray]
    exact List.take_of_length_le (by simp [nums])
  · have : g = k := by simpa [Value.ownBlock] using hk
    exact this ▸ hok
set_option maxRecDepth 100000 in
set_option maxHeartbeats 4000000 in
theorem blank_exact (a0 a1 : Int) (n : Nat) (hm : wrap64 (a0 * a1) = (n : Int)) (hn : n ≤ 70368744177664) (w : World) :
    Calls Try.prog 81 #[.int .i64 a0, .int .i64 a1] w fun e w' => ∃ g, e = .returned (.agg #[.int .i64 a0, .int .i64 a1, .slice (some ⟨g, 0, none⟩) n n]) ∧ w.heap.size ≤ g ∧ w'.heap[g]? = some (.cells (nums .u32 (List.replicate n 0)).toArray 28 (0, 0)) ∧ Below w.heap.size w w' := by
  obtain ⟨i0, hi, hz0, hz1, hz2⟩ := info_parts infoU; have hwm : IntKind.i64.wrap (a0 * a1) = (n : Int) := by rw [i64_w]; exact hm
  have hmk : ∀ W0 : World, (Instr.makeSlice 22 (.int .i64 (n : Int)) (.int .i64 (n : Int))).run Try.prog W0 = .ok (.slice (some ⟨W0.heap.size, 0, none⟩) n n) (W0.alloc (.cells (nums .u32 (List.replicate n 0)).toArray 28)) := by
    intro W0; have h := run_make (P := Try.prog) W0 22 28 i0 _ Try.underlying22 hi hz0 .i64 .i64 (n : Int) (n : Int) (by omega) (by omega) (by rw [hz2]; omega) (by omega); rw [hz1, Nat.mul_one] at h
    have e : madeCells (Value.int IntKind.u32 0).cells ((n : Int).toNat) = (nums .u32 (List.replicate n 0)).toArray := by
      rw [Int.toNat_natCast]
      apply Array.toList_inj.mp
      apply List.ext_getElem
      · simp [madeCells, nums, Value.cells]
      · intro i h1 h2
        simp [madeCells, nums, Value.cells, Nat.mod_one]
    rw [e, Int.toNat_natCast] at h; exact h
  have HM := Ae.mk hm; clear hm hz0 hz1 hz2; go_enter Try.func81, Try.ntmps81
  go_wp2
  refine bodyPost_ret (results_cell_row rfl _ _ w.heap.size 24 #[.int .i64 a0, .int .i64 a1, .slice (some ⟨w.heap.size + 1, 0, none⟩) n n] (0, 0) _ rfl (An (Cr _ _) _) Try.underlying24 rfl (by kernel_rfl)) rfl ?_; exact ⟨w.heap.size + 1, rfl, by omega, Go.Proofs.Ytbfimplajocmmaa.H.bnew _ (by simp), Ah (Ah (Below.refl _ _) _) _⟩
end RC
def De.f (a0 a1 : Int) (l : List Int) : Option (Int × Int × List Int) := if wrap64 (a0 * a1) = (l.length : Int) ∧ 0 < l.length ∧ l.length ≤ 70368744177664 then some (a0, a1, l) else none
open RC
set_option maxRecDepth 100000 in
set_option maxHeartbeats 4000000 in
theorem De.calls (a0_0 a0_1 : Int) (A0_2 : Option Addr) (c0_2 : Nat) (l0_2 : List Int) (r1 r2 : Int) (r3 : List Int) (w : World) (hr0_2 : Kd.C (Kd.int .u32) w A0_2 l0_2.length l0_2) (hc0_2 : l0_2.length ≤ c0_2) (h : De.f a0_0 a0_1 l0_2 = some (r1, r2, r3)) :
    Calls Try.prog 51 #[.agg #[.int .i64 a0_0, .int .i64 a0_1, .slice A0_2 l0_2.length c0_2]] w fun e w' => ∃ v2_ : Value, e = .returned (.agg #[.int .i64 r1, .int .i64 r2, v2_]) ∧ Kd.R (Kd.int .u32) 28 w' w.heap.size (fun _ => True) v2_ r3 ∧ Below w.heap.size w w' := by
  unfold De.f at h
  by_cases hc : wrap64 (a0_0 * a0_1) = (l0_2.length : Int) ∧ 0 < l0_2.length ∧ l0_2.length ≤ 70368744177664
  case neg => rw [if_neg hc] at h; cases h
  rw [if_pos hc] at h
  simp only [Option.some.injEq, Prod.mk.injEq] at h
  obtain ⟨rfl, rfl, rfl⟩ := h; obtain ⟨hn, hp, hm⟩ := hc; obtain ⟨_, _, h3⟩ := Kd.C0 (d := 0) hr0_2; obtain ⟨ad, e, h4⟩ := h3 hp; subst e
  have hcell : ∀ W, Below w.heap.size w W → ∀ j v, (nums .u32 l0_2)[j]? = some v → W.cell? (ad.add j) = some v := fun W hb j v hj => by
    have hjl : j < l0_2.length := by
      have := (List.getElem?_eq_some_iff.1 hj).1
      simpa [nums] using this
    have h5 := h4 j hjl
    have h6 : (nums .u32 l0_2)[j]? = some (.int .u32 (l0_2.getD j 0)) := by
      simp [nums, List.getD_eq_getElem?_getD, List.getElem?_eq_getElem hjl]
    rw [h6] at hj; injection hj with hj
    rw [← hj]; exact Cy hb h5
  obtain ⟨n, hnn⟩ : ∃ n, n = l0_2.length := ⟨_, rfl⟩; rw [← hnn] at hn hp hm hc0_2 ⊢; have HN := Ae.mk hn; have HNN := Ae.mk hnn; have HCELL := Ae.mk hcell; clear hn hnn hcell h3 h4 hr0_2; go_enter Try.func51, Try.ntmps51
  go_upto_region 2 with (go_at_call 81; refine (blank_exact a0_0 a0_1 n HN.out hm _).mono ?_; rintro e w1 ⟨g, rfl, hg, hh, hb⟩; have HG := Ae.mk hg; have HH := Ae.mk hh; have HB := Ae.mk hb; clear hg hh hb)
  have hg : w.heap.size + 2 ≤ g := by have := HG.out; simp at this; omega
  have hgl := Ba HH.out; obtain ⟨w2, hw2⟩ : ∃ y, y = w1.alloc (.cells #[.int .i64 a0_0, .int .i64 a0_1, .slice (some ⟨g, 0, none⟩) n n] 24) := ⟨_, rfl⟩; rw [← hw2]; have hb12 : Below w1.heap.size w1 w2 := by rw [hw2]; exact Ah (Below.refl _ _) _
  have hp2 : w2.heap[w.heap.size]? = some (.cells #[.int .i64 a0_0, .int .i64 a0_1, .slice (some ad) n c0_2] 24 (0, 0)) := Ao (Ao (An (Cr w _) _) HB.out) hb12; have hr2 : w2.heap[w.heap.size + 1]? = some (.cells #[.int .i64 0, .int .i64 0, .slice none 0 0] 24 (0, 0)) := Ao (Ao (Go.Proofs.Ytbfimplajocmmaa.H.bnew _ (by simp)) HB.out) hb12; have hq2 : w2.heap[w1.heap.size]? = some (.cells #[.int .i64 a0_0, .int .i64 a0_1, .slice (some ⟨g, 0, none⟩) n n] 24 (0, 0)) := by rw [hw2]; exact Cr _ _
  have hg2 := Ao HH.out hb12; have hB2 : Below w.heap.size w w2 := ((Ah (Ah (Below.refl _ w) _) _).trans (HB.out.mono (by simp; omega))).trans (hb12.mono (by omega)); have cp2 : w2.cell? ⟨w.heap.size, 2, none⟩ = some (.slice (some ad) n c0_2) := (Af hp2 2).trans rfl; have cq2 : w2.cell? ⟨w1.heap.size, 2, none⟩ = some (.slice (some ⟨g, 0, none⟩) n n) := (Af hq2 2).trans rfl; have hsrc := HCELL.out w2 hB2; have hnl : (nums .u32 l0_2).length = Nat.min n n := by simp [nums, HNN.out]
  have hft : 0 + (nums .u32 l0_2).length ≤ (nums .u32 (List.replicate n 0)).toArray.size := by simp [nums, HNN.out]
  have hone : ∀ v ∈ nums .u32 l0_2, v.oneCell' = true := fun v hv => by
    obtain ⟨x, _, rfl⟩ := List.mem_map.mp hv; rfl
  have HSRC := Ae.mk hsrc; have HNL := Ae.mk hnl; have HFT := Ae.mk hft; have HONE := Ae.mk hone; have HP2 := Ae.mk hp2; have HR2 := Ae.mk hr2; have HQ2 := Ae.mk hq2; have HG2 := Ae.mk hg2; have HB2 := Ae.mk hB2; have szu := szU; clear hsrc hnl hft hone hp2 hr2 hq2 hg2 hB2 hb12 hw2 HB HH HG
  go_upto_region 3 with (with_reducible refine wpList_copy_own rfl (.tmp 10) (.tmp 12) 22 22 rfl 28 Try.underlying22 szu g 0 n n ad n c0_2 rfl rfl (nums .u32 (List.replicate n 0)).toArray 28 HG2.out (nums .u32 l0_2) HNL.out HSRC.out HFT.out HONE.out ?_)
  obtain ⟨w3, hw3⟩ : ∃ y, y = w2.setRow g ((nums .u32 (List.replicate n 0)).toArray.toList.take 0 ++ (nums .u32 l0_2 ++ (nums .u32 (List.replicate n 0)).toArray.toList.drop (0 + (nums .u32 l0_2).length))).toArray := ⟨_, rfl⟩; rw [← hw3]
  have hg3 : w3.heap[g]? = some (.cells (nums .u32 l0_2).toArray 28 (0, 0)) := by
    rw [hw3]; refine (setRow_heap w2 g _ _ 28 _ HG2.out).trans ?_
    congr 3
    simp [nums, HNN.out]
  have hoth : ∀ k, k ≠ g → w3.heap[k]? = w2.heap[k]? := fun k hk => by rw [hw3]; exact setRow_other w2 g k _ hk
  have hB3 : Below w.heap.size w w3 := by rw [hw3]; exact below_setRow HB2.out (by omega) _
  have hq3 := (hoth w1.heap.size (by omega)).trans HQ2.out; have hr3 := (hoth (w.heap.size + 1) (by omega)).trans HR2.out; have q0 : w3.cell? ⟨w1.heap.size, 0, none⟩ = some (.int .i64 a0_0) := (Af hq3 0).trans rfl; have q1 : w3.cell? ⟨w1.heap.size, 1, none⟩ = some (.int .i64 a0_1) := (Af hq3 1).trans rfl; have q2 : w3.cell? ⟨w1.heap.size, 2, none⟩ = some (.slice (some ⟨g, 0, none⟩) n n) := (Af hq3 2).trans rfl; have r0 : w3.cell? ⟨w.heap.size + 1, 0, none⟩ = some (.int .i64 0) := (Af hr3 0).trans rfl; have r1 : w3.cell? ⟨w.heap.size + 1, 1, none⟩ = some (.int .i64 0) := (Af hr3 1).trans rfl; have r2 : w3.cell? ⟨w.heap.size + 1, 2, none⟩ = some (.slice none 0 0) := (Af hr3 2).trans rfl; have f0 : w3.frozen? ⟨w.heap.size + 1, 0, none⟩ = false := Ag hr3 0; have f1 : w3.frozen? ⟨w.heap.size + 1, 1, none⟩ = false := Ag hr3 1; have f2 : w3.frozen? ⟨w.heap.size + 1, 2, none⟩ = false := Ag hr3 2; have HG3 := Ae.mk hg3; have HB3 := Ae.mk hB3; have HR3 := Ae.mk hr3; clear hw3 hg3 hB3 hr3 hq3 hoth cp2 cq2 HSRC HNL HFT HONE HP2 HR2 HQ2 HG2 HB2
  go_wp2
  refine bodyPost_ret (results_cell_row rfl _ _ (w.heap.size + 1) 24 #[.int .i64 a0_0, .int .i64 a0_1, .slice (some ⟨g, 0, none⟩) n n] (0, 0) _ rfl (Az (Az (Az HR3.out 0 _ rfl) 1 _ rfl) 2 _ rfl) Try.underlying24 rfl (by kernel_rfl)) rfl ?_; have hR := R_words (base := w.heap.size) (ok := fun k => k = g) l0_2 HG3.out (by omega) (by have := HNN.out; omega) rfl; rw [← HNN.out] at hR; have hne : ∀ k, k = g → k ≠ w.heap.size + 1 := fun k hk => by omega
  exact ⟨_, rfl, Kd.Bt (Kd.Bn (Kd.Bn (Kd.Bn hR hne _) hne _) hne _) (fun _ _ => trivial), ((HB3.out.setCell (show w.heap.size ≤ w.heap.size + 1 by omega) _).setCell (show w.heap.size ≤ w.heap.size + 1 by omega) _).setCell (show w.heap.size ≤ w.heap.size + 1 by omega) _⟩
end Go.Proofs.Ytbfimplajocmmaa

