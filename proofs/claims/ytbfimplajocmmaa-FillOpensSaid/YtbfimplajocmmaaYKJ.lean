import Derived.Test.YtbfimplajocmmaaYH1
section
open Go Go.RowKit Go.Proofs.YtbfimplajocmmaaW.PrintWords Go.Proofs.YtbfimplajocmmaaW.PrintLast Go.Proofs.YtbfimplajocmmaaW.PrintMore
attribute [local go_sem ↓] Go.wp_at_zero Go.wp_at_succ
set_option linter.unusedVariables false
set_option linter.unusedSimpArgs false
namespace Go.Proofs.Ytbfimplajocmmaa.BK
def mkv (m i : Int) : Int := wrap64 ((Int.tmod (wrap64 ((wrap64 ((wrap64 (m * 31)) + (wrap64 (i * 7)))) + 1)) 250) + 1)
theorem mark_any (m i : Int) (w : World) : Calls Try.prog 57 #[.int .i64 m, .int .i64 i] w fun e w' => e = .returned (.int .i64 (mkv m i)) ∧ w = w' := by
 go_enter Try.func57, Try.ntmps57
 go_wp2
 go_ret
 exact ⟨rfl, rfl⟩
def mks (m : Int) (n : Nat) : List Int := (List.range n).map fun i : Nat => mkv m (i : Int)
theorem mks_len (m : Int) (n : Nat) : (mks m n).length = n := by simp [mks]
theorem mks_succ (m : Int) (n : Nat) : mks m (n + 1) = mks m n ++ [mkv m (n : Int)] := by simp [mks, List.range_succ]
theorem mks_get (m : Int) (n i : Nat) (h : i < n) : (mks m n).getD i 0 = mkv m (i : Int) := by
 rw [List.getD_eq_getElem?_getD, List.getElem?_eq_getElem (by rw [mks_len]; exact h)]
 simp [mks]
theorem info3 : (Try.prog.info? 3).map (fun i => (i.zero, i.size, i.bytes)) = some (some (.int .i64 0), 1, 8) := by kernel_rfl
theorem info31 : (Try.prog.info? 35).map (fun i => (i.zero, i.size, i.bytes)) = some (some (.slice none 0 0), 1, 24) := by kernel_rfl
def cellsOf (m : Int) (cur : List Value) (k : Nat) : Array Value := (nums .i64 (mks m k) ++ cur.drop k).toArray
theorem cells_zero (m : Int) (cur : List Value) : cellsOf m cur 0 = cur.toArray := by simp [cellsOf, mks, nums]
theorem cells_all (m : Int) (cur : List Value) : cellsOf m cur cur.length = (nums .i64 (mks m cur.length)).toArray := by
 unfold cellsOf; rw [List.drop_of_length_le (Nat.le_refl _), List.append_nil]
structure Wr (g : Nat) (w W : World) : Prop where
 blk : ∀ b, b ≠ g → W.heap[b]? = w.heap[b]?
 sz : W.heap.size = w.heap.size
 below : Below g w W
theorem Wr.refl (g : Nat) (w : World) : Wr g w w := ⟨fun _ _ => rfl, rfl, Below.refl _ _⟩
theorem Wr.set {g : Nat} {w W : World} (h : Wr g w W) (i : Nat) (u : Value) : Wr g w (W.setCell ⟨g, i, none⟩ u) :=
 ⟨fun b hb => (Below.heap_setCell W ⟨g, i, none⟩ u b hb).trans (h.blk b hb), by show (W.heap.modify _ _).size = _; rw [Array.size_modify]; exact h.sz, h.below.setCell (Nat.le_refl _) _⟩
theorem gd_left {α : Type} (a b : List α) (i : Nat) (d : α) (h : i < a.length) : (a ++ b).getD i d = a.getD i d := by simp [List.getD_eq_getElem?_getD, List.getElem?_append_left h]
theorem gd_last {α : Type} (a : List α) (x d : α) : (a ++ [x]).getD a.length d = x := by simp [List.getD_eq_getElem?_getD]
structure BK (w : World) (base kb : Nat) (P : Nat → Prop) (v vm : Value) (L : List (List Int)) (ms : List Int) : Prop where
 b : w.heap[kb]? = some (.cells #[.slice none 0 0, .slice none 0 0, .slice none 0 0, v, .slice none 0 0, .slice none 0 0, .slice none 0 0, vm] 38 (0, 0))
 le : base ≤ kb
 nk : ¬ P kb
 r : (Kd.slice 3 (Kd.int .i64)).R 35 w base (fun k => P k ∧ some k ≠ vm.ownBlock) v L
 m : (Kd.int .i64).R 3 w base P vm ms
 len : L.length = ms.length
 val : ∀ j, j < L.length → L.getD j [] = mks (ms.getD j 0) (L.getD j []).length
theorem cut_cap {P : Program} (t e : TypeId) (kh : IntKind) {i : TypeInfo} (ht : P.underlying t = some (.slice e)) (hi : P.info? e = some i) (A : Option Addr) (n c : Nat) :
  ∀ W : World, (Instr.slice t (.slice A n c) none (some (.int kh (c : Int))) none).run P W = .ok (.slice A c c) W := by
 intro W; have hel : P.elem t = e := by simp [Program.elem, ht]
 have hu : P.underlying t = some (.slice (P.elem t)) := by rw [hel]; exact ht
 have ha : (A.map fun x => x.add 0) = A := by cases A <;> simp [Addr.add]
 rw [run_slice_h W t A n c hu kh (c : Int) (by omega) (by omega), hel]
 simp [sizeOf, typeInfo, hi, sliced, Result.andThen, ha]
def ST (C : Nat) (ok : Nat → Prop) (A : Option Addr) (c : Nat) (m : Int) (w : World) (k : Nat) (W : World) : Prop :=
 (A = none ∧ c = 0 ∧ W = w) ∨ ∃ g cur, A = some ⟨g, 0, none⟩ ∧ C ≤ g ∧ ok g ∧ g < w.heap.size ∧ W.heap[g]? = some (.cells (cellsOf m cur k) 3 (0, 0)) ∧ cur.length = c ∧ Wr g w W
end Go.Proofs.Ytbfimplajocmmaa.BK
end
section
open Go Go.RowKit Go.Proofs.YtbfimplajocmmaaW.PrintWords Go.Proofs.YtbfimplajocmmaaW.PrintLast Go.Proofs.YtbfimplajocmmaaW.PrintMore
attribute [local go_sem ↓] Go.wp_at_zero Go.wp_at_succ
set_option linter.unusedVariables false
set_option linter.unusedSimpArgs false
namespace Go.Proofs.Ytbfimplajocmmaa.BS
open BK (mkv mark_any info3 info31 Wr gd_left gd_last cut_cap)
def mkw (m i : Int) : Int := IntKind.u32.wrap (BK.mkv m i)
theorem info76 : (Try.prog.info? 28).map (fun i => (i.zero, i.size, i.bytes)) = some (some (.int .u32 0), 1, 4) := by kernel_rfl
theorem info22 : (Try.prog.info? 22).map (fun i => (i.zero, i.size, i.bytes)) = some (some (.slice none 0 0), 1, 24) := by kernel_rfl
def mks (m : Int) (n : Nat) : List Int := (List.range n).map fun i : Nat => mkw m (i : Int)
theorem mks_len (m : Int) (n : Nat) : (mks m n).length = n := by simp [mks]
theorem mks_succ (m : Int) (n : Nat) : mks m (n + 1) = mks m n ++ [mkw m (n : Int)] := by simp [mks, List.range_succ]
theorem mks_get (m : Int) (n i : Nat) (h : i < n) : (mks m n).getD i 0 = mkw m (i : Int) := by
 rw [List.getD_eq_getElem?_getD, List.getElem?_eq_getElem (by rw [mks_len]; exact h)]
 simp [mks]
def cellsOf (m : Int) (cur : List Value) (k : Nat) : Array Value := (nums .u32 (mks m k) ++ cur.drop k).toArray
theorem cells_zero (m : Int) (cur : List Value) : cellsOf m cur 0 = cur.toArray := by simp [cellsOf, mks, nums]
theorem cells_put (m : Int) (cur : List Value) (k : Nat) (h : k < cur.length) : (cellsOf m cur k).setIfInBounds k (.int .u32 (mkw m (k : Int))) = cellsOf m cur (k + 1) := by
 have hl : (nums .u32 (mks m k)).length = k := by simp [nums, mks_len]
 unfold cellsOf; rw [List.setIfInBounds_toArray]
 congr 1
 rw [List.set_append_right _ _ (by omega), hl, Nat.sub_self, List.drop_eq_getElem_cons h, List.set_cons_zero, mks_succ]
 simp [nums]
theorem cells_get (m : Int) (cur : List Value) (k : Nat) (h : k < cur.length) : (cellsOf m cur k)[k]? = some (cur[k]) := by
 have hl : (nums .u32 (mks m k)).length = k := by simp [nums, mks_len]
 unfold cellsOf
 simp only [List.getElem?_toArray]
 rw [List.getElem?_append_right (by omega), hl, Nat.sub_self, List.drop_eq_getElem_cons h]; rfl
theorem cells_all (m : Int) (cur : List Value) : cellsOf m cur cur.length = (nums .u32 (mks m cur.length)).toArray := by
 unfold cellsOf; rw [List.drop_of_length_le (Nat.le_refl _), List.append_nil]
structure BS (w : World) (base kb : Nat) (P : Nat → Prop) (v vm : Value) (L : List (List Int)) (ms : List Int) : Prop where
 b : w.heap[kb]? = some (.cells #[v, .slice none 0 0, .slice none 0 0, .slice none 0 0, vm, .slice none 0 0, .slice none 0 0, .slice none 0 0] 38 (0, 0))
 le : base ≤ kb
 nk : ¬ P kb
 r : (Kd.slice 28 (Kd.int .u32)).R 22 w base (fun k => P k ∧ some k ≠ vm.ownBlock) v L
 m : (Kd.int .i64).R 3 w base P vm ms
 len : L.length = ms.length
 val : ∀ j, j < L.length → L.getD j [] = mks (ms.getD j 0) (L.getD j []).length
theorem BS.move {w W : World} {base kb : Nat} {P : Nat → Prop} {v vm : Value} {L : List (List Int)} {ms : List Int} (h : BS w base kb P v vm L ms) (hm : ∀ k, k < w.heap.size → W.heap[k]? = w.heap[k]?) : BS W base kb P v vm L ms :=
 ⟨(hm kb (Bh h.b)).trans h.b, h.le, h.nk, Kd.Dv h.r (fun k _ hk => hm k hk), Kd.Dv h.m (fun k _ hk => hm k hk), h.len, h.val⟩
theorem BS.later {w W : World} {base kb : Nat} {P : Nat → Prop} {v vm : Value} {L : List (List Int)} {ms : List Int} (h : BS w base kb P v vm L ms) (hm : ∀ k, k < w.heap.size → W.heap[k]? = w.heap[k]?) : BS W base kb (fun k => P k ∧ k < w.heap.size) v vm L ms :=
 ⟨(hm kb (Bh h.b)).trans h.b, h.le, fun e => h.nk e.1, Kd.Bu (Kd.Dv (Kd.Cp h.r) (fun k _ hk => hm k hk)) (fun k hk => ⟨⟨hk.1.1, hk.2.2.1⟩, hk.1.2⟩), Kd.Bu (Kd.Dv (Kd.Cp h.m) (fun k _ hk => hm k hk)) (fun k hk => ⟨hk.1, hk.2.2.1⟩), h.len, h.val⟩
theorem BS.lt {w : World} {base kb : Nat} {P : Nat → Prop} {v vm : Value} {L : List (List Int)} {ms : List Int} (h : BS w base kb P v vm L ms) : kb < w.heap.size := Bh h.b
theorem R_marks {w : World} {base g : Nat} {ok : Nat → Prop} (l : List Int) (h : w.heap[g]? = some (.cells (nums .u32 l).toArray 28 (0, 0))) (hb : base ≤ g) (hm : l.length ≤ 9223372036854775807) (hok : ok g) : (Kd.int .u32).R 28 w base ok (.slice (some ⟨g, 0, none⟩) l.length l.length) l := by
 refine Kd.Dt (enc := Value.int .u32) ⟨by simp [encs], .inr ⟨g, l.length, (nums .u32 l).toArray, rfl, hb, h, Nat.le_refl _, hm, by simp [nums], ?_⟩⟩ (fun k hk => ?_)
 ·simp only [Nat.mul_one, List.toList_toArray]
  exact List.take_of_length_le (by simp [nums])
 ·have : g = k := by simpa [Value.ownBlock] using hk
  exact this ▸ hok
theorem m_grown {W w2 : World} {base b2 : Nat} {okm okv : Nat → Prop} {v vm : Value} {L : List (List Int)} {ms : List Int} (hm : (Kd.int .i64).R 3 W base okm vm ms) (hv : (Kd.slice 28 (Kd.int .u32)).R 22 W b2 okv v L) (hg : W.grownBy w2 v.ownBlock) : (Kd.int .i64).R 3 w2 base okm vm ms := by
 refine Kd.Bu (Kd.Dw (Kd.Cp hm) hg (fun k hk e => ?_)) (fun k hk => hk.1); obtain ⟨_, _, _, q, hq, cells, hc⟩ := hk; obtain ⟨c2, h2⟩ := Kd.R_typed hv k e.symm; rw [hc] at h2; have hq3 : q = 3 := by simpa [Kd.int, Kd.scalar] using hq
 injection h2 with h2
 injection h2 with _ h2
 exact absurd (hq3.symm.trans h2) (by decide)
def ST (C : Nat) (ok : Nat → Prop) (A : Option Addr) (c : Nat) (m : Int) (w : World) (k : Nat) (W : World) : Prop :=
 (A = none ∧ c = 0 ∧ W = w) ∨ ∃ g cur, A = some ⟨g, 0, none⟩ ∧ C ≤ g ∧ ok g ∧ g < w.heap.size ∧ W.heap[g]? = some (.cells (cellsOf m cur k) 28 (0, 0)) ∧ cur.length = c ∧ Wr g w W
theorem ST.end_ {C c : Nat} {ok : Nat → Prop} {A : Option Addr} {m : Int} {w W : World} (h : ST C ok A c m w c W) (hc : c ≤ 9223372036854775807) : (Kd.int .u32).R 28 W C ok (.slice A c c) (mks m c) ∧ (∀ k, ¬ ok k → W.heap[k]? = w.heap[k]?) ∧ W.heap.size = w.heap.size ∧ Below C w W := by
 rcases h with ⟨rfl, rfl, rfl⟩ | ⟨g, cur, rfl, hg, hok, hlt, hh, hl, hw⟩
 ·exact ⟨Kd.Ct _ _ _ _ _, fun _ _ => rfl, rfl, Below.refl _ _⟩
 ·subst hl
  rw [cells_all] at hh; have hr := R_marks (base := C) (ok := ok) (mks m cur.length) hh hg (by rw [mks_len]; exact hc) hok; rw [mks_len] at hr; exact ⟨hr, fun k hk => hw.blk k (fun e => hk (e ▸ hok)), hw.sz, hw.below.mono hg⟩
set_option maxRecDepth 100000 in
set_option maxHeartbeats 4000000 in
theorem Smps_gen (w0 w : World) (base kb : Nat) (P PB okl : Nat → Prop) (v vm : Value) (L : List (List Int)) (ms : List Int) (hB : BS w base kb PB v vm L ms) (hb0 : Below base w0 w) (hPB : ∀ k, PB k → P k) (hnk : ¬ P kb) (hP : ∀ k, w.heap.size ≤ k → P k) (l : Value) (xs : List Int) (hl : (Kd.int .u32).R 28 w base okl l xs) (hd : ∀ k, okl k → P k ∧ ¬ PB k) (m : Int) (hL : L.length ≤ 1000) :
  Calls Try.prog 56 #[.pointer (some ⟨kb, 0, none⟩), l, .int .i64 m] w fun e w' => e = .returned (.tuple #[]) ∧ (∃ v' vm' n, BS w' base kb P v' vm' (L ++ [mks m n]) (ms ++ [m])) ∧ Below base w0 w' ∧ (∀ k, k < w.heap.size → ¬ P k → k ≠ kb → w'.heap[k]? = w.heap[k]?) ∧ w.heap.size ≤ w'.heap.size := by
 obtain ⟨i0, hi, hz0, hz1, hz2⟩ := info_parts info76
 obtain ⟨A, c, hls, hcm, hst⟩ : ∃ A c, l = .slice A xs.length c ∧ c ≤ 9223372036854775807 ∧ ST base okl A c m w 0 w := by
  obtain ⟨ho1, ho2⟩ := Kd.own_of_R (enc := Value.int .u32) hl
  rcases ho2 with ⟨h1, h2⟩ | ⟨g, cap, cur, h1, h2, h3, h4, h5, h6, h7⟩
  ·exact ⟨none, 0, by rw [h1, h2], by omega, .inl ⟨rfl, rfl, rfl⟩⟩
  ·refine ⟨some ⟨g, 0, none⟩, cap, h1, by unfold maxLen at h5; omega, .inr ⟨g, cur.toList, rfl, h2, hl.1 g (by rw [h1]; rfl), Bh h3, ?_, by simp [h6], Wr.refl _ _⟩⟩
   rw [cells_zero]; exact h3
 subst hls; have hcut := cut_cap (P := Try.prog) 22 28 .i64 Try.underlying22 hi A xs.length c; have HST := Ac.mk hst; have HBK := Ac.mk hB; have HB0 := Ac.mk hb0; have HPP := Ac.mk hP; have HPB := Ac.mk hPB; have HD := Ac.mk hd; have HNK := Ac.mk hnk; clear hst hB hb0 hP hl hz0 hz1 hz2 hPB hd hnk; go_enter Try.func56, Try.ntmps56
 go_wp2
 go_loopw [6] (fun i wr => ∃ k : Nat, k ≤ c ∧ i = .int .i64 k ∧ Ac (ST base okl A c m w k wr)) (fun i _ => c - (intOf i).toNat)
 case atStart => exact ⟨0, Nat.zero_le _, rfl, HST⟩
 case round =>
  obtain ⟨k, hk, rfl, hs⟩ := hrel; clear HST hcut
  by_cases hlt : k < c
  ·obtain ⟨g, cur, rfl, hg, hog, hlg, hh, hln, hw⟩ : ∃ g cur, A = some ⟨g, 0, none⟩ ∧ base ≤ g ∧ okl g ∧ g < w.heap.size ∧ wr.heap[g]? = some (.cells (cellsOf m cur k) 28 (0, 0)) ∧ cur.length = c ∧ Wr g w wr := by
    rcases hs.out with ⟨_, h2, _⟩ | h
    ·omega
    ·exact h
   obtain ⟨x, c1⟩ : ∃ x, wr.cell? ⟨g, k, none⟩ = some x := ⟨_, (Ad hh k).trans (cells_get m cur k (by omega))⟩; have f1 : wr.frozen? ⟨g, k, none⟩ = false := Af hh k
   have hnew : Ac (ST base okl (some ⟨g, 0, none⟩) c m w (k + 1) (wr.setCell ⟨g, k, none⟩ (.int .u32 (mkw m (k : Int))))) :=
    ⟨.inr ⟨g, cur, rfl, hg, hog, hlg, Ax hh k _ (cells_put m cur k (by omega)), hln, hw.set k _⟩⟩
   clear hh hln hw hs hg hlg hog
   go_wp2_with (go_at_call 57; refine (mark_any _ _ _).mono ?_; rintro e w' ⟨rfl, rfl⟩)
   go_roundw
   case rel => exact ⟨k + 1, by omega, by go_num, hnew⟩
   case measure => simp [intOf]; omega
  ·obtain rfl : k = c := by omega
   obtain ⟨hr, hold, hsz, hbl⟩ := hs.out.end_ hcm
   have hbk : BS wr base kb PB v vm L ms := by
    have h := HBK.out; exact ⟨(hold kb (fun e => HNK.out (HD.out kb e).1)).trans h.b, h.le, h.nk, Kd.Dv h.r (fun j hj _ => hold j (fun e => (HD.out j e).2 hj.1)), Kd.Dv h.m (fun j hj _ => hold j (fun e => (HD.out j e).2 hj)), h.len, h.val⟩
   have hfr : ∀ j, ¬ P j → wr.heap[j]? = w.heap[j]? := fun j hj => hold j (fun e => hj (HD.out j e).1)
   have hlt1 := HBK.out.lt; have hle1 := HBK.out.le; have hb2 : Below base w0 wr := HB0.out.trans hbl; have hv3 := (Ad hbk.b 0).trans rfl; have HH := Ac.mk hbk; have HR := Ac.mk hr; have HF := Ac.mk hfr; have HB2 := Ac.mk hb2; have hgz : base ≤ wr.heap.size := by omega
   have hln : L.length ≤ 1000 := hL; have hmsl : ms.length ≤ 1000 := by have := hbk.len; omega
   have hfv : ∀ j, v.ownBlock = some j → PB j ∧ some j ≠ vm.ownBlock := fun j hj => hbk.r.1 j hj
   have hfm : ∀ j, vm.ownBlock = some j → PB j := fun j hj => hbk.m.1 j hj
   have hvmb : ∀ j, vm.ownBlock = some j → j < wr.heap.size := fun j hj => ((Kd.Cp hbk.m).1 j hj).2.2.1
   have hrm : (Kd.slice 28 (Kd.int .u32)).R 22 wr base (fun j => P j ∧ some j ≠ vm.ownBlock) v L := Kd.Bu hbk.r (fun j hj => ⟨HPB.out j hj.1, hj.2⟩); have HRM := Ac.mk hrm; have HFV := Ac.mk hfv; have HFM := Ac.mk hfm; have hszle : w.heap.size ≤ wr.heap.size := by omega
   clear HBK HB0 hs hbk hold hbl hb2 hr hfr hlt hk hlt1 hle1 hfv hfm hrm hsz
   go_wp2_with (at_builtin; refine Kd.Ds (Kd.slice 28 (Kd.int .u32)) (w0 := w0) base rfl (.tmp 28) (.tmp 30) 31 22 (.slice none 0 0) 24 rfl Try.underlying31 info22 rfl (by decide) (by omega) v L (mks m k) [.slice A k k] (fun j => P j ∧ some j ≠ vm.ownBlock) okl rfl rfl ?aP ?aO ?aF HRM.out HB2.out hgz (by omega) ?_)
   case aP => exact ⟨_, rfl, HR.out⟩
   case aO => exact fun j hj => ⟨⟨(HD.out j hj).1, fun e => (HD.out j hj).2 (HFM.out j e.symm)⟩, fun e => (HD.out j hj).2 (HFV.out j e.symm).1⟩
   case aF => exact fun j hj => ⟨HPP.out j (by omega), fun e => by have := hvmb j e.symm; omega⟩
   intro v1 w2 hR1 hB1 hg1 hat1; obtain ⟨Av, cv, ev⟩ := Kd.B0 hR1; subst ev
   have hkv : some kb ≠ v.ownBlock := fun e => by
    obtain ⟨c2, h2⟩ := Kd.R_typed HH.out.r kb e.symm; rw [HH.out.b] at h2; cases h2
   have hkm : some kb ≠ vm.ownBlock := fun e => HH.out.nk (HH.out.m.1 kb e.symm)
   have hb1 := B3 HH.out.b hg1 hkv; have hm1 := Kd.Bu (m_grown HH.out.m HH.out.r hg1) (fun j hj => HPB.out j hj); have hv3 : w2.cell? ⟨kb, 0, none⟩ = some v := (Ad hb1 0).trans rfl; have hf3 := Af hb1 0; have hb3 := Ax hb1 0 (.slice Av (L ++ [mks m k]).length cv) rfl; have hm3 := Kd.Bq hm1 (p := ⟨kb, 0, none⟩) (fun k hk e => HNK.out (by have e2 : k = kb := e; exact e2 ▸ hk)) (.slice Av (L ++ [mks m k]).length cv); have hR3 := Kd.Bq hR1 (p := ⟨kb, 0, none⟩) (fun k hk e => HNK.out (by have e2 : k = kb := e; exact e2 ▸ hk.1)) (.slice Av (L ++ [mks m k]).length cv); have hB3 := hB1.setCell (p := ⟨kb, 0, none⟩) HH.out.le (.slice Av (L ++ [mks m k]).length cv)
   have hF3 : ∀ j, j < w.heap.size → ¬ P j → j ≠ kb → (w2.setCell ⟨kb, 0, none⟩ (.slice Av (L ++ [mks m k]).length cv)).heap[j]? = w.heap[j]? := fun j hj hp hk => by
    rw [Below.heap_setCell _ _ _ _ hk, hg1.block j (by omega) (fun e => hp (HPB.out j (HFV.out j e.symm).1)), HF.out j hp]
   have hz3 : wr.heap.size ≤ (w2.setCell ⟨kb, 0, none⟩ (.slice Av (L ++ [mks m k]).length cv)).heap.size := by
    show _ ≤ (w2.heap.modify _ _).size; rw [Array.size_modify]; exact hg1.size
   have HB3 := Ac.mk hb3; have HM3 := Ac.mk hm3; have HR3 := Ac.mk hR3; have HW3 := Ac.mk hB3; have HF3 := Ac.mk hF3; clear hR1 hB1 hg1 hat1 hb1 hm1 hb3 hm3 hR3 hB3 hF3 HF HB2 HR
   go_upto_region 6 with fail
   have e1 : (L ++ [mks m k]).length = L.length + 1 := by simp
   rw [e1] at HB3 HM3 HR3 HW3 HF3 hz3; generalize w2.setCell ⟨kb, 0, none⟩ (.slice Av (L.length + 1) cv) = w3 at HB3 HM3 HR3 HW3 HF3 hz3 ⊢; clear hv3 hf3; refine start_ (n := 13) (S := fun w' => w'.cell? ⟨kb, 4, none⟩ = some vm ∧ True) (ds := [12]) #[false, false, false, false, false, false, false, false, false, false, false, false, false] (by kernel_rfl) rfl rfl ⟨(Ad HB3.out 4).trans rfl, trivial⟩ (fun hHeld => ?_); have hb4 : w3.drew.heap[kb]? = _ := HB3.out; have hm4 : (Kd.int .i64).R 3 w3.drew base P vm ms := HM3.out; have hr4 : (Kd.slice 28 (Kd.int .u32)).R 22 w3.drew base (fun j => P j ∧ some j ≠ vm.ownBlock) (.slice Av (L.length + 1) cv) (L ++ [mks m k]) := HR3.out; have hw4 : Below base w0 w3.drew := Ai HW3.out; have hf4 : ∀ j, j < w.heap.size → ¬ P j → j ≠ kb → w3.drew.heap[j]? = w.heap[j]? := HF3.out; have hz4 : wr.heap.size ≤ w3.drew.heap.size := hz3; have HB4 := Ac.mk hb4; have HM4 := Ac.mk hm4; have HR4 := Ac.mk hr4; have HW4 := Ac.mk hw4; have HF4 := Ac.mk hf4; clear hb4 hm4 hr4 hw4 hf4 hz3 HB3 HM3 HR3 HW3 HF3; generalize w3.drew = w4 at HB4 HM4 HR4 HW4 HF4 hz4 hHeld ⊢; refine pure_ (i := 0) (N := (some 34)) (v := ?_) (a' := ?_) #[true, false, false, false, false, false, false, false, false, false, false, false, false] rfl rfl (by kernel_rfl) (fun _ _ _ h => h) (Or.inl ⟨by rfl, ?_⟩) ?_ ?_; rotate_left
   ·intro w'
    go_simp
    with_reducible rfl
   rotate_left
   ·simp only [Act.put, List.setIfInBounds_toArray, List.set_cons_zero, List.set_cons_succ, i64_w, i32_w]
    rfl
   refine pure_ (i := 1) (N := (some 35)) (v := ?_) (a' := ?_) #[true, true, false, false, false, false, false, false, false, false, false, false, false] rfl rfl (by kernel_rfl) (fun _ _ _ h => h) (Or.inl ⟨by rfl, ?_⟩) ?_ ?_; rotate_left
   ·intro w'
    go_simp
    with_reducible rfl
   rotate_left
   ·simp only [Act.put, List.setIfInBounds_toArray, List.set_cons_zero, List.set_cons_succ, i64_w, i32_w]
    rfl
   refine pure_ (i := 2) (N := (some 36)) (v := ?_) (a' := ?_) #[true, true, true, false, false, false, false, false, false, false, false, false, false] rfl rfl (by kernel_rfl) (fun _ _ _ h => h) (Or.inl ⟨by rfl, ?_⟩) ?_ ?_; rotate_left
   ·intro w'
    go_simp
    with_reducible rfl
   rotate_left
   ·simp only [Act.put, List.setIfInBounds_toArray, List.set_cons_zero, List.set_cons_succ, i64_w, i32_w]
    rfl
   refine pure_ (i := 3) (N := (some 37)) (v := ?_) (a' := ?_) #[true, true, true, true, false, false, false, false, false, false, false, false, false] rfl rfl (by kernel_rfl) (fun _ _ _ h => h) (Or.inl ⟨by rfl, ?_⟩) ?_ ?_; rotate_left
   ·intro w'
    go_simp
    with_reducible rfl
   rotate_left
   ·simp only [Act.put, List.setIfInBounds_toArray, List.set_cons_zero, List.set_cons_succ, i64_w, i32_w]
    rfl
   refine pure_ (i := 4) (N := (some 38)) (v := ?_) (a' := ?_) #[true, true, true, true, true, false, false, false, false, false, false, false, false] rfl rfl (by kernel_rfl) (fun _ _ _ h => h) (Or.inl ⟨by rfl, ?_⟩) ?_ ?_; rotate_left
   ·intro w'
    go_simp
    with_reducible rfl
   rotate_left
   ·simp only [Act.put, List.setIfInBounds_toArray, List.set_cons_zero, List.set_cons_succ, i64_w, i32_w]
    rfl
   refine pure_ (i := 6) (N := (some 40)) (v := ?_) (a' := ?_) #[true, true, true, true, true, false, true, false, false, false, false, false, false] rfl rfl (by kernel_rfl) (fun _ _ _ h => h) (Or.inl ⟨by rfl, ?_⟩) ?_ ?_; rotate_left
   ·intro w'
    go_simp
    with_reducible rfl
   rotate_left
   ·simp only [Act.put, List.setIfInBounds_toArray, List.set_cons_zero, List.set_cons_succ, i64_w, i32_w]
    rfl
   refine pure_ (i := 9) (N := (some 43)) (v := ?_) (a' := ?_) #[true, true, true, true, true, false, true, false, false, true, false, false, false] rfl rfl (by kernel_rfl) (fun _ _ _ h => h) (Or.inl ⟨by rfl, ?_⟩) ?_ ?_; rotate_left
   ·intro w'
    go_simp
    with_reducible rfl
   rotate_left
   ·simp only [Act.put, List.setIfInBounds_toArray, List.set_cons_zero, List.set_cons_succ, i64_w, i32_w]
    rfl
   refine pure_ (i := 10) (N := (some 44)) (v := ?_) (a' := ?_) #[true, true, true, true, true, false, true, false, false, true, true, false, false] rfl rfl (by kernel_rfl) (fun _ _ _ h => h) (Or.inl ⟨by rfl, ?_⟩) ?_ ?_; rotate_left
   ·intro w'
    go_simp
    with_reducible rfl
   rotate_left
   ·simp only [Act.put, List.setIfInBounds_toArray, List.set_cons_zero, List.set_cons_succ, i64_w, i32_w]
    rfl
   refine take_ (i := 5) (N := (some 39)) (v := ?_) (a' := ?_) #[true, true, true, true, true, true, true, false, false, true, true, false, false] rfl rfl (by kernel_rfl) (fun _ _ _ h => h) (Or.inl ⟨by rfl, ?_⟩) hHeld ?_ ?_; rotate_left
   ·rintro w' ⟨s0, _⟩
    go_simp
    with_reducible rfl
   rotate_left
   ·simp only [Act.put, List.setIfInBounds_toArray, List.set_cons_zero, List.set_cons_succ, i64_w, i32_w]
    rfl
   refine one_ (i := 7) (N := (some 41)) #[true, true, true, true, true, true, true, true, false, true, true, false, false] rfl rfl (by kernel_rfl) (by decide) (fun K hK => ?_); refine value_ (v := .slice (some ⟨w4.heap.size, 0, none⟩) 1 1) (w1 := w4.alloc (.cells #[.int .i64 m] 3)) (by rfl) rfl (by go_simp) ?_; refine hK.out _ _ ⟨(Ad (Aj HB4.out _) 4).trans rfl, trivial⟩ (fun hHeld => ?_); clear hK K; refine norm_ (a' := ?_) ?_ ?_; rotate_left
   ·simp only [Act.put, List.setIfInBounds_toArray, List.set_cons_zero, List.set_cons_succ]
    rfl
   refine one_ (i := 8) (N := (some 42)) #[true, true, true, true, true, true, true, true, true, true, true, false, false] rfl rfl (by kernel_rfl) (by decide) (fun K hK => ?_); refine Kd.R_append_step (Kd.int .i64) (w0 := w0) base (by rfl) (.tmp 39) (.tmp 41) 35 3 (.int .i64 0) 8 rfl Try.underlying35 info3 rfl (by decide) (by omega) vm ms m [.int .i64 m] P (fun _ => False) rfl rfl rfl (fun _ hk => hk.elim) (fun j hj => HPP.out j (by omega)) HM4.out HW4.out (by omega) (by omega) ?_; intro v2 w5 hR5 hB5 hg5 hat5; obtain ⟨Am, cm, em⟩ := Kd.B0 hR5; subst em; have e5 : (ms ++ [m]).length = ms.length + 1 := by simp
   rw [e5] at hR5 hat5 ⊢; show K (Act.put _ (some 42) (.slice Am (ms.length + 1) cm)) w5; have hb5 := B3 HB4.out hg5 hkm; refine hK.out _ _ ⟨(Ad hb5 4).trans rfl, trivial⟩ (fun hHeld => ?_); clear hK K; refine norm_ (a' := ?_) ?_ ?_; rotate_left
   ·simp only [Act.put, List.setIfInBounds_toArray, List.set_cons_zero, List.set_cons_succ]
    rfl
   refine pure_ (i := 11) (N := (some 45)) (v := ?_) (a' := ?_) #[true, true, true, true, true, true, true, true, true, true, true, true, false] rfl rfl (by kernel_rfl) (fun _ _ _ h => h) (Or.inl ⟨by rfl, ?_⟩) ?_ ?_; rotate_left
   ·intro w'
    go_simp
    with_reducible rfl
   rotate_left
   ·simp only [Act.put, List.setIfInBounds_toArray, List.set_cons_zero, List.set_cons_succ, i64_w, i32_w]
    rfl
   refine last_ (i := 12) (N := none) #[true, true, true, true, true, true, true, true, true, true, true, true, true] rfl rfl (by kernel_rfl) (by decide) (fun K hK => ?_); have cv7 : w5.cell? ⟨kb, 4, none⟩ = some vm := (Ad hb5 4).trans rfl; have fv7 := Af hb5 4; refine skip_ (w1 := ?_) (by rfl) rfl ?_ ?_; rotate_left
   ·go_simp
    rfl
   refine hK.out _ _ ?_; clear hK K; refine done_ (by kernel_rfl) ?_
   go_wp2
   go_end0
   refine ⟨rfl, ⟨_, _, k, Ax hb5 4 _ rfl, HH.out.le, HNK.out, ?_, ?_, by simp [HH.out.len], ?_⟩, hB5.setCell (p := ⟨kb, 4, none⟩) HH.out.le _, fun j hj hp hk => ?_, ?_⟩
   ·refine Kd.Bq (Kd.Bu (Kd.Dw (Kd.Cp HR4.out) hg5 (fun j hj => hj.1.2)) (fun j hj => ⟨hj.1.1, fun e => ?_⟩)) (p := ⟨kb, 4, none⟩) (fun j hj e => HNK.out (by have e2 : j = kb := e; exact e2 ▸ hj.1)) _
    rcases hat5 with h | ⟨b, h, hb9⟩
    ·exact hj.1.2 (e.trans h)
    ·have e3 := e.trans h
     injection e3 with e3
     have := hj.2.2.1
     omega
   ·exact Kd.Bq hR5 (p := ⟨kb, 4, none⟩) (fun j hj e => HNK.out (by have e2 : j = kb := e; exact e2 ▸ hj)) _
   ·intro j hj
    rw [List.length_append, List.length_singleton] at hj; have hlm := HH.out.len
    rcases Nat.lt_or_ge j L.length with h | h
    ·rw [gd_left _ _ _ _ h, gd_left _ _ _ _ (by omega)]
     exact HH.out.val j h
    ·obtain rfl : j = L.length := by omega
     rw [gd_last, hlm, gd_last, mks_len]
   ·rw [Below.heap_setCell _ _ _ _ hk, hg5.block j (by omega) (fun e => hp (HPB.out j (HFM.out j e.symm))), HF4.out j hj hp hk]
   ·show _ ≤ (w5.heap.modify _ _).size
    rw [Array.size_modify]; have := hg5.size
    omega
end Go.Proofs.Ytbfimplajocmmaa.BS
end
