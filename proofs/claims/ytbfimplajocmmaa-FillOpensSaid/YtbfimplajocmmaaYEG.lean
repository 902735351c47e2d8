import Derived.Test.YtbfimplajocmmaaYH1
import Derived.Test.YtbfimplajocmmaaYPFAx2
import Derived.Test.YtbfimplajocmmaaYSQ
section
open Go Go.RowKit Go.Proofs.YtbfimplajocmmaaW.PrintWords Go.Proofs.YtbfimplajocmmaaW.PrintLast Go.Proofs.YtbfimplajocmmaaW.PrintMore
attribute [local go_sem ↓] Go.wp_at_zero Go.wp_at_succ
set_option linter.unusedVariables false
set_option linter.unusedSimpArgs false
namespace Go.Proofs.Ytbfimplajocmmaa
open PFA
def Full (v : Value) : Prop := ∀ A n c, v = .slice A n c → c = n
theorem R_bools {w : World} {base g : Nat} {ok : Nat → Prop} (l : List Bool) (h : w.heap[g]? = some (.cells (bools l).toArray 4 (0, 0))) (hb : base ≤ g) (hm : l.length ≤ 9223372036854775807) (hok : ok g) : Kd.bool.R 4 w base ok (.slice (some ⟨g, 0, none⟩) l.length l.length) l := by
  refine Kd.Dt (enc := Value.bool) ⟨by simp [encs], .inr ⟨g, l.length, (bools l).toArray, rfl, hb, h, Nat.le_refl _, hm, by simp [bools], ?_⟩⟩ (fun k hk => ?_)
  · simp only [Nat.mul_one, List.toList_toArray]
    exact List.take_of_length_le (by simp [bools])
  · have : g = k := by simpa [Value.ownBlock] using hk
    exact this ▸ hok
theorem info4e : (Try.prog.info? 4).map (fun i => (i.zero, i.size, i.bytes)) = some (some (.bool false), 1, 1) := by kernel_rfl
set_option maxRecDepth 100000 in
set_option maxHeartbeats 4000000 in
theorem fill_empty_full (a0 a1 r1 r2 : Int) (r3 : List Bool) (w : World) (h : Dp.f a0 a1 = some (r1, r2, r3)) :
    Calls Try.prog 45 #[.int .i64 a0, .int .i64 a1] w fun e w' => ∃ v2_ : Value, e = .returned (.agg #[.int .i64 r1, .int .i64 r2, v2_]) ∧ Kd.R Kd.bool 4 w' w.heap.size (fun _ => True) v2_ r3 ∧ Below w.heap.size w w' ∧ Full v2_ := by
  unfold Dp.f at h; obtain ⟨m, hm⟩ : ∃ m, m = wrap64 (a0 * a1) := ⟨_, rfl⟩; rw [← hm] at h
  by_cases c1 : 0 ≤ m
  · rw [if_pos c1] at h
    by_cases c2 : m.toNat ≤ 281474976710656
    · rw [if_pos c2] at h
      simp only [Option.some.injEq, Prod.mk.injEq] at h
      obtain ⟨rfl, rfl, rfl⟩ := h; obtain ⟨n, rfl⟩ := Int.eq_ofNat_of_zero_le c1; obtain ⟨i0, hi, hz0, hz1, hz2⟩ := info_parts info4e; have hwm : IntKind.i64.wrap (a0 * a1) = (n : Int) := by rw [i64_w]; exact hm.symm
      have hn : n ≤ 281474976710656 := by simpa using c2
      have hmk : ∀ W0 : World, (Instr.makeSlice 25 (.int .i64 (n : Int)) (.int .i64 (n : Int))).run Try.prog W0 = .ok (.slice (some ⟨W0.heap.size, 0, none⟩) n n) (W0.alloc (.cells (bools (List.replicate n false)).toArray 4)) := by
        intro W0; have h := run_make (P := Try.prog) W0 25 4 i0 _ Try.underlying25 hi hz0 .i64 .i64 (n : Int) (n : Int) (by omega) (by omega) (by rw [hz2]; omega) (by omega); rw [hz1, Nat.mul_one] at h
        have e : madeCells (Value.bool false).cells ((n : Int).toNat) = (bools (List.replicate n false)).toArray := by
          rw [Int.toNat_natCast]
          apply Array.toList_inj.mp
          apply List.ext_getElem
          · simp [madeCells, bools, Value.cells]
          · intro i h1 h2
            simp [madeCells, bools, Value.cells, Nat.mod_one]
        rw [e, Int.toNat_natCast] at h; exact h
      have HM := Ac.mk hm; clear hm c1 c2 hz0 hz1 hz2; go_enter Try.func45, Try.ntmps45
      go_wp2
      refine bodyPost_ret (results_cell_row rfl _ _ w.heap.size 27 #[.int .i64 a0, .int .i64 a1, .slice (some ⟨w.heap.size + 1, 0, none⟩) n n] (0, 0) _ rfl (Aj (Dm _ _) _) Try.underlying27 rfl (by kernel_rfl)) rfl ?_; refine ⟨_, rfl, ?_, Ah (Ah (Below.refl _ _) _) _, fun A m c e => by injection e with _ e1 e2; rw [← e1, ← e2]⟩; have h := R_bools (w := (w.alloc (.cells #[.int .i64 a0, .int .i64 a1, .slice (some ⟨w.heap.size + 1, 0, none⟩) n n] 27)).alloc (.cells (bools (List.replicate n false)).toArray 4)) (base := w.heap.size) (g := w.heap.size + 1) (ok := fun _ => True) (List.replicate n false) (Go.Proofs.Ytbfimplajocmmaa.H.bnew _ (by simp)) (by omega) (by simp; omega) trivial; rw [List.length_replicate] at h
      simpa using h
    · rw [if_neg c2] at h
      cases h
  · rw [if_neg c1] at h
    cases h
end Go.Proofs.Ytbfimplajocmmaa
end
section
open Go Go.RowKit Go.Shelf Go.Proofs.YtbfimplajocmmaaW.PrintWords Go.Proofs.YtbfimplajocmmaaW.PrintLast Go.Proofs.YtbfimplajocmmaaW.PrintMore
attribute [local go_sem] Oper.semAt_some
set_option linter.unusedVariables false
set_option linter.unusedSimpArgs false
namespace Go.Proofs.Ytbfimplajocmmaa
open PFA FM
def edgeAt (w h : Nat) (ways lim : Int) (ms : List Bool) (i : Nat) : Bool := ms.getD i false && ((nbs w h ways i).any (fun k => !(ms.getD k false)) || decide (((nbs w h ways i).length : Int) < lim))
def outOf (n : Nat) (f : Nat → Bool) (k : Nat) : List Bool := (List.range n).map (fun i => decide (i < k) && f i)
theorem outOf_len (n : Nat) (f : Nat → Bool) (k : Nat) : (outOf n f k).length = n := by simp [outOf]
theorem outOf_zero (n : Nat) (f : Nat → Bool) : outOf n f 0 = List.replicate n false := by
 unfold outOf
 apply List.ext_getElem
 ·simp
 ·intro i h1 h2; simp
theorem outOf_set (n : Nat) (f : Nat → Bool) (k : Nat) (hk : k < n) : (outOf n f k).set k (f k) = outOf n f (k + 1) := by
 unfold outOf
 apply List.ext_getElem
 ·simp
 ·intro i h1 h2
  rw [List.getElem_set]
  simp only [List.getElem_map, List.getElem_range]
  by_cases e : k = i
  ·subst e; simp
  ·rw [if_neg e]
   congr 1
   simp only [decide_eq_decide]
   omega
theorem outOf_no (n : Nat) (f : Nat → Bool) (k : Nat) (hk : f k = false) : outOf n f (k + 1) = outOf n f k := by
 unfold outOf
 apply List.map_congr_left
 intro i _
 by_cases e : i = k
 ·subst e; simp [hk]
 ·congr 1
  simp only [decide_eq_decide]
  omega
def Dj.f (a0_0 a0_1 : Int) (l0_2 : List Bool) (a1 : Int) : Option (Int × Int × List Bool × Int) :=
 (Do.f a0_0 a0_1 l0_2 a1).bind fun t => if t.2.2.2 = 0 then
  (if 1 ≤ t.1 ∧ t.1 ≤ 1024 ∧ 1 ≤ t.2.1 ∧ t.2.1 ≤ 1024 ∧ l0_2.length = t.1.toNat * t.2.1.toNat then
   (Dp.f a0_0 a0_1).bind fun e => if e.2.2 = List.replicate l0_2.length false then some (e.1, e.2.1, outOf l0_2.length (edgeAt t.1.toNat t.2.1.toNat t.2.2.1 a1 l0_2) l0_2.length, 0) else none
  else none) else some (0, 0, [], t.2.2.2)
structure EDW (B G O : Nat) (W0 : World) (mask gr : Array Value) (e1 e2 : Int) (v : Value) (out : List Bool) (W : World) : Prop where
 m : W.heap[B]? = some (.cells mask 27 (0, 0))
 r : W.heap[B + 1]? = some (.cells #[.int .i64 0, .int .i64 0, .slice none 0 0] 27 (0, 0))
 g : W.heap[G]? = some (.cells gr 103 (0, 0))
 ob : W.heap[O]? = some (.cells #[.int .i64 e1, .int .i64 e2, v] 27 (0, 0))
 o : Kd.R Kd.bool 4 W B (fun k => G < k ∧ k < O) v out
 below : Below B W0 W
 le : B + 1 < G
 le2 : G < O
theorem EDW.lt {B G O : Nat} {W0 W : World} {mask gr : Array Value} {e1 e2 : Int} {v : Value} {out : List Bool} (H : EDW B G O W0 mask gr e1 e2 v out W) : O < W.heap.size := Bh H.ob
theorem EDW.step {B G O : Nat} {W0 W W' : World} {mask gr : Array Value} {e1 e2 : Int} {v : Value} {out : List Bool} (H : EDW B G O W0 mask gr e1 e2 v out W) (hb : Below W.heap.size W W') : EDW B G O W0 mask gr e1 e2 v out W' :=
 ⟨An H.m hb, An H.r hb, An H.g hb, An H.ob hb, Kd.Az H.o hb, H.below.trans (hb.mono (Nat.le_of_lt (by have := H.lt; have := H.le; have := H.le2; omega))), H.le, H.le2⟩
theorem EDW.kept {B C G O : Nat} {W0 W W' : World} {mask gr : Array Value} {e1 e2 : Int} {v : Value} {out : List Bool} {row : Option Nat} (H : EDW B G O W0 mask gr e1 e2 v out W) (hBC : B ≤ C) (hg : W.grownBy W' row) (hr : ∀ r, row = some r → C ≤ r ∧ ∃ o : Obj, W.heap[r]? = some o ∧ o.isCells = false) : EDW B G O W0 mask gr e1 e2 v out W' := by
 have hr2 : ∀ r, row = some r → ∃ o : Obj, W.heap[r]? = some o ∧ o.isCells = false := fun r e => (hr r e).2
 exact ⟨Cs H.m hg hr2, Cs H.r hg hr2, Cs H.g hg hr2, Cs H.ob hg hr2, R_kept H.o hg hr2, H.below.grown hg (by have := H.lt; have := H.le; have := H.le2; omega) (fun k e => Nat.le_trans hBC (hr k e).1), H.le, H.le2⟩
theorem EDW.far {B G O : Nat} {W0 W : World} {mask gr : Array Value} {e1 e2 : Int} {v : Value} {out : List Bool} (H : EDW B G O W0 mask gr e1 e2 v out W) (p : Addr) (hp : O < p.block) (u : Value) : EDW B G O W0 mask gr e1 e2 v out (W.setCell p u) := by
 have h1 := H.le; have h2 := H.le2; exact ⟨Bd H.m (show B ≠ p.block by omega) _, Bd H.r (show B + 1 ≠ p.block by omega) _, Bd H.g (show G ≠ p.block by omega) _, Bd H.ob (show O ≠ p.block by omega) _, Kd.Bq H.o (fun k hk => by omega) _, H.below.setCell (show B ≤ p.block by omega) _, h1, h2⟩
theorem EDW.put {B G O S cap n : Nat} {W0 W : World} {mask gr : Array Value} {e1 e2 : Int} {out : List Bool} (hl : out.length = n) (H : EDW B G O W0 mask gr e1 e2 (.slice (some ⟨S, 0, none⟩) n cap) out W) (i : Nat) (b : Bool) : EDW B G O W0 mask gr e1 e2 (.slice (some ⟨S, 0, none⟩) n cap) (out.set i b) (W.setCell ⟨S, i, none⟩ (.bool b)) := by
 subst hl; have hS := H.o.1 S rfl; have h1 := H.le; have h2 := H.le2; refine ⟨Bd H.m (show B ≠ S by omega) _, Bd H.r (show B + 1 ≠ S by omega) _, Bd H.g (show G ≠ S by omega) _, Bd H.ob (show O ≠ S by omega) _, ?_, H.below.setCell (show B ≤ S by omega) _, h1, h2⟩; have := (Kd.R_put H.o (i : Int) b).1; rw [Int.toNat_natCast] at this; exact this
theorem EDW.cell {B G O S cap n : Nat} {W0 W : World} {mask gr : Array Value} {e1 e2 : Int} {out : List Bool} (hl : out.length = n) (H : EDW B G O W0 mask gr e1 e2 (.slice (some ⟨S, 0, none⟩) n cap) out W) (i : Nat) (hi : i < out.length) : W.cell? ⟨S, i, none⟩ = some (.bool (out.getD i false)) ∧ W.frozen? ⟨S, i, none⟩ = false := by
 subst hl; have h := Kd.R_cell (enc := Value.bool) false H.o (i : Int) (by omega) (by omega); rw [Int.toNat_natCast] at h; refine ⟨h.1.trans ?_, h.2⟩; unfold rdOf; rw [Int.toNat_natCast]
structure EDI (B G O : Nat) (W0 : World) (mask gr : Array Value) (e1 e2 : Int) (v : Value) (out : List Bool) (Bi i : Nat) (cnt : Int) (ds : List Nat) (W : World) : Prop where
 w : EDW B G O W0 mask gr e1 e2 v out W
 bi : W.heap[Bi]? = some (.cells #[.int .i64 (i : Int)] 3 (0, 0))
 bn : W.heap[Bi + 1]? = some (.cells #[.int .i64 cnt] 3 (0, 0))
 dm : ∀ D ∈ ds, D < Bi ∧ W.heap[D]? = some (.deferred (some []))
 sz : Bi + 4 ≤ W.heap.size
 le : O < Bi
theorem EDI.kept {B G O Bi i : Nat} {W0 W W' : World} {mask gr : Array Value} {e1 e2 cnt : Int} {v : Value} {out : List Bool} {ds : List Nat} {row : Option Nat} (H : EDI B G O W0 mask gr e1 e2 v out Bi i cnt ds W) (hg : W.grownBy W' row) (hr : ∀ r, row = some r → Bi + 4 ≤ r ∧ ∃ o : Obj, W.heap[r]? = some o ∧ o.isCells = false) : EDI B G O W0 mask gr e1 e2 v out Bi i cnt ds W' := by
 have hr2 : ∀ r, row = some r → ∃ o : Obj, W.heap[r]? = some o ∧ o.isCells = false := fun r e => (hr r e).2
 exact ⟨H.w.kept (C := Bi + 4) (by have := H.le; have := H.w.le; have := H.w.le2; omega) hg hr, Cs H.bi hg hr2, Cs H.bn hg hr2, fun D hD => ⟨(H.dm D hD).1, (hg.block D (Bh (H.dm D hD).2) (fun e => by have := (hr D e.symm).1; have := (H.dm D hD).1; omega)).trans (H.dm D hD).2⟩, Nat.le_trans H.sz hg.size, H.le⟩
theorem EDI.count {B G O Bi i : Nat} {W0 W : World} {mask gr : Array Value} {e1 e2 cnt : Int} {v : Value} {out : List Bool} {ds : List Nat} (H : EDI B G O W0 mask gr e1 e2 v out Bi i cnt ds W) (c2 : Int) : EDI B G O W0 mask gr e1 e2 v out Bi i c2 ds (W.setCell ⟨Bi + 1, 0, none⟩ (.int .i64 c2)) := by
 have h1 := H.le; refine ⟨H.w.far _ (show O < Bi + 1 by omega) _, Bd H.bi (show Bi ≠ Bi + 1 by omega) _, Ax H.bn 0 _ rfl, fun D hD => ⟨(H.dm D hD).1, (Below.heap_setCell _ _ _ _ (show D ≠ Bi + 1 by have := (H.dm D hD).1; omega)).trans (H.dm D hD).2⟩, ?_, h1⟩; show _ ≤ (W.heap.modify _ _).size; rw [Array.size_modify]; exact H.sz
theorem EDI.put {B G O Bi i S cap n : Nat} {W0 W : World} {mask gr : Array Value} {e1 e2 cnt : Int} {out : List Bool} {ds : List Nat} (hl : out.length = n) (H : EDI B G O W0 mask gr e1 e2 (.slice (some ⟨S, 0, none⟩) n cap) out Bi i cnt ds W) (k : Nat) (b : Bool) : EDI B G O W0 mask gr e1 e2 (.slice (some ⟨S, 0, none⟩) n cap) (out.set k b) Bi i cnt ds (W.setCell ⟨S, k, none⟩ (.bool b)) := by
 have h1 := H.le; have hS := H.w.o.1 S rfl; obtain ⟨cells, hc⟩ := Kd.R_typed H.w.o S rfl; refine ⟨H.w.put hl k b, Bd H.bi (show Bi ≠ S by omega) _, Bd H.bn (show Bi + 1 ≠ S by omega) _, fun D hD => ⟨(H.dm D hD).1, (Below.heap_setCell _ _ _ _ (show D ≠ S from fun e => ?_)).trans (H.dm D hD).2⟩, ?_, h1⟩
 ·have hd := (H.dm D hD).2
  rw [e, hc] at hd; cases hd
 ·show _ ≤ (W.heap.modify _ _).size
  rw [Array.size_modify]; exact H.sz
inductive EDJ (a0 a1 : Int) (A : Option Addr) (c : Nat) (ms : List Bool) (lim : Int) (w h : Nat) (ways : Int) (W : World) (G O S cap : Nat) (e1 e2 : Int) (wr : World) : Act → Prop
 | mk (k : Nat) (ds : List Nat) {u3 u7 u9 u10 u11 u12 u13 u14 u15 u16 u17 u18 u19 u20 u21 u22 u23 u24 u25 u26 u27 u28 u31 u32 u33 u34 u35 u36 u37 u38 u39 u40 u41 u42 u43 u44 u45 u46 u47 u48 u49 u50 u51 u52 u53 u54 u55 u56 u57 u58 u59 u60 u61 u62 u63 : Value} (hk : k ≤ ms.length)
   (HW : Ac (EDW W.heap.size G O W #[.int .i64 a0, .int .i64 a1, .slice A ms.length c] #[.int .i64 (w : Int), .int .i64 (h : Int), .int .i64 ways] e1 e2 (.slice (some ⟨S, 0, none⟩) ms.length cap) (outOf ms.length (edgeAt w h ways lim ms) k) wr))
   (HD : Ac (ds.Nodup ∧ ∀ D ∈ ds, O < D ∧ wr.heap[D]? = some (.deferred (some [])))) : EDJ a0 a1 A c ms lim w h ways W G O S cap e1 e2 wr { tmps := #[.agg #[.int .i64 a0, .int .i64 a1, .slice A ms.length c], .int .i64 lim, .pointer (some ⟨W.heap.size, 0, none⟩), u3, .pointer (some ⟨W.heap.size + 1, 0, none⟩), .int .i64 0, .pointer (some ⟨G, 0, none⟩), u7, .pointer (some ⟨O, 0, none⟩), u9, u10, u11, u12, u13, u14, u15, u16, u17, u18, u19, u20, u21, u22, u23, u24, u25, u26, u27, u28, .int .i64 (ms.length : Int), .int .i64 (k : Int), u31, u32, u33, u34, u35, u36, u37, u38, u39, u40, u41, u42, u43, u44, u45, u46, u47, u48, u49, u50, u51, u52, u53, u54, u55, u56, u57, u58, u59, u60, u61, u62, u63], defers := ds.map mark }
set_option maxRecDepth 100000 in
set_option maxHeartbeats 8000000 in
theorem fill_Edge_full (a0_0 : Int) (a0_1 : Int) (A0_2 : Option Addr) (c0_2 : Nat) (l0_2 : List Bool) (a1 : Int) (r1 r2 : Int) (r3 : List Bool) (r4 : Int) (w : World) (hr0_2 : Kd.C Kd.bool w A0_2 l0_2.length l0_2) (hc0_2 : l0_2.length ≤ c0_2) (h : Dj.f a0_0 a0_1 l0_2 a1 = some (r1, r2, r3, r4)) :
  Calls Try.prog 34 #[.agg #[.int .i64 a0_0, .int .i64 a0_1, .slice A0_2 l0_2.length c0_2], .int .i64 a1] w fun e w' => ∃ v2_ : Value, e = .returned (.tuple #[.agg #[.int .i64 r1, .int .i64 r2, v2_], .int .i64 r4]) ∧ Kd.R Kd.bool 4 w' w.heap.size (fun _ => True) v2_ r3 ∧ Below w.heap.size w w' ∧ Full v2_ := by
 have hu50 := Try.underlying27; have hu108 := Try.underlying103; unfold Dj.f at h; obtain ⟨⟨t1, t2, t3, t4⟩, hg, H⟩ := Option.bind_eq_some_iff.mp h; dsimp only at H; have hgo := Do.calls a0_0 a0_1 A0_2 c0_2 l0_2 a1 t1 t2 t3 t4; have HGO := Ac.mk hgo; have HG := Ac.mk hg; have HR0 := Ac.mk hr0_2; have HC0 := Ac.mk hc0_2; clear hgo hg hr0_2 hc0_2 h; refine (callsIn_wide (n := 10)).1 ?_; refine callsIn_of_wp_marks Try.func34 rfl trivial ?_ rfl
 simp only [Try.ntmps34, List.size_toArray, List.length_cons, List.length_nil, Nat.reduceAdd, Nat.reduceSub, Array.replicate_succ, Array.replicate_zero, List.push_toArray, List.append_toArray, List.nil_append, List.cons_append]
 refine wpIn_wide.2 ?_
 go_wp2
 go_step3
 by_cases h4 : t4 = 0
 ·subst h4
  rw [if_pos rfl] at H
  by_cases hcc : 1 ≤ t1 ∧ t1 ≤ 1024 ∧ 1 ≤ t2 ∧ t2 ≤ 1024 ∧ l0_2.length = t1.toNat * t2.toNat
  ·rw [if_pos hcc] at H
   obtain ⟨⟨e1, e2, e3⟩, hem, H2⟩ := Option.bind_eq_some_iff.mp H; dsimp only at H2
   by_cases he3 : e3 = List.replicate l0_2.length false
   ·rw [if_pos he3] at H2
    subst he3; obtain ⟨hw1, hw2, hh1, hh2, hlen⟩ := hcc; obtain ⟨tw, rfl⟩ := Int.eq_ofNat_of_zero_le (show 0 ≤ t1 by omega); obtain ⟨th, rfl⟩ := Int.eq_ofNat_of_zero_le (show 0 ≤ t2 by omega)
    simp only [Int.toNat_natCast] at H2 hlen
    simp only [Option.some.injEq, Prod.mk.injEq] at H2
    obtain ⟨rfl, rfl, rfl, rfl⟩ := H2; have hnum : tw * th ≤ 1024 * 1024 := Nat.mul_le_mul (by omega) (by omega); have hpos : 0 < tw * th := Nat.mul_pos (by omega) (by omega); have HEM := Ac.mk hem; have HL := Ac.mk hlen; have HN := Ac.mk hnum; have HPOS := Ac.mk hpos; clear H hem hlen hnum hpos
    go_upto_region 4 with (go_at_call 63; refine (HGO.out _ (Kd.Bw (Kd.Bw HR0.out _) _) HC0.out HG.out).mono ?_; rintro e w' ⟨rfl, hb1⟩; have HB1 := Ac.mk hb1; clear hb1)
    have hR1 := An (Go.Proofs.Ytbfimplajocmmaa.H.bnew (w := w.alloc (.cells #[.int .i64 a0_0, .int .i64 a0_1, .slice A0_2 l0_2.length c0_2] 27)) (.cells #[.int .i64 0, .int .i64 0, .slice none 0 0] 27) (by simp : _ = w.heap.size + 1)) HB1.out; have hM1 := An (Aj (Go.Proofs.Ytbfimplajocmmaa.H.bnew (w := w) (.cells #[.int .i64 a0_0, .int .i64 a0_1, .slice A0_2 l0_2.length c0_2] 27) rfl) (.cells #[.int .i64 0, .int .i64 0, .slice none 0 0] 27)) HB1.out; have hbel : Below w.heap.size w w' := (Ah (Ah (Below.refl _ w) _) _).trans (HB1.out.mono (by simp; omega)); obtain ⟨w2, hw2e⟩ : ∃ y, y = w'.alloc (.cells #[.int .i64 (tw : Int), .int .i64 (th : Int), .int .i64 t3] 103) := ⟨_, rfl⟩; obtain ⟨G, hG⟩ : ∃ y, y = w'.heap.size := ⟨_, rfl⟩; rw [← hw2e, ← hG]; have hR2 : w2.heap[w.heap.size + 1]? = some (.cells #[.int .i64 0, .int .i64 0, .slice none 0 0] 27 (0, 0)) := by rw [hw2e]; exact Aj hR1 _
    have hM2 : w2.heap[w.heap.size]? = some (.cells #[.int .i64 a0_0, .int .i64 a0_1, .slice A0_2 l0_2.length c0_2] 27 (0, 0)) := by rw [hw2e]; exact Aj hM1 _
    have hG2 : w2.heap[G]? = some (.cells #[.int .i64 (tw : Int), .int .i64 (th : Int), .int .i64 t3] 103 (0, 0)) := by rw [hw2e]; exact Go.Proofs.Ytbfimplajocmmaa.H.bnew _ hG.symm
    have hGlt : w.heap.size + 1 < G := by rw [hG]; exact Bh hR1
    have hs2 : w2.heap.size = G + 1 := by rw [hw2e, hG]; simp
    have hb2 : Below w.heap.size w w2 := by rw [hw2e]; exact Ah hbel _
    have m0 : w2.cell? ⟨w.heap.size, 0, none⟩ = some (.int .i64 a0_0) := (Ad hM2 0).trans rfl; have m1 : w2.cell? ⟨w.heap.size, 1, none⟩ = some (.int .i64 a0_1) := (Ad hM2 1).trans rfl; have q0 : w2.cell? ⟨w.heap.size + 1, 0, none⟩ = some (.int .i64 0) := (Ad hR2 0).trans rfl; have q1 : w2.cell? ⟨w.heap.size + 1, 1, none⟩ = some (.int .i64 0) := (Ad hR2 1).trans rfl; have q2 : w2.cell? ⟨w.heap.size + 1, 2, none⟩ = some (.slice none 0 0) := (Ad hR2 2).trans rfl; have f0 : w2.frozen? ⟨w.heap.size + 1, 0, none⟩ = false := Af hR2 0; have f1 : w2.frozen? ⟨w.heap.size + 1, 1, none⟩ = false := Af hR2 1; have f2 : w2.frozen? ⟨w.heap.size + 1, 2, none⟩ = false := Af hR2 2; clear hR1 hM1 hbel hw2e hG HB1; have HR2 := Ac.mk hR2; have HM2 := Ac.mk hM2; have HG2 := Ac.mk hG2; have HB2 := Ac.mk hb2; clear hR2 hM2 hG2 hb2 q0 q1 q2 f0 f1 f2
    go_upto_region 5 with (go_at_call 45; refine (fill_empty_full a0_0 a0_1 e1 e2 _ w2 HEM.out).mono ?_; rintro e w3 ⟨v2, rfl, hR, hb3, hfl⟩; have hform := Kd.R_form hR (by rw [List.length_replicate, HL.out]; exact HPOS.out); rw [List.length_replicate] at hform; obtain ⟨S, cap, rfl, hS1, hS2, hS3⟩ := hform; have HCP := Ac.mk (hfl _ _ _ rfl); clear hS3 hfl; have HR := Ac.mk hR; have HB3 := Ac.mk hb3; clear hR hb3)
    have hGS : G < S := by omega
    have hW0 : EDW w.heap.size G w3.heap.size w #[.int .i64 a0_0, .int .i64 a0_1, .slice A0_2 l0_2.length c0_2] #[.int .i64 (tw : Int), .int .i64 (th : Int), .int .i64 t3] e1 e2 (.slice (some ⟨S, 0, none⟩) l0_2.length cap) (outOf l0_2.length (edgeAt tw th t3 a1 l0_2) 0) (w3.alloc (.cells #[.int .i64 e1, .int .i64 e2, .slice (some ⟨S, 0, none⟩) l0_2.length cap] 27)) := by
     refine ⟨Aj (An HM2.out HB3.out) _, Aj (An HR2.out HB3.out) _, Aj (An HG2.out HB3.out) _, Go.Proofs.Ytbfimplajocmmaa.H.bnew _ rfl, ?_, Ah (HB2.out.trans (HB3.out.mono HB2.out.size)) _, hGlt, by omega⟩; rw [outOf_zero]; exact Kd.R_alloc (Kd.B9 (Kd.Bu (Kd.Cp HR.out) (fun k hk => ⟨by omega, hk.2.2.1⟩)) HB2.out.size) _
    obtain ⟨O, hO⟩ : ∃ y, y = w3.heap.size := ⟨_, rfl⟩; obtain ⟨w4, hw4⟩ : ∃ y, y = w3.alloc (.cells #[.int .i64 e1, .int .i64 e2, .slice (some ⟨S, 0, none⟩) l0_2.length cap] 27) := ⟨_, rfl⟩; rw [← hO, ← hw4] at hW0 ⊢; have HW0 := Ac.mk hW0; have HGS := Ac.mk hGS; have m2 : w4.cell? ⟨w.heap.size, 2, none⟩ = some (.slice A0_2 l0_2.length c0_2) := (Ad hW0.m 2).trans rfl; clear hW0 hO hw4 hS1 hS2 HR HB3 HR2 HM2 HG2 HB2 HEM HGO HG hGS m0 m1
    go_step3
    go_wp2
    refine wp_loop (fun a wr => EDJ a0_0 a0_1 A0_2 c0_2 l0_2 a1 tw th t3 w G O S cap e1 e2 wr a) (fun a _ => l0_2.length - (intOf (a.tmps.getD 30 undef)).toNat) (EDJ.mk 0 [] (Nat.zero_le _) HW0 ⟨by simp, by simp⟩) ?_; clear HW0 m2; rintro a wr ⟨k, ds, hk, HW, HD⟩; have m2 : wr.cell? ⟨w.heap.size, 2, none⟩ = some (.slice A0_2 l0_2.length c0_2) := (Ad HW.out.m 2).trans rfl
    by_cases hlt : k < l0_2.length
    ·obtain ⟨ad, hA, _⟩ := (Kd.Cx (enc := Value.bool) (d := false) (h1 := fun _ => rfl) (Kd.B2 HR0.out HW.out.below)).at_ (k : Int) (by omega) (by omega)
     subst hA
     have hmask : ∀ (W1 : World) (j : Nat), Below w.heap.size w W1 → j < l0_2.length → W1.cell? (ad.add j) = some (.bool (l0_2.getD j false)) := fun W1 j hbw hj => by
      obtain ⟨ad2, hA2, hc2⟩ := (Kd.Cx (enc := Value.bool) (d := false) (h1 := fun _ => rfl) (Kd.B2 HR0.out hbw)).at_ (j : Int) (by omega) (by omega); obtain rfl := Option.some.inj hA2; rw [Int.toNat_natCast] at hc2; refine hc2.trans ?_; unfold rdOf; rw [Int.toNat_natCast]
     have HMASK := Ac.mk hmask; have HWK : Ac (wrap64 ((k : Int) + 1) = ((k + 1 : Nat) : Int)) := ⟨by unfold wrap64; have := HL.out; have := HN.out; omega⟩; clear hmask
     go_upto_region 8 with fail
     have hwx := HW.out.step (Ah (Below.refl _ wr) (.cells #[.int .i64 (k : Int)] 3)); have hbx := Go.Proofs.Ytbfimplajocmmaa.H.bnew (w := wr) (.cells #[.int .i64 (k : Int)] 3) rfl; have hdx : ∀ D ∈ ds, (wr.alloc (.cells #[.int .i64 (k : Int)] 3)).heap[D]? = some (.deferred (some [])) := fun D hD => Aj (HD.out.2 D hD).2 _
     have hdl : ∀ D ∈ ds, D < wr.heap.size := fun D hD => Bh (HD.out.2 D hD).2
     have hsx : (wr.alloc (.cells #[.int .i64 (k : Int)] 3)).heap.size = wr.heap.size + 1 := by simp
     have hOB := HW.out.lt; obtain ⟨Bi, hBi⟩ : ∃ Bi, Bi = wr.heap.size := ⟨_, rfl⟩; rw [← hBi] at hbx hsx hdl hOB ⊢; generalize wr.alloc (.cells #[.int .i64 (k : Int)] 3) = wx at hwx hbx hdx hsx ⊢; clear m2 hBi HW; have m2 : wx.cell? ⟨w.heap.size, 2, none⟩ = some (.slice (some ad) l0_2.length c0_2) := (Ad hwx.m 2).trans rfl; have y3 : wx.cell? ⟨Bi, 0, none⟩ = some (.int .i64 (k : Int)) := (Ad hbx 0).trans rfl; obtain ⟨b, hb⟩ : ∃ b, b = l0_2.getD k false := ⟨_, rfl⟩; have hcell := HMASK.out wx k hwx.below hlt; rw [← hb] at hcell; have HWX := Ac.mk hwx; have HBX := Ac.mk hbx; have HDX := Ac.mk hdx; have HSX := Ac.mk hsx; have HDL := Ac.mk hdl; have HB := Ac.mk hb; clear hwx hbx hdx hsx hdl hb; cases b with
     | false =>
      go_wp2
      rw [HWK.out]; refine ⟨EDJ.mk (k + 1) ds hlt ⟨?_⟩ ⟨HD.out.1, fun D hD => ⟨(HD.out.2 D hD).1, HDX.out D hD⟩⟩, ?_⟩
      ·rw [outOf_no _ _ _ (by unfold edgeAt; rw [← HB.out]; rfl)]
       exact HWX.out
      ·simp [intOf]; omega
     | true =>
      go_upto_region 10 with fail
      have hwy := HWX.out.step (Ah (Below.refl _ wx) (.cells #[.int .i64 0] 3)); have hby := Aj HBX.out (.cells #[.int .i64 0] 3); have hny := Go.Proofs.Ytbfimplajocmmaa.H.bnew (w := wx) (.cells #[.int .i64 0] 3) HSX.out; have hdy : ∀ D ∈ ds, (wx.alloc (.cells #[.int .i64 0] 3)).heap[D]? = some (.deferred (some [])) := fun D hD => Aj (HDX.out D hD) _
      have hsy : (wx.alloc (.cells #[.int .i64 0] 3)).heap.size = Bi + 2 := by simp; have := HSX.out; omega
      rw [show wx.heap.size = Bi + 1 from HSX.out]; generalize wx.alloc (.cells #[.int .i64 0] 3) = wy at hwy hby hny hdy hsy ⊢; clear m2 y3 hcell HWX HBX HDX HSX; have g0 : wy.cell? ⟨G, 0, none⟩ = some (.int .i64 (tw : Int)) := (Ad hwy.g 0).trans rfl; have g1 : wy.cell? ⟨G, 1, none⟩ = some (.int .i64 (th : Int)) := (Ad hwy.g 1).trans rfl; have g2 : wy.cell? ⟨G, 2, none⟩ = some (.int .i64 t3) := (Ad hwy.g 2).trans rfl; have y3 : wy.cell? ⟨Bi, 0, none⟩ = some (.int .i64 (k : Int)) := (Ad hby 0).trans rfl; have HWY := Ac.mk hwy; have HBY := Ac.mk hby
      have HNY := Ac.mk hny; have HDY := Ac.mk hdy; have HSY := Ac.mk hsy; clear hwy hby hny hdy hsy
      go_wp2_with (go_at_call 64; refine (beside_made _ _ _ _ _).mono ?_; rintro e w' ⟨rfl, rfl⟩)
      obtain ⟨w5, hw5⟩ : ∃ w5, w5 = (wy.alloc (.cells #[.int .i64 (tw : Int), .int .i64 (th : Int), .int .i64 t3] 103)).alloc (.cells #[.int .i64 (k : Int)] 3) := ⟨_, rfl⟩
      have hGB : GB (Bi + 3) (Bi + 2) k tw th t3 w5 := by
       rw [hw5]; exact ⟨Go.Proofs.Ytbfimplajocmmaa.H.bnew _ (by simp; have := HSY.out; omega), Aj (Go.Proofs.Ytbfimplajocmmaa.H.bnew _ HSY.out) _⟩
      have hb5 : Below wy.heap.size wy w5 := by rw [hw5]; exact Ah (Ah (Below.refl _ _) _) _
      have hs5 : w5.heap.size = Bi + 4 := by rw [hw5]; simp; have := HSY.out; omega
      have hI0 : EDI w.heap.size G O w #[.int .i64 a0_0, .int .i64 a0_1, .slice (some ad) l0_2.length c0_2] #[.int .i64 (tw : Int), .int .i64 (th : Int), .int .i64 t3] e1 e2 (.slice (some ⟨S, 0, none⟩) l0_2.length cap) (outOf l0_2.length (edgeAt tw th t3 a1 l0_2) k) Bi k 0 ds w5 :=
       ⟨HWY.out.step hb5, An HBY.out hb5, An HNY.out hb5, fun D hD => ⟨HDL.out D hD, (hb5.block D (Bh (HDY.out D hD))).trans (HDY.out D hD)⟩, by omega, hOB⟩
      rw [show wy.heap.size = Bi + 2 from HSY.out, ← hw5]; have HI0 := Ac.mk hI0; clear hw5 hb5 g0 g1 g2 y3 hI0; refine (wpIn_wide (n := 10)).1 ?_; have hiw : k < tw * th := by rw [← HL.out]; exact hlt
      refine wpIn_rangeFunc_ownG rfl (by omega) (gf := 87) (lb := #[.pointer (some ⟨Bi + 3, 0, none⟩), .pointer (some ⟨Bi + 2, 0, none⟩)]) rfl trivial (enters_of Try.func87 (by kernel_rfl) rfl)
       (beside_stops 9 (by omega) (Bi + 3) (Bi + 2) k tw th t3 (by omega) (by omega) (by omega) hiw w5 hGB) KpG_t (fun W l o o' hl _ _ _ => KpG_b (w := w5) (by omega) (by omega) W l o o' hl) (Below.refl _ _) (fun _ => rfl)
       (fun (pre : List (Pl (tw * th))) W' => Ac ((∀ q ∈ pre.map (·.1), l0_2.getD q false = true) ∧ EDI w.heap.size G O w #[.int .i64 a0_0, .int .i64 a0_1, .slice (some ad) l0_2.length c0_2] #[.int .i64 (tw : Int), .int .i64 (th : Int), .int .i64 t3] e1 e2 (.slice (some ⟨S, 0, none⟩) l0_2.length cap) (outOf l0_2.length (edgeAt tw th t3 a1 l0_2) k) Bi k (pre.length : Int) ds W'))
       (fun c (pre : List (Pl (tw * th))) W' => c = Code.exit 1 ∧ Ac ((∃ q ∈ pre.map (·.1), l0_2.getD q false = false) ∧ ∃ cnt, EDI w.heap.size G O w #[.int .i64 a0_0, .int .i64 a0_1, .slice (some ad) l0_2.length c0_2] #[.int .i64 (tw : Int), .int .i64 (th : Int), .int .i64 t3] e1 e2 (.slice (some ⟨S, 0, none⟩) l0_2.length cap) ((outOf l0_2.length (edgeAt tw th t3 a1 l0_2) k).set k true) Bi k cnt ds W'))
       (fun (s : List (Pl (tw * th))) X Y row hs hg hr => ⟨hs.out.1, hs.out.2.kept hg (fun r e => by have := hr r e; rw [hs5] at this; exact this)⟩)
       (fun c (s : List (Pl (tw * th))) X Y row hs hg hr => ⟨hs.1, ⟨⟨hs.2.out.1.choose, hs.2.out.1.choose_spec⟩, by obtain ⟨cnt, hv⟩ := hs.2.out.2; exact ⟨cnt, hv.kept hg (fun r e => by have := hr r e; rw [hs5] at this; exact this)⟩⟩⟩)
       ⟨⟨by simp, HI0.out⟩⟩ ?a1 ?assign ?body ?done ?stop
      case assign =>
       intro l x W9 K hK
       gi_wp2
       exact hK
      case body =>
       rintro l pre x wr2 hv hpl; obtain ⟨hall, hv⟩ := hv.out; obtain ⟨j, hjN⟩ := x; have hjl : j < l0_2.length := by rw [HL.out]; exact hjN
       have c2 : wr2.cell? ⟨w.heap.size, 2, none⟩ = some (.slice (some ad) l0_2.length c0_2) := (Ad hv.w.m 2).trans rfl; have cj := HMASK.out wr2 j hv.w.below hjl; have cn : wr2.cell? ⟨Bi + 1, 0, none⟩ = some (.int .i64 (pre.length : Int)) := (Ad hv.bn 0).trans rfl; have fn : wr2.frozen? ⟨Bi + 1, 0, none⟩ = false := Af hv.bn 0; have ci : wr2.cell? ⟨Bi, 0, none⟩ = some (.int .i64 (k : Int)) := (Ad hv.bi 0).trans rfl; have co : wr2.cell? ⟨O, 2, none⟩ = some (.slice (some ⟨S, 0, none⟩) l0_2.length cap) := (Ad hv.w.ob 2).trans rfl; have hol := outOf_len l0_2.length (edgeAt tw th t3 a1 l0_2) k; obtain ⟨cs, fs⟩ := hv.w.cell hol k (by rw [hol]; exact hlt); obtain ⟨old, hold⟩ : ∃ y, y = (outOf l0_2.length (edgeAt tw th t3 a1 l0_2) k).getD k false := ⟨_, rfl⟩; rw [← hold] at cs; clear hold; obtain ⟨b2, hb2⟩ : ∃ b, b = l0_2.getD j false := ⟨_, rfl⟩; rw [← hb2] at cj; have HV := Ac.mk hv; have HALL := Ac.mk hall; have HB2 := Ac.mk hb2; have HOL := Ac.mk hol; have hw9 : IntKind.i64.wrap ((pre.length : Int) + 1) = (pre.length : Int) + 1 := by rw [IntKind.wrap_i64]; omega
       clear hv hall hb2 hol; cases b2 with
       | true =>
        gi_wp2
        refine ⟨(KeepsOthers.setCell _ _ _).from _, ⟨Below.heap_setCell _ _ _ _ (show Bi + 3 ≠ Bi + 1 by omega), Below.heap_setCell _ _ _ _ (show Bi + 2 ≠ Bi + 1 by omega)⟩, ⟨fun q hq => ?_, ?_⟩⟩
        ·rw [List.map_append] at hq
         rcases List.mem_append.mp hq with hq | hq
         ·exact HALL.out q hq
         ·rw [List.mem_singleton.mp hq]; exact HB2.out.symm
        ·have h9 := HV.out.count ((pre.length : Int) + 1)
         rw [List.length_append, List.length_singleton, Int.natCast_add]; exact h9
       | false =>
        gi_wp2
        refine ⟨(KeepsOthers.setCell _ _ _).from _, rfl, ⟨⟨j, by rw [List.map_append]; exact List.mem_append_right _ (List.mem_singleton.mpr rfl), HB2.out.symm⟩, _, HV.out.put HOL.out k true⟩⟩
      case done =>
       rintro D xs wr2 hD hS hv hK; obtain ⟨hall, hv⟩ := hv.out
       have hnd : (D :: ds).Nodup ∧ ∀ E ∈ (D :: ds), O < E ∧ wr2.heap[E]? = some (.deferred (some [])) := by
        refine ⟨List.nodup_cons.mpr ⟨fun hd => by have := HDL.out D hd; omega, HD.out.1⟩, fun E hE => ?_⟩
        rcases List.mem_cons.mp hE with rfl | hE
        ·exact ⟨by omega, hK⟩
        ·exact ⟨(HD.out.2 E hE).1, (hv.dm E hE).2⟩
       have HND := Ac.mk hnd; clear hnd; have cn : wr2.cell? ⟨Bi + 1, 0, none⟩ = some (.int .i64 (xs.length : Int)) := (Ad hv.bn 0).trans rfl; have ci : wr2.cell? ⟨Bi, 0, none⟩ = some (.int .i64 (k : Int)) := (Ad hv.bi 0).trans rfl; have co : wr2.cell? ⟨O, 2, none⟩ = some (.slice (some ⟨S, 0, none⟩) l0_2.length cap) := (Ad hv.w.ob 2).trans rfl; have hol := outOf_len l0_2.length (edgeAt tw th t3 a1 l0_2) k; obtain ⟨cs, fs⟩ := hv.w.cell hol k (by rw [hol]; exact hlt); obtain ⟨old, hold⟩ : ∃ y, y = (outOf l0_2.length (edgeAt tw th t3 a1 l0_2) k).getD k false := ⟨_, rfl⟩; rw [← hold] at cs; clear hold; have HV := Ac.mk hv; have HALL := Ac.mk hall; have HOL := Ac.mk hol; have HXS := Ac.mk hS; have hmk : mark D :: ds.map mark = (D :: ds).map mark := rfl; clear hv hall hol hS hK
       go_wp2
       rw [HWK.out]; refine ⟨EDJ.mk (k + 1) (D :: ds) hlt ⟨?_⟩ ⟨HND.out.1, fun E hE => ⟨(HND.out.2 E hE).1, ?_⟩⟩, ?_⟩
       ·have hval : edgeAt tw th t3 a1 l0_2 k = decide ((xs.length : Int) < a1) := by
         unfold edgeAt; rw [← HB.out, ← HXS.out, List.length_map, show (xs.map (·.1)).any (fun q => !(l0_2.getD q false)) = false from List.any_eq_false.mpr (fun q hq => by rw [HALL.out q hq]; decide)]; rfl
        rw [← outOf_set _ _ _ hlt, hval]; exact HV.out.w.put HOL.out k _
       ·exact (Below.heap_setCell _ _ _ _ (show E ≠ S from fun e => by have := HV.out.w.o.1 S rfl; have := (HND.out.2 E hE).1; omega)).trans (HND.out.2 E hE).2
       ·simp [intOf]; omega
      case stop =>
       rintro D c pre W hD hSp ⟨rfl, hv⟩ hK; refine wpIn_wide.2 ?_; obtain ⟨⟨q, hq, hqf⟩, cnt, hv⟩ := hv.out
       have hnd : (D :: ds).Nodup ∧ ∀ E ∈ (D :: ds), O < E ∧ W.heap[E]? = some (.deferred (some [])) := by
        refine ⟨List.nodup_cons.mpr ⟨fun hd => by have := HDL.out D hd; omega, HD.out.1⟩, fun E hE => ?_⟩
        rcases List.mem_cons.mp hE with rfl | hE
        ·exact ⟨by omega, hK⟩
        ·exact ⟨(HD.out.2 E hE).1, (hv.dm E hE).2⟩
       have HND := Ac.mk hnd; clear hnd; have HV := Ac.mk hv
       have hval : edgeAt tw th t3 a1 l0_2 k = true := by
        unfold edgeAt; rw [← HB.out, List.any_eq_true.mpr ⟨q, hSp q hq, by rw [hqf]; rfl⟩]; rfl
       have HVAL := Ac.mk hval; clear hval hv hK hSp hq hqf
       go_wp2
       rw [HWK.out]; refine ⟨EDJ.mk (k + 1) (D :: ds) hlt ⟨?_⟩ HND, ?_⟩
       ·rw [← outOf_set _ _ _ hlt, HVAL.out]
        exact HV.out.w
       ·simp [intOf]; omega
    ·obtain rfl : l0_2.length = k := by omega
     have o0 : wr.cell? ⟨O, 0, none⟩ = some (.int .i64 e1) := (Ad HW.out.ob 0).trans rfl; have o1 : wr.cell? ⟨O, 1, none⟩ = some (.int .i64 e2) := (Ad HW.out.ob 1).trans rfl; have o2 : wr.cell? ⟨O, 2, none⟩ = some (.slice (some ⟨S, 0, none⟩) l0_2.length cap) := (Ad HW.out.ob 2).trans rfl; have q0 : wr.cell? ⟨w.heap.size + 1, 0, none⟩ = some (.int .i64 0) := (Ad HW.out.r 0).trans rfl; have q1 : wr.cell? ⟨w.heap.size + 1, 1, none⟩ = some (.int .i64 0) := (Ad HW.out.r 1).trans rfl; have q2 : wr.cell? ⟨w.heap.size + 1, 2, none⟩ = some (.slice none 0 0) := (Ad HW.out.r 2).trans rfl; have f0 : wr.frozen? ⟨w.heap.size + 1, 0, none⟩ = false := Af HW.out.r 0; have f1 : wr.frozen? ⟨w.heap.size + 1, 1, none⟩ = false := Af HW.out.r 1; have f2 : wr.frozen? ⟨w.heap.size + 1, 2, none⟩ = false := Af HW.out.r 2
     go_wp2
     simp only [Exit.noGoto]
     have hb9 : Below w.heap.size w (((wr.setCell ⟨w.heap.size + 1, 0, none⟩ (.int .i64 e1)).setCell ⟨w.heap.size + 1, 1, none⟩ (.int .i64 e2)).setCell ⟨w.heap.size + 1, 2, none⟩ (.slice (some ⟨S, 0, none⟩) l0_2.length cap)) := ((HW.out.below.setCell (show w.heap.size ≤ w.heap.size + 1 by omega) _).setCell (show w.heap.size ≤ w.heap.size + 1 by omega) _).setCell (show w.heap.size ≤ w.heap.size + 1 by omega) _; have hr9 : (((wr.setCell ⟨w.heap.size + 1, 0, none⟩ (.int .i64 e1)).setCell ⟨w.heap.size + 1, 1, none⟩ (.int .i64 e2)).setCell ⟨w.heap.size + 1, 2, none⟩ (.slice (some ⟨S, 0, none⟩) l0_2.length cap)).heap[w.heap.size + 1]? = some (.cells #[.int .i64 e1, .int .i64 e2, .slice (some ⟨S, 0, none⟩) l0_2.length cap] 27 (0, 0)) := Ax (Ax (Ax HW.out.r 0 _ rfl) 1 _ rfl) 2 _ rfl
     have ho9 : Kd.R Kd.bool 4 (((wr.setCell ⟨w.heap.size + 1, 0, none⟩ (.int .i64 e1)).setCell ⟨w.heap.size + 1, 1, none⟩ (.int .i64 e2)).setCell ⟨w.heap.size + 1, 2, none⟩ (.slice (some ⟨S, 0, none⟩) l0_2.length cap)) w.heap.size (fun _ => True) (.slice (some ⟨S, 0, none⟩) l0_2.length cap) (outOf l0_2.length (edgeAt tw th t3 a1 l0_2) l0_2.length) :=
      Kd.Bu (Kd.Bq (Kd.Bq (Kd.Bq HW.out.o (fun k hk => show k ≠ w.heap.size + 1 by omega) _) (fun k hk => show k ≠ w.heap.size + 1 by omega) _) (fun k hk => show k ≠ w.heap.size + 1 by omega) _) (fun _ _ => trivial)
     have hd9 : ∀ D ∈ ds, (((wr.setCell ⟨w.heap.size + 1, 0, none⟩ (.int .i64 e1)).setCell ⟨w.heap.size + 1, 1, none⟩ (.int .i64 e2)).setCell ⟨w.heap.size + 1, 2, none⟩ (.slice (some ⟨S, 0, none⟩) l0_2.length cap)).heap[D]? = some (.deferred (some [])) := fun D hD => by
      have hne : D ≠ w.heap.size + 1 := by have := (HD.out.2 D hD).1; have := HW.out.le; have := HW.out.le2; omega
      exact (Below.heap_setCell _ _ _ _ (show D ≠ w.heap.size + 1 from hne)).trans ((Below.heap_setCell _ _ _ _ (show D ≠ w.heap.size + 1 from hne)).trans ((Below.heap_setCell _ _ _ _ (show D ≠ w.heap.size + 1 from hne)).trans (HD.out.2 D hD).2))
     generalize (((wr.setCell ⟨w.heap.size + 1, 0, none⟩ (.int .i64 e1)).setCell ⟨w.heap.size + 1, 1, none⟩ (.int .i64 e2)).setCell ⟨w.heap.size + 1, 2, none⟩ (.slice (some ⟨S, 0, none⟩) l0_2.length cap)) = w9 at hb9 hr9 ho9 hd9 ⊢; refine leaves_marks (by simp) ds w9 HD.out.1 hd9 ?_
     have hQ := shutAll_keep ds w9 hd9 HD.out.1 (fun X => Kd.R Kd.bool 4 X w.heap.size (fun _ => True) (.slice (some ⟨S, 0, none⟩) l0_2.length cap) (outOf l0_2.length (edgeAt tw th t3 a1 l0_2) l0_2.length) ∧ X.heap[w.heap.size + 1]? = some (.cells #[.int .i64 e1, .int .i64 e2, .slice (some ⟨S, 0, none⟩) l0_2.length cap] 27 (0, 0)) ∧ Below w.heap.size w X) (fun X E hX hE hm => by
      have h1 := (HD.out.2 E hm).1; have h2 := HW.out.le; have h3 := HW.out.le2; exact ⟨R_kept (d := Kd.bool) hX.1 (grownBy_putObj' X _ _) (fun r e => by cases e; exact ⟨_, hE, rfl⟩), (World.putObj_heap_other (by omega)).trans hX.2.1, hX.2.2.grown (grownBy_putObj' X _ _) hX.2.2.size (fun k e => by cases e; omega)⟩) ⟨ho9, hr9, hb9⟩
     refine ⟨_, results_ct rfl _ _ (w.heap.size + 1) 27 #[.int .i64 e1, .int .i64 e2, .slice (some ⟨S, 0, none⟩) l0_2.length cap] (0, 0) _ rfl hQ.2.1 hu50 rfl (by kernel_rfl), ?_⟩; exact ⟨_, rfl, hQ.1, hQ.2.2, fun A m c e => by injection e with _ e1 e2; rw [← e1, ← e2, HCP.out]⟩
   ·rw [if_neg he3] at H2
    cases H2
  ·rw [if_neg hcc] at H
   cases H
 ·have d1 : (t4 == 0) = false := by simp [h4]
  have d2 : (t4 != 0) = true := by simp [h4]
  rw [if_neg h4] at H
  simp only [Option.some.injEq, Prod.mk.injEq] at H
  obtain ⟨rfl, rfl, rfl, rfl⟩ := H
  go_upto_region 3 with (go_at_call 63; refine (HGO.out _ (Kd.Bw (Kd.Bw HR0.out _) _) HC0.out HG.out).mono ?_; rintro e w' ⟨rfl, hb1⟩; have HB1 := Ac.mk hb1; clear hb1)
  have hR1 := An (Go.Proofs.Ytbfimplajocmmaa.H.bnew (w := w.alloc (.cells #[.int .i64 a0_0, .int .i64 a0_1, .slice A0_2 l0_2.length c0_2] 27)) (.cells #[.int .i64 0, .int .i64 0, .slice none 0 0] 27) (by simp : _ = w.heap.size + 1)) HB1.out; have hM1 := An (Aj (Go.Proofs.Ytbfimplajocmmaa.H.bnew (w := w) (.cells #[.int .i64 a0_0, .int .i64 a0_1, .slice A0_2 l0_2.length c0_2] 27) rfl) (.cells #[.int .i64 0, .int .i64 0, .slice none 0 0] 27)) HB1.out; have hbel : Below w.heap.size w w' := (Ah (Ah (Below.refl _ w) _) _).trans (HB1.out.mono (by simp; omega)); obtain ⟨w2, hw2e⟩ : ∃ y, y = w'.alloc (.cells #[.int .i64 t1, .int .i64 t2, .int .i64 t3] 103) := ⟨_, rfl⟩; obtain ⟨G, hG⟩ : ∃ y, y = w'.heap.size := ⟨_, rfl⟩; rw [← hw2e, ← hG]; have hR2 : w2.heap[w.heap.size + 1]? = some (.cells #[.int .i64 0, .int .i64 0, .slice none 0 0] 27 (0, 0)) := by rw [hw2e]; exact Aj hR1 _
  have hM2 : w2.heap[w.heap.size]? = some (.cells #[.int .i64 a0_0, .int .i64 a0_1, .slice A0_2 l0_2.length c0_2] 27 (0, 0)) := by rw [hw2e]; exact Aj hM1 _
  have hG2 : w2.heap[G]? = some (.cells #[.int .i64 t1, .int .i64 t2, .int .i64 t3] 103 (0, 0)) := by rw [hw2e]; exact Go.Proofs.Ytbfimplajocmmaa.H.bnew _ hG.symm
  have hGlt : w.heap.size + 1 < G := by rw [hG]; exact Bh hR1
  have hs2 : w2.heap.size = G + 1 := by rw [hw2e, hG]; simp
  have hb2 : Below w.heap.size w w2 := by rw [hw2e]; exact Ah hbel _
  have m0 : w2.cell? ⟨w.heap.size, 0, none⟩ = some (.int .i64 a0_0) := (Ad hM2 0).trans rfl; have m1 : w2.cell? ⟨w.heap.size, 1, none⟩ = some (.int .i64 a0_1) := (Ad hM2 1).trans rfl; have q0 : w2.cell? ⟨w.heap.size + 1, 0, none⟩ = some (.int .i64 0) := (Ad hR2 0).trans rfl; have q1 : w2.cell? ⟨w.heap.size + 1, 1, none⟩ = some (.int .i64 0) := (Ad hR2 1).trans rfl; have q2 : w2.cell? ⟨w.heap.size + 1, 2, none⟩ = some (.slice none 0 0) := (Ad hR2 2).trans rfl; have f0 : w2.frozen? ⟨w.heap.size + 1, 0, none⟩ = false := Af hR2 0; have f1 : w2.frozen? ⟨w.heap.size + 1, 1, none⟩ = false := Af hR2 1; have f2 : w2.frozen? ⟨w.heap.size + 1, 2, none⟩ = false := Af hR2 2; clear hR1 hM1 hbel hw2e hG HB1; have HR2 := Ac.mk hR2; have HB2 := Ac.mk hb2; clear hR2 hM2 hG2 hb2
  go_wp2
  simp only [Exit.noGoto]
  refine leaves_marks (by simp) [] _ (by simp) (by simp) ?_; refine ⟨_, results_ct rfl _ _ (w.heap.size + 1) 27 #[.int .i64 0, .int .i64 0, .slice none 0 0] (0, 0) _ rfl (Ax (Ax (Ax HR2.out 0 _ rfl) 1 _ rfl) 2 _ rfl) hu50 rfl (by kernel_rfl), ?_⟩; exact ⟨_, rfl, Kd.Ct _ _ _ _ _, ((HB2.out.setCell (show w.heap.size ≤ w.heap.size + 1 by omega) _).setCell (show w.heap.size ≤ w.heap.size + 1 by omega) _).setCell (show w.heap.size ≤ w.heap.size + 1 by omega) _, fun A m c e => by injection e with _ e1 e2; rw [← e1, ← e2]⟩
theorem Dj.calls (a0_0 : Int) (a0_1 : Int) (A0_2 : Option Addr) (c0_2 : Nat) (l0_2 : List Bool) (a1 : Int) (r1 r2 : Int) (r3 : List Bool) (r4 : Int) (w : World) (hr0_2 : Kd.C Kd.bool w A0_2 l0_2.length l0_2) (hc0_2 : l0_2.length ≤ c0_2) (h : Dj.f a0_0 a0_1 l0_2 a1 = some (r1, r2, r3, r4)) :
  Calls Try.prog 34 #[.agg #[.int .i64 a0_0, .int .i64 a0_1, .slice A0_2 l0_2.length c0_2], .int .i64 a1] w fun e w' => ∃ v2_ : Value, e = .returned (.tuple #[.agg #[.int .i64 r1, .int .i64 r2, v2_], .int .i64 r4]) ∧ Kd.R Kd.bool 4 w' w.heap.size (fun _ => True) v2_ r3 ∧ Below w.heap.size w w' :=
 (fill_Edge_full a0_0 a0_1 A0_2 c0_2 l0_2 a1 r1 r2 r3 r4 w hr0_2 hc0_2 h).mono fun _ _ ⟨v, h1, h2, h3, _⟩ => ⟨v, h1, h2, h3⟩
end Go.Proofs.Ytbfimplajocmmaa
end
