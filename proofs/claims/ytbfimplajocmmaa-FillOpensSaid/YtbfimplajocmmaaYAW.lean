import Derived.Test.YtbfimplajocmmaaYSQ
section
open Go Go.RowKit Go.Shelf Go.Proofs.YtbfimplajocmmaaW.PrintWords Go.Proofs.YtbfimplajocmmaaW.PrintLast Go.Proofs.YtbfimplajocmmaaW.PrintMore
attribute [local go_sem] Oper.semAt_some
set_option linter.unusedVariables false
set_option linter.unusedSimpArgs false
namespace Go.Proofs.Ytbfimplajocmmaa
open PFA FM
inductive SPJ66 (w h : Nat) (ways : Int) (caps : Array Value) (may : Nat → Bool) (src : List Nat) (A : Option Addr) (c : Nat) (W : World) (st2 : List Int) (q2 : List Nat) (N : Nat) (wr : World) : Act → Prop
 | mk (n : Nat) (st : List Int) (q : List Nat) (v : Value) (ds : List Nat) {u4 u9 u11 u12 u14 u15 u16 u17 u18 u19 u20 u21 u22 u23 u24 u25 u26 u27 u28 u29 u30 u31 u32 u33 u34 u35 u36 u37 u38 u39 u40 u41 u42 u43 u44 u45 u46 u47 u48 u49 u50 u51 u52 u53 u54 u55 u56 u57 u58 u59 u60 u61 u62 u63 u64 u65 u66 u67 u68 u69 u70 u71 u72 u73 u74 u75 u76 u77 u78 u79 u80 u81 u82 : Value}
   (HQ : Ac (SQ W.heap.size W #[.int .i64 (w : Int), .int .i64 (h : Int), .int .i64 ways] #[.func (.func 66) #[] caps] st q v wr)) (HB : Ac (BI N (nbs w h ways) may src n st q)) (HS : Ac (spread (nbs w h ways) may (N + 1 - n) n st q = some (st2, q2)))
   (HD : Ac (ds.Nodup ∧ ∀ D ∈ ds, W.heap.size ≤ D ∧ wr.heap[D]? = some (.deferred (some [])))) : SPJ66 w h ways caps may src A c W st2 q2 N wr { tmps := #[.agg #[.int .i64 (w : Int), .int .i64 (h : Int), .int .i64 ways], .slice A src.length c, .func (.func 66) #[] caps, .pointer (some ⟨W.heap.size, 0, none⟩), u4, .pointer (some ⟨W.heap.size + 1, 0, none⟩), .slice none 0 0, .slice none 0 0, .pointer (some ⟨W.heap.size + 3, 0, none⟩), u9, .pointer (some ⟨W.heap.size + 4, 0, none⟩), u11, u12, .int .i64 (n : Int), u14, u15, u16, u17, u18, u19, u20, u21, u22, u23, u24, u25, u26, u27, u28, u29, u30, u31, u32, u33, u34, u35, u36, u37, u38, u39, u40, u41, u42, u43, u44, u45, u46, u47, u48, u49, u50, u51, u52, u53, u54, u55, u56, u57, u58, u59, u60, u61, u62, u63, u64, u65, u66, u67, u68, u69, u70, u71, u72, u73, u74, u75, u76, u77, u78, u79, u80, u81, u82], defers := ds.map mark }
set_option maxRecDepth 100000 in
set_option maxHeartbeats 8000000 in
theorem spreads66 (w h : Nat) (ways : Int) (hw1 : 1 ≤ w) (hw2 : w ≤ 1024) (hh2 : h ≤ 1024) (caps : Array Value) (may : Nat → Bool) (src : List Nat) (A : Option Addr) (c : Nat) (W : World) (st2 : List Int) (q2 : List Nat)
  (hmay : ∀ (i : Nat) (W1 : World), i < w * h → Below W.heap.size W W1 → Calls Try.prog 66 (#[.int .i64 (i : Int)] ++ caps) W1 fun e w' => e = .returned (.bool (may i)) ∧ ∃ q, w' = W1.drewN q)
  (hsrc : src.Nodup) (hlt : ∀ k ∈ src, k < w * h) (hA : Kd.C (Kd.int .i64) W A src.length (src.map (fun k : Nat => (k : Int)))) (hc : src.length ≤ c)
  (hsp : spread (nbs w h ways) may (w * h + 1) 0 (steps0 (w * h) src) src = some (st2, q2)) :
  Calls Try.prog 65 #[.agg #[.int .i64 (w : Int), .int .i64 (h : Int), .int .i64 ways], .slice A src.length c, .func (.func 66) #[] caps] W fun e w' =>
   ∃ v1 v2, e = .returned (.tuple #[v1, v2]) ∧ w'.ownsRow W.heap.size 3 1 v1 q2.length (q2.map encN) ∧ w'.ownsRow W.heap.size 3 1 v2 st2.length (st2.map (Value.int .i64)) ∧ v1.ownBlock ≠ v2.ownBlock ∧ Below W.heap.size W w' := by
 obtain ⟨i0, hi, hz0, hz1, hz2⟩ := info_parts info3; have hwh : w * h ≤ 1024 * 1024 := Nat.mul_le_mul hw2 hh2; obtain ⟨N, hN⟩ : ∃ N, N = w * h := ⟨_, rfl⟩
 have hwr : IntKind.i64.wrap ((w : Int) * (h : Int)) = (N : Int) := by
  rw [← Int.natCast_mul, IntKind.wrap_i64, ← hN]; omega
 have hN2 : N ≤ 1048576 := by omega
 have hmk : ∀ W0 : World, (Instr.makeSlice 35 (.int .i64 (N : Int)) (.int .i64 (N : Int))).run Try.prog W0 = .ok (.slice (some ⟨W0.heap.size, 0, none⟩) N N) (W0.alloc (.cells (ints (List.replicate N 0)) 3)) := by
  intro W0; have h := run_make (P := Try.prog) W0 35 3 i0 _ Try.underlying35 hi hz0 .i64 .i64 (N : Int) (N : Int) (by omega) (by omega) (by rw [hz2]; omega) (by omega); rw [hz1, Nat.mul_one, show (Value.int IntKind.i64 0).cells = #[Value.int .i64 0] from rfl, ints_made] at h
  simpa using h
 have hsl : src.length ≤ N := nodup_len N src hsrc (by rw [hN]; exact hlt); have HN := Ac.mk hN; have HMAY := Ac.mk hmay; have HSRC := Ac.mk hsrc; have HLT := Ac.mk hlt; have HA := Ac.mk hA; have HSP := Ac.mk hsp; have HWH := Ac.mk hwh; clear hN hmay hsrc hlt hA hsp hwh; refine (callsIn_wide (n := 10)).1 ?_; refine callsIn_of_wp_marks Try.func65 rfl trivial ?_ rfl
 simp only [Try.ntmps65, List.size_toArray, List.length_cons, List.length_nil, Nat.reduceAdd, Nat.reduceSub, Array.replicate_succ, Array.replicate_zero, List.push_toArray, List.append_toArray, List.nil_append, List.cons_append]
 refine wpIn_wide.2 ?_
 go_wp2
 refine wp_scope_jumps2 0 (fun a wr => SPJ66 w h ways caps may src A c W st2 q2 N wr a) (fun a _ => N + 1 - (intOf (a.tmps.getD 13 undef)).toNat) rfl ?_ ?_
 ·intro hrest
  have HREST := Ac.mk hrest; clear hrest
  go_wp2
  rw [show W.heap.size + 1 + 1 = W.heap.size + 2 from rfl, show W.heap.size + 2 + 1 = W.heap.size + 3 from rfl]
  have hS : S1 W.heap.size W #[.int .i64 (w : Int), .int .i64 (h : Int), .int .i64 ways] #[.func (.func 66) #[] caps] (List.replicate 0 (-1) ++ List.replicate (N - 0) 0) ((((W.alloc (Obj.cells #[Value.int IntKind.i64 ↑w, Value.int IntKind.i64 ↑h, Value.int IntKind.i64 ways] 103)).alloc (Obj.cells #[Value.func (Fn.func 66) #[] caps] 109)).alloc (Obj.cells (ints (List.replicate N 0)) 3)).alloc (Obj.cells #[Value.slice (some { block := W.heap.size + 2, off := 0 }) N N] 35)) := by
   refine ⟨Aj (Aj (Aj (Go.Proofs.Ytbfimplajocmmaa.H.bnew _ rfl) _) _) _, Aj (Aj (Go.Proofs.Ytbfimplajocmmaa.H.bnew _ (by simp)) _) _, ?_, ?_, Ah (Ah (Ah (Ah (Below.refl _ _) _) _) _) _, rfl, by simp⟩
   ·exact Aj (Go.Proofs.Ytbfimplajocmmaa.H.bnew _ (by simp)) _
   ·simp only [List.replicate_zero, List.nil_append, Nat.sub_zero, List.length_replicate]
    exact Go.Proofs.Ytbfimplajocmmaa.H.bnew _ (by simp)
  generalize (((W.alloc (Obj.cells #[Value.int IntKind.i64 ↑w, Value.int IntKind.i64 ↑h, Value.int IntKind.i64 ways] 103)).alloc (Obj.cells #[Value.func (Fn.func 66) #[] caps] 109)).alloc (Obj.cells (ints (List.replicate N 0)) 3)).alloc (Obj.cells #[Value.slice (some { block := W.heap.size + 2, off := 0 }) N N] 35) = wz at hS ⊢; have HS := Ac.mk hS; clear hS hmk hwr
  go_loopw [24] (fun v24 wr => ∃ k : Nat, k ≤ N ∧ v24 = .int .i64 (k : Int) ∧ Ac (S1 W.heap.size W #[.int .i64 (w : Int), .int .i64 (h : Int), .int .i64 ways] #[.func (.func 66) #[] caps] (List.replicate k (-1) ++ List.replicate (N - k) 0) wr)) (fun v24 _ => N - (intOf v24).toNat)
  case atStart => exact ⟨0, Nat.zero_le _, rfl, HS⟩
  case round =>
   obtain ⟨k, hk, rfl, HK⟩ := hrel; clear HS
   by_cases hlk : k < N
   ·have x1 := S1.box HK.out
    have hll : (List.replicate k (-1) ++ List.replicate (N - k) (0 : Int)).length = N := by simp; omega
    rw [hll] at x1; clear hll; obtain ⟨x2, x3⟩ := S1.cells HK.out k (by simp; omega); generalize (List.replicate k (-1) ++ List.replicate (N - k) (0 : Int)).getD k 0 = old at x2
    go_wp2
    go_roundw
    case rel =>
     refine ⟨k + 1, by omega, by go_num, ⟨?_⟩⟩; rw [← fill_set N k hlk]; exact S1.put HK.out k (-1)
    case measure => simp [intOf]; omega
   ·obtain rfl : N = k := by omega
    have hS1 : S1 W.heap.size W #[.int .i64 (w : Int), .int .i64 (h : Int), .int .i64 ways] #[.func (.func 66) #[] caps] (List.replicate N (-1)) wr := by
     have := HK.out; rw [Nat.sub_self, List.replicate_zero, List.append_nil] at this; exact this
    have hsz := hS1.sz; have HS1 := Ac.mk (S1.made hS1); clear hS1 HK
    go_wp2
    try rw [hsz]
    generalize wr.alloc (Obj.cells #[Value.slice none 0 0] 35) = wz at HS1 ⊢; clear hsz
    go_loopw [33] (fun v33 wr => ∃ (j : Nat) (v : Value), j ≤ src.length ∧ v33 = .int .i64 (j : Int) ∧ Ac (SQ W.heap.size W #[.int .i64 (w : Int), .int .i64 (h : Int), .int .i64 ways] #[.func (.func 66) #[] caps] (setAll (List.replicate N (-1)) (src.take j)) (src.take j) v wr)) (fun v33 _ => src.length - (intOf v33).toNat)
    case atStart => exact ⟨0, _, Nat.zero_le _, rfl, HS1⟩
    case round =>
     obtain ⟨j, v, hj, rfl, HQ⟩ := hrel; clear HS1
     by_cases hlj : j < src.length
     ·obtain ⟨x, hx⟩ : ∃ x, x = src.getD j 0 := ⟨_, rfl⟩
      have hxm : x ∈ src := by rw [hx]; exact qget_mem src j hlj
      have hxN : x < N := by rw [HN.out]; exact HLT.out x hxm
      have hq := HQ.out; have hll : (setAll (List.replicate N (-1)) (src.take j)).length = N := by rw [setAll_length, List.length_replicate]
      have x1 := hq.box; rw [hll] at x1; obtain ⟨x2, x3⟩ := hq.cells x (by rw [hll]; exact hxN); generalize (setAll (List.replicate N (-1)) (src.take j)).getD x 0 = old at x2; obtain ⟨ad, hAd, hcell⟩ := Kd.at_int (Kd.B2 HA.out hq.below) (j : Int) (by omega) (by omega); subst hAd; rw [Int.toNat_natCast] at hcell
      have hrd : rd (src.map (fun k : Nat => (k : Int))) (j : Int) = (x : Int) := by
       unfold rd; rw [Int.toNat_natCast, hx, List.getD_eq_getElem?_getD, List.getD_eq_getElem?_getD, List.getElem?_map, List.getElem?_eq_getElem hlj]; rfl
      rw [hrd] at hcell; have HQ1 := Ac.mk (hq.put x 0); have HX := Ac.mk hx; have htl : (src.take j).length = j := by rw [List.length_take]; omega
      have HTL := Ac.mk htl; have obx := (hq.put x 0).obox.1; clear hq hrd hll hx hxm HQ htl
      go_upto_region 12 with fail
      clear x1 x2 x3 hcell; generalize wr.setCell ⟨W.heap.size + 2, x, none⟩ (.int .i64 0) = wy at HQ1 obx ⊢
      go_wp2_with (at_builtin; refine wpList_append_own_at _ rfl _ _ 35 rfl (W.heap.size + 5) 3 i0 (.int .i64 0) 1 8 Try.underlying35 hi hz0 hz1 hz2 rfl (by decide) v (src.take j).length _ rfl (Dn HQ1.out.o _) ⟨wy.heap.size, 0, none⟩ 1 1 [.int .i64 (x : Int)] rfl rfl (cell_one_new _ _ _) (by intro u hu; simp at hu; subst hu; rfl) (by rw [HTL.out]; unfold maxLen; omega) (by rw [HTL.out]; omega) (by have := HQ1.out.lt; simp; omega) ?_; intro v' w1 hown' hgrow hnil hat; obtain ⟨g', cap', rfl⟩ := ownsRow_succ hown'; obtain ⟨⟨hc1, hf1⟩, hq2⟩ := HQ1.out.append hown' hgrow; have HQ2 := Ac.mk hq2; clear hq2 hown' hgrow hnil hat)
      go_roundw
      case rel =>
       refine ⟨j + 1, .slice (some ⟨g', 0, none⟩) (j + 1) cap', by omega, by go_num, ⟨?_⟩⟩
       have htk : src.take (j + 1) = src.take j ++ [x] := by
        rw [HX.out, List.take_succ_eq_append_getElem hlj, List.getD_eq_getElem?_getD, List.getElem?_eq_getElem hlj]; rfl
       rw [htk, setAll_snoc]; have h9 := HQ2.out; rw [HTL.out] at h9; exact h9
      case measure => simp [intOf]; omega
     ·obtain rfl : j = src.length := by omega
      have hq := HQ.out; rw [List.take_length] at hq; have HQ2 := Ac.mk hq; clear hq HQ
      go_wp2
      go_step3
      simp only [Exit.then]
      apply_assumption
      refine HREST.out _ _ ?_; refine SPJ66.mk 0 _ _ _ [] HQ2 ⟨BI_start HSRC.out (by rw [HN.out]; exact HLT.out)⟩ ⟨?_⟩ ⟨by simp, by simp⟩; have h9 := HSP.out; rw [← HN.out] at h9; unfold steps0 at h9; rw [Nat.sub_zero]; exact h9
 ·rintro a wr ⟨n, st, q, v, ds, HQ, HB, HS, HD⟩
  clear hmk hwr; have hst := HB.out.len; have hnq := HB.out.hle; have hqN := nodup_len N q HB.out.nodup HB.out.lt; have x1 := HQ.out.box; rw [hst] at x1; have x2 := HQ.out.obox.1; obtain ⟨A9, c9, hv⟩ := own_slice HQ.out.o; subst hv
  by_cases hend : n = q.length
  ·subst hend
   have hsp2 := HS.out; rw [show N + 1 - q.length = (N - q.length) + 1 by omega, spread, if_pos rfl] at hsp2
   obtain ⟨rfl, rfl⟩ : st = st2 ∧ q = q2 := by
    have := Option.some.inj hsp2; exact ⟨congrArg Prod.fst this, congrArg Prod.snd this⟩
   clear hsp2 HS
   go_wp2
   go_quiet (fail)
   go_wp2
   have HQ3 := HQ.out.step (Ae (Below.refl _ wr) nq); have HD3 : ∀ D ∈ ds, (wr.drewN nq).heap[D]? = some (.deferred (some [])) := fun D hD => (HD.out.2 D hD).2
   generalize wr.drewN nq = w3 at HQ3 HD3 ⊢
   simp only [Exit.jump]
   refine leaves_marks (by simp) ds w3 HD.out.1 HD3 ?_
   have hQ := shutAll_keep ds w3 HD3 HD.out.1 (fun X => X.ownsRow W.heap.size 3 1 (.slice A9 q.length c9) q.length (q.map encN) ∧ X.heap[W.heap.size + 2]? = some (.cells (ints st) 3 (0, 0)) ∧ Below W.heap.size W X) (fun X D hX hD hm => by
    have hlt := (HD.out.2 D hm).1; refine ⟨ownsRow_putObj hX.1 _ hD rfl, (World.putObj_heap_other (fun e => ?_)).trans hX.2.1, hX.2.2.grown (grownBy_putObj' X D _) hX.2.2.size (fun k e => by cases e; exact hlt)⟩; subst e; rw [hX.2.1] at hD; cases hD) ⟨own_less HQ3.o (by omega), HQ3.s, HQ3.below⟩
   generalize shutAll w3 ds = w4 at hQ ⊢; have ho2 := own_of_ints (base := W.heap.size) hQ.2.1 (by omega) (by omega); rw [hst] at ho2; rw [hst]; refine ⟨_, results_tmp2 rfl _ _ _, .slice A9 q.length c9, .slice (some ⟨W.heap.size + 2, 0, none⟩) N N, rfl, hQ.1, ho2, ?_, hQ.2.2⟩; intro e; have := C9 HQ3.o (W.heap.size + 2) (e.trans rfl)
   omega
  ·have hlt : n < q.length := by omega
   obtain ⟨i, hi9⟩ : ∃ i, i = q.getD n 0 := ⟨_, rfl⟩; have him : i ∈ q := by rw [hi9]; exact qget_mem q n hlt
   have hiN : i < N := HB.out.lt i him; obtain ⟨g9, cap9, hv, hg9, hg9l⟩ := HQ.out.o.form (by omega)
   obtain ⟨rfl, rfl⟩ : A9 = some ⟨g9, 0, none⟩ ∧ c9 = cap9 := by
    injection hv with e1 _ e3
    exact ⟨e1, e3⟩
   have x3 : wr.cell? ⟨g9, n, none⟩ = some (.int .i64 (i : Int)) := by
    have h8 := HQ.out.o.cells (g := g9) rfl n (encN i) (by rw [List.getElem?_map, List.getElem?_eq_getElem hlt, hi9, List.getD_eq_getElem?_getD, List.getElem?_eq_getElem hlt]; rfl); rw [add_plain] at h8; exact h8
   have HI9 := Ac.mk hi9; have HIM := Ac.mk him; clear hv hi9 him hst hnq
   go_upto_region 19 with fail
   have hqx := HQ.out.step (Ah (Below.refl _ wr) (.cells #[.int .i64 (i : Int)] 3)); have hbx := Go.Proofs.Ytbfimplajocmmaa.H.bnew (w := wr) (.cells #[.int .i64 (i : Int)] 3) rfl; have hdx : ∀ D ∈ ds, (wr.alloc (.cells #[.int .i64 (i : Int)] 3)).heap[D]? = some (.deferred (some [])) := fun D hD => Aj (HD.out.2 D hD).2 _
   have hsx : (wr.alloc (.cells #[.int .i64 (i : Int)] 3)).heap.size = wr.heap.size + 1 := by simp
   obtain ⟨Bx, hBx⟩ : ∃ Bx, Bx = wr.heap.size := ⟨_, rfl⟩; rw [← hBx] at hbx hsx ⊢; have hBq : W.heap.size + 4 < Bx := by rw [hBx]; exact HQ.out.lt
   generalize wr.alloc (.cells #[.int .i64 (i : Int)] 3) = wx at hqx hbx hdx hsx ⊢; have y0 : wx.cell? ⟨W.heap.size, 0, none⟩ = some (.int .i64 (w : Int)) := (Ad hqx.g 0).trans rfl; have y1 : wx.cell? ⟨W.heap.size, 1, none⟩ = some (.int .i64 (h : Int)) := (Ad hqx.g 1).trans rfl; have y2 : wx.cell? ⟨W.heap.size, 2, none⟩ = some (.int .i64 ways) := (Ad hqx.g 2).trans rfl; have y3 : wx.cell? ⟨Bx, 0, none⟩ = some (.int .i64 (i : Int)) := (Ad hbx 0).trans rfl; have HQX := Ac.mk hqx; have HBX := Ac.mk hbx; have HDX := Ac.mk hdx; have HSX := Ac.mk hsx; have HG9 : ∀ k, (Value.slice (some ⟨g9, 0, none⟩) q.length c9).ownBlock = some k → k < Bx := fun k hk => by rw [hBx]; exact own_lt HQ.out.o k hk
   have HDL : ∀ D ∈ ds, D < Bx := fun D hD => by rw [hBx]; exact Bh (HD.out.2 D hD).2
   have HG9 := Ac.mk HG9; have HDL := Ac.mk HDL; clear x1 x2 x3 hqx hbx hdx hsx hBx HQ
   go_wp2_with (go_at_call 64; refine (beside_made _ _ _ _ _).mono ?_; rintro e w' ⟨rfl, rfl⟩)
   obtain ⟨w5, hw5⟩ : ∃ w5, w5 = (wx.alloc (.cells #[.int .i64 (w : Int), .int .i64 (h : Int), .int .i64 ways] 103)).alloc (.cells #[.int .i64 (i : Int)] 3) := ⟨_, rfl⟩
   have hGB : GB (Bx + 2) (Bx + 1) i w h ways w5 := by
    rw [hw5]; exact ⟨Go.Proofs.Ytbfimplajocmmaa.H.bnew _ (by simp; have := HSX.out; omega), Aj (Go.Proofs.Ytbfimplajocmmaa.H.bnew _ HSX.out) _⟩
   have hb5 : Below wx.heap.size wx w5 := by rw [hw5]; exact Ah (Ah (Below.refl _ _) _) _
   have hs5 : w5.heap.size = Bx + 3 := by rw [hw5]; simp; have := HSX.out; omega
   have hI0 : SPI W.heap.size W #[.int .i64 (w : Int), .int .i64 (h : Int), .int .i64 ways] #[.func (.func 66) #[] caps] may i st q ds Bx [] (.slice (some ⟨g9, 0, none⟩) q.length c9) w5 :=
    ⟨HQX.out.step hb5, An HBX.out hb5, fun k hk => .inl (HG9.out k hk), fun D hD => ⟨HDL.out D hD, (hb5.block D (Bh (HDX.out D hD))).trans (HDX.out D hD)⟩, by omega⟩
   rw [show wx.heap.size = Bx + 1 from HSX.out, ← hw5]; clear hw5 hb5 y0 y1 y2 y3; refine (wpIn_wide (n := 10)).1 ?_; have hiw : i < w * h := by rw [← HN.out]; exact hiN
   refine wpIn_rangeFunc_ownG rfl (by omega) (gf := 87) (lb := #[.pointer (some ⟨Bx + 2, 0, none⟩), .pointer (some ⟨Bx + 1, 0, none⟩)]) rfl trivial (enters_of Try.func87 (by kernel_rfl) rfl)
    (beside_stops 9 (by omega) (Bx + 2) (Bx + 1) i w h ways hw1 hw2 hh2 hiw w5 hGB) KpG_t (fun W l o o' hl _ _ _ => KpG_b (w := w5) (by omega) (by omega) W l o o' hl) (Below.refl _ _) (fun _ => rfl)
    (fun pre W' => Ac (∃ v, SPI W.heap.size W #[.int .i64 (w : Int), .int .i64 (h : Int), .int .i64 ways] #[.func (.func 66) #[] caps] may i st q ds Bx (pre.map (·.1)) v W'))
    (fun _ _ _ => False)
    (fun s X Y row hs hg hr => by obtain ⟨v, hv⟩ := hs.out; exact ⟨v, hv.kept (by omega) hg (fun r e => by have := hr r e; rw [hs5] at this; exact this)⟩)
    (fun _ _ _ _ _ hs _ _ => hs)
    ⟨⟨_, hI0⟩⟩ ?a1 ?assign ?body ?done ?stop
   case assign =>
    intro l x W9 K hK
    gi_wp2
    exact hK
   case body =>
    rintro l pre x wr2 hv _; obtain ⟨v, hv⟩ := hv.out; obtain ⟨k, hkN⟩ := x; have hkN2 : k < N := by rw [HN.out]; exact hkN
    have hR := reach1_R1 N may i (pre.map (·.1)) st q HB.out.len (fun y hy => by obtain ⟨z, _, rfl⟩ := List.mem_map.mp hy; rw [HN.out]; exact z.2) HIM.out HB.out.nodup HB.out.mem HB.out.lt; have hsnoc := reach1_snoc may i k (pre.map (·.1)) st q; have hsq := hv.sq; obtain ⟨st1, hst1⟩ : ∃ y, y = (reach1 may i (pre.map (·.1)) st q).1 := ⟨_, rfl⟩; obtain ⟨q1, hq1⟩ : ∃ y, y = (reach1 may i (pre.map (·.1)) st q).2 := ⟨_, rfl⟩; rw [← hst1, ← hq1] at hR hsq; rw [← hst1, ← hq1] at hsnoc; have hl1 : st1.length = N := by rw [hR.len]; exact HB.out.len
    have hql := nodup_len N q1 hR.nodup hR.lt; obtain ⟨sv, hsv⟩ : ∃ y, y = st.getD i 0 := ⟨_, rfl⟩; have hs1 : st1.getD i 0 = sv := by rw [hsv]; exact hR.old i HIM.out
    have hsle := BI.step_le HB.out n hlt; rw [← HI9.out, ← hsv] at hsle; obtain ⟨hs0, hsN⟩ := hsle; have c1 := hsq.box; rw [hl1] at c1; obtain ⟨old, hold⟩ : ∃ y, y = st1.getD k 0 := ⟨_, rfl⟩; obtain ⟨c2, f2⟩ := hsq.cells k (by omega); rw [← hold] at c2; have c3 : wr2.cell? ⟨W.heap.size + 1, 0, none⟩ = some (.func (.func 66) #[] caps) := (Ad hsq.m 0).trans rfl; have c4 : wr2.cell? ⟨Bx, 0, none⟩ = some (.int .i64 (i : Int)) := (Ad hv.bx 0).trans rfl; obtain ⟨c5, _⟩ := hsq.cells i (by omega); rw [hs1] at c5; obtain ⟨c6, f6⟩ := hsq.obox; have hmk := HMAY.out k wr2 hkN hsq.below; rw [hs1, ← hold] at hsnoc; have HV := Ac.mk hv; have HSQ := Ac.mk hsq; have HSN := Ac.mk hsnoc; have HL1 := Ac.mk hl1; have HMK := Ac.mk hmk; have HST1 := Ac.mk hst1; have HQ1 := Ac.mk hq1; have HOLD := Ac.mk hold; have HQL := Ac.mk hql; have HS1 := Ac.mk hs1; clear hv hsq hsnoc hl1 hmk hst1 hq1 hold hR hsv hs1 hql
    by_cases hneg : old < 0
    ·have d1 : decide (old < 0) = true := decide_eq_true hneg
     have HNEG := Ac.mk hneg; cases hm : may k with
     | true =>
      have HM := Ac.mk hm; rw [hm] at HMK; clear hneg hm
      gi_wp2_with (refine ⟨trivial, ?_⟩; gi_at_call 66; refine (CallsIn.inRound l (callsIn_wide.2 HMK.out)).mono ?_; rintro e w' ⟨rfl, ⟨nd, rfl⟩⟩)
      have hv6 := HV.out.drewN nd; have hsq6 := HSQ.out.step (Ae (Below.refl _ wr2) nd); have hko6 : KeepsFrom w5.heap.size wr2 (wr2.drewN nd) := (KO_drewN wr2 nd).from _
      have hkp6 : KpG (Bx + 2) (Bx + 1) wr2 (wr2.drewN nd) := ⟨rfl, rfl⟩; clear c1 c2 c3 c4 c5 c6 f2 f6; generalize wr2.drewN nd = w6 at hv6 hsq6 hko6 hkp6 ⊢; have c1 := hsq6.box; rw [HL1.out] at c1; obtain ⟨c2, f2⟩ := hsq6.cells k (by rw [HL1.out]; exact hkN2); rw [← HOLD.out] at c2; have c4 : w6.cell? ⟨Bx, 0, none⟩ = some (.int .i64 (i : Int)) := (Ad hv6.bx 0).trans rfl; obtain ⟨c5, _⟩ := hsq6.cells i (by rw [HL1.out]; exact hiN); rw [HS1.out] at c5; have hw9 : IntKind.i64.wrap (sv + 1) = sv + 1 := by rw [IntKind.wrap_i64]; omega
      have HV6 := Ac.mk hv6; have HQ7 := Ac.mk ((hsq6.put k (sv + 1)).step (Ae (Below.refl _ _) 1)); have HKO6 := Ac.mk hko6; have HKP6 := Ac.mk hkp6; have HW9 := Ac.mk hw9; clear hv6 hsq6 hko6 hkp6 hw9; have hmx : Try.prog.follows .mixedOrders = true := by kernel_rfl
      gi_cut [] from 71 (fun wx => wx = (w6.setCell ⟨W.heap.size + 2, k, none⟩ (.int .i64 (sv + 1))).drew)
      case first =>
       gi_region
       all_goals (gi_wp2_with fail)
       all_goals gi_meet
       all_goals (rw [HW9.out])
      case rest =>
       subst hcut; clear c1 c2 c4 c5 f2; obtain ⟨c6, f6⟩ := HQ7.out.obox; obtain ⟨w7, hw7⟩ : ∃ y, y = (w6.setCell ⟨W.heap.size + 2, k, none⟩ (.int .i64 (sv + 1))).drew := ⟨_, rfl⟩; have hq7 := HQ7.out; rw [show (w6.setCell ⟨W.heap.size + 2, k, none⟩ (.int .i64 (sv + 1))).drewN 1 = w7 from hw7.symm] at hq7; rw [show (w6.setCell ⟨W.heap.size + 2, k, none⟩ (.int .i64 (sv + 1))).drewN 1 = w7 from hw7.symm] at c6 f6; rw [← hw7]; have HW7 := Ac.mk hw7; have HQ7 := Ac.mk hq7; clear hw7 hq7
       gi_wp2_with (gi_at_builtin; refine wpListIn_append_own_at _ rfl _ _ 35 rfl (W.heap.size + 5) 3 i0 (.int .i64 0) 1 8 Try.underlying35 hi hz0 hz1 hz2 rfl (by decide) v q1.length _ rfl (Dn HQ7.out.o _) ⟨w7.heap.size, 0, none⟩ 1 1 [.int .i64 (k : Int)] rfl rfl (cell_one_new _ _ _) (by intro u hu; simp at hu; subst hu; rfl) (by have := HQL.out; unfold maxLen; omega) (by have := HQL.out; omega) (by have := HQ7.out.lt; simp; omega) ?_; intro v' w1 hown' hgrow hnil hat; obtain ⟨g', cap', rfl⟩ := ownsRow_succ hown'; obtain ⟨⟨hc1, hf1⟩, hq2⟩ := HQ7.out.append hown' hgrow; have HQ8 := Ac.mk hown'; have HGR := Ac.mk hgrow; have HAT := Ac.mk hat; clear hq2 hown' hgrow hnil hat)
       gi_wp2
       have hm9 : (reach1 may i (pre.map (·.1)) st q).1.getD k 0 < 0 ∧ may k = true := ⟨by rw [← HST1.out, ← HOLD.out]; exact HNEG.out, HM.out⟩; have hfin := HV6.out.appended (sv + 1) (by omega) hm9 (by rw [← HST1.out, HS1.out]) (by rw [← HQ1.out]; exact HQ8.out) (by rw [← HW7.out]; exact HGR.out) (by rw [← HW7.out]; exact HAT.out); rw [show Bx + 3 = w5.heap.size from hs5.symm] at hfin; refine ⟨HKO6.out.trans hfin.2.1, KpG_t HKP6.out hfin.2.2, ⟨.slice (some ⟨g', 0, none⟩) (q1.length + 1) cap', ?_⟩⟩; rw [List.map_append]; exact hfin.1
     | false =>
      have HM := Ac.mk hm; rw [hm] at HMK; clear hneg hm
      gi_wp2_with (refine ⟨trivial, ?_⟩; gi_at_call 66; refine (CallsIn.inRound l (callsIn_wide.2 HMK.out)).mono ?_; rintro e w' ⟨rfl, ⟨nd, rfl⟩⟩)
      refine ⟨(KO_drewN _ _).from _, ⟨rfl, rfl⟩, ⟨v, ?_⟩⟩; rw [List.map_append]; exact (HV.out.drewN nd).same (fun hh => by rw [HM.out] at hh; exact absurd hh.2 (by decide))
    ·have d1 : decide (old < 0) = false := decide_eq_false hneg
     have HNEG := Ac.mk hneg; clear hneg
     gi_wp2
     refine ⟨fun _ h => (by cases h), ?_⟩
     gi_wp2
     refine ⟨KeepsFrom.refl _ _, ⟨rfl, rfl⟩, ⟨v, ?_⟩⟩; rw [List.map_append]; refine HV.out.same (fun hh => ?_); have h1 := hh.1; rw [← HST1.out, ← HOLD.out] at h1; have h2 := HNEG.out
     omega
   case done =>
    rintro D xs wr2 hD hS hv hK; obtain ⟨v, hv⟩ := hv.out; rw [hS] at hv; have hB2 := BI_step (N := N) (nb := nbs w h ways) (fun j hj k hk => by rw [HN.out] at hj ⊢; exact nbs_lt hw1 hj k hk) HB.out hlt; have hS2 := HS.out; rw [show N + 1 - n = (N - n) + 1 by omega, spread, if_neg hend] at hS2; rw [← HI9.out] at hB2 hS2; have hsq9 := hv.sq; have HDM := Ac.mk hv.dm; generalize (reach1 may i (nbs w h ways i) st q).1 = st9 at hB2 hS2 hsq9; generalize (reach1 may i (nbs w h ways i) st q).2 = q9 at hB2 hS2 hsq9; have HB2 := Ac.mk hB2; have HS2 := Ac.mk hS2; have HQ9 := Ac.mk hsq9; clear hB2 hS2 hsq9 hv hS HQX HBX hI0
    go_wp2
    go_step3
    try simp only [Exit.jump]
    rw [show (n : Int) + 1 = ((n + 1 : Nat) : Int) by simp]; refine ⟨rfl, SPJ66.mk (n + 1) st9 q9 v (D :: ds) HQ9 HB2 ⟨?_⟩ ⟨?_, ?_⟩, ?_⟩
    ·rw [show N + 1 - (n + 1) = N - n by omega]; exact HS2.out
    ·refine List.nodup_cons.mpr ⟨fun hd => ?_, HD.out.1⟩
     have := HDL.out D hd
     omega
    ·intro E hE
     rcases List.mem_cons.mp hE with rfl | hE
     ·exact ⟨by omega, hK⟩
     ·exact ⟨(HD.out.2 E hE).1, (HDM.out E hE).2⟩
    ·simp [intOf]; omega
   case stop =>
    rintro D c pre W _ _ h _; exact h.elim
end Go.Proofs.Ytbfimplajocmmaa
end
section
open Go Go.RowKit Go.Shelf Go.Proofs.YtbfimplajocmmaaW.PrintWords Go.Proofs.YtbfimplajocmmaaW.PrintLast Go.Proofs.YtbfimplajocmmaaW.PrintMore
attribute [local go_sem] Oper.semAt_some
set_option linter.unusedVariables false
set_option linter.unusedSimpArgs false
namespace Go.Proofs.Ytbfimplajocmmaa
open PFA FM
def Db.f (a0_0 a0_1 : Int) (l0_2 : List Bool) (a1 : Int) : Option (List Int × Int) :=
 (Do.f a0_0 a0_1 l0_2 a1).bind fun t => if t.2.2.2 = 0 then
  (if 1 ≤ t.1 ∧ t.1 ≤ 1024 ∧ 0 ≤ t.2.1 ∧ t.2.1 ≤ 1024 ∧ l0_2.length = t.1.toNat * t.2.1.toNat then
   (spread (nbs t.1.toNat t.2.1.toNat t.2.2.1) (fun _ => true) (t.1.toNat * t.2.1.toNat + 1) 0 (steps0 (t.1.toNat * t.2.1.toNat) (trues l0_2 l0_2.length)) (trues l0_2 l0_2.length)).bind fun p => some (p.1, 0)
  else none) else some ([], t.2.2.2)
theorem away1 (i : Int) (w : World) : Calls Try.prog 66 (#[.int .i64 i] ++ #[]) w fun e w' => e = .returned (.bool true) ∧ ∃ q, w' = w.drewN q := by
 show Calls Try.prog 66 #[.int .i64 i] w _; go_enter Try.func66, Try.ntmps66
 go_wp2
 go_ret
 exact ⟨rfl, 0, rfl⟩
structure AWI (B G : Nat) (W0 : World) (mask gr : Array Value) (q : List Nat) (v : Value) (W : World) : Prop where
 g : W.heap[G]? = some (.cells gr 103 (0, 0))
 ob : W.heap[G + 1]? = some (.cells #[v] 35 (0, 0))
 mb : W.heap[G + 2]? = some (.cells mask 27 (0, 0))
 o : W.ownsRow (G + 3) 3 1 v q.length (q.map encN)
 below : Below B W0 W
 le : B ≤ G
theorem AWI.lt {B G : Nat} {W0 W : World} {mask gr : Array Value} {q : List Nat} {v : Value} (H : AWI B G W0 mask gr q v W) : G + 2 < W.heap.size := Bh H.mb
theorem AWI.kept {B C G : Nat} {W0 W W' : World} {mask gr : Array Value} {q : List Nat} {v : Value} {row : Option Nat} (H : AWI B G W0 mask gr q v W) (hBC : B ≤ C) (hg : W.grownBy W' row) (hr : ∀ r, row = some r → C ≤ r ∧ ∃ o : Obj, W.heap[r]? = some o ∧ o.isCells = false) : AWI B G W0 mask gr q v W' := by
 have hr2 : ∀ r, row = some r → ∃ o : Obj, W.heap[r]? = some o ∧ o.isCells = false := fun r e => (hr r e).2
 refine ⟨Cs H.g hg hr2, Cs H.ob hg hr2, Cs H.mb hg hr2, ?_, H.below.grown hg (by have := H.lt; have := H.le; omega) (fun k e => Nat.le_trans hBC (hr k e).1), H.le⟩; refine own_move H.o (fun k hk => ?_); obtain ⟨cells, hc⟩ := Di H.o k hk; exact (Cs hc hg hr2).trans hc.symm
theorem AWI.append {B G : Nat} {W0 W W1 : World} {mask gr : Array Value} {q : List Nat} {v v' : Value} {x : Nat} (H : AWI B G W0 mask gr q v W) (hown' : W1.ownsRow (G + 3) 3 1 v' (q.length + 1) (q.map encN ++ [.int .i64 (x : Int)])) (hgrow : (W.alloc (.cells #[.int .i64 (x : Int)] 3)).grownBy W1 v.ownBlock) :
  (W1.cell? ⟨G + 1, 0, none⟩ = some v ∧ W1.frozen? ⟨G + 1, 0, none⟩ = false) ∧ AWI B G W0 mask gr (q ++ [x]) v' (W1.setCell ⟨G + 1, 0, none⟩ v') ∧ KeepsOthers W (W1.setCell ⟨G + 1, 0, none⟩ v') := by
 have hne : ∀ k, k < G + 3 → some k ≠ v.ownBlock := fun k hk e => by have := C9 H.o k e.symm; omega
 have k0 := B3 (Aj H.g (.cells #[.int .i64 (x : Int)] 3)) hgrow (hne G (by omega)); have k1 := B3 (Aj H.ob (.cells #[.int .i64 (x : Int)] 3)) hgrow (hne (G + 1) (by omega)); have k2 := B3 (Aj H.mb (.cells #[.int .i64 (x : Int)] 3)) hgrow (hne (G + 2) (by omega)); have hle := H.le; have hb : Below B W0 W1 := Below.grown (H.below.alloc (by have := H.lt; omega) _) hgrow (by have := H.lt; simp; omega) (fun k e => by have := C9 H.o k e; omega); refine ⟨⟨(Ad k1 0).trans rfl, Af k1 0⟩, ⟨Bd k0 (show G ≠ G + 1 by omega) _, Ax k1 0 _ rfl, Bd k2 (show G + 2 ≠ G + 1 by omega) _, ?_, hb.setCell (show B ≤ G + 1 by omega) _, H.le⟩, ?_⟩
 ·rw [List.length_append, List.length_singleton, List.map_append]
  exact C4 hown' (p := ⟨G + 1, 0, none⟩) (fun e => by have h := C9 hown' (G + 1) e.symm; omega) _
 ·exact ((KeepsOthers.alloc _ (.cells #[.int .i64 (x : Int)] 3)).trans (KeepsOthers.of_grownBy hgrow (fun j o e ho => by
   obtain ⟨cells, hc⟩ := Di (Dn H.o (.cells #[.int .i64 (x : Int)] 3)) j e; cases ho.symm.trans hc; rfl))).trans (KeepsOthers.setCell _ _ _)
theorem trues_nodup (ms : List Bool) (k : Nat) : (trues ms k).Nodup := List.Pairwise.filter _ List.nodup_range
theorem trues_lt (ms : List Bool) (k : Nat) : ∀ i ∈ trues ms k, i < k := fun i hi => List.mem_range.mp ((List.mem_filter.mp hi).1)
theorem own_R {W : World} {base b2 : Nat} {v : Value} {q : List Nat} (h : W.ownsRow base 3 1 v q.length (q.map encN)) (hb : b2 ≤ base) : (Kd.int .i64).R 3 W b2 (fun _ => True) v (q.map (fun k : Nat => (k : Int))) := by
 have h2 : W.ownsRow base 3 1 v (q.map (fun k : Nat => (k : Int))).length (encs (Value.int .i64) (q.map (fun k : Nat => (k : Int)))) := by
  have e : encs (Value.int .i64) (q.map (fun k : Nat => (k : Int))) = q.map encN := by
   unfold encs; rw [List.map_map]; rfl
  rw [e, List.length_map]; exact h
 exact Kd.B9 (Kd.Dt h2 (fun _ _ => trivial)) hb
theorem own_reads {W : World} {base : Nat} {v : Value} {q : List Nat} (h : W.ownsRow base 3 1 v q.length (q.map encN)) : ∃ A c, v = .slice A q.length c ∧ q.length ≤ c ∧ Kd.C (Kd.int .i64) W A q.length (q.map (fun k : Nat => (k : Int))) := by
 have h2 : W.ownsRow base 3 1 v (q.map (fun k : Nat => (k : Int))).length (encs (Value.int .i64) (q.map (fun k : Nat => (k : Int)))) := by
  have e : encs (Value.int .i64) (q.map (fun k : Nat => (k : Int))) = q.map encN := by
   unfold encs; rw [List.map_map]; rfl
  rw [e, List.length_map]; exact h
 have h3 : (Kd.int .i64).R 3 W base (fun _ => True) v (q.map (fun k : Nat => (k : Int))) := Kd.Dt h2 (fun _ _ => trivial); obtain ⟨A, c, e, hc, hC⟩ := Kd.R_reads h3; rw [List.length_map] at e hc hC; exact ⟨A, c, e, hc, hC⟩
set_option maxRecDepth 100000 in
set_option maxHeartbeats 8000000 in
theorem Db.calls (a0_0 : Int) (a0_1 : Int) (A0_2 : Option Addr) (c0_2 : Nat) (l0_2 : List Bool) (a1 : Int) (r1 : List Int) (r2 : Int) (w : World) (hr0_2 : Kd.C Kd.bool w A0_2 l0_2.length l0_2) (hc0_2 : l0_2.length ≤ c0_2) (h : Db.f a0_0 a0_1 l0_2 a1 = some (r1, r2)) :
  Calls Try.prog 32 #[.agg #[.int .i64 a0_0, .int .i64 a0_1, .slice A0_2 l0_2.length c0_2], .int .i64 a1] w fun e w' => ∃ v0_ : Value, e = .returned (.tuple #[v0_, .int .i64 r2]) ∧ Kd.R (Kd.int .i64) 3 w' w.heap.size (fun _ => True) v0_ r1 ∧ Below w.heap.size w w' := by
 obtain ⟨i0, hi, hz0, hz1, hz2⟩ := info_parts info3; have hu50 := Try.underlying27; have hu108 := Try.underlying103; unfold Db.f at h; obtain ⟨⟨t1, t2, t3, t4⟩, hg, H⟩ := Option.bind_eq_some_iff.mp h; dsimp only at H; have hgo := Do.calls a0_0 a0_1 A0_2 c0_2 l0_2 a1 t1 t2 t3 t4; have HGO := Ac.mk hgo; have HG := Ac.mk hg; have HH := Ac.mk H; have HR0 := Ac.mk hr0_2; have HC0 := Ac.mk hc0_2; clear hgo hg H hr0_2 hc0_2 h; refine (callsIn_wide (n := 10)).1 ?_; refine callsIn_of_wp_marks Try.func32 rfl trivial ?_ rfl
 simp only [Try.ntmps32, List.size_toArray, List.length_cons, List.length_nil, Nat.reduceAdd, Nat.reduceSub, Array.replicate_succ, Array.replicate_zero, List.push_toArray, List.append_toArray, List.nil_append, List.cons_append]
 refine wpIn_wide.2 ?_
 by_cases h4 : t4 = 0
 ·subst h4
  have H := HH.out; rw [if_pos rfl] at H
  by_cases hcc : 1 ≤ t1 ∧ t1 ≤ 1024 ∧ 0 ≤ t2 ∧ t2 ≤ 1024 ∧ l0_2.length = t1.toNat * t2.toNat
  ·rw [if_pos hcc] at H
   obtain ⟨⟨st2, q2⟩, hsp, H2⟩ := Option.bind_eq_some_iff.mp H; obtain ⟨hw1, hw2, hh1, hh2, hlen⟩ := hcc; obtain ⟨tw, rfl⟩ := Int.eq_ofNat_of_zero_le (show 0 ≤ t1 by omega); obtain ⟨th, rfl⟩ := Int.eq_ofNat_of_zero_le hh1; rw [Int.toNat_natCast, Int.toNat_natCast] at hsp hlen
   simp only [Option.some.injEq, Prod.mk.injEq] at H2
   obtain ⟨rfl, rfl⟩ := H2; have hnum : tw * th ≤ 1024 * 1024 := Nat.mul_le_mul (by omega) (by omega); have HSP := Ac.mk hsp; have HL := Ac.mk hlen; have HN := Ac.mk hnum; clear H HH hsp hlen hnum
   go_upto_region 5 with (go_at_call 63; refine (HGO.out _ (Kd.Bw HR0.out _) HC0.out HG.out).mono ?_; rintro e w' ⟨rfl, hb1⟩; have HB1 := Ac.mk hb1; clear hb1)
   have hmb := An (Go.Proofs.Ytbfimplajocmmaa.H.bnew (w := w) (.cells #[.int .i64 a0_0, .int .i64 a0_1, .slice A0_2 l0_2.length c0_2] 27) rfl) HB1.out; have hbel : Below w.heap.size w w' := (Ah (Below.refl _ w) _).trans (HB1.out.mono (by simp)); have hGs : w.heap.size < w'.heap.size := Bh hmb; obtain ⟨w2, hw2e⟩ : ∃ y, y = (w'.alloc (.cells #[.int .i64 (tw : Int), .int .i64 (th : Int), .int .i64 t3] 103)).alloc (.cells #[.slice none 0 0] 35) := ⟨_, rfl⟩; rw [← hw2e]; have y0 : w2.cell? ⟨w.heap.size, 0, none⟩ = some (.int .i64 a0_0) := by rw [hw2e]; exact (Ad (Aj (Aj hmb _) _) 0).trans rfl
   have y1 : w2.cell? ⟨w.heap.size, 1, none⟩ = some (.int .i64 a0_1) := by rw [hw2e]; exact (Ad (Aj (Aj hmb _) _) 1).trans rfl
   have y2 : w2.cell? ⟨w.heap.size, 2, none⟩ = some (.slice A0_2 l0_2.length c0_2) := by rw [hw2e]; exact (Ad (Aj (Aj hmb _) _) 2).trans rfl
   obtain ⟨G, hG⟩ : ∃ y, y = w'.heap.size := ⟨_, rfl⟩; have hs2 : w2.heap.size = G + 2 := by rw [hw2e, hG]; simp
   have hg2 : w2.heap[G]? = some (.cells #[.int .i64 (tw : Int), .int .i64 (th : Int), .int .i64 t3] 103 (0, 0)) := by rw [hw2e, hG]; exact Aj (Go.Proofs.Ytbfimplajocmmaa.H.bnew _ rfl) _
   have ho2 : w2.heap[G + 1]? = some (.cells #[.slice none 0 0] 35 (0, 0)) := by rw [hw2e, hG]; exact Go.Proofs.Ytbfimplajocmmaa.H.bnew _ (by simp)
   have hb2 : Below w.heap.size w w2 := by rw [hw2e]; exact Ah (Ah hbel _) _
   have hGle : w.heap.size ≤ G := by rw [hG]; omega
   rw [← hG]; clear hw2e hmb hbel hGs HB1 HGO HG hG; have HG2 := Ac.mk hg2; have HO2 := Ac.mk ho2; have HB2 := Ac.mk hb2; clear hg2 ho2 hb2
   go_wp2_with (go_at_call 50; refine (in_made _ _ _ _ _ _).mono ?_; rintro e w'' ⟨rfl, rfl⟩)
   have hI0 : AWI w.heap.size G w #[.int .i64 a0_0, .int .i64 a0_1, .slice A0_2 l0_2.length c0_2] #[.int .i64 (tw : Int), .int .i64 (th : Int), .int .i64 t3] [] (.slice none 0 0) (w2.alloc (.cells #[.int .i64 a0_0, .int .i64 a0_1, .slice A0_2 l0_2.length c0_2] 27)) :=
    ⟨Aj HG2.out _, Aj HO2.out _, Go.Proofs.Ytbfimplajocmmaa.H.bnew _ hs2, own_nil _ _ _ _, Ah HB2.out _, hGle⟩
   have hs3 : (w2.alloc (.cells #[.int .i64 a0_0, .int .i64 a0_1, .slice A0_2 l0_2.length c0_2] 27)).heap.size = G + 3 := by simp; omega
   try rw [hs2]
   generalize w2.alloc (.cells #[.int .i64 a0_0, .int .i64 a0_1, .slice A0_2 l0_2.length c0_2] 27) = w3 at hI0 hs3 ⊢; have HI0 := Ac.mk hI0; clear hI0 y0 y1 y2 HG2 HO2 HB2; refine (wpIn_wide (n := 10)).1 ?_
   refine wpIn_rangeFunc_ownG rfl (by omega) (gf := 80) (lb := #[.pointer (some ⟨G + 2, 0, none⟩)]) rfl trivial (enters_of Try.func80 (by kernel_rfl) rfl)
    (in_stops 9 (by omega) (G + 2) A0_2 c0_2 l0_2 HC0.out w3 (by omega) ((Ad HI0.out.mb 2).trans rfl) (Kd.B2 HR0.out HI0.out.below)) KpM_t (fun W l o o' hl h1 h2 _ => KpM_b W l o o' h1 h2) (Below.refl _ _) (fun _ => rfl)
    (fun pre W' => Ac (∃ v, AWI w.heap.size G w #[.int .i64 a0_0, .int .i64 a0_1, .slice A0_2 l0_2.length c0_2] #[.int .i64 (tw : Int), .int .i64 (th : Int), .int .i64 t3] (pre.map (·.1)) v W'))
    (fun _ _ _ => False)
    (fun s X Y row hs hg hr => by obtain ⟨v, hv⟩ := hs.out; exact ⟨v, hv.kept (show w.heap.size ≤ w3.heap.size by omega) hg hr⟩)
    (fun _ _ _ _ _ hs _ _ => hs)
    ⟨⟨_, HI0.out⟩⟩ ?a1 ?assign ?body ?done ?stop
   case assign =>
    intro l x W9 K hK
    gi_wp2
    exact hK
   case body =>
    rintro l pre x wr2 hv hpl; obtain ⟨v, hv⟩ := hv.out; obtain ⟨k, hkN⟩ := x; have c6 : wr2.cell? ⟨G + 1, 0, none⟩ = some v := (Ad hv.ob 0).trans rfl; have hlt := hv.lt; have hown := Dn hv.o (.cells #[.int .i64 (k : Int)] 3); have HV := Ac.mk hv; have hplen : (pre.map (·.1)).length < 1048577 := by rw [List.length_map]; have := HL.out; have := HN.out; omega
    have HPL := Ac.mk hplen; have HOWN := Ac.mk hown; clear hown hplen hv
    gi_wp2_with (gi_at_builtin; refine wpListIn_append_own_at _ rfl _ _ 35 rfl (G + 3) 3 i0 (.int .i64 0) 1 8 Try.underlying35 hi hz0 hz1 hz2 rfl (by decide) v (pre.map (·.1)).length _ rfl HOWN.out ⟨wr2.heap.size, 0, none⟩ 1 1 [.int .i64 (k : Int)] rfl rfl (cell_one_new _ _ _) (by intro u hu; simp at hu; subst hu; rfl) (by have := HPL.out; unfold maxLen; omega) (by have := HPL.out; omega) (by simp; omega) ?_; intro v' w1 hown' hgrow hnil hat; obtain ⟨g', cap', rfl⟩ := ownsRow_succ hown'; obtain ⟨⟨hc1, hf1⟩, hq2, hk2⟩ := HV.out.append hown' hgrow; rw [List.length_map] at hq2 hk2; have HQ8 := Ac.mk hq2; have HK2 := Ac.mk hk2; clear hq2 hk2 hown' hgrow hnil hat)
    gi_wp2
    refine ⟨HK2.out.from _, fun hc => Kd.B2 HR0.out HQ8.out.below, ⟨.slice (some ⟨g', 0, none⟩) (pre.length + 1) cap', ?_⟩⟩; rw [List.map_append]; exact HQ8.out
   case done =>
    rintro D xs wr2 hD hS hv hK; obtain ⟨v, hv⟩ := hv.out; rw [hS] at hv; obtain ⟨Av, cv, rfl, hcv, hCv⟩ := own_reads hv.o; have c6 : wr2.cell? ⟨G + 1, 0, none⟩ = some (.slice Av (trues l0_2 l0_2.length).length cv) := (Ad hv.ob 0).trans rfl; have g0 : wr2.cell? ⟨G, 0, none⟩ = some (.int .i64 (tw : Int)) := (Ad hv.g 0).trans rfl; have g1 : wr2.cell? ⟨G, 1, none⟩ = some (.int .i64 (th : Int)) := (Ad hv.g 1).trans rfl; have g2 : wr2.cell? ⟨G, 2, none⟩ = some (.int .i64 t3) := (Ad hv.g 2).trans rfl; have HCV := Ac.mk hCv; have HCC := Ac.mk hcv; have HV := Ac.mk hv; have HK := Ac.mk hK; clear hCv hcv hv hK hS
    go_wp2_with (go_at_call 65; refine (spreads66 tw th t3 (by omega) (by omega) (by omega) #[] (fun _ => true) (trues l0_2 l0_2.length) Av cv wr2 st2 q2 (fun i W1 _ _ => away1 i W1) (trues_nodup _ _) (by rw [← HL.out]; exact trues_lt _ _) HCV.out HCC.out HSP.out).mono ?_; rintro e w' ⟨v1, v2, rfl, ho1, ho2, hne, hb⟩; have HO := Ac.mk ho2; have HB := Ac.mk hb; clear ho1 ho2 hne hb)
    have hDlt := Bh HK.out
    have hD' : ∀ E ∈ [D], w'.heap[E]? = some (.deferred (some [])) := fun E hE => by
     obtain rfl := List.mem_singleton.mp hE; exact (HB.out.block _ hDlt).trans HK.out
    have hR : Kd.R (Kd.int .i64) 3 w' w.heap.size (fun _ => True) v2 st2 := Kd.B9 (Kd.Dt HO.out (fun _ _ => trivial)) HV.out.below.size; have hB9 : Below w.heap.size w w' := HV.out.below.trans (HB.out.mono HV.out.below.size); refine leaves_marks (by simp) [D] w' (by simp) hD' ?_
    have hQ := shutAll_keep [D] w' hD' (by simp) (fun X => Kd.R (Kd.int .i64) 3 X w.heap.size (fun _ => True) v2 st2 ∧ Below w.heap.size w X) (fun X E hX hE hm => by
     obtain rfl := List.mem_singleton.mp hm; exact ⟨R_kept (d := Kd.int .i64) hX.1 (grownBy_putObj' X _ _) (fun r e => by cases e; exact ⟨_, hE, rfl⟩), hX.2.grown (grownBy_putObj' X _ _) hX.2.size (fun k e => by cases e; omega)⟩) ⟨hR, hB9⟩
    exact ⟨_, results_tmp2 rfl _ _ _, _, rfl, hQ.1, hQ.2⟩
   case stop =>
    rintro D c pre W _ _ h _; exact h.elim
  ·rw [if_neg hcc] at H
   cases H
 ·have d1 : (t4 == 0) = false := by simp [h4]
  have d2 : (t4 != 0) = true := by simp [h4]
  have H := HH.out; rw [if_neg h4] at H
  simp only [Option.some.injEq, Prod.mk.injEq] at H
  obtain ⟨rfl, rfl⟩ := H
  go_wp2_with (go_at_call 63; refine (HGO.out _ (Kd.Bw HR0.out _) HC0.out HG.out).mono ?_; rintro e w' ⟨rfl, hb1⟩; have HB1 := Ac.mk hb1; clear hb1)
  have hbel : Below w.heap.size w w' := (Ah (Below.refl _ w) _).trans (HB1.out.mono (by simp)); refine leaves_marks (by simp) [] _ (by simp) (by simp) ?_; refine ⟨_, results_tmp2 rfl _ _ _, _, rfl, Kd.Ct _ _ _ _ _, ?_⟩; exact Ah hbel _
end Go.Proofs.Ytbfimplajocmmaa
end
