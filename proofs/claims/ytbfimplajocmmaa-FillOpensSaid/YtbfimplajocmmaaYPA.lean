import Derived.Test.YtbfimplajocmmaaYPT
import Derived.Sort.LoopGhostIn
open Go Go.RowKit Go.Shelf Go.Proofs.YtbfimplajocmmaaW.PrintWords Go.Proofs.YtbfimplajocmmaaW.PrintLast Go.Proofs.YtbfimplajocmmaaW.PrintMore
attribute [local go_sem] Oper.semAt_some
set_option linter.unusedVariables false
set_option linter.unusedSimpArgs false
namespace Go.Proofs.Ytbfimplajocmmaa
open PFA FM
set_option maxRecDepth 100000 in
set_option maxHeartbeats 8000000 in
theorem Dc.calls (a0_0 : Int) (a0_1 : Int) (A0_2 : Option Addr) (c0_2 : Nat) (l0_2 : List Bool) (a1 : Int) (r1 : List Int) (r2 r3 : Int) (w : World) (hr0_2 : Kd.C Kd.bool w A0_2 l0_2.length l0_2) (hc0_2 : l0_2.length ≤ c0_2) (h : Dc.f a0_0 a0_1 l0_2 a1 = some (r1, r2, r3)) :
  Calls Try.prog 31 #[.agg #[.int .i64 a0_0, .int .i64 a0_1, .slice A0_2 l0_2.length c0_2], .int .i64 a1] w fun e w' => ∃ v0_ : Value, e = .returned (.tuple #[v0_, .int .i64 r2, .int .i64 r3]) ∧ Kd.R (Kd.int .i64) 3 w' w.heap.size (fun _ => True) v0_ r1 ∧ Below w.heap.size w w' := by
 obtain ⟨i0, hi, hz0, hz1, hz2⟩ := info_parts info3; have hu50 := Try.underlying27; have hu108 := Try.underlying103; unfold Dc.f at h; obtain ⟨⟨t1, t2, t3, t4⟩, hg, H⟩ := Option.bind_eq_some_iff.mp h; dsimp only at H; have hgo := Do.calls a0_0 a0_1 A0_2 c0_2 l0_2 a1 t1 t2 t3 t4; have HGO := Ac.mk hgo; have HG := Ac.mk hg; have HR0 := Ac.mk hr0_2; have HC0 := Ac.mk hc0_2; clear hgo hg hr0_2 hc0_2 h; refine (callsIn_wide (n := 10)).1 ?_; refine callsIn_of_wp_marks Try.func31 rfl trivial ?_ rfl
 simp only [Try.ntmps31, List.size_toArray, List.length_cons, List.length_nil, Nat.reduceAdd, Nat.reduceSub, Array.replicate_succ, Array.replicate_zero, List.push_toArray, List.append_toArray, List.nil_append, List.cons_append]
 refine wpIn_wide.2 ?_
 by_cases h4 : t4 = 0
 ·subst h4
  rw [if_pos rfl] at H
  by_cases hcc : 1 ≤ t1 ∧ t1 ≤ 1024 ∧ 1 ≤ t2 ∧ t2 ≤ 1024 ∧ l0_2.length = t1.toNat * t2.toNat
  ·rw [if_pos hcc] at H
   obtain ⟨⟨po, pn⟩, hsp, H2⟩ := Option.bind_eq_some_iff.mp H; obtain ⟨hw1, hw2, hh1, hh2, hlen⟩ := hcc; obtain ⟨tw, rfl⟩ := Int.eq_ofNat_of_zero_le (show 0 ≤ t1 by omega); obtain ⟨th, rfl⟩ := Int.eq_ofNat_of_zero_le (show 0 ≤ t2 by omega)
   simp only [Int.toNat_natCast] at hsp hlen
   simp only [Option.some.injEq, Prod.mk.injEq] at H2
   obtain ⟨rfl, rfl, rfl⟩ := H2; have hnum : tw * th ≤ 1024 * 1024 := Nat.mul_le_mul (by omega) (by omega); have hN2 : l0_2.length ≤ 1048576 := by omega
   have hmk : ∀ W0 : World, (Instr.makeSlice 35 (.int .i64 (l0_2.length : Int)) (.int .i64 (l0_2.length : Int))).run Try.prog W0 = .ok (.slice (some ⟨W0.heap.size, 0, none⟩) l0_2.length l0_2.length) (W0.alloc (.cells (ints (List.replicate l0_2.length 0)) 3)) := by
    intro W0; have h := run_make (P := Try.prog) W0 35 3 i0 _ Try.underlying35 hi hz0 .i64 .i64 (l0_2.length : Int) (l0_2.length : Int) (by omega) (by omega) (by rw [hz2]; omega) (by omega); rw [hz1, Nat.mul_one, show (Value.int IntKind.i64 0).cells = #[Value.int .i64 0] from rfl, ints_made] at h
    simpa using h
   have HSP := Ac.mk hsp; have HL := Ac.mk hlen; clear H hsp hlen hnum
   go_upto_region 4 with (go_at_call 63; refine (HGO.out _ (Kd.Bw HR0.out _) HC0.out HG.out).mono ?_; rintro e w' ⟨rfl, hb1⟩; have HB1 := Ac.mk hb1; clear hb1)
   have hmb := An (Go.Proofs.Ytbfimplajocmmaa.H.bnew (w := w) (.cells #[.int .i64 a0_0, .int .i64 a0_1, .slice A0_2 l0_2.length c0_2] 27) rfl) HB1.out; have hbel : Below w.heap.size w w' := (Ah (Below.refl _ w) _).trans (HB1.out.mono (by simp)); have hGs : w.heap.size < w'.heap.size := Bh hmb; obtain ⟨w2, hw2e⟩ : ∃ y, y = w'.alloc (.cells #[.int .i64 (tw : Int), .int .i64 (th : Int), .int .i64 t3] 103) := ⟨_, rfl⟩; rw [← hw2e]; obtain ⟨G, hG⟩ : ∃ y, y = w'.heap.size := ⟨_, rfl⟩; have hs2 : w2.heap.size = G + 1 := by rw [hw2e, hG]; simp
   have hm2 : w2.heap[w.heap.size]? = some (.cells #[.int .i64 a0_0, .int .i64 a0_1, .slice A0_2 l0_2.length c0_2] 27 (0, 0)) := by rw [hw2e]; exact Aj hmb _
   have hg2 : w2.heap[G]? = some (.cells #[.int .i64 (tw : Int), .int .i64 (th : Int), .int .i64 t3] 103 (0, 0)) := by rw [hw2e]; exact Go.Proofs.Ytbfimplajocmmaa.H.bnew _ hG.symm
   have hb2 : Below w.heap.size w w2 := by rw [hw2e]; exact Ah hbel _
   have hGlt : w.heap.size < G := by rw [hG]; exact hGs
   rw [← hG]; clear hw2e hmb hbel hGs HB1 HGO HG hG; have y2 : w2.cell? ⟨w.heap.size, 2, none⟩ = some (.slice A0_2 l0_2.length c0_2) := (Ad hm2 2).trans rfl; have HM2 := Ac.mk hm2; have HG2 := Ac.mk hg2; have HB2 := Ac.mk hb2; clear hm2 hg2 hb2
   go_upto_region 5 with fail
   try rw [hs2]
   obtain ⟨w3, hw3⟩ : ∃ y, y = ((w2.alloc (.cells (ints (List.replicate l0_2.length 0)) 3)).alloc (.cells #[.slice (some ⟨G + 1, 0, none⟩) l0_2.length l0_2.length] 35)).alloc (.cells #[.int .i64 0] 3) := ⟨_, rfl⟩
   try rw [← hw3]
   have hs3 : w3.heap.size = G + 4 := by rw [hw3]; simp; omega
   have hm3 : w3.heap[w.heap.size]? = some (.cells #[.int .i64 a0_0, .int .i64 a0_1, .slice A0_2 l0_2.length c0_2] 27 (0, 0)) := by rw [hw3]; exact Aj (Aj (Aj HM2.out _) _) _
   have hg3 : w3.heap[G]? = some (.cells #[.int .i64 (tw : Int), .int .i64 (th : Int), .int .i64 t3] 103 (0, 0)) := by rw [hw3]; exact Aj (Aj (Aj HG2.out _) _) _
   have ho3 : w3.heap[G + 1]? = some (.cells (ints (List.replicate l0_2.length 0)) 3 (0, 0)) := by rw [hw3]; exact Aj (Aj (Go.Proofs.Ytbfimplajocmmaa.H.bnew _ hs2) _) _
   have hp3 : w3.heap[G + 2]? = some (.cells #[.slice (some ⟨G + 1, 0, none⟩) l0_2.length l0_2.length] 35 (0, 0)) := by rw [hw3]; exact Aj (Go.Proofs.Ytbfimplajocmmaa.H.bnew _ (by simp; omega)) _
   have hn3 : w3.heap[G + 3]? = some (.cells #[.int .i64 0] 3 (0, 0)) := by rw [hw3]; exact Go.Proofs.Ytbfimplajocmmaa.H.bnew _ (by simp; omega)
   have hb3 : Below w.heap.size w w3 := by rw [hw3]; exact Ah (Ah (Ah HB2.out _) _) _
   clear y2 hw3; have y0 : w3.cell? ⟨w.heap.size, 0, none⟩ = some (.int .i64 a0_0) := (Ad hm3 0).trans rfl; have y1 : w3.cell? ⟨w.heap.size, 1, none⟩ = some (.int .i64 a0_1) := (Ad hm3 1).trans rfl; have y2 : w3.cell? ⟨w.heap.size, 2, none⟩ = some (.slice A0_2 l0_2.length c0_2) := (Ad hm3 2).trans rfl
   have hI0 : PW w.heap.size G w #[.int .i64 a0_0, .int .i64 a0_1, .slice A0_2 l0_2.length c0_2] #[.int .i64 (tw : Int), .int .i64 (th : Int), .int .i64 t3] (List.replicate l0_2.length 0) 0 (w3.alloc (.cells #[.int .i64 a0_0, .int .i64 a0_1, .slice A0_2 l0_2.length c0_2] 27)) :=
    ⟨Aj hm3 _, Aj hg3 _, Aj ho3 _, by rw [List.length_replicate]; exact Aj hp3 _, Aj hn3 _, Go.Proofs.Ytbfimplajocmmaa.H.bnew _ hs3, Ah hb3 _, hGlt⟩
   clear hmk hm3 hg3 ho3 hp3 hn3 hb3 HM2 HG2 HB2 hs2; have HI0 := Ac.mk hI0; clear hI0
   go_wp2_with (go_at_call 50; refine (in_made _ _ _ _ _ _).mono ?_; rintro e w'' ⟨rfl, rfl⟩)
   try rw [hs3]
   have hs4 : (w3.alloc (.cells #[.int .i64 a0_0, .int .i64 a0_1, .slice A0_2 l0_2.length c0_2] 27)).heap.size = G + 5 := by simp; omega
   generalize w3.alloc (.cells #[.int .i64 a0_0, .int .i64 a0_1, .slice A0_2 l0_2.length c0_2] 27) = w4 at HI0 hs4 ⊢; clear y0 y1 y2 hs3; refine (wpIn_wide (n := 10)).1 ?_; rw [show G + 1 + 1 + 1 = G + 3 from rfl, show G + 1 + 1 = G + 2 from rfl]
   refine rangeFunc_ownH1 rfl (by omega) (gf := 80) (lb := #[.pointer (some ⟨G + 4, 0, none⟩)]) rfl trivial (enters_of Try.func80 (by kernel_rfl) rfl)
    (in_stops 9 (by omega) (G + 4) A0_2 c0_2 l0_2 HC0.out w4 (by omega) ((Ad HI0.out.mb 2).trans rfl) (Kd.B2 HR0.out HI0.out.below)) KpM_t (fun W l o o' hl h1 h2 _ => KpM_b W l o o' h1 h2) (Below.refl _ _) (fun _ => rfl)
    (fun (pre : List (Pl l0_2.length)) W' => Ac (∃ out n, partsGo (nbs tw th t3) (fun k => l0_2.getD k false) (l0_2.length + 2) (pre.map (·.1)) (List.replicate l0_2.length 0) 0 = some (out, n) ∧ PW w.heap.size G w #[.int .i64 a0_0, .int .i64 a0_1, .slice A0_2 l0_2.length c0_2] #[.int .i64 (tw : Int), .int .i64 (th : Int), .int .i64 t3] out n W'))
    (fun _ _ _ => False)
    (fun (s : List (Pl l0_2.length)) X Y row hs hg hr => by obtain ⟨out, n, h1, hv⟩ := hs.out; exact ⟨out, n, h1, hv.kept (show w.heap.size ≤ w4.heap.size by omega) hg hr⟩)
    (fun _ _ _ _ _ hs _ _ => hs)
    ⟨⟨_, _, rfl, HI0.out⟩⟩ ?a1 (fun _ h => h) ?assign ?body ?done ?stop
   case assign =>
    intro l x W9 K hK
    gi_wp2
    exact hK
   case body =>
    rintro l pre x wr0 hll hlr hv hpl; obtain ⟨out, n, hgo, hv⟩ := hv.out; obtain ⟨i, hiN⟩ := x; have hnbs : ∀ i, i < l0_2.length → ∀ k ∈ nbs tw th t3 i, k < l0_2.length := fun i hi k hk => by rw [HL.out] at hi ⊢; exact nbs_lt (by omega) hi k hk
    have h9 := partsGo_some (nbs tw th t3) (fun k => l0_2.getD k false) l0_2.length hnbs (pre.map (·.1)) (List.replicate l0_2.length 0) 0 (by omega) (by simp) (fun y hy => by obtain ⟨z, _, rfl⟩ := List.mem_map.mp hy; exact z.2); obtain ⟨o9, m9, e1, hol, hn0, hn1⟩ := h9; rw [hgo] at e1; obtain ⟨rfl, rfl⟩ : out = o9 ∧ n = m9 := by simpa using e1
    rw [List.length_map] at hn1; have hplN : pre.length < l0_2.length := hpl; have c1 : wr0.cell? ⟨G + 2, 0, none⟩ = some (.slice (some ⟨G + 1, 0, none⟩) l0_2.length l0_2.length) := by rw [← hol]; exact (Ad hv.ob 0).trans rfl
    obtain ⟨c2, f2⟩ := hv.cells i (by omega); have c3 : wr0.cell? ⟨G + 3, 0, none⟩ = some (.int .i64 n) := (Ad hv.nb 0).trans rfl; have f3 : wr0.frozen? ⟨G + 3, 0, none⟩ = false := Af hv.nb 0; obtain ⟨oi, hoi⟩ : ∃ y, y = out.getD i 0 := ⟨_, rfl⟩; rw [← hoi] at c2; have HV := Ac.mk hv; have HGO := Ac.mk hgo; have HOL := Ac.mk hol; have HOI := Ac.mk hoi; have HN0 := Ac.mk hn0; have HN1 := Ac.mk hn1; have HNB := Ac.mk hnbs; have HPL := Ac.mk hplN; have HLR := Ac.mk hlr; clear hv hgo hol hoi e1 hnbs hlr
    by_cases hpos : 0 < oi
    ·have d1 : decide (0 < oi) = true := decide_eq_true hpos
     have d2 : decide (oi > 0) = true := decide_eq_true hpos; have HPOS := Ac.mk hpos; clear hpos hn0 hn1 hplN
     gi_wp2
     refine ⟨KeepsFrom.refl _ _, fun h => h, ⟨out, n, ?_, HV.out⟩⟩; rw [List.map_append, show [(⟨i, hiN⟩ : Pl l0_2.length)].map (·.1) = [i] from rfl, partsGo_snoc, HGO.out, Option.bind_some, if_pos (by rw [← HOI.out]; exact HPOS.out)]
    ·have d1 : decide (0 < oi) = false := decide_eq_false hpos
     have d2 : decide (oi > 0) = false := decide_eq_false hpos; have hw9 : IntKind.i64.wrap (n + 1) = n + 1 := by rw [IntKind.wrap_i64]; omega
     have HPOS := Ac.mk hpos; clear hpos hn0 hn1 hplN
     gi_upto_region 10 with fail
     obtain ⟨T, hT⟩ : ∃ y, y = wr0.heap.size := ⟨_, rfl⟩; rw [← hT]
     have hsz1 : (wr0.setCell ⟨G + 3, 0, none⟩ (.int .i64 (n + 1))).heap.size = T := by
      rw [hT]; show (wr0.heap.modify _ _).size = _; rw [Array.size_modify]
     have hpw := ((HV.out.count (n + 1)).step (Ah (Below.refl _ _) (.cells #[.int .i64 (i : Int)] 3))); have hpw2 := hpw.step (Ah (Below.refl _ _) (.cells #[.slice (some ⟨T, 0, none⟩) 1 1] 35)); have hko : KeepsOthers wr0 (((wr0.setCell ⟨G + 3, 0, none⟩ (.int .i64 (n + 1))).alloc (.cells #[.int .i64 (i : Int)] 3)).alloc (.cells #[.slice (some ⟨T, 0, none⟩) 1 1] 35)) := ((KeepsOthers.setCell _ _ _).trans (KeepsOthers.alloc _ _)).trans (KeepsOthers.alloc _ _); have hrow : (((wr0.setCell ⟨G + 3, 0, none⟩ (.int .i64 (n + 1))).alloc (.cells #[.int .i64 (i : Int)] 3)).alloc (.cells #[.slice (some ⟨T, 0, none⟩) 1 1] 35)).heap[T]? = some (.cells (ints [(i : Int)]) 3 (0, 0)) := Aj (Go.Proofs.Ytbfimplajocmmaa.H.bnew _ hsz1) _; have hbox : (((wr0.setCell ⟨G + 3, 0, none⟩ (.int .i64 (n + 1))).alloc (.cells #[.int .i64 (i : Int)] 3)).alloc (.cells #[.slice (some ⟨T, 0, none⟩) 1 1] 35)).heap[T + 1]? = some (.cells #[.slice (some ⟨T, 0, none⟩) 1 1] 35 (0, 0)) := Go.Proofs.Ytbfimplajocmmaa.H.bnew _ (by simp; omega); have hGT := HV.out.lt; rw [← hT] at hGT; generalize ((wr0.setCell ⟨G + 3, 0, none⟩ (.int .i64 (n + 1))).alloc (.cells #[.int .i64 (i : Int)] 3)).alloc (.cells #[.slice (some ⟨T, 0, none⟩) 1 1] 35) = wb at hpw2 hko hrow hbox ⊢
     have hpd : PD w.heap.size G T l w #[.int .i64 a0_0, .int .i64 a0_1, .slice A0_2 l0_2.length c0_2] #[.int .i64 (tw : Int), .int .i64 (th : Int), .int .i64 t3] out (n + 1) [i] (.slice (some ⟨T, 0, none⟩) 1 1) wb := by
      obtain ⟨r, hr⟩ := HLR.out; exact ⟨hpw2, hbox, own_of_ints (l := [(i : Int)]) hrow (Nat.le_refl _) (by simp), ⟨r, hko.same l _ hr rfl⟩, hGT⟩
     clear hpw hpw2 hrow hbox hsz1 c1 c2 c3 f2 f3 hT; have c1 : wb.cell? ⟨G + 2, 0, none⟩ = some (.slice (some ⟨G + 1, 0, none⟩) l0_2.length l0_2.length) := by rw [← HOL.out]; exact (Ad hpd.w.ob 0).trans rfl
     obtain ⟨c2, f2⟩ := hpd.w.cells i (by rw [HOL.out]; exact hiN); obtain ⟨o2, ho2⟩ : ∃ y, y = out.getD i 0 := ⟨_, rfl⟩; rw [← ho2] at c2; have c3 : wb.cell? ⟨G + 3, 0, none⟩ = some (.int .i64 (n + 1)) := (Ad hpd.w.nb 0).trans rfl
     have hdf := dfs_some (nbs tw th t3) (fun k => l0_2.getD k false) (n + 1) (by have := HN0.out; omega) l0_2.length HNB.out (l0_2.length + 2) (out.set i (n + 1)) [i] (by rw [List.length_set]; exact HOL.out) (fun k hk => by rw [List.mem_singleton.mp hk]; exact hiN) (by
      have h8 := zeros_le (out.set i (n + 1)); rw [List.length_set, HOL.out] at h8
      simp only [List.length_singleton]
      omega)
     obtain ⟨o, hdo, hol⟩ := hdf
     have hcnt : zeros (out.set i (n + 1)) + [i].length ≤ l0_2.length + 1 := by
      have h8 := zeros_le (out.set i (n + 1)); rw [List.length_set, HOL.out] at h8
      simp only [List.length_singleton]
      omega
     have HI1 : Ac (∃ out2 s v, dfs (nbs tw th t3) (fun k => l0_2.getD k false) (n + 1) (l0_2.length + 2) out2 s = some o ∧ out2.length = l0_2.length ∧ (∀ k ∈ s, k < l0_2.length) ∧ zeros out2 + s.length ≤ l0_2.length + 1 ∧ PD w.heap.size G T l w #[.int .i64 a0_0, .int .i64 a0_1, .slice A0_2 l0_2.length c0_2] #[.int .i64 (tw : Int), .int .i64 (th : Int), .int .i64 t3] out2 (n + 1) s v (wb.setCell ⟨G + 1, i, none⟩ (.int .i64 (n + 1))) ∧ KeepsFrom w4.heap.size wr0 (wb.setCell ⟨G + 1, i, none⟩ (.int .i64 (n + 1)))) :=
      ⟨_, _, _, hdo, by rw [List.length_set]; exact HOL.out, fun k hk => by rw [List.mem_singleton.mp hk]; exact hiN, hcnt, hpd.put i (n + 1), (hko.trans (KeepsOthers.setCell _ _ _)).from _⟩
     have HDO := Ac.mk hdo
     have HLL := Ac.mk hll; have HGT := Ac.mk hGT; clear hpd hko ho2 hdo hcnt hol hll hGT
     gi_wp2
     generalize wb.setCell ⟨G + 1, i, none⟩ (.int .i64 (n + 1)) = wc at HI1 ⊢; clear c1 c2 c3 f2
     gi_loopg [] (l0_2.length + 2) (fun f wr => Ac (∃ out2 s v, dfs (nbs tw th t3) (fun k => l0_2.getD k false) (n + 1) f out2 s = some o ∧ out2.length = l0_2.length ∧ (∀ k ∈ s, k < l0_2.length) ∧ zeros out2 + s.length ≤ l0_2.length + 1 ∧ PD w.heap.size G T l w #[.int .i64 a0_0, .int .i64 a0_1, .slice A0_2 l0_2.length c0_2] #[.int .i64 (tw : Int), .int .i64 (th : Int), .int .i64 t3] out2 (n + 1) s v wr ∧ KeepsFrom w4.heap.size wr0 wr))
     case atStart => exact HI1
     case round =>
      obtain ⟨out2, s, v, hdf, hol2, hsl, hcnt, hpd, hkf⟩ := hrel.out; clear HI1 hrel; cases gk with
      | zero => simp [dfs] at hdf
      | succ f =>
       rw [dfs] at hdf
       by_cases hse : s = []
       ·rw [if_pos hse] at hdf
        subst hse; obtain rfl := Option.some.inj hdf; obtain ⟨Av, cv, hvs⟩ := own_slice hpd.o; subst hvs; have cT : wr.cell? ⟨T + 1, 0, none⟩ = some (.slice Av 0 cv) := (Ad hpd.tb 0).trans rfl; have HPD := Ac.mk hpd; have HKF := Ac.mk hkf; clear hpd hkf hdf hcnt hsl
        gi_wp2
        refine ⟨HKF.out, fun hc => Kd.B2 HR0.out HPD.out.w.below, ⟨out2, n + 1, ?_, HPD.out.w⟩⟩; rw [List.map_append, show [(⟨i, hiN⟩ : Pl l0_2.length)].map (·.1) = [i] from rfl]; have hnp : ¬ (0 < out.getD i 0) := by rw [← HOI.out]; exact Int.not_lt.mpr HPOS.out
        exact partsGo_root HGO.out hnp HDO.out
       ·rw [if_neg hse] at hdf
        obtain ⟨m, hm⟩ : ∃ m, s.length = m + 1 := ⟨s.length - 1, by have := List.length_pos_iff.mpr hse; omega⟩; obtain ⟨g, cap, hv, hg1, hg2⟩ := hpd.o.form (by omega); subst hv; obtain ⟨jj, hj⟩ : ∃ y, y = s.getD m 0 := ⟨_, rfl⟩; have hjm : jj ∈ s := by rw [hj]; exact qget_mem s m (by omega)
        have hjN := hsl jj hjm
        have cj : wr.cell? ⟨g, m, none⟩ = some (.int .i64 (jj : Int)) := by
         have h8 := hpd.o.cells (g := g) rfl m (encN jj) (by rw [List.getElem?_map, List.getElem?_eq_getElem (by omega), hj, List.getD_eq_getElem?_getD, List.getElem?_eq_getElem (by omega)]; rfl); rw [add_plain] at h8; exact h8
        have hpop := hpd.pop; rw [hm] at hpop
        simp only [Nat.add_sub_cancel] at hpop
        have cT : wr.cell? ⟨T + 1, 0, none⟩ = some (.slice (some ⟨g, 0, none⟩) (m + 1) cap) := by rw [← hm]; exact (Ad hpd.tb 0).trans rfl
        have fT : wr.frozen? ⟨T + 1, 0, none⟩ = false := Af hpd.tb 0; rw [hm] at hdf
        simp only [Nat.add_sub_cancel] at hdf
        rw [← hj] at hdf; have hmN : m ≤ l0_2.length := by omega
        have hcap : m + 1 ≤ cap := by
         obtain ⟨A9, c9, e9, hc9, _⟩ := own_reads hpd.o; have e10 : cap = c9 := by injection e9
         rw [e10, ← hm]; exact hc9
        have hcut := cut_to (P := Try.prog) 35 3 .i64 Try.underlying35 hi (some ⟨g, 0, none⟩) (m + 1) cap (m : Int) (by omega) (by omega) hcap; rw [Int.toNat_natCast] at hcut; have q3 : decide ((0 : Int) < (m : Int) + 1) = true := decide_eq_true (by omega); have q4 : decide ((m : Int) + 1 > 0) = true := decide_eq_true (by omega); have q1 : decide (m + 1 > 0) = true := decide_eq_true (by omega); have q2 : decide (0 < m + 1) = true := decide_eq_true (by omega); have HPOP := Ac.mk hpop; have HKF := Ac.mk (hkf.trans ((KeepsOthers.setCell wr ⟨T + 1, 0, none⟩ (.slice (some ⟨g, 0, none⟩) m cap)).from _)); have HDF := Ac.mk hdf; have HSL := Ac.mk hsl; have HCNT := Ac.mk hcnt; have HM := Ac.mk hm; have HJN := Ac.mk hjN; clear hpop hkf hdf hcnt hsl hpd hse hjm hj hg1 hg2 hm; have hwm : IntKind.i64.wrap (m : Int) = (m : Int) := by rw [IntKind.wrap_i64]; omega
        have hwm2 : wrap64 (m : Int) = (m : Int) := by unfold wrap64; omega
        clear hcap hwm2
        gi_upto_region 13 with fail
        gi_upto_region 14 with fail
        generalize wr.setCell ⟨T + 1, 0, none⟩ (.slice (some ⟨g, 0, none⟩) m cap) = wd at HPOP HKF ⊢; clear cT fT cj hcut hwm q1 q2 q3 q4; obtain ⟨ad, hA, _⟩ := (Kd.Cx (enc := Value.bool) (d := false) (h1 := fun _ => rfl) (Kd.B2 HR0.out HPOP.out.w.below)).at_ (i : Int) (by omega) (by omega); subst hA
        have hmask : ∀ (W1 : World) (j : Nat), Below w.heap.size w W1 → j < l0_2.length → W1.cell? (ad.add j) = some (.bool (l0_2.getD j false)) := fun W1 j hbw hj => by
         obtain ⟨ad2, hA2, hc2⟩ := (Kd.Cx (enc := Value.bool) (d := false) (h1 := fun _ => rfl) (Kd.B2 HR0.out hbw)).at_ (j : Int) (by omega) (by omega); obtain rfl := Option.some.inj hA2; rw [Int.toNat_natCast] at hc2; refine hc2.trans ?_; unfold rdOf; rw [Int.toNat_natCast]
        have HMASK := Ac.mk hmask; obtain ⟨Bx, hBx⟩ : ∃ y, y = wd.heap.size := ⟨_, rfl⟩; have hTB : T + 1 < Bx := by rw [hBx]; exact Bh HPOP.out.tb
        have hlB : l < Bx := by obtain ⟨r, hr⟩ := HPOP.out.lrec; rw [hBx]; exact Bh hr
        have hwB : wr0.heap.size ≤ Bx := by rw [hBx]; exact HKF.out.size
        have hGB0 := HPOP.out.le; have hwG := HPOP.out.w.le; have y0 : wd.cell? ⟨G, 0, none⟩ = some (.int .i64 (tw : Int)) := (Ad HPOP.out.w.g 0).trans rfl; have y1 : wd.cell? ⟨G, 1, none⟩ = some (.int .i64 (th : Int)) := (Ad HPOP.out.w.g 1).trans rfl; have y2 : wd.cell? ⟨G, 2, none⟩ = some (.int .i64 t3) := (Ad HPOP.out.w.g 2).trans rfl; have HBX := Ac.mk hBx; clear hmask hBx
        gi_wp2_with (refine ⟨trivial, ?_⟩; gi_at_call 64; refine (CallsIn.inRound l (callsIn_wide.2 (beside_made _ _ _ _ _))).mono ?_; rintro e w' ⟨rfl, rfl⟩)
        obtain ⟨w5, hw5⟩ : ∃ w5, w5 = (wd.alloc (.cells #[.int .i64 (tw : Int), .int .i64 (th : Int), .int .i64 t3] 103)).alloc (.cells #[.int .i64 (jj : Int)] 3) := ⟨_, rfl⟩
        have hGB : GB (Bx + 1) Bx jj tw th t3 w5 := by
         rw [hw5]; exact ⟨Go.Proofs.Ytbfimplajocmmaa.H.bnew _ (by simp; have := HBX.out; omega), Aj (Go.Proofs.Ytbfimplajocmmaa.H.bnew _ HBX.out.symm) _⟩
        have hb5 : Below wd.heap.size wd w5 := by rw [hw5]; exact Ah (Ah (Below.refl _ _) _) _
        have hs5 : w5.heap.size = Bx + 2 := by rw [hw5]; simp; have := HBX.out; omega
        have hko5 : KeepsOthers wd w5 := by rw [hw5]; exact (KeepsOthers.alloc _ _).trans (KeepsOthers.alloc _ _)
        have hlt5 : w5.heap.size = w5.heap.size := rfl
        have hI5 : PE w.heap.size G T l Bx w4.heap.size wr0 w #[.int .i64 a0_0, .int .i64 a0_1, .slice (some ad) l0_2.length c0_2] #[.int .i64 (tw : Int), .int .i64 (th : Int), .int .i64 t3] (fun k => l0_2.getD k false) (n + 1) out2 (s.take m) [] (.slice (some ⟨g, 0, none⟩) m cap) w5 := by
         refine ⟨HPOP.out.step hb5, fun k hk => .inl ?_, by omega, HKF.out.trans (hko5.from _)⟩; rw [HBX.out]; exact own_lt HPOP.out.o k hk
        have hl5 : ∃ r, w5.heap[l]? = some (.loop r) := by
         obtain ⟨r, hr⟩ := HPOP.out.lrec; exact ⟨r, hko5.same l _ hr rfl⟩
        obtain ⟨r5, hr5⟩ := hl5; rw [show wd.heap.size = Bx from HBX.out.symm, ← hw5]; have HI5 := Ac.mk hI5; have hjw : jj < tw * th := by rw [← HL.out]; exact HJN.out
        clear hw5 hb5 hko5 hlt5 hI5 y0 y1 y2 HPOP HKF
        refine rangeFunc_ownN1 (l₀ := l) (r₀ := r5) rfl hr5 (by omega) (gf := 87) (lb := #[.pointer (some ⟨Bx + 1, 0, none⟩), .pointer (some ⟨Bx, 0, none⟩)]) rfl trivial (enters_of Try.func87 (by kernel_rfl) rfl)
         ((beside_stops 7 (by omega) (Bx + 1) Bx jj tw th t3 (by omega) (by omega) (by omega) hjw w5 hGB).inRound l) KpG_t (fun W l o o' hl _ _ _ => KpG_b (w := w5) (by omega) (by omega) W l o o' hl) (Below.refl _ _) (fun _ => rfl)
         (fun (pre : List (Pl (tw * th))) W' => Ac (∃ v, PE w.heap.size G T l Bx w4.heap.size wr0 w #[.int .i64 a0_0, .int .i64 a0_1, .slice (some ad) l0_2.length c0_2] #[.int .i64 (tw : Int), .int .i64 (th : Int), .int .i64 t3] (fun k => l0_2.getD k false) (n + 1) out2 (s.take m) (pre.map (·.1)) v W'))
         (fun _ _ _ => False)
         (fun s X Y row hs hg hr => by obtain ⟨v, hv⟩ := hs.out; exact ⟨v, hv.kept (by omega) (by omega) (by omega) hg (fun r e => by have := hr r e; rw [hs5] at this; exact this)⟩)
         (fun _ _ _ _ _ hs _ _ => hs)
         ⟨⟨_, HI5.out⟩⟩ ?b1 (fun _ => ⟨rfl, rfl⟩) ?assign2 ?body2 ?done2 ?stop2
        case assign2 =>
         intro l x W9 K hK
         gi_wp2
         exact hK
        case body2 =>
         rintro l2 pre2 x wr2 hv hpl2; obtain ⟨v2, hv⟩ := hv.out; obtain ⟨k, hkN⟩ := x; have hkl : k < l0_2.length := by rw [HL.out]; exact hkN
         have hc := part1_count (fun k => l0_2.getD k false) (n + 1) (by have := HN0.out; omega) l0_2.length (pre2.map (·.1)) out2 (s.take m) hol2 (fun y hy => by obtain ⟨z, _, rfl⟩ := List.mem_map.mp hy; rw [HL.out]; exact z.2) (fun y hy => HSL.out y (List.mem_of_mem_take hy)); have hd := hv.d; obtain ⟨o3, ho3⟩ : ∃ y, y = (part1 (fun k => l0_2.getD k false) (n + 1) (pre2.map (·.1)) out2 (s.take m)).1 := ⟨_, rfl⟩; obtain ⟨s3, hs3⟩ : ∃ y, y = (part1 (fun k => l0_2.getD k false) (n + 1) (pre2.map (·.1)) out2 (s.take m)).2 := ⟨_, rfl⟩; rw [← ho3, ← hs3] at hd hc
         have hc3 : s3.length ≤ l0_2.length + 1 := by
          have h8 := hc.2.2; have h9 := HCNT.out; rw [List.length_take] at h8
          omega
         have c1 : wr2.cell? ⟨G + 2, 0, none⟩ = some (.slice (some ⟨G + 1, 0, none⟩) l0_2.length l0_2.length) := by rw [← hc.1]; exact (Ad hd.w.ob 0).trans rfl
         obtain ⟨c2, f2⟩ := hd.w.cells k (by rw [hc.1]; exact hkl); obtain ⟨old, hold⟩ : ∃ y, y = o3.getD k 0 := ⟨_, rfl⟩; rw [← hold] at c2; have c3 : wr2.cell? ⟨G + 3, 0, none⟩ = some (.int .i64 (n + 1)) := (Ad hd.w.nb 0).trans rfl; have cT : wr2.cell? ⟨T + 1, 0, none⟩ = some v2 := (Ad hd.tb 0).trans rfl; have m2 : wr2.cell? ⟨w.heap.size, 2, none⟩ = some (.slice (some ad) l0_2.length c0_2) := (Ad hd.w.m 2).trans rfl; have cj := HMASK.out wr2 k hd.w.below hkl; obtain ⟨b2, hb2⟩ : ∃ b, b = l0_2.getD k false := ⟨_, rfl⟩; rw [← hb2] at cj; have HV := Ac.mk hv; have HB2 := Ac.mk hb2; have HOLD := Ac.mk hold; have HO3 := Ac.mk ho3; have HS3 := Ac.mk hs3; have HC3 := Ac.mk hc3; have HD3 := Ac.mk hd; clear hv hb2 hold ho3 hs3 hc hc3 hd hpl2; cases b2 with
         | false =>
          gi_wp2
          refine ⟨KeepsFrom.refl _ _, ⟨rfl, rfl⟩, ⟨v2, ?_⟩⟩; rw [List.map_append]; exact HV.out.no (fun hh => by have h8 : l0_2.getD k false = true := hh.1; rw [← HB2.out] at h8; exact absurd h8 (by decide))
         | true =>
          by_cases hz : old = 0
          ·have d1 : (old == 0) = true := by simp [hz]
           have HZ := Ac.mk hz; clear hz
           gi_upto_region 18 with fail
           have HP7 := Ac.mk (HD3.out.put k (n + 1)); obtain ⟨w7, hw7⟩ : ∃ y, y = wr2.setCell ⟨G + 1, k, none⟩ (.int .i64 (n + 1)) := ⟨_, rfl⟩; rw [← hw7] at HP7 ⊢; have HW7 := Ac.mk hw7; have cT7 : w7.cell? ⟨T + 1, 0, none⟩ = some v2 := (Ad HP7.out.tb 0).trans rfl; have hT7 : T ≤ w7.heap.size := Nat.le_of_lt (by have := Bh HP7.out.tb; omega); clear hw7 c1 c2 f2 c3 cT m2 cj d1
           gi_wp2_with (gi_at_builtin; refine wpListIn_append_own_at _ rfl _ _ 35 rfl T 3 i0 (.int .i64 0) 1 8 Try.underlying35 hi hz0 hz1 hz2 rfl (by decide) v2 s3.length _ rfl (Dn HP7.out.o _) ⟨w7.heap.size, 0, none⟩ 1 1 [.int .i64 (k : Int)] rfl rfl (cell_one_new _ _ _) (by intro u hu; simp at hu; subst hu; rfl) (by have := HC3.out; unfold maxLen; omega) (by have := HC3.out; omega) (by simp; omega) ?_; intro v' w1 hown' hgrow hnil hat; obtain ⟨g', cap', rfl⟩ := ownsRow_succ hown'; obtain ⟨⟨hc1, hf1⟩, _⟩ := HP7.out.append hown' hgrow hat; have HQ8 := Ac.mk hown'; have HGR := Ac.mk hgrow; have HAT := Ac.mk hat; clear hown' hgrow hnil hat)
           have hfin := HV.out.yes (w1 := w1) (v' := .slice (some ⟨g', 0, none⟩) (s3.length + 1) cap') hTB ⟨HB2.out.symm, by rw [← HO3.out, ← HOLD.out]; exact HZ.out⟩ (by rw [← HS3.out]; exact HQ8.out) (by rw [← HW7.out]; exact HGR.out) (by rw [← HW7.out]; exact HAT.out) w5.heap.size; refine ⟨hfin.2.1, hfin.2.2, ⟨.slice (some ⟨g', 0, none⟩) (s3.length + 1) cap', ?_⟩⟩; rw [List.map_append]; exact hfin.1
          ·have d1 : (old == 0) = false := by simp [hz]
           have HZ := Ac.mk hz; clear hz
           gi_wp2
           refine ⟨KeepsFrom.refl _ _, ⟨rfl, rfl⟩, ⟨v2, ?_⟩⟩; rw [List.map_append]; exact HV.out.no (fun hh => HZ.out (by rw [HOLD.out, HO3.out]; exact hh.2))
        case done2 =>
         rintro xs wr2 hS hv; obtain ⟨v2, hv⟩ := hv.out; have hc := part1_count (fun k => l0_2.getD k false) (n + 1) (by have := HN0.out; omega) l0_2.length (nbs tw th t3 jj) out2 (s.take m) hol2 (fun y hy => HNB.out jj HJN.out y hy) (fun y hy => HSL.out y (List.mem_of_mem_take hy)); rw [hS] at hv
         gi_wp2
         gi_roundg f
         case rel =>
          refine ⟨_, _, v2, HDF.out, hc.1, hc.2.1, ?_, hv.d, hv.kf⟩; have h8 := hc.2.2; have h9 := HCNT.out; rw [HM.out] at h9; rw [List.length_take] at h8
          omega
         case measure => omega
        case stop2 =>
         rintro c pre W _ h; exact h.elim
   case done =>
    rintro D xs wr2 hD hS hv hK; obtain ⟨out, n, hgo, hv⟩ := hv.out; rw [hS, HSP.out] at hgo
    simp only [Option.some.injEq, Prod.mk.injEq] at hgo
    obtain ⟨rfl, rfl⟩ := hgo; have c1 : wr2.cell? ⟨G + 2, 0, none⟩ = some (.slice (some ⟨G + 1, 0, none⟩) po.length po.length) := (Ad hv.ob 0).trans rfl; have c2 : wr2.cell? ⟨G + 3, 0, none⟩ = some (.int .i64 pn) := (Ad hv.nb 0).trans rfl; have hDl := Bh hK
    go_wp2
    go_quiet (fail)
    go_wp2
    have hv3 := hv.step (Ae (Below.refl _ wr2) nq); have hK3 : (wr2.drewN nq).heap[D]? = some (.deferred (some [])) := hK; generalize wr2.drewN nq = w9 at hv3 hK3 ⊢
    have hd9 : ∀ E ∈ [D], w9.heap[E]? = some (.deferred (some [])) := fun E hE => by
     obtain rfl := List.mem_singleton.mp hE; exact hK3
    have hpl : po.length ≤ 9223372036854775807 := by
     have h9 := partsGo_some (nbs tw th t3) (fun k => l0_2.getD k false) l0_2.length (fun i hi k hk => by rw [HL.out] at hi ⊢; exact nbs_lt (by omega) hi k hk) (trues l0_2 l0_2.length) (List.replicate l0_2.length 0) 0 (by omega) (by simp) (trues_lt _ _); obtain ⟨o, m, e1, e2, _⟩ := h9; rw [HSP.out] at e1; obtain ⟨rfl, rfl⟩ : po = o ∧ pn = m := by simpa using e1
     omega
    have hR : Kd.R (Kd.int .i64) 3 w9 w.heap.size (fun _ => True) (.slice (some ⟨G + 1, 0, none⟩) po.length po.length) po := Kd.Dt (own_of_ints hv3.s (by omega) hpl) (fun _ _ => trivial); refine leaves_marks (by simp) [D] w9 (by simp) hd9 ?_
    have hQ := shutAll_keep [D] w9 hd9 (by simp) (fun X => Kd.R (Kd.int .i64) 3 X w.heap.size (fun _ => True) (.slice (some ⟨G + 1, 0, none⟩) po.length po.length) po ∧ Below w.heap.size w X) (fun X E hX hE hm => by
     obtain rfl := List.mem_singleton.mp hm; exact ⟨R_kept (d := Kd.int .i64) hX.1 (grownBy_putObj' X _ _) (fun r e => by cases e; exact ⟨_, hE, rfl⟩), hX.2.grown (grownBy_putObj' X _ _) hX.2.size (fun k e => by cases e; omega)⟩) ⟨hR, hv3.below⟩
    exact ⟨_, results_tmp3 rfl _ _ _, _, rfl, hQ.1, hQ.2⟩
   case stop =>
    rintro D c pre W _ _ h _; exact h.elim
  ·rw [if_neg hcc] at H
   cases H
 ·have d1 : (t4 == 0) = false := by simp [h4]
  have d2 : (t4 != 0) = true := by simp [h4]
  rw [if_neg h4] at H
  simp only [Option.some.injEq, Prod.mk.injEq] at H
  obtain ⟨rfl, rfl, rfl⟩ := H
  go_wp2_with (go_at_call 63; refine (HGO.out _ (Kd.Bw HR0.out _) HC0.out HG.out).mono ?_; rintro e w' ⟨rfl, hb1⟩; have HB1 := Ac.mk hb1; clear hb1)
  have hbel : Below w.heap.size w w' := (Ah (Below.refl _ w) _).trans (HB1.out.mono (by simp)); refine leaves_marks (by simp) [] _ (by simp) (by simp) ?_; refine ⟨_, results_tmp3 rfl _ _ _, _, rfl, Kd.Ct _ _ _ _ _, ?_⟩; exact Ah hbel _
end Go.Proofs.Ytbfimplajocmmaa


