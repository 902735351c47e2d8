import Derived.Test.YteamphcehoaleaaZSPA
open Go Go.RowKit Go.Shelf Go.Proofs.YteamphcehoaleaaW.PrintWords Go.Proofs.YteamphcehoaleaaW.PrintLast Go.Proofs.YteamphcehoaleaaW.PrintMore
attribute [local go_sem] Oper.semAt_some
set_option linter.unusedVariables false
set_option linter.unusedSimpArgs false
namespace Go.Proofs.Yteamphcehoaleaa
open PFA FM
def Ct.f (a0_0 a0_1 : Int) (l0_2 : List Bool) (a1 : Int) : Option (List Int × Int) :=
  (C0.f a0_0 a0_1 l0_2 a1).bind fun t => if t.2.2.2 = 0 then
    (if 1 ≤ t.1 ∧ t.1 ≤ 1024 ∧ 0 ≤ t.2.1 ∧ t.2.1 ≤ 1024 ∧ l0_2.length = t.1.toNat * t.2.1.toNat then
      (spread (nbs t.1.toNat t.2.1.toNat t.2.2.1) (fun _ => true) (t.1.toNat * t.2.1.toNat + 1) 0 (steps0 (t.1.toNat * t.2.1.toNat) (trues l0_2 l0_2.length)) (trues l0_2 l0_2.length)).bind fun p => some (p.1, 0)
    else none) else some ([], t.2.2.2)
theorem away1 (i : Int) (w : World) : Calls Try.prog 78 (#[.int .i64 i] ++ #[]) w fun e w' => e = .returned (.bool true) ∧ ∃ q, w' = w.drewN q := by
  show Calls Try.prog 78 #[.int .i64 i] w _
  go_enter Try.func78, Try.ntmps78
  go_wp2
  go_ret
  exact ⟨rfl, 0, rfl⟩
structure AWI (B G : Nat) (W0 : World) (mask gr : Array Value) (q : List Nat) (v : Value) (W : World) : Prop where
  g : W.heap[G]? = some (.cells gr 108 (0, 0))
  ob : W.heap[G + 1]? = some (.cells #[v] 31 (0, 0))
  mb : W.heap[G + 2]? = some (.cells mask 50 (0, 0))
  o : W.ownsRow (G + 3) 3 1 v q.length (q.map encN)
  below : Below B W0 W
  le : B ≤ G
theorem AWI.lt {B G : Nat} {W0 W : World} {mask gr : Array Value} {q : List Nat} {v : Value} (H : AWI B G W0 mask gr q v W) : G + 2 < W.heap.size := Bz H.mb
theorem AWI.kept {B C G : Nat} {W0 W W' : World} {mask gr : Array Value} {q : List Nat} {v : Value} {row : Option Nat} (H : AWI B G W0 mask gr q v W) (hBC : B ≤ C) (hg : W.grownBy W' row) (hr : ∀ r, row = some r → C ≤ r ∧ ∃ o : Obj, W.heap[r]? = some o ∧ o.isCells = false) : AWI B G W0 mask gr q v W' := by
  have hr2 : ∀ r, row = some r → ∃ o : Obj, W.heap[r]? = some o ∧ o.isCells = false := fun r e => (hr r e).2
  refine ⟨Cp H.g hg hr2, Cp H.ob hg hr2, Cp H.mb hg hr2, ?_, H.below.grown hg (by have := H.lt; have := H.le; omega) (fun k e => Nat.le_trans hBC (hr k e).1), H.le⟩
  refine own_move H.o (fun k hk => ?_)
  obtain ⟨cells, hc⟩ := C9 H.o k hk
  exact (Cp hc hg hr2).trans hc.symm
theorem AWI.append {B G : Nat} {W0 W W1 : World} {mask gr : Array Value} {q : List Nat} {v v' : Value} {x : Nat} (H : AWI B G W0 mask gr q v W) (hown' : W1.ownsRow (G + 3) 3 1 v' (q.length + 1) (q.map encN ++ [.int .i64 (x : Int)])) (hgrow : (W.alloc (.cells #[.int .i64 (x : Int)] 3)).grownBy W1 v.ownBlock) :
    (W1.cell? ⟨G + 1, 0, none⟩ = some v ∧ W1.frozen? ⟨G + 1, 0, none⟩ = false) ∧ AWI B G W0 mask gr (q ++ [x]) v' (W1.setCell ⟨G + 1, 0, none⟩ v') ∧ KeepsOthers W (W1.setCell ⟨G + 1, 0, none⟩ v') := by
  have hne : ∀ k, k < G + 3 → some k ≠ v.ownBlock := fun k hk e => by have := C1 H.o k e.symm; omega
  have k0 := Bu (Ak H.g (.cells #[.int .i64 (x : Int)] 3)) hgrow (hne G (by omega))
  have k1 := Bu (Ak H.ob (.cells #[.int .i64 (x : Int)] 3)) hgrow (hne (G + 1) (by omega))
  have k2 := Bu (Ak H.mb (.cells #[.int .i64 (x : Int)] 3)) hgrow (hne (G + 2) (by omega))
  have hle := H.le
  have hb : Below B W0 W1 := Below.grown (H.below.alloc (by have := H.lt; omega) _) hgrow (by have := H.lt; simp; omega) (fun k e => by have := C1 H.o k e; omega)
  refine ⟨⟨(Ad k1 0).trans rfl, Af k1 0⟩, ⟨Bk k0 (show G ≠ G + 1 by omega) _, Bo k1 0 _ rfl, Bk k2 (show G + 2 ≠ G + 1 by omega) _, ?_, hb.setCell (show B ≤ G + 1 by omega) _, H.le⟩, ?_⟩
  · rw [List.length_append, List.length_singleton, List.map_append]
    exact Cw hown' (p := ⟨G + 1, 0, none⟩) (fun e => by have h := C1 hown' (G + 1) e.symm; omega) _
  · exact ((KeepsOthers.alloc _ (.cells #[.int .i64 (x : Int)] 3)).trans (KeepsOthers.of_grownBy hgrow (fun j o e ho => by
      obtain ⟨cells, hc⟩ := C9 (Df H.o (.cells #[.int .i64 (x : Int)] 3)) j e
      cases ho.symm.trans hc
      rfl))).trans (KeepsOthers.setCell _ _ _)
theorem trues_nodup (ms : List Bool) (k : Nat) : (trues ms k).Nodup := List.Pairwise.filter _ List.nodup_range
theorem trues_lt (ms : List Bool) (k : Nat) : ∀ i ∈ trues ms k, i < k := fun i hi => List.mem_range.mp ((List.mem_filter.mp hi).1)
theorem own_R {W : World} {base b2 : Nat} {v : Value} {q : List Nat} (h : W.ownsRow base 3 1 v q.length (q.map encN)) (hb : b2 ≤ base) : (Kd.int .i64).R 3 W b2 (fun _ => True) v (q.map (fun k : Nat => (k : Int))) := by
  have h2 : W.ownsRow base 3 1 v (q.map (fun k : Nat => (k : Int))).length (encs (Value.int .i64) (q.map (fun k : Nat => (k : Int)))) := by
    have e : encs (Value.int .i64) (q.map (fun k : Nat => (k : Int))) = q.map encN := by
      unfold encs
      rw [List.map_map]; rfl
    rw [e, List.length_map]; exact h
  exact Kd.Cc (Kd.Dp h2 (fun _ _ => trivial)) hb
theorem own_reads {W : World} {base : Nat} {v : Value} {q : List Nat} (h : W.ownsRow base 3 1 v q.length (q.map encN)) : ∃ A c, v = .slice A q.length c ∧ q.length ≤ c ∧ Kd.C (Kd.int .i64) W A q.length (q.map (fun k : Nat => (k : Int))) := by
  have h2 : W.ownsRow base 3 1 v (q.map (fun k : Nat => (k : Int))).length (encs (Value.int .i64) (q.map (fun k : Nat => (k : Int)))) := by
    have e : encs (Value.int .i64) (q.map (fun k : Nat => (k : Int))) = q.map encN := by
      unfold encs
      rw [List.map_map]; rfl
    rw [e, List.length_map]; exact h
  have h3 : (Kd.int .i64).R 3 W base (fun _ => True) v (q.map (fun k : Nat => (k : Int))) := Kd.Dp h2 (fun _ _ => trivial)
  obtain ⟨A, c, e, hc, hC⟩ := Kd.R_reads h3
  rw [List.length_map] at e hc hC
  exact ⟨A, c, e, hc, hC⟩
set_option maxRecDepth 100000 in
set_option maxHeartbeats 8000000 in
theorem Ct.calls (a0_0 : Int) (a0_1 : Int) (A0_2 : Option Addr) (c0_2 : Nat) (l0_2 : List Bool) (a1 : Int) (r1 : List Int) (r2 : Int) (w : World) (hr0_2 : Kd.C Kd.bool w A0_2 l0_2.length l0_2) (hc0_2 : l0_2.length ≤ c0_2) (h : Ct.f a0_0 a0_1 l0_2 a1 = some (r1, r2)) :
    Calls Try.prog 31 #[.agg #[.int .i64 a0_0, .int .i64 a0_1, .slice A0_2 l0_2.length c0_2], .int .i64 a1] w fun e w' => ∃ v0_ : Value, e = .returned (.tuple #[v0_, .int .i64 r2]) ∧ Kd.R (Kd.int .i64) 3 w' w.heap.size (fun _ => True) v0_ r1 ∧ Below w.heap.size w w' := by
  obtain ⟨i0, hi, hz0, hz1, hz2⟩ := info_parts info3
  have hu50 := Try.underlying50
  have hu108 := Try.underlying108
  unfold Ct.f at h
  obtain ⟨⟨t1, t2, t3, t4⟩, hg, H⟩ := Option.bind_eq_some_iff.mp h
  dsimp only at H
  have hgo := C0.calls a0_0 a0_1 A0_2 c0_2 l0_2 a1 t1 t2 t3 t4
  have HGO := Aa.mk hgo
  have HG := Aa.mk hg
  have HH := Aa.mk H
  have HR0 := Aa.mk hr0_2
  have HC0 := Aa.mk hc0_2
  clear hgo hg H hr0_2 hc0_2 h
  refine (callsIn_wide (n := 10)).1 ?_
  refine callsIn_of_wp_marks Try.func31 rfl trivial ?_ rfl
  simp only [Try.ntmps31, List.size_toArray, List.length_cons, List.length_nil, Nat.reduceAdd, Nat.reduceSub, Array.replicate_succ, Array.replicate_zero, List.push_toArray, List.append_toArray, List.nil_append, List.cons_append]
  refine wpIn_wide.2 ?_
  by_cases h4 : t4 = 0
  · subst h4
    have H := HH.out
    rw [if_pos rfl] at H
    by_cases hcc : 1 ≤ t1 ∧ t1 ≤ 1024 ∧ 0 ≤ t2 ∧ t2 ≤ 1024 ∧ l0_2.length = t1.toNat * t2.toNat
    · rw [if_pos hcc] at H
      obtain ⟨⟨st2, q2⟩, hsp, H2⟩ := Option.bind_eq_some_iff.mp H
      obtain ⟨hw1, hw2, hh1, hh2, hlen⟩ := hcc
      obtain ⟨tw, rfl⟩ := Int.eq_ofNat_of_zero_le (show 0 ≤ t1 by omega)
      obtain ⟨th, rfl⟩ := Int.eq_ofNat_of_zero_le hh1
      rw [Int.toNat_natCast, Int.toNat_natCast] at hsp hlen
      simp only [Option.some.injEq, Prod.mk.injEq] at H2
      obtain ⟨rfl, rfl⟩ := H2
      have hnum : tw * th ≤ 1024 * 1024 := Nat.mul_le_mul (by omega) (by omega)
      have HSP := Aa.mk hsp
      have HL := Aa.mk hlen
      have HN := Aa.mk hnum
      clear H HH hsp hlen hnum
      go_upto_region 5 with (go_at_call 71; refine (HGO.out _ (Kd.Bw HR0.out _) HC0.out HG.out).mono ?_; rintro e w' ⟨rfl, hb1⟩; have HB1 := Aa.mk hb1; clear hb1)
      have hmb := Ao (Go.Proofs.Yteamphcehoaleaa.H.bnew (w := w) (.cells #[.int .i64 a0_0, .int .i64 a0_1, .slice A0_2 l0_2.length c0_2] 50) rfl) HB1.out
      have hbel : Below w.heap.size w w' := (Ae (Below.refl _ w) _).trans (HB1.out.mono (by simp))
      have hGs : w.heap.size < w'.heap.size := Bz hmb
      obtain ⟨w2, hw2e⟩ : ∃ y, y = (w'.alloc (.cells #[.int .i64 (tw : Int), .int .i64 (th : Int), .int .i64 t3] 108)).alloc (.cells #[.slice none 0 0] 31) := ⟨_, rfl⟩
      rw [← hw2e]
      have y0 : w2.cell? ⟨w.heap.size, 0, none⟩ = some (.int .i64 a0_0) := by rw [hw2e]; exact (Ad (Ak (Ak hmb _) _) 0).trans rfl
      have y1 : w2.cell? ⟨w.heap.size, 1, none⟩ = some (.int .i64 a0_1) := by rw [hw2e]; exact (Ad (Ak (Ak hmb _) _) 1).trans rfl
      have y2 : w2.cell? ⟨w.heap.size, 2, none⟩ = some (.slice A0_2 l0_2.length c0_2) := by rw [hw2e]; exact (Ad (Ak (Ak hmb _) _) 2).trans rfl
      obtain ⟨G, hG⟩ : ∃ y, y = w'.heap.size := ⟨_, rfl⟩
      have hs2 : w2.heap.size = G + 2 := by rw [hw2e, hG]; simp
      have hg2 : w2.heap[G]? = some (.cells #[.int .i64 (tw : Int), .int .i64 (th : Int), .int .i64 t3] 108 (0, 0)) := by rw [hw2e, hG]; exact Ak (Go.Proofs.Yteamphcehoaleaa.H.bnew _ rfl) _
      have ho2 : w2.heap[G + 1]? = some (.cells #[.slice none 0 0] 31 (0, 0)) := by rw [hw2e, hG]; exact Go.Proofs.Yteamphcehoaleaa.H.bnew _ (by simp)
      have hb2 : Below w.heap.size w w2 := by rw [hw2e]; exact Ae (Ae hbel _) _
      have hGle : w.heap.size ≤ G := by rw [hG]; omega
      rw [← hG]
      clear hw2e hmb hbel hGs HB1 HGO HG hG
      have HG2 := Aa.mk hg2
      have HO2 := Aa.mk ho2
      have HB2 := Aa.mk hb2
      clear hg2 ho2 hb2
      go_wp2_with (go_at_call 72; refine (in_made _ _ _ _ _ _).mono ?_; rintro e w'' ⟨rfl, rfl⟩)
      have hI0 : AWI w.heap.size G w #[.int .i64 a0_0, .int .i64 a0_1, .slice A0_2 l0_2.length c0_2] #[.int .i64 (tw : Int), .int .i64 (th : Int), .int .i64 t3] [] (.slice none 0 0) (w2.alloc (.cells #[.int .i64 a0_0, .int .i64 a0_1, .slice A0_2 l0_2.length c0_2] 50)) :=
        ⟨Ak HG2.out _, Ak HO2.out _, Go.Proofs.Yteamphcehoaleaa.H.bnew _ hs2, own_nil _ _ _ _, Ae HB2.out _, hGle⟩
      have hs3 : (w2.alloc (.cells #[.int .i64 a0_0, .int .i64 a0_1, .slice A0_2 l0_2.length c0_2] 50)).heap.size = G + 3 := by simp; omega
      try rw [hs2]
      generalize w2.alloc (.cells #[.int .i64 a0_0, .int .i64 a0_1, .slice A0_2 l0_2.length c0_2] 50) = w3 at hI0 hs3 ⊢
      have HI0 := Aa.mk hI0
      clear hI0 y0 y1 y2 HG2 HO2 HB2
      refine (wpIn_wide (n := 10)).1 ?_
      refine wpIn_rangeFunc_ownG rfl (by omega) (gf := 100) (lb := #[.pointer (some ⟨G + 2, 0, none⟩)]) rfl trivial (enters_of Try.func100 (by kernel_rfl) rfl)
        (in_stops 9 (by omega) (G + 2) A0_2 c0_2 l0_2 HC0.out w3 (by omega) ((Ad HI0.out.mb 2).trans rfl) (Kd.Ce HR0.out HI0.out.below)) KpM_t (fun W l o o' hl h1 h2 _ => KpM_b W l o o' h1 h2) (Below.refl _ _) (fun _ => rfl)
        (fun pre W' => Aa (∃ v, AWI w.heap.size G w #[.int .i64 a0_0, .int .i64 a0_1, .slice A0_2 l0_2.length c0_2] #[.int .i64 (tw : Int), .int .i64 (th : Int), .int .i64 t3] (pre.map (·.1)) v W'))
        (fun _ _ _ => False)
        (fun s X Y row hs hg hr => by obtain ⟨v, hv⟩ := hs.out; exact ⟨v, hv.kept (show w.heap.size ≤ w3.heap.size by omega) hg hr⟩)
        (fun _ _ _ _ _ hs _ _ => hs)
        ⟨⟨_, HI0.out⟩⟩ ?a1 ?assign ?body ?done ?stop
      case assign =>
        intro l x W9 K hK
        gi_wp2
        exact hK
      case body =>
        rintro l pre x wr2 hv hpl
        obtain ⟨v, hv⟩ := hv.out
        obtain ⟨k, hkN⟩ := x
        have c6 : wr2.cell? ⟨G + 1, 0, none⟩ = some v := (Ad hv.ob 0).trans rfl
        have hlt := hv.lt
        have hown := Df hv.o (.cells #[.int .i64 (k : Int)] 3)
        have HV := Aa.mk hv
        have hplen : (pre.map (·.1)).length < 1048577 := by rw [List.length_map]; have := HL.out; have := HN.out; omega
        have HPL := Aa.mk hplen
        have HOWN := Aa.mk hown
        clear hown hplen hv
        gi_wp2_with (gi_at_builtin; refine wpListIn_append_own_at _ rfl _ _ 31 rfl (G + 3) 3 i0 (.int .i64 0) 1 8 Try.underlying31 hi hz0 hz1 hz2 rfl (by decide) v (pre.map (·.1)).length _ rfl HOWN.out ⟨wr2.heap.size, 0, none⟩ 1 1 [.int .i64 (k : Int)] rfl rfl (cell_one_new _ _ _) (by intro u hu; simp at hu; subst hu; rfl) (by have := HPL.out; unfold maxLen; omega) (by have := HPL.out; omega) (by simp; omega) ?_; intro v' w1 hown' hgrow hnil hat; obtain ⟨g', cap', rfl⟩ := ownsRow_succ hown'; obtain ⟨⟨hc1, hf1⟩, hq2, hk2⟩ := HV.out.append hown' hgrow; rw [List.length_map] at hq2 hk2; have HQ8 := Aa.mk hq2; have HK2 := Aa.mk hk2; clear hq2 hk2 hown' hgrow hnil hat)
        gi_wp2
        refine ⟨HK2.out.from _, fun hc => Kd.Ce HR0.out HQ8.out.below, ⟨.slice (some ⟨g', 0, none⟩) (pre.length + 1) cap', ?_⟩⟩
        rw [List.map_append]
        exact HQ8.out
      case done =>
        rintro D xs wr2 hD hS hv hK
        obtain ⟨v, hv⟩ := hv.out
        rw [hS] at hv
        obtain ⟨Av, cv, rfl, hcv, hCv⟩ := own_reads hv.o
        have c6 : wr2.cell? ⟨G + 1, 0, none⟩ = some (.slice Av (trues l0_2 l0_2.length).length cv) := (Ad hv.ob 0).trans rfl
        have g0 : wr2.cell? ⟨G, 0, none⟩ = some (.int .i64 (tw : Int)) := (Ad hv.g 0).trans rfl
        have g1 : wr2.cell? ⟨G, 1, none⟩ = some (.int .i64 (th : Int)) := (Ad hv.g 1).trans rfl
        have g2 : wr2.cell? ⟨G, 2, none⟩ = some (.int .i64 t3) := (Ad hv.g 2).trans rfl
        have HCV := Aa.mk hCv
        have HCC := Aa.mk hcv
        have HV := Aa.mk hv
        have HK := Aa.mk hK
        clear hCv hcv hv hK hS
        go_wp2_with (go_at_call 66; refine (spreads78 tw th t3 (by omega) (by omega) (by omega) #[] (fun _ => true) (trues l0_2 l0_2.length) Av cv wr2 st2 q2 (fun i W1 _ _ => away1 i W1) (trues_nodup _ _) (by rw [← HL.out]; exact trues_lt _ _) HCV.out HCC.out HSP.out).mono ?_; rintro e w' ⟨v1, v2, rfl, ho1, ho2, hne, hb⟩; have HO := Aa.mk ho2; have HB := Aa.mk hb; clear ho1 ho2 hne hb)
        have hDlt := Bz HK.out
        have hD' : ∀ E ∈ [D], w'.heap[E]? = some (.deferred (some [])) := fun E hE => by
          obtain rfl := List.mem_singleton.mp hE
          exact (HB.out.block _ hDlt).trans HK.out
        have hR : Kd.R (Kd.int .i64) 3 w' w.heap.size (fun _ => True) v2 st2 := Kd.Cc (Kd.Dp HO.out (fun _ _ => trivial)) HV.out.below.size
        have hB9 : Below w.heap.size w w' := HV.out.below.trans (HB.out.mono HV.out.below.size)
        refine leaves_marks (by simp) [D] w' (by simp) hD' ?_
        have hQ := shutAll_keep [D] w' hD' (by simp) (fun X => Kd.R (Kd.int .i64) 3 X w.heap.size (fun _ => True) v2 st2 ∧ Below w.heap.size w X) (fun X E hX hE hm => by
          obtain rfl := List.mem_singleton.mp hm
          exact ⟨R_kept (d := Kd.int .i64) hX.1 (grownBy_putObj' X _ _) (fun r e => by cases e; exact ⟨_, hE, rfl⟩), hX.2.grown (grownBy_putObj' X _ _) hX.2.size (fun k e => by cases e; omega)⟩) ⟨hR, hB9⟩
        exact ⟨_, results_tmp2 rfl _ _ _, _, rfl, hQ.1, hQ.2⟩
      case stop =>
        rintro D c pre W _ _ h _
        exact h.elim
    · rw [if_neg hcc] at H
      cases H
  · have d1 : (t4 == 0) = false := by simp [h4]
    have d2 : (t4 != 0) = true := by simp [h4]
    have H := HH.out
    rw [if_neg h4] at H
    simp only [Option.some.injEq, Prod.mk.injEq] at H
    obtain ⟨rfl, rfl⟩ := H
    go_wp2_with (go_at_call 71; refine (HGO.out _ (Kd.Bw HR0.out _) HC0.out HG.out).mono ?_; rintro e w' ⟨rfl, hb1⟩; have HB1 := Aa.mk hb1; clear hb1)
    have hbel : Below w.heap.size w w' := (Ae (Below.refl _ w) _).trans (HB1.out.mono (by simp))
    refine leaves_marks (by simp) [] _ (by simp) (by simp) ?_
    refine ⟨_, results_tmp2 rfl _ _ _, _, rfl, Kd.C8 _ _ _ _ _, ?_⟩
    exact Ae hbel _
end Go.Proofs.Yteamphcehoaleaa

