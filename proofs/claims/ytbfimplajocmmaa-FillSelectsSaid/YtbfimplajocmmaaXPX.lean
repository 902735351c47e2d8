import Derived.Test.YtbfimplajocmmaaXPB
open Go Go.RowKit Go.Shelf Go.Proofs.YtbfimplajocmmaaW.PrintWords Go.Proofs.YtbfimplajocmmaaW.PrintLast Go.Proofs.YtbfimplajocmmaaW.PrintMore
attribute [local go_sem] Oper.semAt_some
set_option linter.unusedVariables false
set_option linter.unusedSimpArgs false
namespace Go.Proofs.Ytbfimplajocmmaa
open PFA FM
theorem R_block {w : World} {base : Nat} {ok : Nat → Prop} {v : Value} {xs : List Int} (h : (Kd.int .u32).R 28 w base ok v xs) (hn : 0 < xs.length) : ∃ g c, v = .slice (some ⟨g, 0, none⟩) xs.length c := by
  obtain ⟨_, inner, ⟨_, ho⟩, _⟩ := h
  rcases ho with ⟨_, h0⟩ | ⟨g, cap, cur, h1, _⟩
  · omega
  · exact ⟨g, cap, h1⟩
set_option maxRecDepth 100000 in
set_option maxHeartbeats 8000000 in
theorem Dk.calls (a0 a1 : Int) (A : Option Addr) (c : Nat) (l : List Int) (m0 m1 : Int) (Am : Option Addr) (cm : Nat) (ml : List Bool) (s : Int) (r1 r2 : Int) (r3 : List Int) (r4 : Int) (w : World) (hr : Kd.C (Kd.int .u32) w A l.length l) (hc : l.length ≤ c) (hm : Kd.C Kd.bool w Am ml.length ml) (hcm : ml.length ≤ cm) (h : Dk.f a0 a1 l m0 m1 ml s = some (r1, r2, r3, r4)) :
    Calls Try.prog 11 #[.agg #[.int .i64 a0, .int .i64 a1, .slice A l.length c], .agg #[.int .i64 m0, .int .i64 m1, .slice Am ml.length cm], .int .u32 s] w fun e w' => ∃ v : Value, e = .returned (.tuple #[.agg #[.int .i64 r1, .int .i64 r2, v], .int .i64 r4]) ∧ Kd.R (Kd.int .u32) 28 w' w.heap.size (fun _ => True) v r3 ∧ Below w.heap.size w w' := by
  have hu24 := Try.underlying24; have hu50 := Try.underlying27; have hu101 := Try.underlying86; unfold Dk.f at h; obtain ⟨e1, hk1, H⟩ := Option.bind_eq_some_iff.mp h; have HK1 := Ae.mk hk1; have HH := Ae.mk H; have HR0 := Ae.mk hr; have HM0 := Ae.mk hm; clear h hk1 H hr hm; refine (callsIn_wide (n := 10)).1 ?_; refine callsIn_of_wp_marks Try.func11 rfl trivial ?_ rfl
  simp only [Try.ntmps11, List.size_toArray, List.length_cons, List.length_nil, Nat.reduceAdd, Nat.reduceSub, Array.replicate_succ, Array.replicate_zero, List.push_toArray, List.append_toArray, List.nil_append, List.cons_append]
  refine wpIn_wide.2 ?_
  go_upto_region 2 with (go_at_call 44; refine (Cw.calls a0 a1 A c l e1 _ (Kd.Bv (Kd.Bv (Kd.Bv (Kd.Bv HR0.out _) _) _) _) hc HK1.out).mono ?_; rintro e w1 ⟨rfl, hb⟩; have HB1 := Ae.mk hb; clear hb)
  have b0 := Ao (An (An (An (Go.Proofs.Ytbfimplajocmmaa.H.bnew (w := w) (.cells #[.int .i64 a0, .int .i64 a1, .slice A l.length c] 24) rfl) (.cells #[.int .i64 m0, .int .i64 m1, .slice Am ml.length cm] 27)) (.cells #[.int .u32 s] 28)) (.cells #[.int .i64 0, .int .i64 0, .slice none 0 0] 24)) HB1.out; have b1 := Ao (An (An (Go.Proofs.Ytbfimplajocmmaa.H.bnew (w := w.alloc (.cells #[.int .i64 a0, .int .i64 a1, .slice A l.length c] 24)) (.cells #[.int .i64 m0, .int .i64 m1, .slice Am ml.length cm] 27) (by simp : _ = w.heap.size + 1)) (.cells #[.int .u32 s] 28)) (.cells #[.int .i64 0, .int .i64 0, .slice none 0 0] 24)) HB1.out; have b2 := Ao (An (Go.Proofs.Ytbfimplajocmmaa.H.bnew (w := (w.alloc (.cells #[.int .i64 a0, .int .i64 a1, .slice A l.length c] 24)).alloc (.cells #[.int .i64 m0, .int .i64 m1, .slice Am ml.length cm] 27)) (.cells #[.int .u32 s] 28) (by simp : _ = w.heap.size + 2)) (.cells #[.int .i64 0, .int .i64 0, .slice none 0 0] 24)) HB1.out; have b3 := Ao (Go.Proofs.Ytbfimplajocmmaa.H.bnew (w := ((w.alloc (.cells #[.int .i64 a0, .int .i64 a1, .slice A l.length c] 24)).alloc (.cells #[.int .i64 m0, .int .i64 m1, .slice Am ml.length cm] 27)).alloc (.cells #[.int .u32 s] 28)) (.cells #[.int .i64 0, .int .i64 0, .slice none 0 0] 24) (by simp : _ = w.heap.size + 3)) HB1.out; have hB1 : Below w.heap.size w w1 := (Ah (Ah (Ah (Ah (Below.refl _ _) _) _) _) _).trans (HB1.out.mono (by simp; omega)); have B0 := Ae.mk b0; have B1 := Ae.mk b1; have B2 := Ae.mk b2; have B3 := Ae.mk b3; have HW1 := Ae.mk hB1; clear b0 b1 b2 b3 hB1 HB1
  by_cases h4 : e1 = 0
  · subst h4
    have H := HH.out; rw [if_pos rfl] at H; obtain ⟨e2, hk2, H2⟩ := Option.bind_eq_some_iff.mp H; have HK2 := Ae.mk hk2; have HH2 := Ae.mk H2; have b1 := B1.out; have y0 : w1.cell? ⟨w.heap.size + 1, 0, none⟩ = some (.int .i64 m0) := (Af b1 0).trans rfl; have y1 : w1.cell? ⟨w.heap.size + 1, 1, none⟩ = some (.int .i64 m1) := (Af b1 1).trans rfl; have y2 : w1.cell? ⟨w.heap.size + 1, 2, none⟩ = some (.slice Am ml.length cm) := (Af b1 2).trans rfl; clear b1 H H2 hk2 HH
    go_upto_region 5 with (go_at_call 16; refine (Cp.calls m0 m1 Am cm ml e2 w1 (Kd.Bw HM0.out HW1.out) hcm HK2.out).mono ?_; rintro e w2 ⟨rfl, hb⟩; have HB2 := Ae.mk hb; clear hb)
    have c0 := Ao B0.out HB2.out; have c1 := Ao B1.out HB2.out; have c2 := Ao B2.out HB2.out; have c3 := Ao B3.out HB2.out; have hB2 : Below w.heap.size w w2 := HW1.out.trans (HB2.out.mono HW1.out.size); clear y0 y1 y2
    by_cases h5 : e2 = 0
    · subst h5
      have H := HH2.out; rw [if_pos rfl] at H; have p0 : w2.cell? ⟨w.heap.size, 0, none⟩ = some (.int .i64 a0) := (Af c0 0).trans rfl; have p1 : w2.cell? ⟨w.heap.size, 1, none⟩ = some (.int .i64 a1) := (Af c0 1).trans rfl; have p2 : w2.cell? ⟨w.heap.size, 2, none⟩ = some (.slice A l.length c) := (Af c0 2).trans rfl; have y0 : w2.cell? ⟨w.heap.size + 1, 0, none⟩ = some (.int .i64 m0) := (Af c1 0).trans rfl; have y1 : w2.cell? ⟨w.heap.size + 1, 1, none⟩ = some (.int .i64 m1) := (Af c1 1).trans rfl; have y2 : w2.cell? ⟨w.heap.size + 1, 2, none⟩ = some (.slice Am ml.length cm) := (Af c1 2).trans rfl
      by_cases hf : a0 = m0 ∧ a1 = m1
      · obtain ⟨rfl, rfl⟩ := hf
        rw [if_pos ⟨rfl, rfl⟩] at H
        by_cases hcc : 1 ≤ a0 ∧ a0 ≤ 1024 ∧ 1 ≤ a1 ∧ a1 ≤ 1024 ∧ l.length = a0.toNat * a1.toNat ∧ ml.length = l.length
        · rw [if_pos hcc] at H
          simp only [Option.some.injEq, Prod.mk.injEq] at H
          obtain ⟨rfl, rfl, rfl, rfl⟩ := H; obtain ⟨hw1, hw2, hh1, hh2, hlen, hml⟩ := hcc; obtain ⟨W, rfl⟩ := Int.eq_ofNat_of_zero_le (show 0 ≤ a0 by omega); obtain ⟨Hh, rfl⟩ := Int.eq_ofNat_of_zero_le (show 0 ≤ a1 by omega)
          simp only [Int.toNat_natCast] at hlen
          have hpos : 0 < W * Hh := Nat.mul_pos (by omega) (by omega); have HLen := Ae.mk hlen; have HML := Ae.mk hml; have HPOS : Ae (0 < l.length) := ⟨by omega⟩; have HB2' := Ae.mk hB2; have C1 := Ae.mk c1; have C2 := Ae.mk c2; have C3 := Ae.mk c3; clear hlen hml hpos hB2 c0 c1 c2 c3 HH2 HB2
          go_upto_region 10 with (go_at_call 49; refine (CR.crop_calls W Hh (by omega) (by omega) (by omega) (by omega) A c l HLen.out w2 (Kd.Bw HR0.out HB2'.out) hc HK1.out).mono ?_; rintro e w3 ⟨v, rfl, h1, h3⟩; obtain ⟨S, cv, ev⟩ := R_block h1 HPOS.out; subst ev; have HV1 := Ae.mk h1; have HV3 := Ae.mk h3; clear h1 h3)
          obtain ⟨G, hG⟩ : ∃ y, y = w3.heap.size := ⟨_, rfl⟩; obtain ⟨w4, hw4⟩ : ∃ y, y = w3.alloc (.cells #[.int .i64 (W : Int), .int .i64 (Hh : Int), .slice (some ⟨S, 0, none⟩) l.length cv] 24) := ⟨_, rfl⟩; rw [← hw4, ← hG]; have hz4 : w4.heap.size = G + 1 := by rw [hw4, hG]; simp
          have d1 := Ao C1.out HV3.out; have d2 := Ao C2.out HV3.out; have d3 := Ao C3.out HV3.out; have hlt3 := Ba C3.out; have hz3 := HV3.out.size; have hB3 : Below w.heap.size w w3 := HB2'.out.trans (HV3.out.mono HB2'.out.size); have g1 : w4.heap[w.heap.size + 1]? = some (.cells #[.int .i64 (W : Int), .int .i64 (Hh : Int), .slice Am ml.length cm] 27 (0, 0)) := by rw [hw4]; exact An d1 _
          have g2 : w4.heap[w.heap.size + 2]? = some (.cells #[.int .u32 s] 28 (0, 0)) := by rw [hw4]; exact An d2 _
          have g3 : w4.heap[w.heap.size + 3]? = some (.cells #[.int .i64 0, .int .i64 0, .slice none 0 0] 24 (0, 0)) := by rw [hw4]; exact An d3 _
          have gq : w4.heap[G]? = some (.cells #[.int .i64 (W : Int), .int .i64 (Hh : Int), .slice (some ⟨S, 0, none⟩) l.length cv] 24 (0, 0)) := by rw [hw4]; exact Go.Proofs.Ytbfimplajocmmaa.H.bnew _ hG.symm
          have hB4 : Below w.heap.size w w4 := by rw [hw4]; exact Ah hB3 _
          have hR4 : (Kd.int .u32).R 28 w4 w.heap.size (fun k => w.heap.size + 4 ≤ k ∧ k < G) (.slice (some ⟨S, 0, none⟩) l.length cv) l := by
            rw [hw4]; refine Kd.Bt (Kd.Ax (Kd.B9 (Kd.Cu HV1.out) (by omega)) (Ah (Below.refl _ _) _)) (fun k hk => ?_); have := hk.2.1; have := hk.2.2.1
            omega
          have hGle : w.heap.size + 4 ≤ G := by omega
          have G2 := Ae.mk g2; have G3 := Ae.mk g3; have GQ := Ae.mk gq; have HB4 := Ae.mk hB4; have HR4 := Ae.mk hR4; clear p0 p1 p2 y0 y1 y2 hw4 d1 d2 d3 hB3 g2 g3 gq hB4 hR4 HV1 HV3 hG hz3 hlt3; have y0 : w4.cell? ⟨w.heap.size + 1, 0, none⟩ = some (.int .i64 (W : Int)) := (Af g1 0).trans rfl; have y1 : w4.cell? ⟨w.heap.size + 1, 1, none⟩ = some (.int .i64 (Hh : Int)) := (Af g1 1).trans rfl; have y2 : w4.cell? ⟨w.heap.size + 1, 2, none⟩ = some (.slice Am ml.length cm) := (Af g1 2).trans rfl; clear g1; have HZ4 := Ae.mk hz4; clear hz4
          go_wp2_with (go_at_call 50; refine (in_made _ _ _ _ _ _).mono ?_; rintro e w'' ⟨rfl, rfl⟩)
          try rw [HZ4.out]
          have hI0 : PBW w.heap.size G w s #[.int .i64 (W : Int), .int .i64 (Hh : Int), .slice Am ml.length cm] W Hh (.slice (some ⟨S, 0, none⟩) l.length cv) l (w4.alloc (.cells #[.int .i64 (W : Int), .int .i64 (Hh : Int), .slice Am ml.length cm] 27)) :=
            ⟨An G2.out _, An G3.out _, An GQ.out _, Go.Proofs.Ytbfimplajocmmaa.H.bnew _ HZ4.out, Kd.Ax HR4.out (Ah (Below.refl _ _) _), Ah HB4.out _, hGle⟩
          have hs5 : (w4.alloc (.cells #[.int .i64 (W : Int), .int .i64 (Hh : Int), .slice Am ml.length cm] 27)).heap.size = G + 2 := by have := HZ4.out; simp; omega
          generalize w4.alloc (.cells #[.int .i64 (W : Int), .int .i64 (Hh : Int), .slice Am ml.length cm] 27) = w5 at hI0 hs5 ⊢; have HI0 := Ae.mk hI0; clear hI0 y0 y1 y2; refine (wpIn_wide (n := 10)).1 ?_
          refine wpIn_rangeFunc_ownG rfl (by omega) (gf := 80) (lb := #[.pointer (some ⟨G + 1, 0, none⟩)]) rfl trivial (enters_of Try.func80 (by kernel_rfl) rfl)
            (in_stops 9 (by omega) (G + 1) Am cm ml hcm w5 (by omega) ((Af HI0.out.mb 2).trans rfl) (Kd.Bw HM0.out HI0.out.below)) KpM_t (fun W l o o' hl h1 h2 _ => KpM_b W l o o' h1 h2) (Below.refl _ _) (fun _ => rfl)
            (fun pre W' => Ae (PBW w.heap.size G w s #[.int .i64 (W : Int), .int .i64 (Hh : Int), .slice Am ml.length cm] W Hh (.slice (some ⟨S, 0, none⟩) l.length cv) (paintL s (pre.map (·.1)) l) W'))
            (fun _ _ _ => False)
            (fun q X Y row hs hg hr => by have h9 := hs.out.kept (show w.heap.size ≤ w5.heap.size by omega) hg hr; exact Ae.mk h9)
            (fun _ _ _ _ _ hs _ _ => hs)
            HI0 ?a1 ?assign ?body ?done ?stop
          case assign =>
            intro l x W9 K hK
            gi_wp2
            exact hK
          case body =>
            rintro l2 pre x wr2 hv hpl; obtain ⟨k, hkN⟩ := x; have hkl : k < l.length := by rw [← HML.out]; exact hkN
            have hcl := paintL_len s (pre.map (·.1)) l; obtain ⟨ck, fk⟩ := hv.out.cell hcl k (by omega); have cq : wr2.cell? ⟨G, 2, none⟩ = some (.slice (some ⟨S, 0, none⟩) l.length cv) := (Af hv.out.qb 2).trans rfl; have cs : wr2.cell? ⟨w.heap.size + 2, 0, none⟩ = some (.int .u32 s) := (Af hv.out.sb 0).trans rfl; have hnew := hv.out.put hcl k s; rw [← paintL_snoc] at hnew; have HNEW := Ae.mk hnew; clear hnew hcl hv
            gi_wp2
            refine ⟨(KeepsOthers.setCell _ _ _).from _, fun h => Kd.Bw HM0.out HNEW.out.below, ?_⟩; have e9 : (pre ++ [(⟨k, hkN⟩ : Pl ml.length)]).map (·.1) = pre.map (·.1) ++ [k] := by simp
            refine Ae.mk ?_; rw [e9]; exact HNEW.out
          case done =>
            rintro D xs wr2 hD hS hv hK; rw [hS] at hv; have q0 : wr2.cell? ⟨G, 0, none⟩ = some (.int .i64 (W : Int)) := (Af hv.out.qb 0).trans rfl; have q1 : wr2.cell? ⟨G, 1, none⟩ = some (.int .i64 (Hh : Int)) := (Af hv.out.qb 1).trans rfl; have q2 : wr2.cell? ⟨G, 2, none⟩ = some (.slice (some ⟨S, 0, none⟩) l.length cv) := (Af hv.out.qb 2).trans rfl; have m0' : wr2.cell? ⟨w.heap.size + 3, 0, none⟩ = some (.int .i64 0) := (Af hv.out.rb 0).trans rfl; have m1' : wr2.cell? ⟨w.heap.size + 3, 1, none⟩ = some (.int .i64 0) := (Af hv.out.rb 1).trans rfl; have m2' : wr2.cell? ⟨w.heap.size + 3, 2, none⟩ = some (.slice none 0 0) := (Af hv.out.rb 2).trans rfl; have f0 := Ag hv.out.rb 0; have f1 := Ag hv.out.rb 1; have f2 := Ag hv.out.rb 2; have HK := Ae.mk hK; clear hK hS
            go_wp2
            try simp only [Exit.noGoto]
            rw [show w.heap.size + 1 + 1 + 1 = w.heap.size + 3 from rfl]; have hle := hv.out.le
            have hne : D ≠ w.heap.size + 3 := fun e => by
              have h1 := hv.out.rb; rw [← e, HK.out] at h1; cases h1
            have hb9 := ((hv.out.below.setCell (p := ⟨w.heap.size + 3, 0, none⟩) (show w.heap.size ≤ w.heap.size + 3 by omega) (.int .i64 (W : Int))).setCell (p := ⟨w.heap.size + 3, 1, none⟩) (show w.heap.size ≤ w.heap.size + 3 by omega) (.int .i64 (Hh : Int))).setCell (p := ⟨w.heap.size + 3, 2, none⟩) (show w.heap.size ≤ w.heap.size + 3 by omega) (.slice (some ⟨S, 0, none⟩) l.length cv); have hr9 := Az (Az (Az hv.out.rb 0 (.int .i64 (W : Int)) rfl) 1 (.int .i64 (Hh : Int)) rfl) 2 (.slice (some ⟨S, 0, none⟩) l.length cv) rfl; have ho9 := Kd.Bn (Kd.Bn (Kd.Bn hv.out.o (p := ⟨w.heap.size + 3, 0, none⟩) (fun k hk => show k ≠ w.heap.size + 3 by omega) (.int .i64 (W : Int))) (p := ⟨w.heap.size + 3, 1, none⟩) (fun k hk => show k ≠ w.heap.size + 3 by omega) (.int .i64 (Hh : Int))) (p := ⟨w.heap.size + 3, 2, none⟩) (fun k hk => show k ≠ w.heap.size + 3 by omega) (.slice (some ⟨S, 0, none⟩) l.length cv)
            have hd9 : (((wr2.setCell ⟨w.heap.size + 3, 0, none⟩ (.int .i64 (W : Int))).setCell ⟨w.heap.size + 3, 1, none⟩ (.int .i64 (Hh : Int))).setCell ⟨w.heap.size + 3, 2, none⟩ (.slice (some ⟨S, 0, none⟩) l.length cv)).heap[D]? = some (.deferred (some [])) :=
              (Below.heap_setCell _ _ _ _ (show D ≠ w.heap.size + 3 from hne)).trans ((Below.heap_setCell _ _ _ _ (show D ≠ w.heap.size + 3 from hne)).trans ((Below.heap_setCell _ _ _ _ (show D ≠ w.heap.size + 3 from hne)).trans HK.out))
            generalize (((wr2.setCell ⟨w.heap.size + 3, 0, none⟩ (.int .i64 (W : Int))).setCell ⟨w.heap.size + 3, 1, none⟩ (.int .i64 (Hh : Int))).setCell ⟨w.heap.size + 3, 2, none⟩ (.slice (some ⟨S, 0, none⟩) l.length cv)) = w9 at hb9 hr9 ho9 hd9 ⊢
            have hd' : ∀ E ∈ [D], w9.heap[E]? = some (.deferred (some [])) := fun E hE => by
              obtain rfl := List.mem_singleton.mp hE; exact hd9
            have hDge : w.heap.size ≤ D := by
              rcases Nat.lt_or_ge D w.heap.size with h | h
              · exfalso
                omega
              · exact h
            refine leaves_marks (by simp) [D] w9 (by simp) hd' ?_
            have hQ := shutAll_keep [D] w9 hd' (by simp) (fun X => (Kd.int .u32).R 28 X w.heap.size (fun _ => True) (.slice (some ⟨S, 0, none⟩) l.length cv) (paintL s (trues ml ml.length) l) ∧ X.heap[w.heap.size + 3]? = some (.cells #[.int .i64 (W : Int), .int .i64 (Hh : Int), .slice (some ⟨S, 0, none⟩) l.length cv] 24 (0, 0)) ∧ Below w.heap.size w X) (fun X E hX hE hm => by
              obtain rfl := List.mem_singleton.mp hm; exact ⟨R_kept (d := Kd.int .u32) hX.1 (grownBy_putObj' X _ _) (fun r e => by cases e; exact ⟨_, hE, rfl⟩), (World.putObj_heap_other (by omega)).trans hX.2.1, hX.2.2.grown (grownBy_putObj' X _ _) hX.2.2.size (fun k e => by cases e; omega)⟩) ⟨Kd.Bt ho9 (fun _ _ => trivial), hr9, hb9⟩
            exact ⟨_, results_ct rfl _ _ (w.heap.size + 3) 24 #[.int .i64 (W : Int), .int .i64 (Hh : Int), .slice (some ⟨S, 0, none⟩) l.length cv] (0, 0) _ rfl hQ.2.1 hu24 rfl (by kernel_rfl), _, rfl, hQ.1, hQ.2.2⟩
          case stop =>
            rintro D c pre W _ _ h _; exact h.elim
        · rw [if_neg hcc] at H
          cases H
      · rw [if_neg hf] at H
        simp only [Option.some.injEq, Prod.mk.injEq] at H
        obtain ⟨rfl, rfl, rfl, rfl⟩ := H; clear c0 c1 c2
        by_cases g1 : a0 = m0
        · have g2 : a1 ≠ m1 := fun e => hf ⟨g1, e⟩
          have d1 : (a0 == m0) = true := by simp [g1]
          have d2 : (a0 != m0) = false := by simp [g1]
          have d3 : (a1 == m1) = false := by simp [g2]
          have d4 : (a1 != m1) = true := by simp [g2]
          clear g1 g2 hf; have m0' : w2.cell? ⟨w.heap.size + 3, 0, none⟩ = some (.int .i64 0) := (Af c3 0).trans rfl; have m1' : w2.cell? ⟨w.heap.size + 3, 1, none⟩ = some (.int .i64 0) := (Af c3 1).trans rfl; have m2' : w2.cell? ⟨w.heap.size + 3, 2, none⟩ = some (.slice none 0 0) := (Af c3 2).trans rfl; have f0 := Ag c3 0; have f1 := Ag c3 1; have f2 := Ag c3 2; have HRB := Ae.mk c3; have HBB := Ae.mk hB2; clear c3 hB2
          go_wp2
          try simp only [Exit.noGoto]
          rw [show w.heap.size + 1 + 1 + 1 = w.heap.size + 3 from rfl]; refine leaves_marks (by simp) [] _ (by simp) (by simp) ?_; refine ⟨_, results_ct rfl _ _ (w.heap.size + 3) 24 #[.int .i64 0, .int .i64 0, .slice none 0 0] (0, 0) _ rfl (Az (Az (Az HRB.out 0 _ rfl) 1 _ rfl) 2 _ rfl) hu24 rfl (by kernel_rfl), ?_⟩; exact ⟨_, rfl, Kd.C5 _ _ _ _ _, ((HBB.out.setCell (show w.heap.size ≤ w.heap.size + 3 by omega) _).setCell (show w.heap.size ≤ w.heap.size + 3 by omega) _).setCell (show w.heap.size ≤ w.heap.size + 3 by omega) _⟩
        · have d1 : (a0 == m0) = false := by simp [g1]
          have d2 : (a0 != m0) = true := by simp [g1]
          clear g1 hf; have m0' : w2.cell? ⟨w.heap.size + 3, 0, none⟩ = some (.int .i64 0) := (Af c3 0).trans rfl; have m1' : w2.cell? ⟨w.heap.size + 3, 1, none⟩ = some (.int .i64 0) := (Af c3 1).trans rfl; have m2' : w2.cell? ⟨w.heap.size + 3, 2, none⟩ = some (.slice none 0 0) := (Af c3 2).trans rfl; have f0 := Ag c3 0; have f1 := Ag c3 1; have f2 := Ag c3 2; have HRB := Ae.mk c3; have HBB := Ae.mk hB2; clear c3 hB2
          go_wp2
          try simp only [Exit.noGoto]
          rw [show w.heap.size + 1 + 1 + 1 = w.heap.size + 3 from rfl]; refine leaves_marks (by simp) [] _ (by simp) (by simp) ?_; refine ⟨_, results_ct rfl _ _ (w.heap.size + 3) 24 #[.int .i64 0, .int .i64 0, .slice none 0 0] (0, 0) _ rfl (Az (Az (Az HRB.out 0 _ rfl) 1 _ rfl) 2 _ rfl) hu24 rfl (by kernel_rfl), ?_⟩; exact ⟨_, rfl, Kd.C5 _ _ _ _ _, ((HBB.out.setCell (show w.heap.size ≤ w.heap.size + 3 by omega) _).setCell (show w.heap.size ≤ w.heap.size + 3 by omega) _).setCell (show w.heap.size ≤ w.heap.size + 3 by omega) _⟩
    · have d1 : (e2 == 0) = false := by simp [h5]
      have d2 : (e2 != 0) = true := by simp [h5]
      have H := HH2.out; rw [if_neg h5] at H
      simp only [Option.some.injEq, Prod.mk.injEq] at H
      obtain ⟨rfl, rfl, rfl, rfl⟩ := H; clear c0 c1 c2; have m0' : w2.cell? ⟨w.heap.size + 3, 0, none⟩ = some (.int .i64 0) := (Af c3 0).trans rfl; have m1' : w2.cell? ⟨w.heap.size + 3, 1, none⟩ = some (.int .i64 0) := (Af c3 1).trans rfl; have m2' : w2.cell? ⟨w.heap.size + 3, 2, none⟩ = some (.slice none 0 0) := (Af c3 2).trans rfl; have f0 := Ag c3 0; have f1 := Ag c3 1; have f2 := Ag c3 2; have HRB := Ae.mk c3; have HBB := Ae.mk hB2; clear c3 hB2
      go_wp2
      try simp only [Exit.noGoto]
      rw [show w.heap.size + 1 + 1 + 1 = w.heap.size + 3 from rfl]; refine leaves_marks (by simp) [] _ (by simp) (by simp) ?_; refine ⟨_, results_ct rfl _ _ (w.heap.size + 3) 24 #[.int .i64 0, .int .i64 0, .slice none 0 0] (0, 0) _ rfl (Az (Az (Az HRB.out 0 _ rfl) 1 _ rfl) 2 _ rfl) hu24 rfl (by kernel_rfl), ?_⟩; exact ⟨_, rfl, Kd.C5 _ _ _ _ _, ((HBB.out.setCell (show w.heap.size ≤ w.heap.size + 3 by omega) _).setCell (show w.heap.size ≤ w.heap.size + 3 by omega) _).setCell (show w.heap.size ≤ w.heap.size + 3 by omega) _⟩
  · have d1 : (e1 == 0) = false := by simp [h4]
    have d2 : (e1 != 0) = true := by simp [h4]
    have H := HH.out; rw [if_neg h4] at H
    simp only [Option.some.injEq, Prod.mk.injEq] at H
    obtain ⟨rfl, rfl, rfl, rfl⟩ := H; have b3 := B3.out; have hB1 := HW1.out; have m0' : w1.cell? ⟨w.heap.size + 3, 0, none⟩ = some (.int .i64 0) := (Af b3 0).trans rfl; have m1' : w1.cell? ⟨w.heap.size + 3, 1, none⟩ = some (.int .i64 0) := (Af b3 1).trans rfl; have m2' : w1.cell? ⟨w.heap.size + 3, 2, none⟩ = some (.slice none 0 0) := (Af b3 2).trans rfl; have f0 := Ag b3 0; have f1 := Ag b3 1; have f2 := Ag b3 2; have HRB := Ae.mk b3; have HBB := Ae.mk hB1; clear b3 hB1
    go_wp2
    try simp only [Exit.noGoto]
    rw [show w.heap.size + 1 + 1 + 1 = w.heap.size + 3 from rfl]; refine leaves_marks (by simp) [] _ (by simp) (by simp) ?_; refine ⟨_, results_ct rfl _ _ (w.heap.size + 3) 24 #[.int .i64 0, .int .i64 0, .slice none 0 0] (0, 0) _ rfl (Az (Az (Az HRB.out 0 _ rfl) 1 _ rfl) 2 _ rfl) hu24 rfl (by kernel_rfl), ?_⟩; exact ⟨_, rfl, Kd.C5 _ _ _ _ _, ((HBB.out.setCell (show w.heap.size ≤ w.heap.size + 3 by omega) _).setCell (show w.heap.size ≤ w.heap.size + 3 by omega) _).setCell (show w.heap.size ≤ w.heap.size + 3 by omega) _⟩
end Go.Proofs.Ytbfimplajocmmaa

