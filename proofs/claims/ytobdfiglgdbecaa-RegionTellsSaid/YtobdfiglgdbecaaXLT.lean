import Derived.Test.YtobdfiglgdbecaaXRR
import Derived.Test.YtobdfiglgdbecaaXHV
import Derived.Test.YtobdfiglgdbecaaXPGKx1
import Derived.Test.YtobdfiglgdbecaaXCT
section
open Go Go.RowKit Go.Proofs.YtobdfiglgdbecaaW.PrintWords Go.Proofs.YtobdfiglgdbecaaW.PrintLast Go.Proofs.YtobdfiglgdbecaaW.PrintMore
attribute [local go_sem ↓] Go.wp_at_zero Go.wp_at_succ
set_option linter.unusedVariables false
set_option linter.unusedSimpArgs false
namespace Go.Proofs.Ytobdfiglgdbecaa
open PGA PGB
namespace BR
theorem R_head {α : Type} {d : Kd α} {e : Nat} {w : World} {base : Nat} {ok : Nat → Prop} {v : Value} {xs : List α} (h : d.R e w base ok v xs) (hn : 0 < xs.length) : ∃ g c, v = .slice (some ⟨g, 0, none⟩) xs.length c := by
  obtain ⟨g, c, e, _⟩ := Kd.R_form h hn; exact ⟨g, c, e⟩
theorem rows_at {w : World} {base : Nat} {ok : Nat → Prop} {v : Value} {L : List (List S58)} (h : (Kd.slice 58 k58).R 22 w base ok v L) (k : Nat) (hk : k < L.length) :
    ∃ g cv A c, v = .slice (some ⟨g, 0, none⟩) L.length cv ∧ w.cell? ⟨g, k, none⟩ = some (.slice A (L.getD k []).length c) ∧ (L.getD k []).length ≤ 9223372036854775807 ∧
      ∀ i, i < (L.getD k []).length → ∃ g2, A = some ⟨g2, 0, none⟩ ∧ w.cell? ⟨g2, i * 4, none⟩ = some (.int .i64 (rd_T58 (L.getD k []) (i : Int)).f0) ∧ w.cell? ⟨g2, i * 4 + 1, none⟩ = some (.int .i64 (rd_T58 (L.getD k []) (i : Int)).f1) ∧ w.cell? ⟨g2, i * 4 + 2, none⟩ = some (.int .i64 (rd_T58 (L.getD k []) (i : Int)).f2) ∧ w.cell? ⟨g2, i * 4 + 3, none⟩ = some (.int .i64 (rd_T58 (L.getD k []) (i : Int)).f3) := by
  obtain ⟨g, cv, hv⟩ := R_head h (by omega); rw [hv] at h; obtain ⟨c1, _, ⟨v2, e2, h2⟩, h3, _⟩ := Kd.R_elem h [] (k : Int) (by omega) (by omega); subst e2; have h4 := h3 0 _ rfl
  simp only [Int.toNat_natCast, Kd.slice, Nat.mul_one, Nat.add_zero] at h2 h4
  obtain ⟨A, c, e3⟩ := Kd.Bk h2; subst e3; refine ⟨g, cv, A, c, hv, h4, ?_, fun i hi => ?_⟩
  · exact (Kd.Ax h2).2.2.2.1
  · obtain ⟨g2, c2, e4⟩ := R_head h2 (by omega)
    injection e4 with e4 e5 e6
    subst e4; obtain ⟨ad, e, k0, k1, k2, k3⟩ := at_T58 (Kd.Ax h2).2.2 (i : Int) (by omega) (by omega); injection e with e
    subst e; have ea : (⟨g2, 0, none⟩ : Addr).add (i * 4) = ⟨g2, i * 4, none⟩ := by unfold Addr.add; split <;> simp_all
    rw [Int.toNat_natCast, ea] at k0 k1 k2 k3; exact ⟨g2, rfl, k0, k1, k2, k3⟩
set_option maxRecDepth 100000 in
set_option maxHeartbeats 4000000 in
theorem Room_Hold (w : World) (rb : Nat) (sv swv : Value) (L : List (List S58)) (hR : RM w rb sv swv L) (hL : L.length ≤ 1000) :
    Calls Try.prog 20 #[.pointer (some ⟨rb, 0, none⟩)] w fun e w' => e = .returned (.bool true) ∧ ∃ n, w' = w.drewN n := by
  obtain ⟨Av, cv, hv⟩ := Kd.Bk hR.r; obtain ⟨Am, cm, hm⟩ := Kd.Bk hR.q; subst hv hm; have c0 : w.cell? ⟨rb, 4, none⟩ = some (.slice Av L.length cv) := (Ag hR.b 4).trans rfl; have c1 : w.cell? ⟨rb, 5, none⟩ = some (.slice Am L.length cm) := (Ag hR.b 5).trans rfl; have HRM := Aa.mk hR; clear hR; go_enter Try.func20, Try.ntmps20; have y0 : w.cell? ⟨rb, 0, none⟩ = some (.slice none 0 0) := (Ag HRM.out.b 0).trans rfl; have y2 : w.cell? ⟨rb, 2, none⟩ = some (.slice none 0 0) := (Ag HRM.out.b 2).trans rfl
  go_wp2
  go_loop [3] (fun s => s = .int .i64 0) (fun _ => 0)
  case atStart => rfl
  case round =>
  obtain rfl := hrel
  go_wp2
  go_loop [5] (fun s => s = .int .i64 0) (fun _ => 0)
  case atStart => rfl
  case round =>
  obtain rfl := hrel
  go_wp2
  go_loopw [7, 8] (fun s9 _ wr => ∃ k : Nat, k ≤ L.length ∧ s9 = .int .i64 k ∧ Aa (∃ d, wr = w.drewN d)) (fun s9 _ _ => L.length - (intOf s9).toNat)
  case atStart => exact ⟨0, Nat.zero_le _, rfl, ⟨0, rfl⟩⟩
  case round =>
    obtain ⟨k, hk, rfl, hd⟩ := hrel; obtain ⟨d, rfl⟩ := hd.out; clear hd; have c3' : (w.drewN d).cell? ⟨rb, 4, none⟩ = some (.slice Av L.length cv) := c0; clear c0
    by_cases hlt : k < L.length
    · obtain ⟨g, cv2, A, c, hv, hc, hlen, hcell⟩ := rows_at HRM.out.r k hlt
      obtain ⟨gm, cm2, A2, c2, hm, hc2, _, hcell2⟩ := rows_at HRM.out.q k hlt; injection hv with hv1 hv2 hv3
      injection hm with hm1 hm2 hm3
      subst hv1 hm1; obtain ⟨n, hn⟩ : ∃ n, n = (L.getD k []).length := ⟨_, rfl⟩; obtain ⟨l, hl⟩ : ∃ l, l = L.getD k [] := ⟨_, rfl⟩; rw [← hn] at hc hlen hcell hc2 hcell2; rw [← hl] at hcell hcell2; clear hv2 hm2 hv3 hm3 hn hl; have HC := Aa.mk hcell; have HC2 := Aa.mk hcell2; have HRW := Aa.mk hc; have HRW2 := Aa.mk hc2; have hrow : (w.drewN d).cell? ⟨g, k, none⟩ = some (.slice A n c) := hc; clear hcell hc hcell2 hc2
      go_wp2
      go_loopw [8] (fun s10 wr => ∃ i : Nat, i ≤ n ∧ s10 = .int .i64 i ∧ Aa (∃ d, wr = w.drewN d)) (fun s10 _ => n - (intOf s10).toNat)
      case atStart => exact ⟨0, Nat.zero_le _, rfl, ⟨d, rfl⟩⟩
      case round =>
        obtain ⟨i, hi, rfl, hd2⟩ := hrel; obtain ⟨d2, rfl⟩ := hd2.out; clear hd2 c3' hrow; have c3 : (w.drewN d2).cell? ⟨rb, 4, none⟩ = some (.slice (some ⟨g, 0, none⟩) L.length cv) := (Ag HRM.out.b 4).trans rfl; have c7' : (w.drewN d2).cell? ⟨rb, 5, none⟩ = some (.slice (some ⟨gm, 0, none⟩) L.length cm) := c1
        by_cases hin : i < n
        · obtain ⟨g2, rfl, hxa, hxb, hxc, hxd⟩ := HC.out i hin
          obtain ⟨g3, rfl, hya, hyb, hyc, hyd⟩ := HC2.out i hin; have hrow : (w.drewN d2).cell? ⟨g, k, none⟩ = some (.slice (some ⟨g2, 0, none⟩) n c) := HRW.out; have hrow2 : (w.drewN d2).cell? ⟨gm, k, none⟩ = some (.slice (some ⟨g3, 0, none⟩) n c2) := HRW2.out; have hx2a : (w.drewN d2).cell? ⟨g2, i * 4, none⟩ = some (.int .i64 (rd_T58 l (i : Int)).f0) := hxa; have hy2a : (w.drewN d2).cell? ⟨g3, i * 4, none⟩ = some (.int .i64 (rd_T58 l (i : Int)).f0) := hya; have hx2b : (w.drewN d2).cell? ⟨g2, i * 4 + 1, none⟩ = some (.int .i64 (rd_T58 l (i : Int)).f1) := hxb; have hy2b : (w.drewN d2).cell? ⟨g3, i * 4 + 1, none⟩ = some (.int .i64 (rd_T58 l (i : Int)).f1) := hyb; have hx2c : (w.drewN d2).cell? ⟨g2, i * 4 + 2, none⟩ = some (.int .i64 (rd_T58 l (i : Int)).f2) := hxc; have hy2c : (w.drewN d2).cell? ⟨g3, i * 4 + 2, none⟩ = some (.int .i64 (rd_T58 l (i : Int)).f2) := hyc; have hx2d : (w.drewN d2).cell? ⟨g2, i * 4 + 3, none⟩ = some (.int .i64 (rd_T58 l (i : Int)).f3) := hxd; have hy2d : (w.drewN d2).cell? ⟨g3, i * 4 + 3, none⟩ = some (.int .i64 (rd_T58 l (i : Int)).f3) := hyd; clear hxa hxb hxc hxd hya hyb hyc hyd c1; obtain ⟨W, hW⟩ : ∃ W, W = w.drewN d2 := ⟨_, rfl⟩; rw [← hW] at c3 c7' hrow hrow2 hx2a hx2b hx2c hx2d hy2a hy2b hy2c hy2d ⊢; obtain ⟨x, hx9⟩ : ∃ x, x = rd_T58 l (i : Int) := ⟨_, rfl⟩; rw [← hx9] at hx2a hx2b hx2c hx2d hy2a hy2b hy2c hy2d; have HW := Aa.mk hW; clear hW hx9
          go_wp2
          go_quiet (fail)
          go_wp2
          go_roundw
          case rel => exact ⟨i + 1, by omega, by go_num, ⟨_, by rw [HW.out, World.drewN_drewN]⟩⟩
          case measure => simp [intOf]; omega
        · obtain rfl : i = n := by omega
          have hrow : (w.drewN d2).cell? ⟨g, k, none⟩ = some (.slice A i c) := HRW.out
          go_wp2
          go_roundw
          case rel => exact ⟨k + 1, by omega, by go_num, ⟨d2, rfl⟩⟩
          case measure => simp [intOf]; omega
    · obtain rfl : k = L.length := by omega
      have z3 : (w.drewN d).cell? ⟨rb, 6, none⟩ = some (.slice none 0 0) := (Ag HRM.out.b 6).trans rfl
      go_wp2
      go_loop [9] (fun s => s = .int .i64 0) (fun _ => 0)
      case atStart => rfl
      case round =>
        obtain rfl := hrel
        go_wp2
        go_ret
        exact ⟨rfl, d, rfl⟩
end BR
end Go.Proofs.Ytobdfiglgdbecaa
end
section
open Go Go.RowKit Go.Proofs.YtobdfiglgdbecaaW.PrintWords Go.Proofs.YtobdfiglgdbecaaW.PrintLast Go.Proofs.YtobdfiglgdbecaaW.PrintMore
attribute [local go_sem ↓] Go.wp_at_zero Go.wp_at_succ
set_option linter.unusedVariables false
set_option linter.unusedSimpArgs false
namespace Go.Proofs.Ytobdfiglgdbecaa
open PGA PGB PGH PGK PGI PGR
namespace BR
theorem keep_rects {w w' : World} {rb : Nat} {sv swv : Value} {L : List (List S58)} (hR : RM w rb sv swv L) {v : Value} {l : List S58} (hp : k58.R 58 w rb (fun k => k ≠ rb) v l)
    (hf : ∀ k, k < w.heap.size → k ≠ rb → some k ≠ sv.ownBlock → some k ≠ swv.ownBlock → w'.heap[k]? = w.heap[k]?) : k58.R 58 w' rb (fun k => k ≠ rb) v l := by
  refine Kd.Bs (Kd.R_step (Kd.Df hp) (fun k hk hl => ?_)) (fun k hk => hk.1); obtain ⟨h1, _, _, q, hq, cells, hc⟩ := hk
  have hne : q ≠ 22 := by
    rintro rfl
    revert hq
    decide
  refine hf k hl h1 (fun e => ?_) (fun e => ?_)
  · obtain ⟨c2, h2⟩ := Kd.Bc hR.r k e.symm
    rw [hc] at h2; injection h2 with h2
    injection h2 with _ h2
    exact hne h2
  · obtain ⟨c2, h2⟩ := Kd.Bc hR.q k e.symm
    rw [hc] at h2; injection h2 with h2
    injection h2 with _ h2
    exact hne h2
end BR
namespace VR
theorem num_any (a : Int) (w : World) : Calls Try.prog 14 #[.int .i64 a] w fun e w' => e = .returned (.int .i64 a) ∧ w = w' := by
  go_enter Try.func14, Try.ntmps14
  go_wp2
  go_ret
  exact ⟨rfl, rfl⟩
def tells.f (k : Nat) (a b : List S58) (x y : Int) : Option Bool := if a.length ≤ 4398046510976 ∧ b.length ≤ 4398046510976 then some true else none
theorem tells_ok (a b : List S58) (x y : Int) (hz : a.length ≤ 4398046510976 ∧ b.length ≤ 4398046510976) : ∃ k, tells.f k a b x y = some true := ⟨0, if_pos hz⟩
set_option maxRecDepth 100000 in
set_option maxHeartbeats 8000000 in
theorem tells.calls (k : Nat) (A0 : Option Addr) (c0 : Nat) (a : List S58) (A1 : Option Addr) (c1 : Nat) (b : List S58) (x y : Int) (r : Bool) (w : World) (ha : k58.C w A0 a.length a) (hca : a.length ≤ c0) (hb : k58.C w A1 b.length b) (hcb : b.length ≤ c1) (h : tells.f k a b x y = some r) :
    Calls Try.prog 9 #[.slice A0 a.length c0, .slice A1 b.length c1, .int .i64 x, .int .i64 y] w fun e w' => e = .returned (.bool r) ∧ Below w.heap.size w w' := by
  unfold tells.f at h
  by_cases hl : a.length ≤ 4398046510976 ∧ b.length ≤ 4398046510976
  case neg => rw [if_neg hl] at h; cases h
  rw [if_pos hl] at h; obtain rfl := Option.some.inj h; obtain ⟨la, lb⟩ := hl; clear h; obtain ⟨k0, v0⟩ := known_true; have V0 := Aa.mk (v0 k0 (Nat.le_refl _)); obtain ⟨⟨n, e1⟩, h1⟩ : ∃ p, RG.countP (a.map rc) = p := ⟨_, rfl⟩; obtain ⟨⟨s, e2⟩, h2⟩ : ∃ p, RG.noneP (a.map rc) (b.map rc) RG.unlikeB = p := ⟨_, rfl⟩; obtain ⟨⟨u, e3⟩, h3⟩ : ∃ p, RG.noneP (a.map rc) (b.map rc) RG.withoutB = p := ⟨_, rfl⟩; obtain ⟨⟨d0, d1, d2, d3, ok⟩, h4⟩ : ∃ p, bndP (a.map rc) = p := ⟨_, rfl⟩; obtain ⟨hs, h5⟩ : ∃ p, HS.Has.f a x y = p := ⟨_, rfl⟩; obtain ⟨k1, v1⟩ := count_val a; obtain ⟨k2, v2⟩ := count6_val a; obtain ⟨k3, v3⟩ := same_val a b; obtain ⟨k4, v4⟩ := same6r_val a b; obtain ⟨k5, v5⟩ := within_val a b; obtain ⟨k6, v6⟩ := within6_val a b; obtain ⟨k7, v7⟩ := bnd_val a; obtain ⟨k8, v8⟩ := bnd6_val a; obtain ⟨k9, v9⟩ := has6_val a (by omega) x y; have V1 := Aa.mk ((v1 k1 (Nat.le_refl _)).trans (congrArg some h1)); have V2 := Aa.mk ((v2 k2 (Nat.le_refl _)).trans (congrArg some h1)); have V3 := Aa.mk ((v3 k3 (Nat.le_refl _)).trans (congrArg some h2)); have V4 := Aa.mk ((v4 k4 (Nat.le_refl _)).trans (congrArg some h2)); have V5 := Aa.mk ((v5 k5 (Nat.le_refl _)).trans (congrArg some h3)); have V6 := Aa.mk ((v6 k6 (Nat.le_refl _)).trans (congrArg some h3)); have V7 := Aa.mk ((v7 k7 (Nat.le_refl _)).trans (congrArg some h4)); have V8 := Aa.mk ((v8 k8 (Nat.le_refl _)).trans (congrArg some h4)); have V9 := Aa.mk ((v9 k9 (Nat.le_refl _)).trans (congrArg some h5)); have V10 := Aa.mk h5; have HA := Aa.mk ha; have HCA := Aa.mk hca; have HB0 := Aa.mk hb; have HCB := Aa.mk hcb; have LA := Aa.mk la; have LB := Aa.mk lb; clear v0 v1 v2 v3 v4 v5 v6 v7 v8 v9 h1 h2 h3 h4 h5 ha hb hca hcb la lb; go_enter Try.func9, Try.ntmps9
  go_upto_region 3 with (go_at_call 10; refine (Dk.calls k0 true w V0.out).mono ?_; rintro e w1 ⟨rfl, hb1⟩; have HB := Aa.mk hb1; clear hb1)
  go_upto_region 4 with fail
  obtain ⟨w2, hw2⟩ : ∃ w2, w1.alloc (.cells #[.slice none 0 0, .slice none 0 0, .slice none 0 0, .slice none 0 0, .slice none 0 0, .slice none 0 0, .slice none 0 0, .slice none 0 0] 35) = w2 := ⟨_, rfl⟩; rw [hw2]; have hR2 : BR.RM w2 w1.heap.size (.slice none 0 0) (.slice none 0 0) [] := by rw [← hw2]; exact ⟨Dt _ _, Kd.De _ _ _ _ _, Kd.De _ _ _ _ _⟩
  have hB2 : Below w.heap.size w w2 := by rw [← hw2]; exact Ad HB.out _
  have HR2 := Aa.mk hR2; have HB2 := Aa.mk hB2; have HA2 := Aa.mk (Kd.Cs HA.out hB2); have HZ2 := Aa.mk (show w.heap.size ≤ w1.heap.size from HB.out.size); clear hw2 hR2 hB2 HB
  go_upto_region 5 with (first | (go_at_call 11; refine (BR.Rects_calls w3 w3 w1.heap.size _ _ _ HR3.out (Below.refl _ _) A1 c1 b (Kd.Cs HB0.out HB3.out) LB.out (by simp)).mono ?_; rintro e w4 ⟨Aq, cq, rfl, hq, ⟨sv2, swv2, hR4⟩, hb4, hf4⟩; have HP4 := Aa.mk (BR.keep_rects HR3.out HP.out hf4); have HQ4 := Aa.mk hq; have HR4 := Aa.mk hR4; have HB4 := Aa.mk (HB3.out.trans (hb4.mono HZ2.out)); clear hq hR4 hb4 hf4 HP HR3 HB3 HR2 HB2 HA2) | (go_at_call 11; refine (BR.Rects_calls w2 w2 w1.heap.size _ _ [] HR2.out (Below.refl _ _) A0 c0 a HA2.out LA.out (by simp)).mono ?_; rintro e w3 ⟨Ap, cp, rfl, hp, ⟨sv, swv, hR3⟩, hb3, hf3⟩; have HP := Aa.mk hp; have HR3 := Aa.mk hR3; have HB3 := Aa.mk (HB2.out.trans (hb3.mono HZ2.out)); clear hp hR3 hb3 hf3))
  have HPC := Aa.mk (Kd.Ax HP4.out).2.2; have HPL := Aa.mk (Kd.Ax HP4.out).2.1; have HQC := Aa.mk (Kd.Ax HQ4.out).2.2; have HQL := Aa.mk (Kd.Ax HQ4.out).2.1; have HAC := Aa.mk (Kd.Cs HA.out HB4.out); have HBC := Aa.mk (Kd.Cs HB0.out HB4.out); have HZ4 := Aa.mk (show w.heap.size ≤ w4.heap.size from HB4.out.size); clear HP4 HQ4 HA HB0
  go_upto_region 6 with (go_at_call 34; refine (C8.calls k1 Ap cp a n e1 w4 HPC.out HPL.out V1.out).mono ?_; rintro e w5 ⟨rfl, hb⟩; have H5 := Aa.mk hb; clear hb)
  go_upto_region 7 with (go_at_call 37; refine (Bb.calls k2 A0 c0 a n e1 w5 (Kd.Cs HAC.out H5.out) HCA.out V2.out).mono ?_; rintro e w6 ⟨rfl, hb⟩; have H6 := Aa.mk (H5.out.trans (hb.mono H5.out.size)); clear hb H5)
  go_upto_region 8 with (go_at_call 33; refine (region_Same.calls k3 Ap cp a Aq cq b s e2 w6 (Kd.Cs HPC.out H6.out) HPL.out (Kd.Cs HQC.out H6.out) HQL.out V3.out).mono ?_; rintro e w7 ⟨rfl, hb⟩; have H7 := Aa.mk (H6.out.trans (hb.mono H6.out.size)); clear hb H6)
  go_upto_region 9 with (go_at_call 38; refine (Dr.calls k4 A0 c0 a A1 c1 b s e2 w7 (Kd.Cs HAC.out H7.out) HCA.out (Kd.Cs HBC.out H7.out) HCB.out V4.out).mono ?_; rintro e w8 ⟨rfl, hb⟩; have H8 := Aa.mk (H7.out.trans (hb.mono H7.out.size)); clear hb H7)
  go_upto_region 10 with (go_at_call 35; refine (region_Within.calls k5 Ap cp a Aq cq b u e3 w8 (Kd.Cs HPC.out H8.out) HPL.out (Kd.Cs HQC.out H8.out) HQL.out V5.out).mono ?_; rintro e w9 ⟨rfl, hb⟩; have H9 := Aa.mk (H8.out.trans (hb.mono H8.out.size)); clear hb H8)
  go_upto_region 11 with (go_at_call 39; refine (Dp.calls k6 A0 c0 a A1 c1 b u e3 w9 (Kd.Cs HAC.out H9.out) HCA.out (Kd.Cs HBC.out H9.out) HCB.out V6.out).mono ?_; rintro e w10 ⟨rfl, hb⟩; have H10 := Aa.mk (H9.out.trans (hb.mono H9.out.size)); clear hb H9)
  go_upto_region 12 with (go_at_call 36; refine (Ci.calls k7 Ap cp a d0 d1 d2 d3 ok w10 (Kd.Cs HPC.out H10.out) HPL.out V7.out).mono ?_; rintro e w11 ⟨rfl, hb⟩; have H11 := Aa.mk (H10.out.trans (hb.mono H10.out.size)); clear hb H10)
  obtain ⟨w12, hw12⟩ : ∃ y, y = w11.alloc (.cells #[.int .i64 d0, .int .i64 d1, .int .i64 d2, .int .i64 d3] 58) := ⟨_, rfl⟩; rw [← hw12]; have hg12 : w12.heap[w11.heap.size]? = some (.cells #[.int .i64 d0, .int .i64 d1, .int .i64 d2, .int .i64 d3] 58 (0, 0)) := by rw [hw12]; exact Dt _ _
  have H12 : Aa (Below w4.heap.size w4 w12) := ⟨by rw [hw12]; exact Ad H11.out _⟩; have HG12 := Aa.mk hg12; clear hw12 hg12
  go_upto_region 13 with (go_at_call 40; refine (Br.calls k8 A0 c0 a d0 d1 d2 d3 ok w12 (Kd.Cs HAC.out H12.out) HCA.out V8.out).mono ?_; rintro e w13 ⟨rfl, hb⟩; have H13 := Aa.mk (H12.out.trans (hb.mono H12.out.size)); have HG13 := Aa.mk (Bt HG12.out hb); clear hb H12 HG12)
  obtain ⟨w14, hw14⟩ : ∃ y, y = w13.alloc (.cells #[.int .i64 d0, .int .i64 d1, .int .i64 d2, .int .i64 d3] 58) := ⟨_, rfl⟩; rw [← hw14]; have hp14 : w14.heap[w13.heap.size]? = some (.cells #[.int .i64 d0, .int .i64 d1, .int .i64 d2, .int .i64 d3] 58 (0, 0)) := by rw [hw14]; exact Dt _ _
  have hq14 : w14.heap[w11.heap.size]? = some (.cells #[.int .i64 d0, .int .i64 d1, .int .i64 d2, .int .i64 d3] 58 (0, 0)) := by rw [hw14]; exact Ah HG13.out _
  have H14 : Aa (Below w4.heap.size w4 w14) := ⟨by rw [hw14]; exact Ad H13.out _⟩; have cp0 : w14.cell? ⟨w13.heap.size, 0, none⟩ = some (.int .i64 d0) := (Ag hp14 0).trans rfl; have cp1 : w14.cell? ⟨w13.heap.size, 1, none⟩ = some (.int .i64 d1) := (Ag hp14 1).trans rfl; have cp2 : w14.cell? ⟨w13.heap.size, 2, none⟩ = some (.int .i64 d2) := (Ag hp14 2).trans rfl; have cp3 : w14.cell? ⟨w13.heap.size, 3, none⟩ = some (.int .i64 d3) := (Ag hp14 3).trans rfl; have cq0 : w14.cell? ⟨w11.heap.size, 0, none⟩ = some (.int .i64 d0) := (Ag hq14 0).trans rfl; have cq1 : w14.cell? ⟨w11.heap.size, 1, none⟩ = some (.int .i64 d1) := (Ag hq14 1).trans rfl; have cq2 : w14.cell? ⟨w11.heap.size, 2, none⟩ = some (.int .i64 d2) := (Ag hq14 2).trans rfl; have cq3 : w14.cell? ⟨w11.heap.size, 3, none⟩ = some (.int .i64 d3) := (Ag hq14 3).trans rfl; clear hw14 hp14 hq14 H11 H13 HG13
  go_wp2_with (first | (go_at_call 14; refine (num_any _ _).mono ?_; rintro e w7 ⟨rfl, rfl⟩) | (go_at_call 41; refine (HS.Has_calls w14 Ap cp a x y (Kd.Cs HPC.out H14.out)).mono ?_; rw [V10.out]; rintro e w15 ⟨rfl, hb⟩; have H15 := Aa.mk (H14.out.trans (hb.mono H14.out.size)); clear hb) | (go_at_call 32; refine (Co.calls k9 A0 c0 a x y hs w15 (Kd.Cs HAC.out H15.out) HCA.out V9.out).mono ?_; rintro e w16 ⟨rfl, hb⟩; have H16 := Aa.mk (H15.out.trans (hb.mono H15.out.size)); clear hb) | (go_at_call 20; refine (BR.Room_Hold w16 w1.heap.size _ _ _ (HR4.out.move (fun k _ h2 => H16.out.block k h2)) (by simp)).mono ?_; rintro e w17 ⟨rfl, ⟨n2, rfl⟩⟩))
  go_ret
  exact ⟨rfl, by exact Ab (HB4.out.trans (H16.out.mono HZ4.out)) _⟩
end VR
end Go.Proofs.Ytobdfiglgdbecaa
end
