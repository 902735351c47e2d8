import Derived.Test.YtobdfiglgdbecaaQRR
import Derived.Test.YtobdfiglgdbecaaQKI
section
open Go Go.RowKit Go.Proofs.YtobdfiglgdbecaaW.PrintWords Go.Proofs.YtobdfiglgdbecaaW.PrintLast Go.Proofs.YtobdfiglgdbecaaW.PrintMore
attribute [local go_sem ↓] Go.wp_at_zero Go.wp_at_succ
set_option linter.unusedVariables false
set_option linter.unusedSimpArgs false
namespace Go.Proofs.Ytobdfiglgdbecaa
open PGA PGB
namespace BR
theorem R_head {α : Type} {d : Kd α} {e : Nat} {w : World} {base : Nat} {ok : Nat → Prop} {v : Value} {xs : List α} (h : d.R e w base ok v xs) (hn : 0 < xs.length) : ∃ g c, v = .slice (some ⟨g, 0, none⟩) xs.length c := by
  obtain ⟨g, c, e, _⟩ := Kd.R_form h hn
  exact ⟨g, c, e⟩
theorem rows_at {w : World} {base : Nat} {ok : Nat → Prop} {v : Value} {L : List (List S58)} (h : (Kd.slice 58 k58).R 22 w base ok v L) (k : Nat) (hk : k < L.length) :
    ∃ g cv A c, v = .slice (some ⟨g, 0, none⟩) L.length cv ∧ w.cell? ⟨g, k, none⟩ = some (.slice A (L.getD k []).length c) ∧ (L.getD k []).length ≤ 9223372036854775807 ∧
      ∀ i, i < (L.getD k []).length → ∃ g2, A = some ⟨g2, 0, none⟩ ∧ w.cell? ⟨g2, i * 4, none⟩ = some (.int .i64 (rd_T58 (L.getD k []) (i : Int)).f0) ∧ w.cell? ⟨g2, i * 4 + 1, none⟩ = some (.int .i64 (rd_T58 (L.getD k []) (i : Int)).f1) ∧ w.cell? ⟨g2, i * 4 + 2, none⟩ = some (.int .i64 (rd_T58 (L.getD k []) (i : Int)).f2) ∧ w.cell? ⟨g2, i * 4 + 3, none⟩ = some (.int .i64 (rd_T58 (L.getD k []) (i : Int)).f3) := by
  obtain ⟨g, cv, hv⟩ := R_head h (by omega)
  rw [hv] at h
  obtain ⟨c1, _, ⟨v2, e2, h2⟩, h3, _⟩ := Kd.R_elem h [] (k : Int) (by omega) (by omega)
  subst e2
  have h4 := h3 0 _ rfl
  simp only [Int.toNat_natCast, Kd.slice, Nat.mul_one, Nat.add_zero] at h2 h4
  obtain ⟨A, c, e3⟩ := Kd.Bg h2
  subst e3
  refine ⟨g, cv, A, c, hv, h4, ?_, fun i hi => ?_⟩
  · exact (Kd.Ao h2).2.2.2.1
  · obtain ⟨g2, c2, e4⟩ := R_head h2 (by omega)
    injection e4 with e4 e5 e6
    subst e4
    obtain ⟨ad, e, k0, k1, k2, k3⟩ := at_T58 (Kd.Ao h2).2.2 (i : Int) (by omega) (by omega)
    injection e with e
    subst e
    have ea : (⟨g2, 0, none⟩ : Addr).add (i * 4) = ⟨g2, i * 4, none⟩ := by unfold Addr.add; split <;> simp_all
    rw [Int.toNat_natCast, ea] at k0 k1 k2 k3
    exact ⟨g2, rfl, k0, k1, k2, k3⟩
set_option maxRecDepth 100000 in
set_option maxHeartbeats 4000000 in
theorem Room_Hold (w : World) (rb : Nat) (sv swv : Value) (L : List (List S58)) (hR : RM w rb sv swv L) (hL : L.length ≤ 1000) :
    Calls Try.prog 20 #[.pointer (some ⟨rb, 0, none⟩)] w fun e w' => e = .returned (.bool true) ∧ ∃ n, w' = w.drewN n := by
  obtain ⟨Av, cv, hv⟩ := Kd.Bg hR.r
  obtain ⟨Am, cm, hm⟩ := Kd.Bg hR.q
  subst hv hm
  have c0 : w.cell? ⟨rb, 4, none⟩ = some (.slice Av L.length cv) := (Aj hR.b 4).trans rfl
  have c1 : w.cell? ⟨rb, 5, none⟩ = some (.slice Am L.length cm) := (Aj hR.b 5).trans rfl
  have HRM := Aa.mk hR
  clear hR
  go_enter Try.func20, Try.ntmps20
  have y0 : w.cell? ⟨rb, 0, none⟩ = some (.slice none 0 0) := (Aj HRM.out.b 0).trans rfl
  have y2 : w.cell? ⟨rb, 2, none⟩ = some (.slice none 0 0) := (Aj HRM.out.b 2).trans rfl
  go_wp2
  go_loop [3] (fun s => s = .int .i64 0) (fun _ => 0)
  case atStart => rfl
  case round =>
  obtain rfl := hrel
  go_wp2
  go_loop [5] (fun s => s = .int .i64 0) (fun _ => 0)
  case atStart => rfl
  case round =>
  obtain rfl := hrel
  go_wp2
  go_loopw [7, 8] (fun s9 _ wr => ∃ k : Nat, k ≤ L.length ∧ s9 = .int .i64 k ∧ Aa (∃ d, wr = w.drewN d)) (fun s9 _ _ => L.length - (intOf s9).toNat)
  case atStart => exact ⟨0, Nat.zero_le _, rfl, ⟨0, rfl⟩⟩
  case round =>
    obtain ⟨k, hk, rfl, hd⟩ := hrel
    obtain ⟨d, rfl⟩ := hd.out
    clear hd
    have c3' : (w.drewN d).cell? ⟨rb, 4, none⟩ = some (.slice Av L.length cv) := c0
    clear c0
    by_cases hlt : k < L.length
    · obtain ⟨g, cv2, A, c, hv, hc, hlen, hcell⟩ := rows_at HRM.out.r k hlt
      obtain ⟨gm, cm2, A2, c2, hm, hc2, _, hcell2⟩ := rows_at HRM.out.q k hlt
      injection hv with hv1 hv2 hv3
      injection hm with hm1 hm2 hm3
      subst hv1 hm1
      obtain ⟨n, hn⟩ : ∃ n, n = (L.getD k []).length := ⟨_, rfl⟩
      obtain ⟨l, hl⟩ : ∃ l, l = L.getD k [] := ⟨_, rfl⟩
      rw [← hn] at hc hlen hcell hc2 hcell2
      rw [← hl] at hcell hcell2
      clear hv2 hm2 hv3 hm3 hn hl
      have HC := Aa.mk hcell
      have HC2 := Aa.mk hcell2
      have HRW := Aa.mk hc
      have HRW2 := Aa.mk hc2
      have hrow : (w.drewN d).cell? ⟨g, k, none⟩ = some (.slice A n c) := hc
      clear hcell hc hcell2 hc2
      go_wp2
      go_loopw [8] (fun s10 wr => ∃ i : Nat, i ≤ n ∧ s10 = .int .i64 i ∧ Aa (∃ d, wr = w.drewN d)) (fun s10 _ => n - (intOf s10).toNat)
      case atStart => exact ⟨0, Nat.zero_le _, rfl, ⟨d, rfl⟩⟩
      case round =>
        obtain ⟨i, hi, rfl, hd2⟩ := hrel
        obtain ⟨d2, rfl⟩ := hd2.out
        clear hd2 c3' hrow
        have c3 : (w.drewN d2).cell? ⟨rb, 4, none⟩ = some (.slice (some ⟨g, 0, none⟩) L.length cv) := (Aj HRM.out.b 4).trans rfl
        have c7' : (w.drewN d2).cell? ⟨rb, 5, none⟩ = some (.slice (some ⟨gm, 0, none⟩) L.length cm) := c1
        by_cases hin : i < n
        · obtain ⟨g2, rfl, hxa, hxb, hxc, hxd⟩ := HC.out i hin
          obtain ⟨g3, rfl, hya, hyb, hyc, hyd⟩ := HC2.out i hin
          have hrow : (w.drewN d2).cell? ⟨g, k, none⟩ = some (.slice (some ⟨g2, 0, none⟩) n c) := HRW.out
          have hrow2 : (w.drewN d2).cell? ⟨gm, k, none⟩ = some (.slice (some ⟨g3, 0, none⟩) n c2) := HRW2.out
          have hx2a : (w.drewN d2).cell? ⟨g2, i * 4, none⟩ = some (.int .i64 (rd_T58 l (i : Int)).f0) := hxa
          have hy2a : (w.drewN d2).cell? ⟨g3, i * 4, none⟩ = some (.int .i64 (rd_T58 l (i : Int)).f0) := hya
          have hx2b : (w.drewN d2).cell? ⟨g2, i * 4 + 1, none⟩ = some (.int .i64 (rd_T58 l (i : Int)).f1) := hxb
          have hy2b : (w.drewN d2).cell? ⟨g3, i * 4 + 1, none⟩ = some (.int .i64 (rd_T58 l (i : Int)).f1) := hyb
          have hx2c : (w.drewN d2).cell? ⟨g2, i * 4 + 2, none⟩ = some (.int .i64 (rd_T58 l (i : Int)).f2) := hxc
          have hy2c : (w.drewN d2).cell? ⟨g3, i * 4 + 2, none⟩ = some (.int .i64 (rd_T58 l (i : Int)).f2) := hyc
          have hx2d : (w.drewN d2).cell? ⟨g2, i * 4 + 3, none⟩ = some (.int .i64 (rd_T58 l (i : Int)).f3) := hxd
          have hy2d : (w.drewN d2).cell? ⟨g3, i * 4 + 3, none⟩ = some (.int .i64 (rd_T58 l (i : Int)).f3) := hyd
          clear hxa hxb hxc hxd hya hyb hyc hyd c1
          obtain ⟨W, hW⟩ : ∃ W, W = w.drewN d2 := ⟨_, rfl⟩
          rw [← hW] at c3 c7' hrow hrow2 hx2a hx2b hx2c hx2d hy2a hy2b hy2c hy2d ⊢
          obtain ⟨x, hx9⟩ : ∃ x, x = rd_T58 l (i : Int) := ⟨_, rfl⟩
          rw [← hx9] at hx2a hx2b hx2c hx2d hy2a hy2b hy2c hy2d
          have HW := Aa.mk hW
          clear hW hx9
          go_wp2
          go_quiet (fail)
          go_wp2
          go_roundw
          case rel => exact ⟨i + 1, by omega, by go_num, ⟨_, by rw [HW.out, World.drewN_drewN]⟩⟩
          case measure => simp [intOf]; omega
        · obtain rfl : i = n := by omega
          have hrow : (w.drewN d2).cell? ⟨g, k, none⟩ = some (.slice A i c) := HRW.out
          go_wp2
          go_roundw
          case rel => exact ⟨k + 1, by omega, by go_num, ⟨d2, rfl⟩⟩
          case measure => simp [intOf]; omega
    · obtain rfl : k = L.length := by omega
      have z3 : (w.drewN d).cell? ⟨rb, 6, none⟩ = some (.slice none 0 0) := (Aj HRM.out.b 6).trans rfl
      go_wp2
      go_loop [9] (fun s => s = .int .i64 0) (fun _ => 0)
      case atStart => rfl
      case round =>
        obtain rfl := hrel
        go_wp2
        go_ret
        exact ⟨rfl, d, rfl⟩
end BR
end Go.Proofs.Ytobdfiglgdbecaa
end
section
open Go Go.RowKit Go.Proofs.YtobdfiglgdbecaaW.PrintWords Go.Proofs.YtobdfiglgdbecaaW.PrintLast Go.Proofs.YtobdfiglgdbecaaW.PrintMore
attribute [local go_sem ↓] Go.wp_at_zero Go.wp_at_succ
set_option linter.unusedVariables false
set_option linter.unusedSimpArgs false
namespace Go.Proofs.Ytobdfiglgdbecaa
open PGA PGB BR
namespace BK
theorem BK.at {w : World} {base kb : Nat} {P : Nat → Prop} {v vm : Value} {L : List (List S58)} {ms : List Int} (h : BK w base kb P v vm L ms) (k : Nat) (hk : k < L.length) :
    ∃ g cv gm cm A c m, v = .slice (some ⟨g, 0, none⟩) L.length cv ∧ vm = .slice (some ⟨gm, 0, none⟩) L.length cm ∧ w.cell? ⟨g, k, none⟩ = some (.slice A (L.getD k []).length c) ∧ w.cell? ⟨gm, k, none⟩ = some (.int .i64 m) ∧ (L.getD k []).length ≤ 9223372036854775807 ∧
      ∀ i, i < (L.getD k []).length → ∃ g2, A = some ⟨g2, 0, none⟩ ∧ w.cell? ⟨g2, i * 4, none⟩ = some (.int .i64 (mkv m (i : Int))) ∧ w.cell? ⟨g2, i * 4 + 1, none⟩ = some (.int .i64 0) ∧ w.cell? ⟨g2, i * 4 + 2, none⟩ = some (.int .i64 0) ∧ w.cell? ⟨g2, i * 4 + 3, none⟩ = some (.int .i64 0) := by
  obtain ⟨g, cv, A, c, hv, h4, hle, hc⟩ := rows_at h.r k hk
  obtain ⟨gm, cm, hm⟩ := R_head h.m (by have := h.len; omega)
  have hmm := h.m
  rw [hm] at hmm
  have h5 := (Kd.R_cell (enc := Value.int .i64) 0 hmm (k : Int) (by omega) (by have := h.len; omega)).1
  simp only [Int.toNat_natCast] at h5
  refine ⟨g, cv, gm, cm, A, c, ms.getD k 0, hv, by rw [hm, h.len], h4, ?_, hle, fun i hi => ?_⟩
  · rw [h5]; unfold rdOf; rw [Int.toNat_natCast]
  · obtain ⟨g2, e, k0, k1, k2, k3⟩ := hc i hi
    have h7 := h.val k hk
    obtain ⟨n, hn⟩ : ∃ n, n = (L.getD k []).length := ⟨_, rfl⟩
    rw [← hn] at h7 hi
    have h8 : rd_T58 (L.getD k []) (i : Int) = mkr (ms.getD k 0) (i : Int) := by
      unfold rd_T58; rw [Int.toNat_natCast, h7, mks_get _ _ _ hi]
    rw [h8] at k0 k1 k2 k3
    exact ⟨g2, e, k0, k1, k2, k3⟩
theorem mark_q (m i : Int) (w : World) (n : Nat) : Calls Try.prog 54 #[.int .i64 m, .int .i64 i] (w.drewN n) fun e w' => e = .returned (.int .i64 (mkv m i)) ∧ ∃ m, w' = w.drewN m :=
  (mark_any m i _).mono fun _ _ ⟨he, hm⟩ => ⟨he, n, hm.symm⟩
set_option maxRecDepth 100000 in
set_option maxHeartbeats 4000000 in
theorem Hold_calls (w : World) (base kb : Nat) (P : Nat → Prop) (v vm : Value) (L : List (List S58)) (ms : List Int) (hB : BK w base kb P v vm L ms) (hL : L.length ≤ 1000) :
    Calls Try.prog 19 #[.pointer (some ⟨kb, 0, none⟩)] w fun e w' => e = .returned (.bool true) ∧ ∃ n, w' = w.drewN n := by
  have c0 : w.cell? ⟨kb, 0, none⟩ = some (.slice none 0 0) := (Aj hB.b 0).trans rfl
  have c1 : w.cell? ⟨kb, 1, none⟩ = some (.slice none 0 0) := (Aj hB.b 1).trans rfl
  obtain ⟨Av, cv, hv⟩ := Kd.Bg hB.r
  obtain ⟨Am, cm, hm⟩ := Kd.Bg hB.m
  subst hv hm
  have c3 : w.cell? ⟨kb, 2, none⟩ = some (.slice Av L.length cv) := (Aj hB.b 2).trans rfl
  have c7 : w.cell? ⟨kb, 6, none⟩ = some (.slice Am ms.length cm) := (Aj hB.b 6).trans rfl
  have HBK := Aa.mk hB
  clear hB
  go_enter Try.func19, Try.ntmps19
  go_wp2
  go_loop [3] (fun s => s = .int .i64 0) (fun _ => 0)
  case atStart => rfl
  case round =>
  obtain rfl := hrel
  go_wp2
  go_loop [5] (fun s => s = .int .i64 0) (fun _ => 0)
  case atStart => rfl
  case round =>
  obtain rfl := hrel
  go_wp2
  go_loopw [7, 8] (fun s9 _ wr => ∃ k : Nat, k ≤ L.length ∧ s9 = .int .i64 k ∧ Aa (∃ d, wr = w.drewN d)) (fun s9 _ _ => L.length - (intOf s9).toNat)
  case atStart => exact ⟨0, Nat.zero_le _, rfl, ⟨0, rfl⟩⟩
  case round =>
    obtain ⟨k, hk, rfl, hd⟩ := hrel
    obtain ⟨d, rfl⟩ := hd.out
    clear hd c0 c1
    have c3' : (w.drewN d).cell? ⟨kb, 2, none⟩ = some (.slice Av L.length cv) := c3
    clear c3
    by_cases hlt : k < L.length
    · obtain ⟨g, cv2, gm, cm2, A, c, m, hv, hm, hc, hcm, hlen, hcell⟩ := HBK.out.at k hlt
      injection hv with hv1 hv2 hv3
      injection hm with hm1 hm2 hm3
      subst hv1 hm1
      obtain ⟨n, hn⟩ : ∃ n, n = (L.getD k []).length := ⟨_, rfl⟩
      rw [← hn] at hc hlen hcell
      clear hv2 hm2 hv3 hm3 hn
      have HC := Aa.mk hcell
      have HRW := Aa.mk hc
      have hrow : (w.drewN d).cell? ⟨g, k, none⟩ = some (.slice A n c) := hc
      have HMK := Aa.mk hcm
      have hlm : k < ms.length := by have := HBK.out.len; omega
      clear hcell hc hcm
      go_wp2
      go_loopw [8] (fun s10 wr => ∃ i : Nat, i ≤ n ∧ s10 = .int .i64 i ∧ Aa (∃ d, wr = w.drewN d)) (fun s10 _ => n - (intOf s10).toNat)
      case atStart => exact ⟨0, Nat.zero_le _, rfl, ⟨d, rfl⟩⟩
      case round =>
        obtain ⟨i, hi, rfl, hd2⟩ := hrel
        obtain ⟨d2, rfl⟩ := hd2.out
        clear hd2 c3' hrow
        have c3 : (w.drewN d2).cell? ⟨kb, 2, none⟩ = some (.slice (some ⟨g, 0, none⟩) L.length cv) := (Aj HBK.out.b 2).trans rfl
        have c7' : (w.drewN d2).cell? ⟨kb, 6, none⟩ = some (.slice (some ⟨gm, 0, none⟩) ms.length cm) := c7
        by_cases hin : i < n
        · obtain ⟨g2, rfl, hxa, hxb, hxc, hxd⟩ := HC.out i hin
          have hrow : (w.drewN d2).cell? ⟨g, k, none⟩ = some (.slice (some ⟨g2, 0, none⟩) n c) := HRW.out
          have hmk : (w.drewN d2).cell? ⟨gm, k, none⟩ = some (.int .i64 m) := HMK.out
          have hx2a : (w.drewN d2).cell? ⟨g2, i * 4, none⟩ = some (.int .i64 (mkv m (i : Int))) := hxa
          have hx2b : (w.drewN d2).cell? ⟨g2, i * 4 + 1, none⟩ = some (.int .i64 0) := hxb
          have hx2c : (w.drewN d2).cell? ⟨g2, i * 4 + 2, none⟩ = some (.int .i64 0) := hxc
          have hx2d : (w.drewN d2).cell? ⟨g2, i * 4 + 3, none⟩ = some (.int .i64 0) := hxd
          clear hxa hxb hxc hxd c7
          obtain ⟨W, hW⟩ : ∃ W, W = w.drewN d2 := ⟨_, rfl⟩
          rw [← hW] at c3 c7' hrow hmk hx2a hx2b hx2c hx2d ⊢
          have HW := Aa.mk hW
          clear hW
          go_wp2
          go_quiet ((go_at_call 54; with_reducible exact mark_q _ _ _ _))
          go_wp2
          go_roundw
          case rel => exact ⟨i + 1, by omega, by go_num, ⟨_, by rw [HW.out, World.drewN_drewN]⟩⟩
          case measure => simp [intOf]; omega
        · obtain rfl : i = n := by omega
          have hrow : (w.drewN d2).cell? ⟨g, k, none⟩ = some (.slice A i c) := HRW.out
          go_wp2
          go_roundw
          case rel => exact ⟨k + 1, by omega, by go_num, ⟨d2, rfl⟩⟩
          case measure => simp [intOf]; omega
    · obtain rfl : k = L.length := by omega
      have z3 : (w.drewN d).cell? ⟨kb, 3, none⟩ = some (.slice none 0 0) := (Aj HBK.out.b 3).trans rfl
      go_wp2
      go_loop [9] (fun s => s = .int .i64 0) (fun _ => 0)
      case atStart => rfl
      case round =>
        obtain rfl := hrel
        go_wp2
        go_ret
        exact ⟨rfl, d, rfl⟩
end BK
end Go.Proofs.Ytobdfiglgdbecaa
end
section
open Go Go.RowKit Go.Proofs.YtobdfiglgdbecaaW.PrintWords Go.Proofs.YtobdfiglgdbecaaW.PrintLast Go.Proofs.YtobdfiglgdbecaaW.PrintMore
set_option linter.unusedVariables false
set_option linter.unusedSimpArgs false
namespace Go.Proofs.Ytobdfiglgdbecaa
open PGA PGB
structure Kp (w w4 W : World) (kb n : Nat) : Prop where
  le : w.heap.size ≤ kb
  lt : kb + 1 < w4.heap.size
  bk : ∃ v vm L ms, BK.BK W w.heap.size kb (fun k => ¬ (kb ≤ k ∧ k < w4.heap.size)) v vm L ms ∧ L.length = n
  bel : Below w.heap.size w W
  fr : ∀ k, k < w4.heap.size → kb + 1 ≤ k → W.heap[k]? = w4.heap[k]?
  sz : w4.heap.size ≤ W.heap.size
theorem Kp.start {w w4 : World} {kb : Nat} (le : w.heap.size ≤ kb) (lt : kb + 1 < w4.heap.size) (hk : w4.heap[kb]? = some (.cells #[.slice none 0 0, .slice none 0 0, .slice none 0 0, .slice none 0 0, .slice none 0 0, .slice none 0 0, .slice none 0 0, .slice none 0 0] 32 (0, 0))) (bel : Below w.heap.size w w4) : Kp w w4 w4 kb 0 :=
  ⟨le, lt, ⟨_, _, [], [], ⟨hk, le, fun h => h ⟨Nat.le_refl _, by omega⟩, Kd.C2 _ _ _ _ _, Kd.C2 _ _ _ _ _, rfl, fun j hj => by simp at hj⟩, rfl⟩, bel, fun _ _ _ => rfl, Nat.le_refl _⟩
theorem Kp.rects {w w4 W W' : World} {kb n : Nat} (h : Kp w w4 W kb n) (hb : Below W.heap.size W W') (l : Value) (xs : List S58) (hl : k58.R 58 W' W.heap.size (fun _ => True) l xs) (m : Int) (hn : n ≤ 1000) :
    Calls Try.prog 16 #[.pointer (some ⟨kb, 0, none⟩), l, .int .i64 m] W' fun e w' => e = .returned (.tuple #[]) ∧ Kp w w4 w' kb (n + 1) := by
  obtain ⟨v, vm, L, ms, hB, hL⟩ := h.bk
  have hle := h.le
  have hlt := h.lt
  have hsz := h.sz
  have hz : w.heap.size ≤ W.heap.size := h.bel.size
  refine (BK.Rects_calls w W W' w.heap.size kb _ v vm L ms hB hb (h.bel.trans (hb.mono hz)) (fun k hk h2 => by omega) l xs hl m (by omega)).mono ?_
  rintro e w' ⟨rfl, ⟨v', vm', n', h1⟩, h2, h3, h4⟩
  exact ⟨rfl, hle, hlt, ⟨_, _, _, _, h1, by rw [List.length_append, hL]; rfl⟩, h2, fun k hk hk2 => (h3 k (by omega) (fun h => h ⟨by omega, hk⟩) (by omega)).trans (h.fr k hk hk2), by omega⟩
theorem Kp.hold {w w4 W : World} {kb n : Nat} (h : Kp w w4 W kb n) (hn : n ≤ 1000) :
    Calls Try.prog 19 #[.pointer (some ⟨kb, 0, none⟩)] W fun e w' => e = .returned (.bool true) ∧ ∃ n, w' = W.drewN n := by
  obtain ⟨v, vm, L, ms, hB, hL⟩ := h.bk
  exact BK.Hold_calls W w.heap.size kb _ v vm L ms hB (by omega)
theorem Kp.room {w w4 W : World} {kb n : Nat} (h : Kp w w4 W kb n) {sv swv : Value} {L : List (List S58)} (hR : BR.RM w4 (kb + 1) sv swv L) : BR.RM W (kb + 1) sv swv L := hR.move (fun k h1 h2 => h.fr k h2 h1)
theorem Kp.lent {w w4 W : World} {kb n : Nat} (h : Kp w w4 W kb n) {v : Value} {l : List S58} (hp : k58.R 58 w4 (kb + 1) (fun k => k ≠ kb + 1) v l) : k58.R 58 W (kb + 1) (fun k => k ≠ kb + 1) v l :=
  Kd.Bi (Kd.Dm (Kd.Cz hp) (fun k hk hl => h.fr k hl hk.2.1)) (fun k hk => hk.1)
end Go.Proofs.Ytobdfiglgdbecaa
end
