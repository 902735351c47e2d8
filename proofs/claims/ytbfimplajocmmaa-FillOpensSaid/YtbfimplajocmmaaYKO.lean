import Derived.Test.YtbfimplajocmmaaYKD
open Go Go.RowKit Go.Proofs.YtbfimplajocmmaaW.PrintWords Go.Proofs.YtbfimplajocmmaaW.PrintLast Go.Proofs.YtbfimplajocmmaaW.PrintMore
attribute [local go_sem ↓] Go.wp_at_zero Go.wp_at_succ
set_option linter.unusedVariables false
set_option linter.unusedSimpArgs false
namespace Go.Proofs.Ytbfimplajocmmaa.BK
theorem rows_at {w : World} {base : Nat} {ok : Nat → Prop} {v : Value} {L : List (List Int)} (h : (Kd.slice 28 (Kd.int .u32)).R 22 w base ok v L) (k : Nat) (hk : k < L.length) :
    ∃ g cv A c, v = .slice (some ⟨g, 0, none⟩) L.length cv ∧ w.cell? ⟨g, k, none⟩ = some (.slice A (L.getD k []).length c) ∧ (L.getD k []).length ≤ 9223372036854775807 ∧
      ∀ i, i < (L.getD k []).length → ∃ g2, A = some ⟨g2, 0, none⟩ ∧ w.cell? ⟨g2, i, none⟩ = some (.int .u32 ((L.getD k []).getD i 0)) := by
  obtain ⟨g, cv, hv⟩ := R_head h (by omega); rw [hv] at h; obtain ⟨c1, _, ⟨v2, e2, h2⟩, h3, _⟩ := Kd.R_elem h [] (k : Int) (by omega) (by omega); subst e2; have h4 := h3 0 _ rfl
  simp only [Int.toNat_natCast, Kd.slice, Nat.mul_one, Nat.add_zero] at h2 h4
  obtain ⟨A, c, e3⟩ := Kd.B0 h2; subst e3; refine ⟨g, cv, A, c, hv, h4, ?_, fun i hi => ?_⟩
  · rcases h2.2 with ⟨inner, ⟨_, ho⟩, _⟩
    rcases ho with ⟨_, h0⟩ | ⟨_, _, _, _, _, _, h7, h8, _⟩
    · omega
    · unfold maxLen at h8; omega
  · obtain ⟨g2, c2, e4⟩ := R_head h2 (by omega)
    injection e4 with e4 e5 e6
    subst e4; refine ⟨g2, rfl, ?_⟩; have h6 := (Kd.R_cell (enc := Value.int .u32) 0 h2 (i : Int) (by omega) (by omega)).1; rw [Int.toNat_natCast] at h6; rw [h6]; unfold rdOf; rw [Int.toNat_natCast]
set_option maxRecDepth 100000 in
set_option maxHeartbeats 4000000 in
theorem Room_Hold (w : World) (rb : Nat) (sv swv : Value) (L : List (List Int)) (hR : RM w rb sv swv L) (hL : L.length ≤ 1000) :
    Calls Try.prog 20 #[.pointer (some ⟨rb, 0, none⟩)] w fun e w' => e = .returned (.bool true) ∧ ∃ n, w' = w.drewN n := by
  obtain ⟨Av, cv, hv⟩ := Kd.B0 hR.r; obtain ⟨Am, cm, hm⟩ := Kd.B0 hR.q; subst hv hm; have c0 : w.cell? ⟨rb, 0, none⟩ = some (.slice Av L.length cv) := (Ad hR.b 0).trans rfl; have c1 : w.cell? ⟨rb, 1, none⟩ = some (.slice Am L.length cm) := (Ad hR.b 1).trans rfl; have HRM := Ac.mk hR; clear hR; go_enter Try.func20, Try.ntmps20
  go_wp2
  go_loopw [3, 4] (fun s9 _ wr => ∃ k : Nat, k ≤ L.length ∧ s9 = .int .i64 k ∧ Ac (∃ d, wr = w.drewN d)) (fun s9 _ _ => L.length - (intOf s9).toNat)
  case atStart => exact ⟨0, Nat.zero_le _, rfl, ⟨0, rfl⟩⟩
  case round =>
    obtain ⟨k, hk, rfl, hd⟩ := hrel; obtain ⟨d, rfl⟩ := hd.out; clear hd; have c3' : (w.drewN d).cell? ⟨rb, 0, none⟩ = some (.slice Av L.length cv) := c0; clear c0
    by_cases hlt : k < L.length
    · obtain ⟨g, cv2, A, c, hv, hc, hlen, hcell⟩ := rows_at HRM.out.r k hlt
      obtain ⟨gm, cm2, A2, c2, hm, hc2, _, hcell2⟩ := rows_at HRM.out.q k hlt; injection hv with hv1 hv2 hv3
      injection hm with hm1 hm2 hm3
      subst hv1 hm1; obtain ⟨n, hn⟩ : ∃ n, n = (L.getD k []).length := ⟨_, rfl⟩; obtain ⟨l, hl⟩ : ∃ l, l = L.getD k [] := ⟨_, rfl⟩; rw [← hn] at hc hlen hcell hc2 hcell2; rw [← hl] at hcell hcell2; clear hv2 hm2 hv3 hm3 hn hl; have HC := Ac.mk hcell; have HC2 := Ac.mk hcell2; have HRW := Ac.mk hc; have HRW2 := Ac.mk hc2; have hrow : (w.drewN d).cell? ⟨g, k, none⟩ = some (.slice A n c) := hc; clear hcell hc hcell2 hc2
      go_wp2
      go_loopw [4] (fun s10 wr => ∃ i : Nat, i ≤ n ∧ s10 = .int .i64 i ∧ Ac (∃ d, wr = w.drewN d)) (fun s10 _ => n - (intOf s10).toNat)
      case atStart => exact ⟨0, Nat.zero_le _, rfl, ⟨d, rfl⟩⟩
      case round =>
        obtain ⟨i, hi, rfl, hd2⟩ := hrel; obtain ⟨d2, rfl⟩ := hd2.out; clear hd2 c3' hrow; have c3 : (w.drewN d2).cell? ⟨rb, 0, none⟩ = some (.slice (some ⟨g, 0, none⟩) L.length cv) := (Ad HRM.out.b 0).trans rfl; have c7' : (w.drewN d2).cell? ⟨rb, 1, none⟩ = some (.slice (some ⟨gm, 0, none⟩) L.length cm) := c1
        by_cases hin : i < n
        · obtain ⟨g2, rfl, hx⟩ := HC.out i hin
          obtain ⟨g3, rfl, hy⟩ := HC2.out i hin; have hrow : (w.drewN d2).cell? ⟨g, k, none⟩ = some (.slice (some ⟨g2, 0, none⟩) n c) := HRW.out; have hrow2 : (w.drewN d2).cell? ⟨gm, k, none⟩ = some (.slice (some ⟨g3, 0, none⟩) n c2) := HRW2.out; have hx2 : (w.drewN d2).cell? ⟨g2, i, none⟩ = some (.int .u32 (l.getD i 0)) := hx; have hy2 : (w.drewN d2).cell? ⟨g3, i, none⟩ = some (.int .u32 (l.getD i 0)) := hy; clear hx hy c1; obtain ⟨W, hW⟩ : ∃ W, W = w.drewN d2 := ⟨_, rfl⟩; rw [← hW] at c3 c7' hrow hrow2 hx2 hy2 ⊢; obtain ⟨x, hx9⟩ : ∃ x, x = l.getD i 0 := ⟨_, rfl⟩; rw [← hx9] at hx2 hy2; have HW := Ac.mk hW; clear hW hx9
          go_wp2
          go_quiet (fail)
          go_wp2
          go_roundw
          case rel => exact ⟨i + 1, by omega, by go_num, ⟨_, by rw [HW.out, World.drewN_drewN]⟩⟩
          case measure => simp [intOf]; omega
        · obtain rfl : i = n := by omega
          have hrow : (w.drewN d2).cell? ⟨g, k, none⟩ = some (.slice A i c) := HRW.out
          go_wp2
          go_roundw
          case rel => exact ⟨k + 1, by omega, by go_num, ⟨d2, rfl⟩⟩
          case measure => simp [intOf]; omega
    · obtain rfl : k = L.length := by omega
      have z1 : (w.drewN d).cell? ⟨rb, 2, none⟩ = some (.slice none 0 0) := (Ad HRM.out.b 2).trans rfl; have z2 : (w.drewN d).cell? ⟨rb, 4, none⟩ = some (.slice none 0 0) := (Ad HRM.out.b 4).trans rfl; have z3 : (w.drewN d).cell? ⟨rb, 6, none⟩ = some (.slice none 0 0) := (Ad HRM.out.b 6).trans rfl
      go_wp2
      go_loop [5] (fun s => s = .int .i64 0) (fun _ => 0)
      case atStart => rfl
      case round =>
        obtain rfl := hrel
        go_wp2
        go_loop [7] (fun s => s = .int .i64 0) (fun _ => 0)
        case atStart => rfl
        case round =>
          obtain rfl := hrel
          go_wp2
          go_loop [9] (fun s => s = .int .i64 0) (fun _ => 0)
          case atStart => rfl
          case round =>
            obtain rfl := hrel
            go_wp2
            go_ret
            exact ⟨rfl, d, rfl⟩
end Go.Proofs.Ytbfimplajocmmaa.BK


