import Derived.Test.YtbfimplajocmmaaYKJ
section
open Go Go.RowKit Go.Proofs.YtbfimplajocmmaaW.PrintWords Go.Proofs.YtbfimplajocmmaaW.PrintLast Go.Proofs.YtbfimplajocmmaaW.PrintMore
attribute [local go_sem ↓] Go.wp_at_zero Go.wp_at_succ
set_option linter.unusedVariables false
set_option linter.unusedSimpArgs false
namespace Go.Proofs.Ytbfimplajocmmaa.BK
theorem R_head {α : Type} {d : Kd α} {e : Nat} {w : World} {base : Nat} {ok : Nat → Prop} {v : Value} {xs : List α} (h : d.R e w base ok v xs) (hn : 0 < xs.length) : ∃ g c, v = .slice (some ⟨g, 0, none⟩) xs.length c := by
  obtain ⟨_, inner, ⟨_, ho⟩, _⟩ := h
  rcases ho with ⟨_, h0⟩ | ⟨g, cap, cur, h1, _⟩
  · omega
  · exact ⟨g, cap, h1⟩
theorem mark_q (m i : Int) (w : World) (n : Nat) : Calls Try.prog 57 #[.int .i64 m, .int .i64 i] (w.drewN n) fun e w' => e = .returned (.int .i64 (mkv m i)) ∧ ∃ m, w' = w.drewN m :=
  (mark_any m i _).mono fun _ _ ⟨he, hm⟩ => ⟨he, n, hm.symm⟩
end Go.Proofs.Ytbfimplajocmmaa.BK
end
section
open Go Go.RowKit Go.Proofs.YtbfimplajocmmaaW.PrintWords Go.Proofs.YtbfimplajocmmaaW.PrintLast Go.Proofs.YtbfimplajocmmaaW.PrintMore
attribute [local go_sem ↓] Go.wp_at_zero Go.wp_at_succ
set_option linter.unusedVariables false
set_option linter.unusedSimpArgs false
namespace Go.Proofs.Ytbfimplajocmmaa.BS
open BK (R_head mkv mark_q)
theorem BS.at {w : World} {base kb : Nat} {P : Nat → Prop} {v vm : Value} {L : List (List Int)} {ms : List Int} (h : BS w base kb P v vm L ms) (k : Nat) (hk : k < L.length) :
  ∃ g cv gm cm A c m, v = .slice (some ⟨g, 0, none⟩) L.length cv ∧ vm = .slice (some ⟨gm, 0, none⟩) L.length cm ∧ w.cell? ⟨g, k, none⟩ = some (.slice A (L.getD k []).length c) ∧ w.cell? ⟨gm, k, none⟩ = some (.int .i64 m) ∧ (L.getD k []).length ≤ 9223372036854775807 ∧
   ∀ i, i < (L.getD k []).length → ∃ g2, A = some ⟨g2, 0, none⟩ ∧ w.cell? ⟨g2, i, none⟩ = some (.int .u32 (mkw m (i : Int))) := by
 obtain ⟨g, cv, hv⟩ := R_head h.r (by omega); obtain ⟨gm, cm, hm⟩ := R_head h.m (by have := h.len; omega); have hr := h.r; have hmm := h.m; rw [hv] at hr; rw [hm] at hmm; obtain ⟨c1, _, ⟨v2, e2, h2⟩, h3, _⟩ := Kd.R_elem hr [] (k : Int) (by omega) (by omega); subst e2; have h4 := h3 0 _ rfl; have h5 := (Kd.R_cell (enc := Value.int .i64) 0 hmm (k : Int) (by omega) (by have := h.len; omega)).1
 simp only [Int.toNat_natCast, Kd.slice, Nat.mul_one, Nat.add_zero] at h2 h4 h5
 obtain ⟨A, c, e3⟩ := Kd.B0 h2; subst e3; refine ⟨g, cv, gm, cm, A, c, ms.getD k 0, hv, by rw [hm, h.len], h4, ?_, ?_, fun i hi => ?_⟩
 ·rw [h5]; unfold rdOf; rw [Int.toNat_natCast]
 ·rcases h2.2 with ⟨inner, ⟨_, ho⟩, _⟩
  rcases ho with ⟨_, h0⟩ | ⟨_, _, _, _, _, _, h7, h8, _⟩
  ·omega
  ·unfold maxLen at h8; omega
 ·obtain ⟨g2, c2, e4⟩ := R_head h2 (by omega)
  injection e4 with e4 e5 e6
  subst e4; refine ⟨g2, rfl, ?_⟩; have h6 := (Kd.R_cell (enc := Value.int .u32) 0 h2 (i : Int) (by omega) (by omega)).1; rw [Int.toNat_natCast] at h6; rw [h6]; have h7 := h.val k hk; unfold rdOf; rw [Int.toNat_natCast]; obtain ⟨n, hn⟩ : ∃ n, n = (L.getD k []).length := ⟨_, rfl⟩; rw [← hn] at h7 hi; rw [h7, mks_get _ _ _ hi]
set_option maxRecDepth 100000 in
set_option maxHeartbeats 4000000 in
theorem Hold_calls (w : World) (base kb : Nat) (P : Nat → Prop) (v vm : Value) (L : List (List Int)) (ms : List Int) (hB : BS w base kb P v vm L ms) (hL : L.length ≤ 1000) :
  Calls Try.prog 19 #[.pointer (some ⟨kb, 0, none⟩)] w fun e w' => e = .returned (.bool true) ∧ ∃ n, w' = w.drewN n := by
 have c1 : w.cell? ⟨kb, 1, none⟩ = some (.slice none 0 0) := (Ad hB.b 1).trans rfl; have c2 : w.cell? ⟨kb, 2, none⟩ = some (.slice none 0 0) := (Ad hB.b 2).trans rfl; have c3 : w.cell? ⟨kb, 3, none⟩ = some (.slice none 0 0) := (Ad hB.b 3).trans rfl; obtain ⟨Av, cv, hv⟩ := Kd.B0 hB.r; obtain ⟨Am, cm, hm⟩ := Kd.B0 hB.m; subst hv hm; have c0 : w.cell? ⟨kb, 0, none⟩ = some (.slice Av L.length cv) := (Ad hB.b 0).trans rfl; have c4 : w.cell? ⟨kb, 4, none⟩ = some (.slice Am ms.length cm) := (Ad hB.b 4).trans rfl; have HBK := Ac.mk hB; clear hB; go_enter Try.func19, Try.ntmps19
 go_wp2
 go_loopw [3, 4] (fun s9 _ wr => ∃ k : Nat, k ≤ L.length ∧ s9 = .int .i64 k ∧ Ac (∃ d, wr = w.drewN d)) (fun s9 _ _ => L.length - (intOf s9).toNat)
 case atStart => exact ⟨0, Nat.zero_le _, rfl, ⟨0, rfl⟩⟩
 case round =>
  obtain ⟨k, hk, rfl, hd⟩ := hrel; obtain ⟨d, rfl⟩ := hd.out; clear hd; have c0' : (w.drewN d).cell? ⟨kb, 0, none⟩ = some (.slice Av L.length cv) := c0
  by_cases hlt : k < L.length
  ·obtain ⟨g, cv2, gm, cm2, A, c, m, hv, hm, hc, hcm, hlen, hcell⟩ := HBK.out.at k hlt
   injection hv with hv1 hv2 hv3
   injection hm with hm1 hm2 hm3
   subst hv1 hm1; obtain ⟨n, hn⟩ : ∃ n, n = (L.getD k []).length := ⟨_, rfl⟩; rw [← hn] at hc hlen hcell; clear hv2 hm2 hv3 hm3 hn c0; have HC := Ac.mk hcell; have HRW := Ac.mk hc; have hrow : (w.drewN d).cell? ⟨g, k, none⟩ = some (.slice A n c) := hc; have HMK := Ac.mk hcm; have hlm : k < ms.length := by have := HBK.out.len; omega
   clear hcell hc hcm c1 c2 c3
   go_wp2
   go_loopw [4] (fun s10 wr => ∃ i : Nat, i ≤ n ∧ s10 = .int .i64 i ∧ Ac (∃ d, wr = w.drewN d)) (fun s10 _ => n - (intOf s10).toNat)
   case atStart => exact ⟨0, Nat.zero_le _, rfl, ⟨d, rfl⟩⟩
   case round =>
    obtain ⟨i, hi, rfl, hd2⟩ := hrel; obtain ⟨d2, rfl⟩ := hd2.out; clear hd2 c0' hrow; have c0 : (w.drewN d2).cell? ⟨kb, 0, none⟩ = some (.slice (some ⟨g, 0, none⟩) L.length cv) := (Ad HBK.out.b 0).trans rfl; have c4' : (w.drewN d2).cell? ⟨kb, 4, none⟩ = some (.slice (some ⟨gm, 0, none⟩) ms.length cm) := c4
    by_cases hin : i < n
    ·obtain ⟨g2, rfl, hx⟩ := HC.out i hin
     have hrow : (w.drewN d2).cell? ⟨g, k, none⟩ = some (.slice (some ⟨g2, 0, none⟩) n c) := HRW.out; have hmk : (w.drewN d2).cell? ⟨gm, k, none⟩ = some (.int .i64 m) := HMK.out; have hx2 : (w.drewN d2).cell? ⟨g2, i, none⟩ = some (.int .u32 (mkw m (i : Int))) := hx; unfold mkw at hx2; clear hx c4; obtain ⟨W, hW⟩ : ∃ W, W = w.drewN d2 := ⟨_, rfl⟩; rw [← hW] at c0 c4' hrow hmk hx2 ⊢; have HW := Ac.mk hW; clear hW
     go_wp2
     go_quiet ((go_at_call 57; with_reducible exact mark_q _ _ _ _))
     go_wp2
     go_roundw
     case rel => exact ⟨i + 1, by omega, by go_num, ⟨_, by rw [HW.out, World.drewN_drewN]⟩⟩
     case measure => simp [intOf]; omega
    ·obtain rfl : i = n := by omega
     have hrow : (w.drewN d2).cell? ⟨g, k, none⟩ = some (.slice A i c) := HRW.out
     go_wp2
     go_roundw
     case rel => exact ⟨k + 1, by omega, by go_num, ⟨d2, rfl⟩⟩
     case measure => simp [intOf]; omega
  ·obtain rfl : k = L.length := by omega
   have c1' : (w.drewN d).cell? ⟨kb, 1, none⟩ = some (.slice none 0 0) := c1; have c2' : (w.drewN d).cell? ⟨kb, 2, none⟩ = some (.slice none 0 0) := c2; have c3' : (w.drewN d).cell? ⟨kb, 3, none⟩ = some (.slice none 0 0) := c3; clear c0 c1 c2 c3 c4; obtain ⟨W, hW⟩ : ∃ W, W = w.drewN d := ⟨_, rfl⟩; rw [← hW] at c0' c1' c2' c3' ⊢; have HW := Ac.mk hW; clear hW
   go_wp2
   go_loop [5] (fun s => s = .int .i64 0) (fun _ => 0)
   case atStart => rfl
   case round =>
    obtain rfl := hrel
    go_wp2
    go_loop [7] (fun s => s = .int .i64 0) (fun _ => 0)
    case atStart => rfl
    case round =>
     obtain rfl := hrel
     go_wp2
     go_loop [9] (fun s => s = .int .i64 0) (fun _ => 0)
     case atStart => rfl
     case round =>
      obtain rfl := hrel
      go_wp2
      go_ret
      exact ⟨rfl, d, HW.out⟩
end Go.Proofs.Ytbfimplajocmmaa.BS
end
