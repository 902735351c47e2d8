import Derived.Test.YthpmkelcjlljmaaXRH2
import Derived.Test.YthpmkelcjlljmaaXPRCx0
import Derived.Lib.SliceRun
open Go Go.RowKit Go.Shelf Go.Proofs.YthpmkelcjlljmaaW.PrintWords Go.Proofs.YthpmkelcjlljmaaW.PrintLast Go.Proofs.YthpmkelcjlljmaaW.PrintMore
attribute [local go_sem] max2_int min2_int max_two min_two max_three min_three max_four min_four
set_option linter.unusedVariables false
set_option linter.unusedSimpArgs false
namespace Go.Proofs.Ythpmkelcjlljmaa
open PRA PRC

def slices_Clone_uint32_uint32.f (l0 : List Int) : Option (List Int) := (some (([] : List Int) : List Int)).bind fun y101 => (if y101.length + l0.length < 35184372088832 then (some (y101 ++ l0)) else (none))
set_option maxHeartbeats 8000000 in
set_option maxRecDepth 100000 in
theorem slices_Clone_uint32_uint32.calls (A0 : Option Addr) (c0 : Nat) (l0 : List Int) (r : List Int) (w : World) (hr0 : Kd.C (Kd.int .u32) w A0 l0.length l0) (hc0 : l0.length ≤ c0) (h : slices_Clone_uint32_uint32.f l0 = some r) :
    Calls Try.prog 39 #[.slice A0 l0.length c0] w fun e w' => ∃ v0_ : Value, e = .returned (v0_) ∧ Kd.R (Kd.int .u32) 41 w' w.heap.size (fun _ => True) v0_ r ∧ Below w.heap.size w w' := by
  have q23 : ∀ (w : World) (a : Option Addr) (n c n' c' : Nat), (binOp .eql 23 (.slice a n c) (.slice none n' c')).run Try.prog w = .ok (.bool a.isNone) w := fun w a n c n' c' => Lib.run_eql_slice_nil w _ _ a n c n' c' Try.underlying23
  cases A0 with
  | none =>
    have hz : l0 = [] := by
      rcases Nat.eq_zero_or_pos l0.length with h0 | h0
      · exact List.length_eq_zero_iff.mp h0
      · obtain ⟨ad, e, _⟩ := hr0.2.2 h0
        cases e
    subst hz
    obtain rfl : ([] : List Int) = r := by
      unfold slices_Clone_uint32_uint32.f at h
      simpa using h
    clear hr0 h
    go_enter Try.func39, Try.ntmps39
    go_wp2
    go_ret
    exact ⟨_, rfl, Kd.R_nil _ _ _ _ _, Below.refl _ _⟩
  | some ad =>
    have HR0 := Ac.mk hr0
    have HC0 := Ac.mk hc0
    clear hr0 hc0
    have HB := Ac.mk (Below.refl w.heap.size w)
    have H : ((some (([] : List Int) : List Int)).bind fun y101 => (if y101.length + l0.length < 35184372088832 then (some (y101 ++ l0)) else (none))) = some r := h
    clear h
    obtain ⟨y101, hy101⟩ : ∃ y_ : List Int, y_ = (([] : List Int)) := ⟨_, rfl⟩
    replace H : (if y101.length + l0.length < 35184372088832 then (some (y101 ++ l0)) else (none)) = some r := by first | (rw [hy101]; with_reducible exact H) | (have H2_ := (Option.bind_some _ _).symm.trans H; rw [hy101]; with_reducible exact H2_) | (have H2_ := (Option.bind_some _ _).symm.trans H; with_reducible exact H2_) | with_reducible exact H | (rw [hy101]; exact H) | exact H
    have Ny101 := Ac.mk hy101
    clear hy101
    by_cases c2 : y101.length + l0.length < 35184372088832
    · rw [if_pos c2] at H
      have LMc2 := Ac.mk c2
      clear c2
      obtain ⟨y104, hy104⟩ : ∃ y_ : List Int, y_ = (y101 ++ l0) := ⟨_, rfl⟩
      replace H : (some y104) = some r := by first | (rw [hy104]; with_reducible exact H) | (have H2_ := (Option.bind_some _ _).symm.trans H; rw [hy104]; with_reducible exact H2_) | (have H2_ := (Option.bind_some _ _).symm.trans H; with_reducible exact H2_) | with_reducible exact H | (rw [hy104]; exact H) | exact H
      have Ny104 := Ac.mk hy104
      clear hy104
      obtain rfl := Option.some.inj H
      go_enter Try.func39, Try.ntmps39
      go_wp2_with (first | ((with_reducible refine Bd (N := 5) rfl ?_); refine Kd.R_lit (Kd.int .u32) _ 41 ?hg (N := 5) ?hd (xs := ([] : List Int)) (inner := []) (ok := fun _ => True) (okp := fun _ => True) ?hr ?hp (fun _ hk => hk) trivial (Below.refl _ _) (Nat.le_refl _) (by simp) ?_; (case hd => rfl); (case hg => rfl); (case hr => first | (go_simp; done) | (go_simp; rfl)); (case hp => exact (Reps.none _ _)); intro v102 w3 ho4 hb hg_ hnew_; clear hg_ hnew_; (first | rw [← Ny101.out] at ho4 | (simp only [Int.reduceToNat] at ho4; rw [← Ny101.out] at ho4)); have n0_ := Ac.mk (Kd.Br ho4 (Ap (by repeat (first | (with_reducible first | exact HB.out | apply Ai | apply Af | apply Aj) | exact HB.out)))); have n1_ := Ac.mk (At (by repeat (first | (with_reducible first | exact HB.out | apply Ai | apply Af | apply Aj) | exact HB.out)) hb); clear HB; have HO103 := n0_; have HB := n1_; clear n0_ n1_; clear hb ho4) | ((with_reducible refine gate_builtin (b := .append) (xs := #[.tmp 5, .tmp 6]) rfl ?_); at_builtin; refine Kd.R_append_rows (Kd.int .u32) (w0 := w) w.heap.size rfl (.tmp 5) (.tmp 6) 23 41 (.int .u32 0) 4 rfl Try.underlying23 info41 rfl (by decide) (by omega) v102 y101 l0 _ _ _ (fun _ => True) (fun _ => False) rfl rfl ?aO ?aR (fun _ _ h => h) (fun _ h => h.elim) ?aF ?aB ?aS ?aL ?_; (case aR => repeat (first | exact (Kd.Bo HR0.out HB.out) | (with_reducible refine Kd.Ca ?_ _) | (with_reducible refine Kd.B7 ?_ _) | (with_reducible refine Kd.Ce ?_))); (case aB => exact (by repeat (first | (with_reducible first | exact HB.out | apply Ai | apply Af | apply Aj) | exact HB.out))); (case aF => exact (fun _ _ => trivial)); (case aO => exact (by (with_reducible repeat (first | apply Kd.An | apply Kd.Ao | apply Kd.Ar)); exact HO103.out)); (case aS => exact (Ap (by repeat (first | (with_reducible first | exact HB.out | apply Ai | apply Af | apply Aj) | exact HB.out)))); (case aL => have := LMc2.out; omega); intro v105 w5 ho hb hg hat; rw [← Ny104.out] at ho; have n0_ := Ac.mk (hb); have n1_ := Ac.mk (ho); clear HB; clear HO103; have HB := n0_; have HO106 := n1_; clear n0_ n1_; clear ho hb hg hat))
      go_ret
      exact ⟨_, by first | rfl | (simp [Bb, Ba] <;> rfl) | (simp [*, Bb, Ba] <;> rfl), by (with_reducible repeat (first | apply Kd.An | apply Kd.Ao | apply Kd.Ar)); exact HO106.out, by repeat (first | (with_reducible first | exact HB.out | apply Ai | apply Af | apply Aj) | exact HB.out)⟩
    · rw [if_neg c2] at H
      exact absurd H (by simp)

theorem encs_toS (l : List Int) (hu : ∀ s ∈ l, 0 ≤ s ∧ s < 4294967296) : (l.map toS).map encS = encs (Value.int .u32) l := by
  unfold encs
  rw [List.map_map]
  exact List.map_congr_left fun x hx => encS_toS x (hu x hx).1 (hu x hx).2
theorem encs_back (l : List Smp) : l.map encS = encs (Value.int .u32) (l.map (fun s => (s.val : Int))) := by
  unfold encs
  rw [List.map_map]
  rfl
theorem below_grow' (V : World) (os : Array Obj) : Below V.heap.size V (Sort.grow V os) := ⟨rfl, rfl, rfl, by simp [Sort.grow], fun k hk => by simp [Sort.grow, Array.getElem?_append, hk]⟩

def Ci.f (l0 : List Int) : Option (List Int) := if l0.length < 35184372088832 ∧ (∀ s ∈ l0, 0 ≤ s ∧ s < 4294967296) then some (isrt l0) else none
set_option maxHeartbeats 8000000 in
set_option maxRecDepth 100000 in
theorem Ci.calls (A0 : Option Addr) (c0 : Nat) (l0 : List Int) (r : List Int) (w : World) (hr0 : Kd.C (Kd.int .u32) w A0 l0.length l0) (hc0 : l0.length ≤ c0) (h : Ci.f l0 = some r) :
    Calls Try.prog 24 #[.slice A0 l0.length c0] w fun e w' => ∃ v0_ : Value, e = .returned (v0_) ∧ Kd.R (Kd.int .u32) 41 w' w.heap.size (fun _ => True) v0_ r ∧ Below w.heap.size w w' := by
  unfold Ci.f at h
  split at h
  · rename_i hc
    obtain ⟨hl, hu⟩ := hc
    rw [isrt_eq l0 hu] at h
    obtain rfl := Option.some.inj h
    have hcl : slices_Clone_uint32_uint32.f l0 = some l0 := by
      unfold slices_Clone_uint32_uint32.f
      rw [Option.bind_some, if_pos (by simpa using hl)]
      rfl
    have hcall := slices_Clone_uint32_uint32.calls A0 c0 l0 l0 w hr0 hc0 hcl
    have HU := Ac.mk hu
    have HCL := Ac.mk hcall
    clear hr0 hcl h hcall hu
    go_enter Try.func24, Try.ntmps24
    go_wp2_with fail
    refine HCL.out.mono ?_
    rintro e w1 ⟨v, rfl, ho, hb⟩
    have hown := Kd.own_of_R ho
    rw [← encs_toS l0 HU.out] at hown
    by_cases hv : v = .slice none 0 0
    · subst hv
      have hl0 : l0 = [] := by
        obtain ⟨A, c, e⟩ := Kd.Bw ho
        injection e with e1 e2 e3
        exact List.length_eq_zero_iff.mp e2.symm
      subst hl0
      have hn := sort_none none 0 w1
      have HN := Ac.mk hn
      have HB := Ac.mk hb
      clear hn hb hown ho HCL
      go_wp2_with fail
      refine HN.out.mono ?_
      rintro e w2 ⟨rfl, rfl⟩
      go_wp2
      go_ret
      have hs : srtI [] = [] := by
        have := srtI_length []
        exact List.length_eq_zero_iff.mp this
      rw [hs]
      exact ⟨_, rfl, Kd.R_nil _ _ _ _ _, HB.out⟩
    · obtain ⟨g, cap, rfl, hbg, hlt, hn, hm, hlz, hH⟩ := Lib.holds_of_ownsRow hown hv
      have hsz : (l0.map toS).toArray.size = l0.length := by simp
      have hs := sort_calls g 0 cap (l0.map toS).toArray (by rw [hsz]; omega) w1 hH hlt
      rw [hsz] at hs
      have hup : ∀ n os, Kd.R (Kd.int .u32) 41 (sortWorld encS w1 g 0 n (srt (l0.map toS)).toArray os) w.heap.size (fun _ => True) (.slice (some ⟨g, 0, none⟩) l0.length cap) (srtI l0) ∧ Below w.heap.size w (sortWorld encS w1 g 0 n (srt (l0.map toS)).toArray os) := by
        intro n os
        have h1 := Lib.ownsRow_putRow (q := n) (k := l0.length) (ys := srt (l0.map toS)) hown (by rw [srt_length, List.length_map]) (Nat.le_refl _)
        rw [List.take_of_length_le (by rw [srt_length, List.length_map]; exact Nat.le_refl _), encs_back] at h1
        have h2 : Kd.R (Kd.int .u32) 41 (Sort.putRow encS (Sort.ahead w1 n) g 0 (srt (l0.map toS)).toArray) w.heap.size (fun _ => True) (.slice (some ⟨g, 0, none⟩) l0.length cap) (srtI l0) := by
          have h3 := h1
          rw [← srtI_length l0] at h3 ⊢
          exact Kd.R_of_own h3 (fun _ _ => trivial)
        have hg := below_grow' (Sort.putRow encS (Sort.ahead w1 n) g 0 (srt (l0.map toS)).toArray) os
        refine ⟨Kd.Bf h2 hg, (Lib.below_putRow hb hbg).trans (hg.mono ?_)⟩
        rw [Sort.size_putRow]
        exact hb.size
      have HS := Ac.mk hs
      have HUP := Ac.mk hup
      clear hs hup hown ho hb hH hsz hlz HCL
      go_wp2_with fail
      refine HS.out.mono ?_
      rintro e w2 ⟨rfl, n, os, rfl⟩
      have hq := HUP.out n os
      have e9 : (srt (l0.map toS).toArray.toList).toArray = (srt (l0.map toS)).toArray := rfl
      generalize sortWorld encS w1 g 0 n (srt (l0.map toS)).toArray os = w2 at hq ⊢
      have HQ := Ac.mk hq
      clear hq
      go_wp2
      go_ret
      exact ⟨_, rfl, HQ.out.1, HQ.out.2⟩
  · cases h
end Go.Proofs.Ythpmkelcjlljmaa

