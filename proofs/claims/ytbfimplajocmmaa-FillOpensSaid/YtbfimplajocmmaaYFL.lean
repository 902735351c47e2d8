import Derived.Test.YtbfimplajocmmaaYSPB
import Derived.Test.YtbfimplajocmmaaYAW
section
open Go Go.RowKit Go.Shelf Go.Proofs.YtbfimplajocmmaaW.PrintWords Go.Proofs.YtbfimplajocmmaaW.PrintLast Go.Proofs.YtbfimplajocmmaaW.PrintMore
attribute [local go_sem] Oper.semAt_some max2_int min2_int
set_option linter.unusedVariables false
set_option linter.unusedSimpArgs false
namespace Go.Proofs.Ytbfimplajocmmaa
open PFA FM
set_option maxRecDepth 100000 in
set_option maxHeartbeats 4000000 in
theorem flood1 (P I T : Nat) (ad : Addr) (c : Nat) (l : List Int) (i0 k : Nat) (tol x0 xk d : Int) (W : World) (h2 : W.cell? ⟨P, 2, none⟩ = some (.slice (some ad) l.length c)) (hI : W.cell? ⟨I, 0, none⟩ = some (.int .i64 (i0 : Int))) (hT : W.cell? ⟨T, 0, none⟩ = some (.int .i64 tol))
    (hi : i0 < l.length) (hk : k < l.length) (hx0 : W.cell? (ad.add i0) = some (.int .u32 x0)) (hxk : W.cell? (ad.add k) = some (.int .u32 xk)) (hd : Dq.f x0 xk = some d) :
    Calls Try.prog 68 (#[.int .i64 (k : Int)] ++ #[.pointer (some ⟨P, 0, none⟩), .pointer (some ⟨I, 0, none⟩), .pointer (some ⟨T, 0, none⟩)]) W fun e w' => e = .returned (.bool (decide (max d (wrap64 (-d)) ≤ tol))) ∧ ∃ q, w' = W.drewN q := by
  show Calls Try.prog 68 #[.int .i64 (k : Int), .pointer (some ⟨P, 0, none⟩), .pointer (some ⟨I, 0, none⟩), .pointer (some ⟨T, 0, none⟩)] W _; have j0 : (0 : Int) ≤ (i0 : Int) := by omega
  have j1 : (i0 : Int) < (l.length : Int) := by omega
  have k0 : (0 : Int) ≤ (k : Int) := by omega
  have k1 : (k : Int) < (l.length : Int) := by omega
  go_enter Try.func68, Try.ntmps68
  go_upto_region 1 with fail
  have hmx : Try.prog.follows .mixedOrders = true := by kernel_rfl
  refine start_ (n := 12) (S := fun w' => w'.cell? ⟨P, 2, none⟩ = some (.slice (some ad) l.length c) ∧ w'.cell? ⟨I, 0, none⟩ = some (.int .i64 (i0 : Int)) ∧ w'.cell? (ad.add i0) = some (.int .u32 x0) ∧ w'.cell? (ad.add k) = some (.int .u32 xk)) (ds := []) #[false, false, false, false, false, false, false, false, false, false, false, false] (by kernel_rfl) rfl rfl ⟨h2, hI, hx0, hxk⟩ (fun hHeld => ?_); refine pure_ (i := 0) (N := (some 7)) (v := ?_) (a' := ?_) #[true, false, false, false, false, false, false, false, false, false, false, false] rfl rfl (by kernel_rfl) (fun _ _ _ h => h) (Or.inl ⟨by rfl, ?_⟩) ?_ ?_; rotate_left
  · intro w'
    go_simp
    with_reducible rfl
  rotate_left
  · simp only [Act.put, List.setIfInBounds_toArray, List.set_cons_zero, List.set_cons_succ, i64_w, i32_w]
    rfl
  refine pure_ (i := 5) (N := (some 12)) (v := ?_) (a' := ?_) #[true, false, false, false, false, true, false, false, false, false, false, false] rfl rfl (by kernel_rfl) (fun _ _ _ h => h) (Or.inl ⟨by rfl, ?_⟩) ?_ ?_; rotate_left
  · intro w'
    go_simp
    with_reducible rfl
  rotate_left
  · simp only [Act.put, List.setIfInBounds_toArray, List.set_cons_zero, List.set_cons_succ, i64_w, i32_w]
    rfl
  refine pure_ (i := 7) (N := (some 14)) (v := ?_) (a' := ?_) #[true, false, false, false, false, true, false, true, false, false, false, false] rfl rfl (by kernel_rfl) (fun _ _ _ h => h) (Or.inl ⟨by rfl, ?_⟩) ?_ ?_; rotate_left
  · intro w'
    go_simp
    with_reducible rfl
  rotate_left
  · simp only [Act.put, List.setIfInBounds_toArray, List.set_cons_zero, List.set_cons_succ, i64_w, i32_w]
    rfl
  refine take_ (i := 1) (N := (some 8)) (v := ?_) (a' := ?_) #[true, true, false, false, false, true, false, true, false, false, false, false] rfl rfl (by kernel_rfl) (fun _ _ _ h => h) (Or.inl ⟨by rfl, ?_⟩) hHeld ?_ ?_; rotate_left
  · rintro w' ⟨s0, s1, s2, s3⟩
    go_simp
    with_reducible rfl
  rotate_left
  · simp only [Act.put, List.setIfInBounds_toArray, List.set_cons_zero, List.set_cons_succ, i64_w, i32_w]
    rfl
  refine take_ (i := 2) (N := (some 9)) (v := ?_) (a' := ?_) #[true, true, true, false, false, true, false, true, false, false, false, false] rfl rfl (by kernel_rfl) (fun _ _ _ h => h) (Or.inl ⟨by rfl, ?_⟩) hHeld ?_ ?_; rotate_left
  · rintro w' ⟨s0, s1, s2, s3⟩
    go_simp
    with_reducible rfl
  rotate_left
  · simp only [Act.put, List.setIfInBounds_toArray, List.set_cons_zero, List.set_cons_succ, i64_w, i32_w]
    rfl
  refine pure_ (i := 3) (N := (some 10)) (v := ?_) (a' := ?_) #[true, true, true, true, false, true, false, true, false, false, false, false] rfl rfl (by kernel_rfl) (fun _ _ _ h => h) (Or.inl ⟨by rfl, ?_⟩) ?_ ?_; rotate_left
  · intro w'
    go_simp
    with_reducible rfl
  rotate_left
  · simp only [Act.put, List.setIfInBounds_toArray, List.set_cons_zero, List.set_cons_succ, i64_w, i32_w]
    rfl
  refine take_ (i := 4) (N := (some 11)) (v := ?_) (a' := ?_) #[true, true, true, true, true, true, false, true, false, false, false, false] rfl rfl (by kernel_rfl) (fun _ _ _ h => h) (Or.inl ⟨by rfl, ?_⟩) hHeld ?_ ?_; rotate_left
  · rintro w' ⟨s0, s1, s2, s3⟩
    go_simp
    with_reducible rfl
  rotate_left
  · simp only [Act.put, List.setIfInBounds_toArray, List.set_cons_zero, List.set_cons_succ, i64_w, i32_w]
    rfl
  refine take_ (i := 6) (N := (some 13)) (v := ?_) (a' := ?_) #[true, true, true, true, true, true, true, true, false, false, false, false] rfl rfl (by kernel_rfl) (fun _ _ _ h => h) (Or.inl ⟨by rfl, ?_⟩) hHeld ?_ ?_; rotate_left
  · rintro w' ⟨s0, s1, s2, s3⟩
    go_simp
    with_reducible rfl
  rotate_left
  · simp only [Act.put, List.setIfInBounds_toArray, List.set_cons_zero, List.set_cons_succ, i64_w, i32_w]
    rfl
  refine pure_ (i := 8) (N := (some 15)) (v := ?_) (a' := ?_) #[true, true, true, true, true, true, true, true, true, false, false, false] rfl rfl (by kernel_rfl) (fun _ _ _ h => h) (Or.inl ⟨by rfl, ?_⟩) ?_ ?_; rotate_left
  · intro w'
    go_simp
    with_reducible rfl
  rotate_left
  · simp only [Act.put, List.setIfInBounds_toArray, List.set_cons_zero, List.set_cons_succ, i64_w, i32_w]
    rfl
  refine take_ (i := 9) (N := (some 16)) (v := ?_) (a' := ?_) #[true, true, true, true, true, true, true, true, true, true, false, false] rfl rfl (by kernel_rfl) (fun _ _ _ h => h) (Or.inl ⟨by rfl, ?_⟩) hHeld ?_ ?_; rotate_left
  · rintro w' ⟨s0, s1, s2, s3⟩
    go_simp
    with_reducible rfl
  rotate_left
  · simp only [Act.put, List.setIfInBounds_toArray, List.set_cons_zero, List.set_cons_succ, i64_w, i32_w]
    rfl
  refine one_ (i := 10) (N := (some 17)) #[true, true, true, true, true, true, true, true, true, true, true, false] rfl rfl (by kernel_rfl) (by decide) (fun K hK => ?_); refine call_ 69 #[.int .u32 x0, .int .u32 xk] (by rfl) rfl (by go_simp) ?_; refine (Dq.calls x0 xk d _ hd).mono ?_; rintro en w' ⟨rfl, ⟨nd, rfl⟩⟩; refine ⟨_, rfl, ?_⟩; refine hK.out _ _ hHeld (fun hHeld => ?_); clear hK K; refine norm_ (a' := ?_) ?_ ?_; rotate_left
  · simp only [Act.put, List.setIfInBounds_toArray, List.set_cons_zero, List.set_cons_succ]
    rfl
  refine pure_ (i := 11) (N := (some 6)) (v := ?_) (a' := ?_) #[true, true, true, true, true, true, true, true, true, true, true, true] rfl rfl (by kernel_rfl) (fun _ _ _ h => h) (Or.inl ⟨by rfl, ?_⟩) ?_ ?_; rotate_left
  · intro w'
    go_simp
    with_reducible rfl
  rotate_left
  · simp only [Act.put, List.setIfInBounds_toArray, List.set_cons_zero, List.set_cons_succ, i64_w, i32_w]
    rfl
  refine done_ (by kernel_rfl) ?_; have hT' : (W.drew.drewN nd).cell? ⟨T, 0, none⟩ = some (.int .i64 tol) := hT; clear hHeld; obtain ⟨w4, hw4⟩ : ∃ y, y = W.drew.drewN nd := ⟨_, rfl⟩; rw [← hw4] at hT' ⊢; have HW4 := Ac.mk hw4; clear hw4 hT h2 hI hx0 hxk
  go_wp2
  all_goals go_ret
  all_goals refine ⟨?_, 1 + nd, by rw [HW4.out, World.drewN_drew]⟩
  all_goals (first | (rw [show max d (wrap64 (-d)) = wrap64 (-d) by omega]; rfl) | (rw [show max d (wrap64 (-d)) = d by omega]; rfl))
end Go.Proofs.Ytbfimplajocmmaa
end
section
open Go Go.RowKit Go.Shelf Go.Proofs.YtbfimplajocmmaaW.PrintWords Go.Proofs.YtbfimplajocmmaaW.PrintLast Go.Proofs.YtbfimplajocmmaaW.PrintMore
attribute [local go_sem] Oper.semAt_some
set_option linter.unusedVariables false
set_option linter.unusedSimpArgs false
namespace Go.Proofs.Ytbfimplajocmmaa
open PFA FM
def mayF (l : List Int) (i0 : Nat) (tol : Int) (k : Nat) : Bool := match Dq.f (l.getD i0 0) (l.getD k 0) with
 | some d => decide (max d (wrap64 (-d)) ≤ tol)
 | none => false
theorem apart_some (x y : Int) : ∃ d, Dq.f x y = some d := by
 have hk : ∀ x : Int, ∃ d, De.f x = some d := fun x => by unfold De.f; split <;> exact ⟨_, rfl⟩
 obtain ⟨a, ha⟩ := hk x; obtain ⟨b, hb⟩ := hk y; exact ⟨_, by unfold Dq.f; rw [hb, ha]; rfl⟩
def C6.f (a0_0 a0_1 : Int) (l0_2 : List Int) (a1 a2 a3 a4 : Int) : Option (List Int × Int) :=
 (Ce.f a0_0 a0_1 l0_2).bind fun t => if t = 0 then
  (if a4 ≠ 4 ∧ a4 ≠ 8 then some ([], 302) else if a1 < 0 then some ([], 303) else if a2 < 0 then some ([], 303) else if a0_0 ≤ a1 then some ([], 303) else if a0_1 ≤ a2 then some ([], 303) else if a3 < 0 then some ([], 304) else
   if 1 ≤ a0_0 ∧ a0_0 ≤ 1024 ∧ 0 ≤ a0_1 ∧ a0_1 ≤ 1024 ∧ l0_2.length = a0_0.toNat * a0_1.toNat then
    (spread (nbs a0_0.toNat a0_1.toNat a4) (mayF l0_2 (a2.toNat * a0_0.toNat + a1.toNat) a3) (a0_0.toNat * a0_1.toNat + 1) 0 (steps0 (a0_0.toNat * a0_1.toNat) [a2.toNat * a0_0.toNat + a1.toNat]) [a2.toNat * a0_0.toNat + a1.toNat]).bind fun p => some (p.2.map (fun k : Nat => (k : Int)), 0)
   else none) else some ([], t)
set_option maxRecDepth 100000 in
set_option maxHeartbeats 8000000 in
theorem C6.calls (a0_0 : Int) (a0_1 : Int) (A0_2 : Option Addr) (c0_2 : Nat) (l0_2 : List Int) (a1 a2 a3 a4 : Int) (r1 : List Int) (r2 : Int) (w : World) (hr0_2 : Kd.C (Kd.int .u32) w A0_2 l0_2.length l0_2) (hc0_2 : l0_2.length ≤ c0_2) (h : C6.f a0_0 a0_1 l0_2 a1 a2 a3 a4 = some (r1, r2)) :
  Calls Try.prog 35 #[.agg #[.int .i64 a0_0, .int .i64 a0_1, .slice A0_2 l0_2.length c0_2], .int .i64 a1, .int .i64 a2, .int .i64 a3, .int .i64 a4] w fun e w' => ∃ v0_ : Value, e = .returned (.tuple #[v0_, .int .i64 r2]) ∧ Kd.R (Kd.int .i64) 3 w' w.heap.size (fun _ => True) v0_ r1 ∧ Below w.heap.size w w' := by
 obtain ⟨i0, hi, hz0, hz1, hz2⟩ := info_parts info3; have hu24 := Try.underlying24; have hu108 := Try.underlying103; unfold C6.f at h; obtain ⟨t, hg, H⟩ := Option.bind_eq_some_iff.mp h; have hgo := Ce.calls a0_0 a0_1 A0_2 c0_2 l0_2 t; have HGO := Ac.mk hgo; have HG := Ac.mk hg; have HR0 := Ac.mk hr0_2; have HC0 := Ac.mk hc0_2; clear hgo hg hr0_2 hc0_2 h
 by_cases h4 : t = 0
 ·subst h4
  rw [if_pos rfl] at H
  by_cases e4 : a4 ≠ 4 ∧ a4 ≠ 8
  ·rw [if_pos e4] at H
   simp only [Option.some.injEq, Prod.mk.injEq] at H
   obtain ⟨rfl, rfl⟩ := H; have d1 : (a4 != 4) = true := by simp [e4.1]
   have d2 : (a4 != 8) = true := by simp [e4.2]
   clear e4; go_enter Try.func35, Try.ntmps35
   go_wp2_with (go_at_call 44; refine (HGO.out _ (Kd.Bw (Kd.Bw HR0.out _) _) HC0.out HG.out).mono ?_; rintro e w' ⟨rfl, hb1⟩; have hp := An (Aj (Go.Proofs.Ytbfimplajocmmaa.H.bnew (w := w) (.cells #[.int .i64 a0_0, .int .i64 a0_1, .slice A0_2 l0_2.length c0_2] 24) rfl) (.cells #[.int .i64 a3] 3)) hb1; have ht := An (Go.Proofs.Ytbfimplajocmmaa.H.bnew (w := w.alloc (.cells #[.int .i64 a0_0, .int .i64 a0_1, .slice A0_2 l0_2.length c0_2] 24)) (.cells #[.int .i64 a3] 3) (by simp : _ = w.heap.size + 1)) hb1; have p0 : w'.cell? ⟨w.heap.size, 0, none⟩ = some (.int .i64 a0_0) := (Ad hp 0).trans rfl; have p1 : w'.cell? ⟨w.heap.size, 1, none⟩ = some (.int .i64 a0_1) := (Ad hp 1).trans rfl; have t0 : w'.cell? ⟨w.heap.size + 1, 0, none⟩ = some (.int .i64 a3) := (Ad ht 0).trans rfl; have HP := Ac.mk hp; have HT := Ac.mk ht; have HB1 := Ac.mk hb1; clear hb1 hp ht)
   go_ret2
   exact ⟨_, rfl, Kd.Ct _ _ _ _ _, (Ah (Ah (Below.refl _ w) _) _).trans (HB1.out.mono (by simp; omega))⟩
  ·rw [if_neg e4] at H
   have hways : (a4 != 4) = false ∨ ((a4 != 4) = true ∧ (a4 != 8) = false) := by
    by_cases q4 : a4 = 4
    ·exact .inl (by simp [q4])
    ·exact .inr ⟨by simp [q4], by simp; omega⟩
   rcases hways with d1 | ⟨d1, d2⟩
   all_goals
    by_cases x0 : a1 < 0
    ·rw [if_pos x0] at H
     simp only [Option.some.injEq, Prod.mk.injEq] at H
     obtain ⟨rfl, rfl⟩ := H; have b_x0 : decide (a1 < 0) = true := decide_eq_true x0; clear x0; go_enter Try.func35, Try.ntmps35
     go_wp2_with (go_at_call 44; refine (HGO.out _ (Kd.Bw (Kd.Bw HR0.out _) _) HC0.out HG.out).mono ?_; rintro e w' ⟨rfl, hb1⟩; have hp := An (Aj (Go.Proofs.Ytbfimplajocmmaa.H.bnew (w := w) (.cells #[.int .i64 a0_0, .int .i64 a0_1, .slice A0_2 l0_2.length c0_2] 24) rfl) (.cells #[.int .i64 a3] 3)) hb1; have ht := An (Go.Proofs.Ytbfimplajocmmaa.H.bnew (w := w.alloc (.cells #[.int .i64 a0_0, .int .i64 a0_1, .slice A0_2 l0_2.length c0_2] 24)) (.cells #[.int .i64 a3] 3) (by simp : _ = w.heap.size + 1)) hb1; have p0 : w'.cell? ⟨w.heap.size, 0, none⟩ = some (.int .i64 a0_0) := (Ad hp 0).trans rfl; have p1 : w'.cell? ⟨w.heap.size, 1, none⟩ = some (.int .i64 a0_1) := (Ad hp 1).trans rfl; have t0 : w'.cell? ⟨w.heap.size + 1, 0, none⟩ = some (.int .i64 a3) := (Ad ht 0).trans rfl; have HP := Ac.mk hp; have HT := Ac.mk ht; have HB1 := Ac.mk hb1; clear hb1 hp ht)
     go_ret2
     exact ⟨_, rfl, Kd.Ct _ _ _ _ _, (Ah (Ah (Below.refl _ w) _) _).trans (HB1.out.mono (by simp; omega))⟩
    rw [if_neg x0] at H; have b_x0 : decide (a1 < 0) = false := decide_eq_false x0
    by_cases y0 : a2 < 0
    ·rw [if_pos y0] at H
     simp only [Option.some.injEq, Prod.mk.injEq] at H
     obtain ⟨rfl, rfl⟩ := H; have b_y0 : decide (a2 < 0) = true := decide_eq_true y0; clear y0; go_enter Try.func35, Try.ntmps35
     go_wp2_with (go_at_call 44; refine (HGO.out _ (Kd.Bw (Kd.Bw HR0.out _) _) HC0.out HG.out).mono ?_; rintro e w' ⟨rfl, hb1⟩; have hp := An (Aj (Go.Proofs.Ytbfimplajocmmaa.H.bnew (w := w) (.cells #[.int .i64 a0_0, .int .i64 a0_1, .slice A0_2 l0_2.length c0_2] 24) rfl) (.cells #[.int .i64 a3] 3)) hb1; have ht := An (Go.Proofs.Ytbfimplajocmmaa.H.bnew (w := w.alloc (.cells #[.int .i64 a0_0, .int .i64 a0_1, .slice A0_2 l0_2.length c0_2] 24)) (.cells #[.int .i64 a3] 3) (by simp : _ = w.heap.size + 1)) hb1; have p0 : w'.cell? ⟨w.heap.size, 0, none⟩ = some (.int .i64 a0_0) := (Ad hp 0).trans rfl; have p1 : w'.cell? ⟨w.heap.size, 1, none⟩ = some (.int .i64 a0_1) := (Ad hp 1).trans rfl; have t0 : w'.cell? ⟨w.heap.size + 1, 0, none⟩ = some (.int .i64 a3) := (Ad ht 0).trans rfl; have HP := Ac.mk hp; have HT := Ac.mk ht; have HB1 := Ac.mk hb1; clear hb1 hp ht)
     go_ret2
     exact ⟨_, rfl, Kd.Ct _ _ _ _ _, (Ah (Ah (Below.refl _ w) _) _).trans (HB1.out.mono (by simp; omega))⟩
    rw [if_neg y0] at H; have b_y0 : decide (a2 < 0) = false := decide_eq_false y0
    by_cases x1 : a0_0 ≤ a1
    ·rw [if_pos x1] at H
     simp only [Option.some.injEq, Prod.mk.injEq] at H
     obtain ⟨rfl, rfl⟩ := H; have b_x1 : decide (a0_0 ≤ a1) = true := decide_eq_true x1; clear x1; go_enter Try.func35, Try.ntmps35
     go_wp2_with (go_at_call 44; refine (HGO.out _ (Kd.Bw (Kd.Bw HR0.out _) _) HC0.out HG.out).mono ?_; rintro e w' ⟨rfl, hb1⟩; have hp := An (Aj (Go.Proofs.Ytbfimplajocmmaa.H.bnew (w := w) (.cells #[.int .i64 a0_0, .int .i64 a0_1, .slice A0_2 l0_2.length c0_2] 24) rfl) (.cells #[.int .i64 a3] 3)) hb1; have ht := An (Go.Proofs.Ytbfimplajocmmaa.H.bnew (w := w.alloc (.cells #[.int .i64 a0_0, .int .i64 a0_1, .slice A0_2 l0_2.length c0_2] 24)) (.cells #[.int .i64 a3] 3) (by simp : _ = w.heap.size + 1)) hb1; have p0 : w'.cell? ⟨w.heap.size, 0, none⟩ = some (.int .i64 a0_0) := (Ad hp 0).trans rfl; have p1 : w'.cell? ⟨w.heap.size, 1, none⟩ = some (.int .i64 a0_1) := (Ad hp 1).trans rfl; have t0 : w'.cell? ⟨w.heap.size + 1, 0, none⟩ = some (.int .i64 a3) := (Ad ht 0).trans rfl; have HP := Ac.mk hp; have HT := Ac.mk ht; have HB1 := Ac.mk hb1; clear hb1 hp ht)
     go_ret2
     exact ⟨_, rfl, Kd.Ct _ _ _ _ _, (Ah (Ah (Below.refl _ w) _) _).trans (HB1.out.mono (by simp; omega))⟩
    rw [if_neg x1] at H; have b_x1 : decide (a0_0 ≤ a1) = false := decide_eq_false x1
    by_cases y1 : a0_1 ≤ a2
    ·rw [if_pos y1] at H
     simp only [Option.some.injEq, Prod.mk.injEq] at H
     obtain ⟨rfl, rfl⟩ := H; have b_y1 : decide (a0_1 ≤ a2) = true := decide_eq_true y1; clear y1; go_enter Try.func35, Try.ntmps35
     go_wp2_with (go_at_call 44; refine (HGO.out _ (Kd.Bw (Kd.Bw HR0.out _) _) HC0.out HG.out).mono ?_; rintro e w' ⟨rfl, hb1⟩; have hp := An (Aj (Go.Proofs.Ytbfimplajocmmaa.H.bnew (w := w) (.cells #[.int .i64 a0_0, .int .i64 a0_1, .slice A0_2 l0_2.length c0_2] 24) rfl) (.cells #[.int .i64 a3] 3)) hb1; have ht := An (Go.Proofs.Ytbfimplajocmmaa.H.bnew (w := w.alloc (.cells #[.int .i64 a0_0, .int .i64 a0_1, .slice A0_2 l0_2.length c0_2] 24)) (.cells #[.int .i64 a3] 3) (by simp : _ = w.heap.size + 1)) hb1; have p0 : w'.cell? ⟨w.heap.size, 0, none⟩ = some (.int .i64 a0_0) := (Ad hp 0).trans rfl; have p1 : w'.cell? ⟨w.heap.size, 1, none⟩ = some (.int .i64 a0_1) := (Ad hp 1).trans rfl; have t0 : w'.cell? ⟨w.heap.size + 1, 0, none⟩ = some (.int .i64 a3) := (Ad ht 0).trans rfl; have HP := Ac.mk hp; have HT := Ac.mk ht; have HB1 := Ac.mk hb1; clear hb1 hp ht)
     go_ret2
     exact ⟨_, rfl, Kd.Ct _ _ _ _ _, (Ah (Ah (Below.refl _ w) _) _).trans (HB1.out.mono (by simp; omega))⟩
    rw [if_neg y1] at H; have b_y1 : decide (a0_1 ≤ a2) = false := decide_eq_false y1
    by_cases tl : a3 < 0
    ·rw [if_pos tl] at H
     simp only [Option.some.injEq, Prod.mk.injEq] at H
     obtain ⟨rfl, rfl⟩ := H; have b_tl : decide (a3 < 0) = true := decide_eq_true tl; clear tl; go_enter Try.func35, Try.ntmps35
     go_wp2_with (go_at_call 44; refine (HGO.out _ (Kd.Bw (Kd.Bw HR0.out _) _) HC0.out HG.out).mono ?_; rintro e w' ⟨rfl, hb1⟩; have hp := An (Aj (Go.Proofs.Ytbfimplajocmmaa.H.bnew (w := w) (.cells #[.int .i64 a0_0, .int .i64 a0_1, .slice A0_2 l0_2.length c0_2] 24) rfl) (.cells #[.int .i64 a3] 3)) hb1; have ht := An (Go.Proofs.Ytbfimplajocmmaa.H.bnew (w := w.alloc (.cells #[.int .i64 a0_0, .int .i64 a0_1, .slice A0_2 l0_2.length c0_2] 24)) (.cells #[.int .i64 a3] 3) (by simp : _ = w.heap.size + 1)) hb1; have p0 : w'.cell? ⟨w.heap.size, 0, none⟩ = some (.int .i64 a0_0) := (Ad hp 0).trans rfl; have p1 : w'.cell? ⟨w.heap.size, 1, none⟩ = some (.int .i64 a0_1) := (Ad hp 1).trans rfl; have t0 : w'.cell? ⟨w.heap.size + 1, 0, none⟩ = some (.int .i64 a3) := (Ad ht 0).trans rfl; have HP := Ac.mk hp; have HT := Ac.mk ht; have HB1 := Ac.mk hb1; clear hb1 hp ht)
     go_ret2
     exact ⟨_, rfl, Kd.Ct _ _ _ _ _, (Ah (Ah (Below.refl _ w) _) _).trans (HB1.out.mono (by simp; omega))⟩
    rw [if_neg tl] at H; have b_tl : decide (a3 < 0) = false := decide_eq_false tl
    by_cases hcc : 1 ≤ a0_0 ∧ a0_0 ≤ 1024 ∧ 0 ≤ a0_1 ∧ a0_1 ≤ 1024 ∧ l0_2.length = a0_0.toNat * a0_1.toNat
    ·rw [if_pos hcc] at H
     obtain ⟨⟨st2, q2⟩, hsp, H2⟩ := Option.bind_eq_some_iff.mp H; obtain ⟨hw1, hw2, hh1, hh2, hlen⟩ := hcc; obtain ⟨tw, rfl⟩ := Int.eq_ofNat_of_zero_le (show 0 ≤ a0_0 by omega); obtain ⟨th, rfl⟩ := Int.eq_ofNat_of_zero_le hh1; obtain ⟨px, rfl⟩ := Int.eq_ofNat_of_zero_le (show 0 ≤ a1 by omega); obtain ⟨py, rfl⟩ := Int.eq_ofNat_of_zero_le (show 0 ≤ a2 by omega)
     simp only [Int.toNat_natCast] at hsp hlen
     simp only [Option.some.injEq, Prod.mk.injEq] at H2
     obtain ⟨rfl, rfl⟩ := H2; have hnum : tw * th ≤ 1024 * 1024 := Nat.mul_le_mul (by omega) (by omega); have n1 : decide (tw ≤ px) = false := decide_eq_false (by omega); have n2 : decide (th ≤ py) = false := decide_eq_false (by omega); have hmul : (py + 1) * tw ≤ th * tw := Nat.mul_le_mul_right _ (by omega); rw [Nat.add_mul, Nat.one_mul, Nat.mul_comm th tw] at hmul; obtain ⟨yw, hyw⟩ : ∃ y, y = py * tw := ⟨_, rfl⟩; obtain ⟨ip, hip⟩ : ∃ y, y = py * tw + px := ⟨_, rfl⟩; rw [← hip] at hsp; rw [← hyw] at hmul hip; have hipl : ip < tw * th := by omega
     have hw5 : IntKind.i64.wrap ((py : Int) * (tw : Int)) = (yw : Int) := by rw [hyw, ← Int.natCast_mul, IntKind.wrap_i64]; rw [← hyw]; omega
     have hw6 : IntKind.i64.wrap ((yw : Int) + (px : Int)) = (ip : Int) := by rw [hip, ← Int.natCast_add, IntKind.wrap_i64]; omega
     have hmayE : ∀ k, k < tw * th → ∃ d, Dq.f (l0_2.getD ip 0) (l0_2.getD k 0) = some d ∧ mayF l0_2 ip a3 k = decide (max d (wrap64 (-d)) ≤ a3) := fun k _ => by
      obtain ⟨d, hd⟩ := apart_some (l0_2.getD ip 0) (l0_2.getD k 0); exact ⟨d, hd, by unfold mayF; rw [hd]⟩
     have HSP := Ac.mk hsp; have HL := Ac.mk hlen; have HN := Ac.mk hnum; have HIP := Ac.mk hipl; have HME := Ac.mk hmayE; have HW1 := Ac.mk hw1; have HW2 := Ac.mk hw2; have HH2 := Ac.mk hh2; clear hsp hlen hnum H hmul hyw hip hipl x0 y0 x1 y1 tl hmayE hw1 hw2 hh2 hh1; go_enter Try.func35, Try.ntmps35
     go_upto_region 11 with (go_at_call 44; refine (HGO.out _ (Kd.Bw (Kd.Bw HR0.out _) _) HC0.out HG.out).mono ?_; rintro e w' ⟨rfl, hb1⟩; have hp := An (Aj (Go.Proofs.Ytbfimplajocmmaa.H.bnew (w := w) (.cells #[.int .i64 (tw : Int), .int .i64 (th : Int), .slice A0_2 l0_2.length c0_2] 24) rfl) (.cells #[.int .i64 a3] 3)) hb1; have ht := An (Go.Proofs.Ytbfimplajocmmaa.H.bnew (w := w.alloc (.cells #[.int .i64 (tw : Int), .int .i64 (th : Int), .slice A0_2 l0_2.length c0_2] 24)) (.cells #[.int .i64 a3] 3) (by simp : _ = w.heap.size + 1)) hb1; have p0 : w'.cell? ⟨w.heap.size, 0, none⟩ = some (.int .i64 (tw : Int)) := (Ad hp 0).trans rfl; have p1 : w'.cell? ⟨w.heap.size, 1, none⟩ = some (.int .i64 (th : Int)) := (Ad hp 1).trans rfl; have t0 : w'.cell? ⟨w.heap.size + 1, 0, none⟩ = some (.int .i64 a3) := (Ad ht 0).trans rfl; have HP := Ac.mk hp; have HT := Ac.mk ht; have HB1 := Ac.mk hb1; clear hb1 hp ht)
     obtain ⟨w2, hw2e⟩ : ∃ y, y = w'.alloc (.cells #[.int .i64 (ip : Int)] 3) := ⟨_, rfl⟩; obtain ⟨I, hI⟩ : ∃ y, y = w'.heap.size := ⟨_, rfl⟩; rw [← hw2e, ← hI]; have hP2 : w2.heap[w.heap.size]? = some (.cells #[.int .i64 (tw : Int), .int .i64 (th : Int), .slice A0_2 l0_2.length c0_2] 24 (0, 0)) := by rw [hw2e]; exact Aj HP.out _
     have hT2 : w2.heap[w.heap.size + 1]? = some (.cells #[.int .i64 a3] 3 (0, 0)) := by rw [hw2e]; exact Aj HT.out _
     have hI2 : w2.heap[I]? = some (.cells #[.int .i64 (ip : Int)] 3 (0, 0)) := by rw [hw2e]; exact Go.Proofs.Ytbfimplajocmmaa.H.bnew (.cells #[.int .i64 (ip : Int)] 3) hI.symm
     have hb2 : Below w.heap.size w w2 := by rw [hw2e]; exact Ah ((Ah (Ah (Below.refl _ w) _) _).trans (HB1.out.mono (by simp; omega))) _
     clear p0 p1 t0 HP HT HB1 hw2e hI; have p0 : w2.cell? ⟨w.heap.size, 0, none⟩ = some (.int .i64 (tw : Int)) := (Ad hP2 0).trans rfl; have p1 : w2.cell? ⟨w.heap.size, 1, none⟩ = some (.int .i64 (th : Int)) := (Ad hP2 1).trans rfl; have i1 : w2.cell? ⟨I, 0, none⟩ = some (.int .i64 (ip : Int)) := (Ad hI2 0).trans rfl; have hown := own_of_ints (W := w2.alloc (.cells #[.int .i64 (ip : Int)] 3)) (base := w.heap.size) (g := w2.heap.size) (l := [(ip : Int)]) (Go.Proofs.Ytbfimplajocmmaa.H.bnew _ rfl) hb2.size (by simp); have hA := (own_reads (q := [ip]) hown); obtain ⟨A9, c9, e9, hc9, hA9⟩ := hA
     obtain ⟨rfl, rfl⟩ : (some ⟨w2.heap.size, 0, none⟩ : Option Addr) = A9 ∧ 1 = c9 := by
      injection e9 with q1 _ q3
      exact ⟨q1, q3⟩
     have hmay : ∀ (i : Nat) (W1 : World), i < tw * th → Below (w2.alloc (.cells #[.int .i64 (ip : Int)] 3)).heap.size (w2.alloc (.cells #[.int .i64 (ip : Int)] 3)) W1 → Calls Try.prog 68 (#[.int .i64 (i : Int)] ++ #[.pointer (some ⟨w.heap.size, 0, none⟩), .pointer (some ⟨I, 0, none⟩), .pointer (some ⟨w.heap.size + 1, 0, none⟩)]) W1 fun e w' => e = .returned (.bool (mayF l0_2 ip a3 i)) ∧ ∃ q, w' = W1.drewN q := by
      intro i W1 hi9 hbw; obtain ⟨d, hd, he⟩ := HME.out i hi9; have hbw2 : Below w2.heap.size w2 W1 := (Ah (Below.refl _ w2) _).trans (hbw.mono (by simp)); have hC9 := Kd.B2 (Kd.B2 HR0.out hb2) hbw2; have hipl : ip < l0_2.length := by rw [HL.out]; exact HIP.out
      have hil : i < l0_2.length := by rw [HL.out]; exact hi9
      obtain ⟨ad, hAd, hc1⟩ := (Kd.Cx (enc := Value.int .u32) (d := (0 : Int)) (h1 := fun _ => rfl) hC9).at_ (ip : Int) (by omega) (by omega); subst hAd; obtain ⟨ad2, hAd2, hc2⟩ := (Kd.Cx (enc := Value.int .u32) (d := (0 : Int)) (h1 := fun _ => rfl) hC9).at_ (i : Int) (by omega) (by omega); obtain rfl := Option.some.inj hAd2; rw [he]; exact flood1 w.heap.size I (w.heap.size + 1) ad c0_2 l0_2 ip i a3 _ _ d W1 ((Ad (An hP2 hbw2) 2).trans rfl) ((Ad (An hI2 hbw2) 0).trans rfl) ((Ad (An hT2 hbw2) 0).trans rfl) hipl hil hc1 hc2 hd
     have HMAY := Ac.mk hmay; have HA9 := Ac.mk hA9; have HB2 := Ac.mk hb2; clear hmay hA9 hb2 hP2 hT2 hI2 hown e9 hc9
     go_wp2_with (go_at_call 65; refine (spreads68 tw th a4 (by have := HW1.out; omega) (by have := HW2.out; omega) (by have := HH2.out; omega) #[.pointer (some ⟨w.heap.size, 0, none⟩), .pointer (some ⟨I, 0, none⟩), .pointer (some ⟨w.heap.size + 1, 0, none⟩)] (mayF l0_2 ip a3) [ip] (some ⟨w2.heap.size, 0, none⟩) 1 (w2.alloc (.cells #[.int .i64 (ip : Int)] 3)) st2 q2 HMAY.out (by simp) (by intro k hk; rw [List.mem_singleton.mp hk]; exact HIP.out) HA9.out (by simp) HSP.out).mono ?_; rintro e w4 ⟨v1, v2, rfl, ho1, ho2, hne, hb⟩; have HO := Ac.mk ho1; have HB := Ac.mk hb; clear ho1 ho2 hne hb)
     go_ret2
     have hsz : w.heap.size ≤ (w2.alloc (.cells #[.int .i64 (ip : Int)] 3)).heap.size := by have := HB2.out.size; simp; omega
     exact ⟨_, rfl, own_R HO.out hsz, (Ah HB2.out _).trans (HB.out.mono hsz)⟩
    ·rw [if_neg hcc] at H
     cases H
 ·rw [if_neg h4] at H
  simp only [Option.some.injEq, Prod.mk.injEq] at H
  obtain ⟨rfl, rfl⟩ := H; have d1 : (t == 0) = false := by simp [h4]
  have d2 : (t != 0) = true := by simp [h4]
  go_enter Try.func35, Try.ntmps35
  go_wp2_with (go_at_call 44; refine (HGO.out _ (Kd.Bw (Kd.Bw HR0.out _) _) HC0.out HG.out).mono ?_; rintro e w' ⟨rfl, hb1⟩; have hp := An (Aj (Go.Proofs.Ytbfimplajocmmaa.H.bnew (w := w) (.cells #[.int .i64 a0_0, .int .i64 a0_1, .slice A0_2 l0_2.length c0_2] 24) rfl) (.cells #[.int .i64 a3] 3)) hb1; have ht := An (Go.Proofs.Ytbfimplajocmmaa.H.bnew (w := w.alloc (.cells #[.int .i64 a0_0, .int .i64 a0_1, .slice A0_2 l0_2.length c0_2] 24)) (.cells #[.int .i64 a3] 3) (by simp : _ = w.heap.size + 1)) hb1; have p0 : w'.cell? ⟨w.heap.size, 0, none⟩ = some (.int .i64 a0_0) := (Ad hp 0).trans rfl; have p1 : w'.cell? ⟨w.heap.size, 1, none⟩ = some (.int .i64 a0_1) := (Ad hp 1).trans rfl; have t0 : w'.cell? ⟨w.heap.size + 1, 0, none⟩ = some (.int .i64 a3) := (Ad ht 0).trans rfl; have HP := Ac.mk hp; have HT := Ac.mk ht; have HB1 := Ac.mk hb1; clear hb1 hp ht)
  go_ret2
  exact ⟨_, rfl, Kd.Ct _ _ _ _ _, (Ah (Ah (Below.refl _ w) _) _).trans (HB1.out.mono (by simp; omega))⟩
end Go.Proofs.Ytbfimplajocmmaa
end
