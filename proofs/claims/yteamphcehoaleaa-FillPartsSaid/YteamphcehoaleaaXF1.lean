import Derived.Test.YteamphcehoaleaaXSPB
open Go Go.RowKit Go.Shelf Go.Proofs.YteamphcehoaleaaW.PrintWords Go.Proofs.YteamphcehoaleaaW.PrintLast Go.Proofs.YteamphcehoaleaaW.PrintMore
attribute [local go_sem] Oper.semAt_some max2_int min2_int
set_option linter.unusedVariables false
set_option linter.unusedSimpArgs false
namespace Go.Proofs.Yteamphcehoaleaa
open PFA FM
set_option maxRecDepth 100000 in
set_option maxHeartbeats 4000000 in
theorem flood1 (P I T : Nat) (ad : Addr) (c : Nat) (l : List Int) (i0 k : Nat) (tol x0 xk d : Int) (W : World) (h2 : W.cell? ⟨P, 2, none⟩ = some (.slice (some ad) l.length c)) (hI : W.cell? ⟨I, 0, none⟩ = some (.int .i64 (i0 : Int))) (hT : W.cell? ⟨T, 0, none⟩ = some (.int .i64 tol))
    (hi : i0 < l.length) (hk : k < l.length) (hx0 : W.cell? (ad.add i0) = some (.int .u32 x0)) (hxk : W.cell? (ad.add k) = some (.int .u32 xk)) (hd : De.f x0 xk = some d) :
    Calls Try.prog 67 (#[.int .i64 (k : Int)] ++ #[.pointer (some ⟨P, 0, none⟩), .pointer (some ⟨I, 0, none⟩), .pointer (some ⟨T, 0, none⟩)]) W fun e w' => e = .returned (.bool (decide (max d (wrap64 (-d)) ≤ tol))) ∧ ∃ q, w' = W.drewN q := by
  show Calls Try.prog 67 #[.int .i64 (k : Int), .pointer (some ⟨P, 0, none⟩), .pointer (some ⟨I, 0, none⟩), .pointer (some ⟨T, 0, none⟩)] W _
  have j0 : (0 : Int) ≤ (i0 : Int) := by omega
  have j1 : (i0 : Int) < (l.length : Int) := by omega
  have k0 : (0 : Int) ≤ (k : Int) := by omega
  have k1 : (k : Int) < (l.length : Int) := by omega
  go_enter Try.func67, Try.ntmps67
  go_upto_region 1 with fail
  have hmx : Try.prog.follows .mixedOrders = true := by kernel_rfl
  refine start_ (n := 12) (S := fun w' => w'.cell? ⟨P, 2, none⟩ = some (.slice (some ad) l.length c) ∧ w'.cell? ⟨I, 0, none⟩ = some (.int .i64 (i0 : Int)) ∧ w'.cell? (ad.add i0) = some (.int .u32 x0) ∧ w'.cell? (ad.add k) = some (.int .u32 xk)) (ds := []) #[false, false, false, false, false, false, false, false, false, false, false, false] (by kernel_rfl) rfl rfl ⟨h2, hI, hx0, hxk⟩ (fun hHeld => ?_)
  refine pure_ (i := 0) (N := (some 7)) (v := ?_) (a' := ?_) #[true, false, false, false, false, false, false, false, false, false, false, false] rfl rfl (by kernel_rfl) (fun _ _ _ h => h) (Or.inl ⟨by rfl, ?_⟩) ?_ ?_
  rotate_left
  · intro w'
    go_simp
    with_reducible rfl
  rotate_left
  · simp only [Act.put, List.setIfInBounds_toArray, List.set_cons_zero, List.set_cons_succ, i64_w, i32_w]
    rfl
  refine pure_ (i := 5) (N := (some 12)) (v := ?_) (a' := ?_) #[true, false, false, false, false, true, false, false, false, false, false, false] rfl rfl (by kernel_rfl) (fun _ _ _ h => h) (Or.inl ⟨by rfl, ?_⟩) ?_ ?_
  rotate_left
  · intro w'
    go_simp
    with_reducible rfl
  rotate_left
  · simp only [Act.put, List.setIfInBounds_toArray, List.set_cons_zero, List.set_cons_succ, i64_w, i32_w]
    rfl
  refine pure_ (i := 7) (N := (some 14)) (v := ?_) (a' := ?_) #[true, false, false, false, false, true, false, true, false, false, false, false] rfl rfl (by kernel_rfl) (fun _ _ _ h => h) (Or.inl ⟨by rfl, ?_⟩) ?_ ?_
  rotate_left
  · intro w'
    go_simp
    with_reducible rfl
  rotate_left
  · simp only [Act.put, List.setIfInBounds_toArray, List.set_cons_zero, List.set_cons_succ, i64_w, i32_w]
    rfl
  refine take_ (i := 1) (N := (some 8)) (v := ?_) (a' := ?_) #[true, true, false, false, false, true, false, true, false, false, false, false] rfl rfl (by kernel_rfl) (fun _ _ _ h => h) (Or.inl ⟨by rfl, ?_⟩) hHeld ?_ ?_
  rotate_left
  · rintro w' ⟨s0, s1, s2, s3⟩
    go_simp
    with_reducible rfl
  rotate_left
  · simp only [Act.put, List.setIfInBounds_toArray, List.set_cons_zero, List.set_cons_succ, i64_w, i32_w]
    rfl
  refine take_ (i := 2) (N := (some 9)) (v := ?_) (a' := ?_) #[true, true, true, false, false, true, false, true, false, false, false, false] rfl rfl (by kernel_rfl) (fun _ _ _ h => h) (Or.inl ⟨by rfl, ?_⟩) hHeld ?_ ?_
  rotate_left
  · rintro w' ⟨s0, s1, s2, s3⟩
    go_simp
    with_reducible rfl
  rotate_left
  · simp only [Act.put, List.setIfInBounds_toArray, List.set_cons_zero, List.set_cons_succ, i64_w, i32_w]
    rfl
  refine pure_ (i := 3) (N := (some 10)) (v := ?_) (a' := ?_) #[true, true, true, true, false, true, false, true, false, false, false, false] rfl rfl (by kernel_rfl) (fun _ _ _ h => h) (Or.inl ⟨by rfl, ?_⟩) ?_ ?_
  rotate_left
  · intro w'
    go_simp
    with_reducible rfl
  rotate_left
  · simp only [Act.put, List.setIfInBounds_toArray, List.set_cons_zero, List.set_cons_succ, i64_w, i32_w]
    rfl
  refine take_ (i := 4) (N := (some 11)) (v := ?_) (a' := ?_) #[true, true, true, true, true, true, false, true, false, false, false, false] rfl rfl (by kernel_rfl) (fun _ _ _ h => h) (Or.inl ⟨by rfl, ?_⟩) hHeld ?_ ?_
  rotate_left
  · rintro w' ⟨s0, s1, s2, s3⟩
    go_simp
    with_reducible rfl
  rotate_left
  · simp only [Act.put, List.setIfInBounds_toArray, List.set_cons_zero, List.set_cons_succ, i64_w, i32_w]
    rfl
  refine take_ (i := 6) (N := (some 13)) (v := ?_) (a' := ?_) #[true, true, true, true, true, true, true, true, false, false, false, false] rfl rfl (by kernel_rfl) (fun _ _ _ h => h) (Or.inl ⟨by rfl, ?_⟩) hHeld ?_ ?_
  rotate_left
  · rintro w' ⟨s0, s1, s2, s3⟩
    go_simp
    with_reducible rfl
  rotate_left
  · simp only [Act.put, List.setIfInBounds_toArray, List.set_cons_zero, List.set_cons_succ, i64_w, i32_w]
    rfl
  refine pure_ (i := 8) (N := (some 15)) (v := ?_) (a' := ?_) #[true, true, true, true, true, true, true, true, true, false, false, false] rfl rfl (by kernel_rfl) (fun _ _ _ h => h) (Or.inl ⟨by rfl, ?_⟩) ?_ ?_
  rotate_left
  · intro w'
    go_simp
    with_reducible rfl
  rotate_left
  · simp only [Act.put, List.setIfInBounds_toArray, List.set_cons_zero, List.set_cons_succ, i64_w, i32_w]
    rfl
  refine take_ (i := 9) (N := (some 16)) (v := ?_) (a' := ?_) #[true, true, true, true, true, true, true, true, true, true, false, false] rfl rfl (by kernel_rfl) (fun _ _ _ h => h) (Or.inl ⟨by rfl, ?_⟩) hHeld ?_ ?_
  rotate_left
  · rintro w' ⟨s0, s1, s2, s3⟩
    go_simp
    with_reducible rfl
  rotate_left
  · simp only [Act.put, List.setIfInBounds_toArray, List.set_cons_zero, List.set_cons_succ, i64_w, i32_w]
    rfl
  refine one_ (i := 10) (N := (some 17)) #[true, true, true, true, true, true, true, true, true, true, true, false] rfl rfl (by kernel_rfl) (by decide) (fun K hK => ?_)
  refine call_ 68 #[.int .u32 x0, .int .u32 xk] (by rfl) rfl (by go_simp) ?_
  refine (De.calls x0 xk d _ hd).mono ?_
  rintro en w' ⟨rfl, ⟨nd, rfl⟩⟩
  refine ⟨_, rfl, ?_⟩
  refine hK.out _ _ hHeld (fun hHeld => ?_)
  clear hK K
  refine norm_ (a' := ?_) ?_ ?_
  rotate_left
  · simp only [Act.put, List.setIfInBounds_toArray, List.set_cons_zero, List.set_cons_succ]
    rfl
  refine pure_ (i := 11) (N := (some 6)) (v := ?_) (a' := ?_) #[true, true, true, true, true, true, true, true, true, true, true, true] rfl rfl (by kernel_rfl) (fun _ _ _ h => h) (Or.inl ⟨by rfl, ?_⟩) ?_ ?_
  rotate_left
  · intro w'
    go_simp
    with_reducible rfl
  rotate_left
  · simp only [Act.put, List.setIfInBounds_toArray, List.set_cons_zero, List.set_cons_succ, i64_w, i32_w]
    rfl
  refine done_ (by kernel_rfl) ?_
  have hT' : (W.drew.drewN nd).cell? ⟨T, 0, none⟩ = some (.int .i64 tol) := hT
  clear hHeld
  obtain ⟨w4, hw4⟩ : ∃ y, y = W.drew.drewN nd := ⟨_, rfl⟩
  rw [← hw4] at hT' ⊢
  have HW4 := Aa.mk hw4
  clear hw4 hT h2 hI hx0 hxk
  go_wp2
  all_goals go_ret
  all_goals refine ⟨?_, 1 + nd, by rw [HW4.out, World.drewN_drew]⟩
  all_goals (first | (rw [show max d (wrap64 (-d)) = wrap64 (-d) by omega]; rfl) | (rw [show max d (wrap64 (-d)) = d by omega]; rfl))
end Go.Proofs.Yteamphcehoaleaa

