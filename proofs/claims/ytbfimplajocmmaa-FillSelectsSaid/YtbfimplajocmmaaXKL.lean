import Derived.Test.YtbfimplajocmmaaXKR
open Go Go.RowKit Go.Proofs.YtbfimplajocmmaaW.PrintWords Go.Proofs.YtbfimplajocmmaaW.PrintLast Go.Proofs.YtbfimplajocmmaaW.PrintMore
attribute [local go_sem ↓] Go.wp_at_zero Go.wp_at_succ
set_option linter.unusedVariables false
set_option linter.unusedSimpArgs false
namespace Go.Proofs.Ytbfimplajocmmaa.BK
theorem info4 : (Try.prog.info? 4).map (fun i => (i.zero, i.size, i.bytes)) = some (some (.bool false), 1, 1) := by kernel_rfl
def roomOf (l : List Bool) : List Bool := l ++ [true, false, true]
theorem C_three (w : World) : Kd.bool.C (w.alloc (.cells #[.bool true, .bool false, .bool true] 4)) (some ⟨w.heap.size, 0, none⟩) 3 [true, false, true] := by
  refine Kd.C_of_reads (d := false) ⟨rfl, by omega, fun _ => ⟨_, rfl, fun j hj => ?_⟩⟩; rw [add_plain, Af (Cr w _) j]
  match j, hj with
  | 0, _ => rfl
  | 1, _ => rfl
  | 2, _ => rfl
set_option maxRecDepth 100000 in
set_option maxHeartbeats 4000000 in
theorem lend_calls (w : World) (a0 a1 : Int) (A : Option Addr) (c : Nat) (l : List Bool) (hC : Kd.bool.C w A l.length l) (hc : l.length ≤ c) (hl : l.length ≤ 140737488351232) :
    Calls Try.prog 8 #[.agg #[.int .i64 a0, .int .i64 a1, .slice A l.length c]] w fun e w' => ∃ g c1 Aw cw, e = .returned (.agg #[.int .i64 a0, .int .i64 a1, .slice (some ⟨g, 0, none⟩) l.length c1, .int .i64 a0, .int .i64 a1, .slice Aw l.length cw, .slice (some ⟨g, 0, none⟩) (l.length + 3) c1]) ∧
      Kd.bool.R 4 w' w.heap.size (fun _ => True) (.slice (some ⟨g, 0, none⟩) (l.length + 3) c1) (roomOf l) ∧ Kd.bool.R 4 w' w.heap.size (fun _ => True) (.slice Aw l.length cw) l ∧ Below w.heap.size w w' := by
  have HC := Ae.mk hC; have hB := Below.refl w.heap.size w; go_enter Try.func8, Try.ntmps8
  go_upto_region 1 with fail
  obtain ⟨w1, hw1⟩ : ∃ y, y = (w.alloc (.cells #[.int .i64 a0, .int .i64 a1, .slice A l.length c] 27)).alloc (.cells #[.int .i64 0, .int .i64 0, .slice none 0 0, .int .i64 0, .int .i64 0, .slice none 0 0, .slice none 0 0] 44) := ⟨_, rfl⟩; rw [← hw1]; have hb1 : w1.heap[w.heap.size]? = some (.cells #[.int .i64 a0, .int .i64 a1, .slice A l.length c] 27 (0, 0)) := by rw [hw1]; exact An (Cr _ _) _
  have hq1 : w1.heap[w.heap.size + 1]? = some (.cells #[.int .i64 0, .int .i64 0, .slice none 0 0, .int .i64 0, .int .i64 0, .slice none 0 0, .slice none 0 0] 44 (0, 0)) := by rw [hw1]; exact Go.Proofs.Ytbfimplajocmmaa.H.bnew _ (by simp)
  have hB1 : Below w.heap.size w w1 := by rw [hw1]; exact Ah (Ah hB _) _
  have hz1 : w1.heap.size = w.heap.size + 2 := by rw [hw1]; simp
  have cb2 : w1.cell? ⟨w.heap.size, 2, none⟩ = some (.slice A l.length c) := (Af hb1 2).trans rfl; have HB1 := Ae.mk hb1; have HQ1 := Ae.mk hq1; have HBe := Ae.mk hB1; have HC1 := Ae.mk (Kd.Bw HC.out hB1); have HBw := Ae.mk hB; clear hC hB hB1 hb1 hq1 hw1
  go_upto_region 2 with (first
    | (at_builtin; refine Kd.R_append_row Value.bool false (w0 := w) w.heap.size rfl (.const (.slice none 0 0)) (.tmp 5) 25 4 (.bool false) 1 rfl Try.underlying25 info4 rfl (by omega) (.slice none 0 0) [] l A l.length c (fun k => w1.heap.size ≤ k) rfl rfl (fun k hk => hk) (Kd.C5 _ _ _ _ _) HC1.out HBe.out (by omega) (by simp; omega) ?_; intro v2 w2 hR2 hB2 hg2 hat2; obtain ⟨A2, c2, e2⟩ := Kd.B6 hR2; subst e2; have HR2 := Ae.mk hR2; have HBe2 := Ae.mk hB2; have HG2 := Ae.mk hg2; have hz2 := hg2.size; clear hR2 hB2 hg2 hat2)
    | (at_builtin; refine Kd.R_append_row Value.bool false (w0 := w) w.heap.size rfl (.tmp 6) (.tmp 7) 25 4 (.bool false) 1 rfl Try.underlying25 info4 rfl (by omega) (.slice A2 ([] ++ l).length c2) ([] ++ l) [true, false, true] (some ⟨w2.heap.size, 0, none⟩) 3 3 (fun k => w1.heap.size ≤ k) rfl rfl (fun k hk => by simp at hk; omega) (Kd.R_alloc HR2.out _) (C_three _) (Ah HBe2.out _) (by simp; omega) (by simp; omega) ?_; intro v3 w3 hR3 hB3 hg3 hat3; obtain ⟨A3, c3, e3⟩ := Kd.B6 hR3; subst e3; have HR3 := Ae.mk hR3; have HBe3 := Ae.mk hB3; have HG3 := Ae.mk hg3; have hz3 := hg3.size; clear hR3 hB3 hg3 hat3))
  have e2 : (([] : List Bool) ++ l).length = l.length := rfl; have e3 : (([] ++ l) ++ [true, false, true]).length = l.length + 3 := by simp
  obtain ⟨g, c3', ev3, hg1, hg2, _⟩ := Kd.Dx HR3.out (by rw [e3]; omega); injection ev3 with ev3 _ ev4
  subst ev3 ev4; rw [e3] at HR3; have hb3 := Bz (An (Bz HB1.out HG2.out (by simp [Value.ownBlock])) (.cells #[.bool true, .bool false, .bool true] 4)) HG3.out (Kd.Do (Kd.R_alloc HR2.out _) (An (Bz HB1.out HG2.out (by simp [Value.ownBlock])) (.cells #[.bool true, .bool false, .bool true] 4)) (by decide)); have hq3 := Bz (An (Bz HQ1.out HG2.out (by simp [Value.ownBlock])) (.cells #[.bool true, .bool false, .bool true] 4)) HG3.out (Kd.Do (Kd.R_alloc HR2.out _) (An (Bz HQ1.out HG2.out (by simp [Value.ownBlock])) (.cells #[.bool true, .bool false, .bool true] 4)) (by decide)); have hz3' : w1.heap.size ≤ w3.heap.size := by simp at hz3; omega
  have i0 : ∃ i0, Try.prog.info? 4 = some i0 := by obtain ⟨i0, hi, _⟩ := info_parts info4; exact ⟨i0, hi⟩
  obtain ⟨i0, hi⟩ := i0; have hcut := cut_to (P := Try.prog) 25 4 .i64 Try.underlying25 hi (some ⟨g, 0, none⟩) (l.length + 3) c3 (l.length : Int) (by omega) (by omega) (by have := (Kd.Bf HR3.out).2.1; omega); rw [Int.toNat_natCast] at hcut; have HB3 := Ae.mk hb3; have HQ3 := Ae.mk hq3; clear hb3 hq3 cb2 hz2 hz3 HG2 HG3 HR2 HBe HBe2 HB1 HQ1 HC1; refine start_ (n := 21) (S := fun w' => w'.cell? ⟨w.heap.size, 0, none⟩ = some (.int .i64 a0) ∧ w'.cell? ⟨w.heap.size, 1, none⟩ = some (.int .i64 a1) ∧ w'.cell? ⟨w.heap.size, 2, none⟩ = some (.slice A l.length c)) (ds := []) #[false, false, false, false, false, false, false, false, false, false, false, false, false, false, false, false, false, false, false, false, false] (by kernel_rfl) rfl rfl ⟨(Af HB3.out 0).trans rfl, (Af HB3.out 1).trans rfl, (Af HB3.out 2).trans rfl⟩ (fun hHeld => ?_); have hb4 : w3.drew.heap[w.heap.size]? = _ := HB3.out; have hq4 : w3.drew.heap[w.heap.size + 1]? = _ := HQ3.out; have hr4 : Kd.bool.R 4 w3.drew w.heap.size (fun k => w1.heap.size ≤ k) (.slice (some ⟨g, 0, none⟩) (l.length + 3) c3) (([] ++ l) ++ [true, false, true]) := HR3.out; have hB4 : Below w.heap.size w w3.drew := Ak HBe3.out; have hz4 : w1.heap.size ≤ w3.drew.heap.size := hz3'; have HB4 := Ae.mk hb4; have HQ4 := Ae.mk hq4; have HR4 := Ae.mk hr4; have HW4 := Ae.mk hB4; clear hb4 hq4 hr4 hB4 HB3 HQ3 HR3 HBe3; generalize w3.drew = w4 at HB4 HQ4 HR4 HW4 hz4 hHeld ⊢; have hcw : ReadsRow (fun x cs => cs = [Value.bool x]) 1 w4 A l.length l := Kd.Bw HC.out HW4.out; refine pure_ (i := 0) (N := (some 9)) (v := ?_) (a' := ?_) #[true, false, false, false, false, false, false, false, false, false, false, false, false, false, false, false, false, false, false, false, false] rfl rfl (by kernel_rfl) (fun _ _ _ h => h) (Or.inl ⟨by rfl, ?_⟩) ?_ ?_; rotate_left
  · intro w'
    go_simp
    with_reducible rfl
  rotate_left
  · simp only [Act.put, List.setIfInBounds_toArray, List.set_cons_zero, List.set_cons_succ, i64_w, i32_w]
    rfl
  refine pure_ (i := 2) (N := (some 11)) (v := ?_) (a' := ?_) #[true, false, true, false, false, false, false, false, false, false, false, false, false, false, false, false, false, false, false, false, false] rfl rfl (by kernel_rfl) (fun _ _ _ h => h) (Or.inl ⟨by rfl, ?_⟩) ?_ ?_; rotate_left
  · intro w'
    go_simp
    with_reducible rfl
  rotate_left
  · simp only [Act.put, List.setIfInBounds_toArray, List.set_cons_zero, List.set_cons_succ, i64_w, i32_w]
    rfl
  refine pure_ (i := 4) (N := (some 13)) (v := ?_) (a' := ?_) #[true, false, true, false, true, false, false, false, false, false, false, false, false, false, false, false, false, false, false, false, false] rfl rfl (by kernel_rfl) (fun _ _ _ h => h) (Or.inl ⟨by rfl, ?_⟩) ?_ ?_; rotate_left
  · intro w'
    go_simp
    with_reducible rfl
  rotate_left
  · simp only [Act.put, List.setIfInBounds_toArray, List.set_cons_zero, List.set_cons_succ, i64_w, i32_w]
    rfl
  refine pure_ (i := 5) (N := (some 14)) (v := ?_) (a' := ?_) #[true, false, true, false, true, true, false, false, false, false, false, false, false, false, false, false, false, false, false, false, false] rfl rfl (by kernel_rfl) (fun _ _ _ h => h) (Or.inl ⟨by rfl, ?_⟩) ?_ ?_; rotate_left
  · intro w'
    go_simp
    with_reducible rfl
  rotate_left
  · simp only [Act.put, List.setIfInBounds_toArray, List.set_cons_zero, List.set_cons_succ, i64_w, i32_w]
    rfl
  refine pure_ (i := 10) (N := (some 19)) (v := ?_) (a' := ?_) #[true, false, true, false, true, true, false, false, false, false, true, false, false, false, false, false, false, false, false, false, false] rfl rfl (by kernel_rfl) (fun _ _ _ h => h) (Or.inl ⟨by rfl, ?_⟩) ?_ ?_; rotate_left
  · intro w'
    go_simp
    with_reducible rfl
  rotate_left
  · simp only [Act.put, List.setIfInBounds_toArray, List.set_cons_zero, List.set_cons_succ, i64_w, i32_w]
    rfl
  refine pure_ (i := 12) (N := (some 21)) (v := ?_) (a' := ?_) #[true, false, true, false, true, true, false, false, false, false, true, false, true, false, false, false, false, false, false, false, false] rfl rfl (by kernel_rfl) (fun _ _ _ h => h) (Or.inl ⟨by rfl, ?_⟩) ?_ ?_; rotate_left
  · intro w'
    go_simp
    with_reducible rfl
  rotate_left
  · simp only [Act.put, List.setIfInBounds_toArray, List.set_cons_zero, List.set_cons_succ, i64_w, i32_w]
    rfl
  refine pure_ (i := 14) (N := (some 23)) (v := ?_) (a' := ?_) #[true, false, true, false, true, true, false, false, false, false, true, false, true, false, true, false, false, false, false, false, false] rfl rfl (by kernel_rfl) (fun _ _ _ h => h) (Or.inl ⟨by rfl, ?_⟩) ?_ ?_; rotate_left
  · intro w'
    go_simp
    with_reducible rfl
  rotate_left
  · simp only [Act.put, List.setIfInBounds_toArray, List.set_cons_zero, List.set_cons_succ, i64_w, i32_w]
    rfl
  refine pure_ (i := 18) (N := (some 27)) (v := ?_) (a' := ?_) #[true, false, true, false, true, true, false, false, false, false, true, false, true, false, true, false, false, false, true, false, false] rfl rfl (by kernel_rfl) (fun _ _ _ h => h) (Or.inl ⟨by rfl, ?_⟩) ?_ ?_; rotate_left
  · intro w'
    go_simp
    with_reducible rfl
  rotate_left
  · simp only [Act.put, List.setIfInBounds_toArray, List.set_cons_zero, List.set_cons_succ, i64_w, i32_w]
    rfl
  refine take_ (i := 1) (N := (some 10)) (v := ?_) (a' := ?_) #[true, true, true, false, true, true, false, false, false, false, true, false, true, false, true, false, false, false, true, false, false] rfl rfl (by kernel_rfl) (fun _ _ _ h => h) (Or.inl ⟨by rfl, ?_⟩) hHeld ?_ ?_; rotate_left
  · rintro w' ⟨s0, s1, s2⟩
    go_simp
    with_reducible rfl
  rotate_left
  · simp only [Act.put, List.setIfInBounds_toArray, List.set_cons_zero, List.set_cons_succ, i64_w, i32_w]
    rfl
  refine take_ (i := 3) (N := (some 12)) (v := ?_) (a' := ?_) #[true, true, true, true, true, true, false, false, false, false, true, false, true, false, true, false, false, false, true, false, false] rfl rfl (by kernel_rfl) (fun _ _ _ h => h) (Or.inl ⟨by rfl, ?_⟩) hHeld ?_ ?_; rotate_left
  · rintro w' ⟨s0, s1, s2⟩
    go_simp
    with_reducible rfl
  rotate_left
  · simp only [Act.put, List.setIfInBounds_toArray, List.set_cons_zero, List.set_cons_succ, i64_w, i32_w]
    rfl
  refine take_ (i := 6) (N := (some 15)) (v := ?_) (a' := ?_) #[true, true, true, true, true, true, true, false, false, false, true, false, true, false, true, false, false, false, true, false, false] rfl rfl (by kernel_rfl) (fun _ _ _ h => h) (Or.inl ⟨by rfl, ?_⟩) hHeld ?_ ?_; rotate_left
  · rintro w' ⟨s0, s1, s2⟩
    go_simp
    with_reducible rfl
  rotate_left
  · simp only [Act.put, List.setIfInBounds_toArray, List.set_cons_zero, List.set_cons_succ, i64_w, i32_w]
    rfl
  refine pure_ (i := 7) (N := (some 16)) (v := ?_) (a' := ?_) #[true, true, true, true, true, true, true, true, false, false, true, false, true, false, true, false, false, false, true, false, false] rfl rfl (by kernel_rfl) (fun _ _ _ h => h) (Or.inl ⟨by rfl, ?_⟩) ?_ ?_; rotate_left
  · intro w'
    go_simp
    with_reducible rfl
  rotate_left
  · simp only [Act.put, List.setIfInBounds_toArray, List.set_cons_zero, List.set_cons_succ, i64_w, i32_w]
    rfl
  refine pure_ (i := 8) (N := (some 17)) (v := ?_) (a' := ?_) #[true, true, true, true, true, true, true, true, true, false, true, false, true, false, true, false, false, false, true, false, false] rfl rfl (by kernel_rfl) (fun _ _ _ h => h) (Or.inl ⟨by rfl, ?_⟩) ?_ ?_; rotate_left
  · intro w'
    go_simp
    with_reducible rfl
  rotate_left
  · simp only [Act.put, List.setIfInBounds_toArray, List.set_cons_zero, List.set_cons_succ, i64_w, i32_w]
    rfl
  refine pure_ (i := 9) (N := (some 18)) (v := ?_) (a' := ?_) #[true, true, true, true, true, true, true, true, true, true, true, false, true, false, true, false, false, false, true, false, false] rfl rfl (by kernel_rfl) (fun _ _ _ h => h) (Or.inl ⟨by rfl, ?_⟩) ?_ ?_; rotate_left
  · intro w'
    go_simp
    with_reducible rfl
  rotate_left
  · simp only [Act.put, List.setIfInBounds_toArray, List.set_cons_zero, List.set_cons_succ, i64_w, i32_w]
    rfl
  refine take_ (i := 11) (N := (some 20)) (v := ?_) (a' := ?_) #[true, true, true, true, true, true, true, true, true, true, true, true, true, false, true, false, false, false, true, false, false] rfl rfl (by kernel_rfl) (fun _ _ _ h => h) (Or.inl ⟨by rfl, ?_⟩) hHeld ?_ ?_; rotate_left
  · rintro w' ⟨s0, s1, s2⟩
    go_simp
    with_reducible rfl
  rotate_left
  · simp only [Act.put, List.setIfInBounds_toArray, List.set_cons_zero, List.set_cons_succ, i64_w, i32_w]
    rfl
  refine take_ (i := 13) (N := (some 22)) (v := ?_) (a' := ?_) #[true, true, true, true, true, true, true, true, true, true, true, true, true, true, true, false, false, false, true, false, false] rfl rfl (by kernel_rfl) (fun _ _ _ h => h) (Or.inl ⟨by rfl, ?_⟩) hHeld ?_ ?_; rotate_left
  · rintro w' ⟨s0, s1, s2⟩
    go_simp
    with_reducible rfl
  rotate_left
  · simp only [Act.put, List.setIfInBounds_toArray, List.set_cons_zero, List.set_cons_succ, i64_w, i32_w]
    rfl
  refine take_ (i := 15) (N := (some 24)) (v := ?_) (a' := ?_) #[true, true, true, true, true, true, true, true, true, true, true, true, true, true, true, true, false, false, true, false, false] rfl rfl (by kernel_rfl) (fun _ _ _ h => h) (Or.inl ⟨by rfl, ?_⟩) hHeld ?_ ?_; rotate_left
  · rintro w' ⟨s0, s1, s2⟩
    go_simp
    with_reducible rfl
  rotate_left
  · simp only [Act.put, List.setIfInBounds_toArray, List.set_cons_zero, List.set_cons_succ, i64_w, i32_w]
    rfl
  refine one_ (i := 16) (N := (some 25)) #[true, true, true, true, true, true, true, true, true, true, true, true, true, true, true, true, true, false, true, false, false] rfl rfl (by kernel_rfl) (by decide) (fun K hK => ?_); refine Kd.R_append_rows_step Kd.bool (Rr := fun x cs => cs = [Value.bool x]) (w0 := w) w.heap.size (by rfl) (.const (.slice none 0 0)) (.tmp 24) 25 4 (.bool false) 1 rfl Try.underlying25 info4 rfl (by decide) (by omega) (.slice none 0 0) [] l A l.length c (fun j => w4.heap.size ≤ j) (fun _ => False) rfl rfl (Kd.C5 _ _ _ _ _) hcw (fun x cs h => h) (fun _ hk => hk.elim) (fun j hj => hj) HW4.out (by omega) (by simp; omega) ?_; intro v5 w5 hR5 hB5 hg5 hat5; obtain ⟨Aw, cw, e5⟩ := Kd.B6 hR5; subst e5; rw [e2] at hR5 hat5 ⊢; rw [List.nil_append] at hR5; have hb5 := Bz HB4.out hg5 (by simp [Value.ownBlock]); have hq5 := Bz HQ4.out hg5 (by simp [Value.ownBlock]); have hr5 := Kd.Dw HR4.out hg5 (fun k hk => by simp [Value.ownBlock]); show K (Act.put _ (some 25) (.slice Aw l.length cw)) w5; refine hK.out _ _ ⟨(Af hb5 0).trans rfl, (Af hb5 1).trans rfl, (Af hb5 2).trans rfl⟩ (fun hHeld => ?_); clear hK K; refine norm_ (a' := ?_) ?_ ?_; rotate_left
  · simp only [Act.put, List.setIfInBounds_toArray, List.set_cons_zero, List.set_cons_succ]
    rfl
  refine pure_ (i := 17) (N := (some 26)) (v := ?_) (a' := ?_) #[true, true, true, true, true, true, true, true, true, true, true, true, true, true, true, true, true, true, true, false, false] rfl rfl (by kernel_rfl) (fun _ _ _ h => h) (Or.inl ⟨by rfl, ?_⟩) ?_ ?_; rotate_left
  · intro w'
    go_simp
    with_reducible rfl
  rotate_left
  · simp only [Act.put, List.setIfInBounds_toArray, List.set_cons_zero, List.set_cons_succ, i64_w, i32_w]
    rfl
  refine pure_ (i := 19) (N := (some 28)) (v := ?_) (a' := ?_) #[true, true, true, true, true, true, true, true, true, true, true, true, true, true, true, true, true, true, true, true, false] rfl rfl (by kernel_rfl) (fun _ _ _ h => h) (Or.inl ⟨by rfl, ?_⟩) ?_ ?_; rotate_left
  · intro w'
    go_simp
    with_reducible rfl
  rotate_left
  · simp only [Act.put, List.setIfInBounds_toArray, List.set_cons_zero, List.set_cons_succ, i64_w, i32_w]
    rfl
  refine one_ (i := 20) (N := none) #[true, true, true, true, true, true, true, true, true, true, true, true, true, true, true, true, true, true, true, true, true] rfl rfl (by kernel_rfl) (by decide) (fun K hK => ?_); have q0 : w5.cell? ⟨w.heap.size + 1, 0, none⟩ = some (.int .i64 0) := (Af hq5 0).trans rfl; have q1 : w5.cell? ⟨w.heap.size + 1, 1, none⟩ = some (.int .i64 0) := (Af hq5 1).trans rfl; have q2 : w5.cell? ⟨w.heap.size + 1, 2, none⟩ = some (.slice none 0 0) := (Af hq5 2).trans rfl; have q3 : w5.cell? ⟨w.heap.size + 1, 3, none⟩ = some (.int .i64 0) := (Af hq5 3).trans rfl; have q4 : w5.cell? ⟨w.heap.size + 1, 4, none⟩ = some (.int .i64 0) := (Af hq5 4).trans rfl; have q5 : w5.cell? ⟨w.heap.size + 1, 5, none⟩ = some (.slice none 0 0) := (Af hq5 5).trans rfl; have q6 : w5.cell? ⟨w.heap.size + 1, 6, none⟩ = some (.slice none 0 0) := (Af hq5 6).trans rfl; have f0 := Ag hq5 0; have f1 := Ag hq5 1; have f2 := Ag hq5 2; have f3 := Ag hq5 3; have f4 := Ag hq5 4; have f5 := Ag hq5 5; have f6 := Ag hq5 6; refine skip_ (w1 := ?_) (by rfl) rfl ?_ ?_; rotate_left
  · go_simp
    rfl
  have z0 := Be hb5 (p := ⟨w.heap.size + 1, 0, none⟩) (show w.heap.size ≠ w.heap.size + 1 by omega) (.int .i64 a0); have z1 := Be z0 (p := ⟨w.heap.size + 1, 1, none⟩) (show w.heap.size ≠ w.heap.size + 1 by omega) (.int .i64 a1); have z2 := Be z1 (p := ⟨w.heap.size + 1, 2, none⟩) (show w.heap.size ≠ w.heap.size + 1 by omega) (.slice (some ⟨g, 0, none⟩) l.length c3); have z3 := Be z2 (p := ⟨w.heap.size + 1, 3, none⟩) (show w.heap.size ≠ w.heap.size + 1 by omega) (.int .i64 a0); have z4 := Be z3 (p := ⟨w.heap.size + 1, 4, none⟩) (show w.heap.size ≠ w.heap.size + 1 by omega) (.int .i64 a1); have z5 := Be z4 (p := ⟨w.heap.size + 1, 5, none⟩) (show w.heap.size ≠ w.heap.size + 1 by omega) (.slice Aw l.length cw); have z6 := Be z5 (p := ⟨w.heap.size + 1, 6, none⟩) (show w.heap.size ≠ w.heap.size + 1 by omega) (.slice (some ⟨g, 0, none⟩) (l.length + 3) c3); refine hK.out _ _ ⟨(Af z6 0).trans rfl, (Af z6 1).trans rfl, (Af z6 2).trans rfl⟩ (fun hHeld => ?_); clear hK K; have y0 := Az hq5 0 (.int .i64 a0) rfl; have y1 := Az y0 1 (.int .i64 a1) rfl; have y2 := Az y1 2 (.slice (some ⟨g, 0, none⟩) l.length c3) rfl; have y3 := Az y2 3 (.int .i64 a0) rfl; have y4 := Az y3 4 (.int .i64 a1) rfl; have y5 := Az y4 5 (.slice Aw l.length cw) rfl; have y6 := Az y5 6 (.slice (some ⟨g, 0, none⟩) (l.length + 3) c3) rfl; have x0 := Kd.Bn hr5 (p := ⟨w.heap.size + 1, 0, none⟩) (fun k hk e => by have e2 : k = w.heap.size + 1 := e; omega) (.int .i64 a0); have x1 := Kd.Bn x0 (p := ⟨w.heap.size + 1, 1, none⟩) (fun k hk e => by have e2 : k = w.heap.size + 1 := e; omega) (.int .i64 a1); have x2 := Kd.Bn x1 (p := ⟨w.heap.size + 1, 2, none⟩) (fun k hk e => by have e2 : k = w.heap.size + 1 := e; omega) (.slice (some ⟨g, 0, none⟩) l.length c3); have x3 := Kd.Bn x2 (p := ⟨w.heap.size + 1, 3, none⟩) (fun k hk e => by have e2 : k = w.heap.size + 1 := e; omega) (.int .i64 a0); have x4 := Kd.Bn x3 (p := ⟨w.heap.size + 1, 4, none⟩) (fun k hk e => by have e2 : k = w.heap.size + 1 := e; omega) (.int .i64 a1); have x5 := Kd.Bn x4 (p := ⟨w.heap.size + 1, 5, none⟩) (fun k hk e => by have e2 : k = w.heap.size + 1 := e; omega) (.slice Aw l.length cw); have x6 := Kd.Bn x5 (p := ⟨w.heap.size + 1, 6, none⟩) (fun k hk e => by have e2 : k = w.heap.size + 1 := e; omega) (.slice (some ⟨g, 0, none⟩) (l.length + 3) c3); have v0 := Kd.Bn hR5 (p := ⟨w.heap.size + 1, 0, none⟩) (fun k hk e => by have e2 : k = w.heap.size + 1 := e; omega) (.int .i64 a0); have v1 := Kd.Bn v0 (p := ⟨w.heap.size + 1, 1, none⟩) (fun k hk e => by have e2 : k = w.heap.size + 1 := e; omega) (.int .i64 a1); have v2 := Kd.Bn v1 (p := ⟨w.heap.size + 1, 2, none⟩) (fun k hk e => by have e2 : k = w.heap.size + 1 := e; omega) (.slice (some ⟨g, 0, none⟩) l.length c3); have v3 := Kd.Bn v2 (p := ⟨w.heap.size + 1, 3, none⟩) (fun k hk e => by have e2 : k = w.heap.size + 1 := e; omega) (.int .i64 a0); have v4 := Kd.Bn v3 (p := ⟨w.heap.size + 1, 4, none⟩) (fun k hk e => by have e2 : k = w.heap.size + 1 := e; omega) (.int .i64 a1); have v5 := Kd.Bn v4 (p := ⟨w.heap.size + 1, 5, none⟩) (fun k hk e => by have e2 : k = w.heap.size + 1 := e; omega) (.slice Aw l.length cw); have v6 := Kd.Bn v5 (p := ⟨w.heap.size + 1, 6, none⟩) (fun k hk e => by have e2 : k = w.heap.size + 1 := e; omega) (.slice (some ⟨g, 0, none⟩) (l.length + 3) c3); have u0 := hB5.setCell (p := ⟨w.heap.size + 1, 0, none⟩) (show w.heap.size ≤ w.heap.size + 1 by omega) (.int .i64 a0); have u1 := u0.setCell (p := ⟨w.heap.size + 1, 1, none⟩) (show w.heap.size ≤ w.heap.size + 1 by omega) (.int .i64 a1); have u2 := u1.setCell (p := ⟨w.heap.size + 1, 2, none⟩) (show w.heap.size ≤ w.heap.size + 1 by omega) (.slice (some ⟨g, 0, none⟩) l.length c3); have u3 := u2.setCell (p := ⟨w.heap.size + 1, 3, none⟩) (show w.heap.size ≤ w.heap.size + 1 by omega) (.int .i64 a0); have u4 := u3.setCell (p := ⟨w.heap.size + 1, 4, none⟩) (show w.heap.size ≤ w.heap.size + 1 by omega) (.int .i64 a1); have u5 := u4.setCell (p := ⟨w.heap.size + 1, 5, none⟩) (show w.heap.size ≤ w.heap.size + 1 by omega) (.slice Aw l.length cw); have u6 := u5.setCell (p := ⟨w.heap.size + 1, 6, none⟩) (show w.heap.size ≤ w.heap.size + 1 by omega) (.slice (some ⟨g, 0, none⟩) (l.length + 3) c3); have Y6 := Ae.mk y6; have X6 := Ae.mk x6; have V6 := Ae.mk v6; have U6 := Ae.mk u6; clear q0 q1 q2 q3 q4 q5 q6 f0 f1 f2 f3 f4 f5 f6; refine done_ (by kernel_rfl) ?_
  go_wp2
  refine bodyPost_ret (results_cell_row rfl _ _ (w.heap.size + 1) 44 #[.int .i64 a0, .int .i64 a1, .slice (some ⟨g, 0, none⟩) l.length c3, .int .i64 a0, .int .i64 a1, .slice Aw l.length cw, .slice (some ⟨g, 0, none⟩) (l.length + 3) c3] (0, 0) _ rfl Y6.out Try.underlying44 rfl (by kernel_rfl)) rfl ?_; exact ⟨g, c3, Aw, cw, rfl, Kd.Bt X6.out (fun _ _ => trivial), Kd.Bt V6.out (fun _ _ => trivial), U6.out⟩
end Go.Proofs.Ytbfimplajocmmaa.BK

