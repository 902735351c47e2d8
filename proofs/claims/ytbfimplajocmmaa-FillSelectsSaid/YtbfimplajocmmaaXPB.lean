import Derived.Test.YtbfimplajocmmaaXPFAx2
import Derived.Laws.EntriesVeiled
import Derived.Test.YtbfimplajocmmaaXSQ
section
open Go Go.RowKit Go.Proofs.YtbfimplajocmmaaW.PrintWords Go.Proofs.YtbfimplajocmmaaW.PrintLast Go.Proofs.YtbfimplajocmmaaW.PrintMore
attribute [local go_sem ↓] Go.wp_at_zero Go.wp_at_succ
set_option linter.unusedVariables false
set_option linter.unusedSimpArgs false
namespace Go.Proofs.Ytbfimplajocmmaa.CR
open H (info76 wrapMul bnew omade0 one_new frz_alloc idx_lt)
def St (B g : Nat) (W H : Nat) (a b : Addr) (f : Nat → Int) (w : World) (n : Nat) (wr : World) : Prop :=
  ∃ v, wr.heap[B]? = some (.cells #[.int .i64 W, .int .i64 H, .func (.func 78) #[] #[.pointer (some a), .pointer (some b)]] 117 (0, 0)) ∧
    wr.heap[B + 1]? = some (.cells #[.int .i64 0, .int .i64 0, .slice none 0 0] 24 (0, 0)) ∧
    wr.heap[g]? = some (.cells #[.int .i64 W, .int .i64 H, v] 24 (0, 0)) ∧ B + 2 ≤ g ∧
    wr.ownsRow B 28 1 v n ((List.range n).map fun i => Value.int .u32 (f i)) ∧ Below B w wr

set_option maxHeartbeats 2000000 in
set_option maxRecDepth 100000 in
theorem made (W H : Nat) (hW : W ≤ 1024) (hH : H ≤ 1024) (a b : Addr) (f : Nat → Int) (w : World) (hcall : ∀ W0 : World, Below w.heap.size w W0 → ∀ x y : Nat, x < W → y < H → Calls Try.prog 78 #[.int .i64 x, .int .i64 y, .pointer (some a), .pointer (some b)] W0 fun e w' => e = .returned (.int .u32 (f (y * W + x))) ∧ W0 = w') :
    Calls Try.prog 79 #[.agg #[.int .i64 W, .int .i64 H, .func (.func 78) #[] #[.pointer (some a), .pointer (some b)]]] w fun e w' =>
      ∃ v, e = .returned (.agg #[.int .i64 W, .int .i64 H, v]) ∧ w'.ownsRow w.heap.size 28 1 v (W * H) ((List.range (W * H)).map fun i => Value.int .u32 (f i)) ∧ Below w.heap.size w w' := by
  obtain ⟨i0, hi, hz0, hz1, hz2⟩ := info_parts info76; obtain ⟨N, hN⟩ : ∃ N, N = W * H := ⟨_, rfl⟩; have hNb : N ≤ 1048576 := by rw [hN]; exact Nat.mul_le_mul hW hH
  have hwr : IntKind.i64.wrap ((W : Int) * (H : Int)) = (N : Int) := by rw [wrapMul W H hW hH, hN]
  rw [← hN]; have HN := Lib.hid hN; clear hN
  have hmk : ∀ W0 : World, (Instr.makeSlice 22 (.int .i64 0) (.int .i64 (N : Int))).run Try.prog W0 = .ok (.slice (some ⟨W0.heap.size, 0, none⟩) 0 N) (W0.alloc (.cells (madeCells (Value.cells (.int .u32 0)) N) 28)) := by
    intro W0; have h := run_make (P := Try.prog) W0 22 28 i0 _ Try.underlying22 hi hz0 .i64 .i64 0 (N : Int) (by omega) (by omega) (by rw [hz2]; omega) (by omega); rw [hz1, Nat.mul_one] at h
    simpa using h
  go_enter Try.func79, Try.ntmps79
  go_upto_region 1 with fail
  go_cut [3] (fun s3 wx => ∃ g, s3 = .pointer (some ⟨g, 0, none⟩) ∧ St w.heap.size g W H a b f w 0 wx)
  case first =>
    go_region_held3 (fun w' => w'.cell? ⟨w.heap.size, 0, none⟩ = some (.int .i64 W) ∧ w'.cell? ⟨w.heap.size, 1, none⟩ = some (.int .i64 H)) (go_keep) (fail)
    all_goals (go_wp2_with fail; go_meet)
    · refine ⟨_, rfl, _, Ar (An (An (An (bnew _ rfl) _) _) _), Ar (An (An (bnew _ (by simp)) _) _), Ar (bnew _ (by simp)), by omega, own_drew (Df (omade0 _ (by simp) (by simp; omega) (by unfold maxLen; omega) (by simp [madeCells])) _), ?_⟩
      exact Ds (Ah (Ah (Ah (Ah (Below.refl _ _) _) _) _) _)
    · refine ⟨_, rfl, _, Ar (An (An (An (bnew _ rfl) _) _) _), Ar (An (An (bnew _ (by simp)) _) _), Ar (An (bnew _ (by simp)) _), by omega, own_drew (omade0 _ (by simp) (by simp; omega) (by unfold maxLen; omega) (by simp [madeCells])), ?_⟩
      exact Ds (Ah (Ah (Ah (Ah (Below.refl _ _) _) _) _) _)
  case rest =>
    obtain ⟨g, rfl, hst⟩ := hcut; clear hmk hwr; have HS := Lib.hid hst; have c1 : wc.cell? ⟨w.heap.size, 1, none⟩ = some (.int .i64 H) := by obtain ⟨v, h0, _⟩ := hst; exact (Af h0 1).trans rfl
    clear hst
    go_wp2
    go_loopw [19] (fun v19 wr => ∃ y : Nat, y ≤ H ∧ v19 = .int .i64 y ∧ St w.heap.size g W H a b f w (y * W) wr) (fun v19 _ => H - (intOf v19).toNat)
    case atStart => exact ⟨0, Nat.zero_le _, rfl, by rw [Nat.zero_mul]; exact HS.out⟩
    case round =>
      obtain ⟨y, hy, rfl, hst⟩ := hrel; clear HS c1; have HS := Lib.hid hst; clear hst
      by_cases hlt : y < H
      · have c0 : wr.cell? ⟨w.heap.size, 0, none⟩ = some (.int .i64 W) := by obtain ⟨v, h0, _⟩ := HS.out; exact (Af h0 0).trans rfl
        go_wp2
        clear c0; obtain ⟨wo, hwo⟩ : ∃ wo : World, wo = wr := ⟨_, rfl⟩; subst hwo
        go_loopw [24] (fun v24 wr => ∃ x : Nat, x ≤ W ∧ v24 = .int .i64 x ∧ St w.heap.size g W H a b f w (y * W + x) wr) (fun v24 _ => W - (intOf v24).toNat)
        case atStart => exact ⟨0, Nat.zero_le _, rfl, HS.out⟩
        case round =>
          obtain ⟨x, hx, rfl, hst⟩ := hrel; clear HS
          by_cases hlx : x < W
          · have hn : y * W + x < N := by rw [HN.out]; exact idx_lt hlt hlx
            obtain ⟨n, hne⟩ : ∃ n, n = y * W + x := ⟨_, rfl⟩; rw [← hne] at hst hn; have HE := Lib.hid hne; clear hne; obtain ⟨v, h0, h1, h2, hg, hown, hb⟩ := hst; have H0 := Lib.hid h0; have H1 := Lib.hid h1; have H2 := Lib.hid h2; have HO := Lib.hid hown; have HB := Lib.hid hb; have cv : wr.cell? ⟨g, 2, none⟩ = some v := (Af h2 2).trans rfl; have cf : wr.cell? ⟨w.heap.size, 2, none⟩ = some (.func (.func 78) #[] #[.pointer (some a), .pointer (some b)]) := (Af h0 2).trans rfl; have fv : wr.frozen? ⟨g, 2, none⟩ = false := Ag h2 2; have eg := World.new_ne wr ⟨g, 2, none⟩ cv; have eB := World.new_ne wr ⟨w.heap.size, 2, none⟩ cf; have hsz : w.heap.size ≤ wr.heap.size := hb.size; have FB : some w.heap.size ≠ v.ownBlock := own_ne hown h0 (by decide); have FB1 : some (w.heap.size + 1) ≠ v.ownBlock := own_ne hown h1 (by decide); have FG : some g ≠ v.ownBlock := own_ne hown h2 (by decide); have FZ : g < (wr.alloc (.cells #[.int .u32 (f n)] 28)).drew.heap.size := by have := Ba h2; simp; omega
            clear h0 h1 h2 hown hb
            go_upto_region 8 with fail
            have q0 : wr.drew.heap[w.heap.size]? = _ := H0.out; have q1 : wr.drew.heap[w.heap.size + 1]? = _ := H1.out; have q2 : wr.drew.heap[g]? = _ := H2.out; have qo : wr.drew.ownsRow w.heap.size 28 1 v n _ := HO.out; have qb : Below w.heap.size w wr.drew := Ds HB.out; have Q0 := Lib.hid q0; have Q1 := Lib.hid q1; have Q2 := Lib.hid q2; have QO := Lib.hid qo; have QB := Lib.hid qb; clear q0 q1 q2 qo qb H0 H1 H2 HO HB; have hsz' : w.heap.size ≤ wr.drew.heap.size := hsz; refine start_ (n := 11) (S := fun w' => w'.cell? ⟨g, 2, none⟩ = some v ∧ w'.cell? ⟨w.heap.size, 2, none⟩ = some (.func (.func 78) #[] #[.pointer (some a), .pointer (some b)])) (ds := [10]) #[false, false, false, false, false, false, false, false, false, false, false] (by kernel_rfl) rfl rfl ⟨cv, cf⟩ (fun hHeld => ?_); clear cv cf fv eg eB hsz FZ; generalize wr.drew = w1 at Q0 Q1 Q2 QO QB hsz' hHeld ⊢; refine pure_ (i := 0) (N := (some 27)) (v := ?_) (a' := ?_) #[true, false, false, false, false, false, false, false, false, false, false] rfl rfl (by kernel_rfl) (fun _ _ _ h => h) (Or.inl ⟨by rfl, ?_⟩) ?_ ?_; rotate_left
            · intro w'
              go_simp
              with_reducible rfl
            rotate_left
            · simp only [Act.put, List.setIfInBounds_toArray, List.set_cons_zero, List.set_cons_succ, i64_w, i32_w]
              rfl
            refine pure_ (i := 2) (N := (some 29)) (v := ?_) (a' := ?_) #[true, false, true, false, false, false, false, false, false, false, false] rfl rfl (by kernel_rfl) (fun _ _ _ h => h) (Or.inl ⟨by rfl, ?_⟩) ?_ ?_; rotate_left
            · intro w'
              go_simp
              with_reducible rfl
            rotate_left
            · simp only [Act.put, List.setIfInBounds_toArray, List.set_cons_zero, List.set_cons_succ, i64_w, i32_w]
              rfl
            refine pure_ (i := 4) (N := (some 31)) (v := ?_) (a' := ?_) #[true, false, true, false, true, false, false, false, false, false, false] rfl rfl (by kernel_rfl) (fun _ _ _ h => h) (Or.inl ⟨by rfl, ?_⟩) ?_ ?_; rotate_left
            · intro w'
              go_simp
              with_reducible rfl
            rotate_left
            · simp only [Act.put, List.setIfInBounds_toArray, List.set_cons_zero, List.set_cons_succ, i64_w, i32_w]
              rfl
            refine pure_ (i := 5) (N := (some 32)) (v := ?_) (a' := ?_) #[true, false, true, false, true, true, false, false, false, false, false] rfl rfl (by kernel_rfl) (fun _ _ _ h => h) (Or.inl ⟨by rfl, ?_⟩) ?_ ?_; rotate_left
            · intro w'
              go_simp
              with_reducible rfl
            rotate_left
            · simp only [Act.put, List.setIfInBounds_toArray, List.set_cons_zero, List.set_cons_succ, i64_w, i32_w]
              rfl
            refine take_ (i := 1) (N := (some 28)) (v := ?_) (a' := ?_) #[true, true, true, false, true, true, false, false, false, false, false] rfl rfl (by kernel_rfl) (fun _ _ _ h => h) (Or.inl ⟨by rfl, ?_⟩) hHeld ?_ ?_; rotate_left
            · rintro w' ⟨s0, s1⟩
              go_simp
              with_reducible rfl
            rotate_left
            · simp only [Act.put, List.setIfInBounds_toArray, List.set_cons_zero, List.set_cons_succ, i64_w, i32_w]
              rfl
            refine take_ (i := 3) (N := (some 30)) (v := ?_) (a' := ?_) #[true, true, true, true, true, true, false, false, false, false, false] rfl rfl (by kernel_rfl) (fun _ _ _ h => h) (Or.inl ⟨by rfl, ?_⟩) hHeld ?_ ?_; rotate_left
            · rintro w' ⟨s0, s1⟩
              go_simp
              with_reducible rfl
            rotate_left
            · simp only [Act.put, List.setIfInBounds_toArray, List.set_cons_zero, List.set_cons_succ, i64_w, i32_w]
              rfl
            refine one_ (i := 6) (N := (some 33)) #[true, true, true, true, true, true, true, false, false, false, false] rfl rfl (by kernel_rfl) (by decide) (fun K hK => ?_); refine call_ 78 #[.int .i64 x, .int .i64 y, .pointer (some a), .pointer (some b)] (by rfl) rfl (by go_simp) ?_; refine (hcall w1 QB.out x y hlx hlt).mono ?_; rw [← HE.out]; rintro e w' ⟨rfl, rfl⟩; refine ⟨_, rfl, ?_⟩; refine hK.out _ _ hHeld (fun hHeld => ?_); clear hK K; refine norm_ (a' := ?_) ?_ ?_; rotate_left
            · simp only [Act.put, List.setIfInBounds_toArray, List.set_cons_zero, List.set_cons_succ]
              rfl
            refine one_ (i := 7) (N := (some 34)) #[true, true, true, true, true, true, true, true, false, false, false] rfl rfl (by kernel_rfl) (by decide) (fun K hK => ?_); refine value_ (v := .slice (some ⟨w1.heap.size, 0, none⟩) 1 1) (w1 := w1.alloc (.cells #[.int .u32 (f n)] 28)) (by rfl) rfl (by go_simp) ?_; refine hK.out _ _ ⟨(Af (An Q2.out _) 2).trans rfl, (Af (An Q0.out _) 2).trans rfl⟩ (fun hHeld => ?_); clear hK K; refine norm_ (a' := ?_) ?_ ?_; rotate_left
            · simp only [Act.put, List.setIfInBounds_toArray, List.set_cons_zero, List.set_cons_succ]
              rfl
            refine one_ (i := 8) (N := (some 35)) #[true, true, true, true, true, true, true, true, true, false, false] rfl rfl (by kernel_rfl) (by decide) (fun K hK => ?_); refine step_append_lies _ (by rfl) _ _ _ (by rfl) w.heap.size 28 i0 (.int .u32 0) 1 4 Try.underlying22 hi hz0 hz1 hz2 rfl (by omega) v n _ (by rfl) (Df QO.out _) ⟨w1.heap.size, 0, none⟩ 1 1 [.int .u32 (f n)] (by rfl) rfl (one_new rfl) (by intro u hu; simp at hu; subst hu; rfl) (by omega) (by unfold maxLen; omega) (by omega) (by simp; omega) (w1.heap.size + 1) (by simp) ?_; intro g2 cap w2 hown1 hgrow hat hlt1; have r0 := Bz (An Q0.out _) hgrow FB; have r1 := Bz (An Q1.out _) hgrow FB1; have r2 := Bz (An Q2.out _) hgrow FG; have rb := Below.grown (Ah QB.out _) hgrow (by simp; omega) (fun k e => C6 QO.out k e); refine hK.out _ _ ⟨(Af r2 2).trans rfl, (Af r0 2).trans rfl⟩ (fun hHeld => ?_); clear hK K; refine norm_ (a' := ?_) ?_ ?_; rotate_left
            · simp only [Act.put, List.setIfInBounds_toArray, List.set_cons_zero, List.set_cons_succ]
              rfl
            refine pure_ (i := 9) (N := (some 36)) (v := ?_) (a' := ?_) #[true, true, true, true, true, true, true, true, true, true, false] rfl rfl (by kernel_rfl) (fun _ _ _ h => h) (Or.inl ⟨by rfl, ?_⟩) ?_ ?_; rotate_left
            · intro w'
              go_simp
              with_reducible rfl
            rotate_left
            · simp only [Act.put, List.setIfInBounds_toArray, List.set_cons_zero, List.set_cons_succ, i64_w, i32_w]
              rfl
            refine last_ (i := 10) (N := none) #[true, true, true, true, true, true, true, true, true, true, true] rfl rfl (by kernel_rfl) (by decide) (fun K hK => ?_); have cv := (Af r2 2).trans rfl; have fv := Ag r2 2; refine skip_ (w1 := ?_) (by rfl) rfl ?_ ?_; rotate_left
            · go_simp
              rfl
            refine hK.out _ _ ?_; clear hK K; refine done_ (by kernel_rfl) ?_
            go_wp2
            go_roundw
            case rel =>
              refine ⟨x + 1, by omega, by go_num, .slice (some ⟨g2, 0, none⟩) (n + 1) cap, Be r0 (show w.heap.size ≠ g by omega) _, Be r1 (show w.heap.size + 1 ≠ g by omega) _, Az r2 2 _ rfl, hg, ?_, Ai rb (by omega)⟩; rw [show y * W + (x + 1) = n + 1 from by rw [HE.out]; omega, List.range_succ, List.map_append]; exact Cv hown1 (own_ne hown1 r2 (by decide)) _
            case measure => simp [intOf]; omega
          · obtain rfl : x = W := by omega
            have HS := Lib.hid hst; clear hst
            go_wp2
            go_roundw
            case rel =>
              refine ⟨y + 1, by omega, by go_num, ?_⟩; rw [Nat.succ_mul]; exact HS.out
            case measure => simp [intOf]; omega
      · obtain rfl : y = H := by omega
        obtain ⟨v, h0, h1, h2, hg, hown, hb⟩ := HS.out; clear HS; have H0 := Lib.hid h0; have H1 := Lib.hid h1; have H2 := Lib.hid h2; have HO := Lib.hid hown; have HB := Lib.hid hb; have k0 : wr.cell? ⟨g, 0, none⟩ = some (.int .i64 W) := (Af h2 0).trans rfl; have k1 : wr.cell? ⟨g, 1, none⟩ = some (.int .i64 y) := (Af h2 1).trans rfl; have k2 : wr.cell? ⟨g, 2, none⟩ = some v := (Af h2 2).trans rfl; have m0 : wr.cell? ⟨w.heap.size + 1, 0, none⟩ = some (.int .i64 0) := (Af h1 0).trans rfl; have m1 : wr.cell? ⟨w.heap.size + 1, 1, none⟩ = some (.int .i64 0) := (Af h1 1).trans rfl; have m2 : wr.cell? ⟨w.heap.size + 1, 2, none⟩ = some (.slice none 0 0) := (Af h1 2).trans rfl; have f0 := Ag h1 0; have f1 := Ag h1 1; have f2 := Ag h1 2; clear h0 h1 h2 hown hb; obtain ⟨A, c, rfl⟩ := Dz HO.out
        go_wp2
        refine bodyPost_ret (results_cell_row rfl _ _ (w.heap.size + 1) 24 #[.int .i64 W, .int .i64 y, .slice A (y * W) c] (0, 0) _ rfl ?_ Try.underlying24 rfl (by kernel_rfl)) rfl ?_
        · exact Az (Az (Az H1.out 0 _ rfl) 1 _ rfl) 2 _ rfl
        · refine ⟨_, rfl, ?_, Ai (Ai (Ai HB.out (by omega)) (by omega)) (by omega)⟩
          rw [show N = y * W from by rw [HN.out, Nat.mul_comm]]; have hne : some (w.heap.size + 1) ≠ (Value.slice A (y * W) c).ownBlock := own_ne HO.out H1.out (by decide); exact Cv (Cv (Cv HO.out (p := ⟨w.heap.size + 1, 0, none⟩) hne _) (p := ⟨w.heap.size + 1, 1, none⟩) hne _) (p := ⟨w.heap.size + 1, 2, none⟩) hne _

end Go.Proofs.Ytbfimplajocmmaa.CR
end
section
open Go Go.RowKit Go.Proofs.YtbfimplajocmmaaW.PrintWords Go.Proofs.YtbfimplajocmmaaW.PrintLast Go.Proofs.YtbfimplajocmmaaW.PrintMore
attribute [local go_sem ↓] Go.wp_at_zero Go.wp_at_succ
set_option linter.unusedVariables false
set_option linter.unusedSimpArgs false
namespace Go.Proofs.Ytbfimplajocmmaa.CR
open PFA
open H (bnew idx_lt wrapMul)
set_option maxRecDepth 100000 in
set_option maxHeartbeats 4000000 in
theorem of1 (p W H : Nat) (hW : W ≤ 1024) (hH : H ≤ 1024) (x y : Nat) (hx : x < W) (hy : y < H) (A : Option Addr) (c : Nat) (l : List Int) (hl : l.length = W * H) (w : World) (c0 : w.cell? ⟨p, 0, none⟩ = some (.int .i64 (W : Int))) (c2 : w.cell? ⟨p, 2, none⟩ = some (.slice A l.length c)) (hC : (Kd.int .u32).C w A l.length l) :
    Calls Try.prog 89 #[.int .i64 x, .int .i64 y, .pointer (some ⟨p, 0, none⟩)] w fun e w' => e = .returned (.int .u32 (l.getD (y * W + x) 0)) ∧ w = w' := by
  have hi := idx_lt hy hx; have hb : W * H ≤ 1024 * 1024 := Nat.mul_le_mul hW hH; obtain ⟨i, hie⟩ : ∃ i, i = y * W + x := ⟨_, rfl⟩; rw [← hie] at hi ⊢; obtain ⟨ad, hA, hc1⟩ := (Kd.C0 (enc := Value.int .u32) (d := (0 : Int)) (h1 := fun _ => rfl) hC).at_ (i : Int) (by omega) (by omega); subst hA; rw [Int.toNat_natCast] at hc1; have hyw : y * W ≤ 1048576 := by omega
  obtain ⟨m, hm⟩ : ∃ m : Int, m = ((y * W : Nat) : Int) := ⟨_, rfl⟩
  have e1 : IntKind.i64.wrap ((y : Int) * (W : Int)) = m := by
    rw [← Int.natCast_mul, IntKind.wrap_i64]; omega
  have e2 : IntKind.i64.wrap (m + (x : Int)) = (i : Int) := by
    rw [IntKind.wrap_i64, hm, hie]; omega
  have j0 : (0 : Int) ≤ (i : Int) := by omega
  have j1 : (i : Int) < (l.length : Int) := by omega
  clear hie hC hm hl hb hi hyw; go_enter Try.func89, Try.ntmps89
  go_wp2
  go_ret
  exact ⟨rfl, rfl⟩
set_option maxRecDepth 100000 in
set_option maxHeartbeats 4000000 in
theorem crop1 (p q t W H : Nat) (hW : W ≤ 1024) (hH : H ≤ 1024) (x y : Nat) (hx : x < W) (hy : y < H) (A : Option Addr) (c : Nat) (l : List Int) (hl : l.length = W * H) (w : World) (c0 : w.cell? ⟨p, 0, none⟩ = some (.int .i64 (W : Int))) (c2 : w.cell? ⟨p, 2, none⟩ = some (.slice A l.length c)) (hC : (Kd.int .u32).C w A l.length l) (ct : w.cell? ⟨t, 0, none⟩ = some (.func (.func 89) #[] #[.pointer (some ⟨p, 0, none⟩)])) (q0 : w.cell? ⟨q, 0, none⟩ = some (.int .i64 0)) (q1 : w.cell? ⟨q, 1, none⟩ = some (.int .i64 0)) :
    Calls Try.prog 78 #[.int .i64 x, .int .i64 y, .pointer (some ⟨t, 0, none⟩), .pointer (some ⟨q, 0, none⟩)] w fun e w' => e = .returned (.int .u32 (l.getD (y * W + x) 0)) ∧ w = w' := by
  have e1 : IntKind.i64.wrap (x : Int) = (x : Int) := by rw [IntKind.wrap_i64]; omega
  have e2 : IntKind.i64.wrap (y : Int) = (y : Int) := by rw [IntKind.wrap_i64]; omega
  have e3 : IntKind.i64.wrap (0 + (x : Int)) = (x : Int) := by rw [Int.zero_add]; exact e1
  have e4 : IntKind.i64.wrap (0 + (y : Int)) = (y : Int) := by rw [Int.zero_add]; exact e2
  have HO := Ae.mk (of1 p W H hW hH x y hx hy A c l hl w c0 c2 hC); clear c0 c2 hC; go_enter Try.func78, Try.ntmps78
  go_wp2_with (go_at_call 89; refine HO.out.mono ?_; rintro e w' ⟨rfl, rfl⟩)
  go_ret
  exact ⟨rfl, rfl⟩
theorem range_getD (l : List Int) : ((List.range l.length).map fun i => Value.int .u32 (l.getD i 0)) = l.map fun x => Value.int .u32 x := by
  apply List.ext_getElem
  · simp
  · intro i h1 h2
    simp only [List.length_map, List.length_range] at h1
    simp [List.getD_eq_getElem?_getD, List.getElem?_eq_getElem h1]
theorem of_calls (a0 a1 : Int) (A : Option Addr) (n c : Nat) (w : World) :
    Calls Try.prog 77 #[.agg #[.int .i64 a0, .int .i64 a1, .slice A n c]] w fun e w' => e = .returned (.func (.func 89) #[] #[.pointer (some ⟨w.heap.size, 0, none⟩)]) ∧ w' = w.alloc (.cells #[.int .i64 a0, .int .i64 a1, .slice A n c] 24) := by
  go_enter Try.func77, Try.ntmps77
  go_wp2
  go_ret
  exact ⟨rfl, rfl⟩
set_option maxRecDepth 100000 in
set_option maxHeartbeats 4000000 in
theorem crop_calls (W H : Nat) (h1 : 1 ≤ W) (hW : W ≤ 1024) (h2 : 1 ≤ H) (hH : H ≤ 1024) (A : Option Addr) (c : Nat) (l : List Int) (hl : l.length = W * H) (w : World) (hC : (Kd.int .u32).C w A l.length l) (hc : l.length ≤ c) (hk : Cw.f W H l = some 0) :
    Calls Try.prog 49 #[.agg #[.int .i64 W, .int .i64 H, .slice A l.length c], .agg #[.int .i64 0, .int .i64 0, .int .i64 W, .int .i64 H]] w fun e w' => ∃ v, e = .returned (.tuple #[.agg #[.int .i64 W, .int .i64 H, v], .int .i64 0]) ∧ (Kd.int .u32).R 28 w' w.heap.size (fun _ => True) v l ∧ Below w.heap.size w w' := by
  have HC := Ae.mk hC; have HK := Ae.mk hk; have HLen := Ae.mk hl; have hu24 := Try.underlying24; have hu101 := Try.underlying86; have e1 : IntKind.i64.wrap ((W : Int) - 0) = (W : Int) := by rw [IntKind.wrap_i64]; omega
  have e2 : IntKind.i64.wrap ((H : Int) - 0) = (H : Int) := by rw [IntKind.wrap_i64]; omega
  have e1' : IntKind.i64.wrap (W : Int) = (W : Int) := by rw [IntKind.wrap_i64]; omega
  have e2' : IntKind.i64.wrap (H : Int) = (H : Int) := by rw [IntKind.wrap_i64]; omega
  have d1 : decide ((0 : Int) < 0) = false := by decide
  have d2 : decide ((0 : Int) ≥ (W : Int)) = false := decide_eq_false (by omega); have d3 : decide ((0 : Int) ≥ (H : Int)) = false := decide_eq_false (by omega); have d4 : decide ((W : Int) > (W : Int)) = false := decide_eq_false (by omega); have d5 : decide ((H : Int) > (H : Int)) = false := decide_eq_false (by omega); clear hC hk hl; go_enter Try.func49, Try.ntmps49
  go_upto_region 2 with (go_at_call 44; refine (Cw.calls W H A c l 0 _ (Kd.Bv (Kd.Bv (Kd.Bv HC.out _) _) _) hc HK.out).mono ?_; rintro e w1 ⟨rfl, hb⟩; have HB := Ae.mk hb; clear hb)
  have b0 := Ao (An (An (bnew (w := w) (.cells #[.int .i64 (W : Int), .int .i64 (H : Int), .slice A l.length c] 24) rfl) (.cells #[.int .i64 0, .int .i64 0, .int .i64 (W : Int), .int .i64 (H : Int)] 86)) (.cells #[.int .i64 0, .int .i64 0, .slice none 0 0] 24)) HB.out; have b1 := Ao (An (bnew (w := w.alloc (.cells #[.int .i64 (W : Int), .int .i64 (H : Int), .slice A l.length c] 24)) (.cells #[.int .i64 0, .int .i64 0, .int .i64 (W : Int), .int .i64 (H : Int)] 86) (by simp : _ = w.heap.size + 1)) (.cells #[.int .i64 0, .int .i64 0, .slice none 0 0] 24)) HB.out; have b2 := Ao (bnew (w := (w.alloc (.cells #[.int .i64 (W : Int), .int .i64 (H : Int), .slice A l.length c] 24)).alloc (.cells #[.int .i64 0, .int .i64 0, .int .i64 (W : Int), .int .i64 (H : Int)] 86)) (.cells #[.int .i64 0, .int .i64 0, .slice none 0 0] 24) (by simp : _ = w.heap.size + 2)) HB.out; have hB1 : Below w.heap.size w w1 := (Ah (Ah (Ah (Below.refl _ _) _) _) _).trans (HB.out.mono (by simp; omega)); have B0 := Ae.mk b0; have B1 := Ae.mk b1; have B2 := Ae.mk b2; have HB1 := Ae.mk hB1; have p0 : w1.cell? ⟨w.heap.size, 0, none⟩ = some (.int .i64 (W : Int)) := (Af b0 0).trans rfl; have p1 : w1.cell? ⟨w.heap.size, 1, none⟩ = some (.int .i64 (H : Int)) := (Af b0 1).trans rfl; have p2 : w1.cell? ⟨w.heap.size, 2, none⟩ = some (.slice A l.length c) := (Af b0 2).trans rfl; have q0 : w1.cell? ⟨w.heap.size + 1, 0, none⟩ = some (.int .i64 0) := (Af b1 0).trans rfl; have q1 : w1.cell? ⟨w.heap.size + 1, 1, none⟩ = some (.int .i64 0) := (Af b1 1).trans rfl; have q2 : w1.cell? ⟨w.heap.size + 1, 2, none⟩ = some (.int .i64 (W : Int)) := (Af b1 2).trans rfl; have q3 : w1.cell? ⟨w.heap.size + 1, 3, none⟩ = some (.int .i64 (H : Int)) := (Af b1 3).trans rfl; clear b0 b1 b2 hB1 HB
  go_upto_region 7 with (go_at_call 77; refine (of_calls _ _ _ _ _ _).mono ?_; rintro e w2 ⟨rfl, rfl⟩)
  obtain ⟨g, hg⟩ : ∃ g, g = w1.heap.size := ⟨_, rfl⟩; rw [← hg]; obtain ⟨w2, hw2⟩ : ∃ y, y = (w1.alloc (.cells #[.int .i64 (W : Int), .int .i64 (H : Int), .slice A l.length c] 24)).alloc (.cells #[.func (.func 89) #[] #[.pointer (some ⟨g, 0, none⟩)]] 114) := ⟨_, rfl⟩
  try rw [← hw2]
  have bx : w2.heap[g]? = some (.cells #[.int .i64 (W : Int), .int .i64 (H : Int), .slice A l.length c] 24 (0, 0)) := by rw [hw2]; exact An (bnew _ hg.symm) _
  have bt : w2.heap[g + 1]? = some (.cells #[.func (.func 89) #[] #[.pointer (some ⟨g, 0, none⟩)]] 114 (0, 0)) := by rw [hw2]; exact bnew _ (by simp; omega)
  have b1' : w2.heap[w.heap.size + 1]? = some (.cells #[.int .i64 0, .int .i64 0, .int .i64 (W : Int), .int .i64 (H : Int)] 86 (0, 0)) := by rw [hw2]; exact An (An B1.out _) _
  have b2' : w2.heap[w.heap.size + 2]? = some (.cells #[.int .i64 0, .int .i64 0, .slice none 0 0] 24 (0, 0)) := by rw [hw2]; exact An (An B2.out _) _
  have hB2 : Below w.heap.size w w2 := by rw [hw2]; exact Ah (Ah HB1.out _) _
  have BX := Ae.mk bx; have BT := Ae.mk bt; have B1' := Ae.mk b1'; have B2' := Ae.mk b2'; have HB2 := Ae.mk hB2; clear p0 p1 p2 q0 q1 q2 q3 hw2 bx bt b2' hB2 B0 B1 B2 HB1 hg; have q0 : w2.cell? ⟨w.heap.size + 1, 0, none⟩ = some (.int .i64 0) := (Af b1' 0).trans rfl; have q1 : w2.cell? ⟨w.heap.size + 1, 1, none⟩ = some (.int .i64 0) := (Af b1' 1).trans rfl; have q2 : w2.cell? ⟨w.heap.size + 1, 2, none⟩ = some (.int .i64 (W : Int)) := (Af b1' 2).trans rfl; have q3 : w2.cell? ⟨w.heap.size + 1, 3, none⟩ = some (.int .i64 (H : Int)) := (Af b1' 3).trans rfl; clear b1'
  have hcl : ∀ W0 : World, Below w2.heap.size w2 W0 → ∀ x y : Nat, x < W → y < H → Calls Try.prog 78 #[.int .i64 x, .int .i64 y, .pointer (some ⟨g + 1, 0, none⟩), .pointer (some ⟨w.heap.size + 1, 0, none⟩)] W0 fun e w' => e = .returned (.int .u32 (l.getD (y * W + x) 0)) ∧ W0 = w' := by
    intro W0 hb x y hx hy; have z0 : W0.cell? ⟨g, 0, none⟩ = some (.int .i64 (W : Int)) := (Af (Ao BX.out hb) 0).trans rfl; have z2 : W0.cell? ⟨g, 2, none⟩ = some (.slice A l.length c) := (Af (Ao BX.out hb) 2).trans rfl; have zt : W0.cell? ⟨g + 1, 0, none⟩ = some (.func (.func 89) #[] #[.pointer (some ⟨g, 0, none⟩)]) := (Af (Ao BT.out hb) 0).trans rfl; have y0 : W0.cell? ⟨w.heap.size + 1, 0, none⟩ = some (.int .i64 0) := (Af (Ao B1'.out hb) 0).trans rfl; have y1 : W0.cell? ⟨w.heap.size + 1, 1, none⟩ = some (.int .i64 0) := (Af (Ao B1'.out hb) 1).trans rfl; exact crop1 g (w.heap.size + 1) (g + 1) W H hW hH x y hx hy A c l HLen.out W0 z0 z2 (Kd.Bw (Kd.Bw HC.out HB2.out) hb) zt y0 y1
  have HCL := Ae.mk hcl; clear hcl
  go_wp2_with (go_at_call 79; refine (made W H hW hH ⟨g + 1, 0, none⟩ ⟨w.heap.size + 1, 0, none⟩ (fun i => l.getD i 0) w2 HCL.out).mono ?_; rintro e w3 ⟨v, rfl, hown, hb⟩; rw [← HLen.out, range_getD] at hown; obtain ⟨Av, cv, ev⟩ := Dz hown; subst ev; have HO := Ae.mk hown; have HB3 := Ae.mk hb; have b3 := Ao B2'.out hb; have B3 := Ae.mk b3; have m0 : w3.cell? ⟨w.heap.size + 2, 0, none⟩ = some (.int .i64 0) := (Af b3 0).trans rfl; have m1 : w3.cell? ⟨w.heap.size + 2, 1, none⟩ = some (.int .i64 0) := (Af b3 1).trans rfl; have m2 : w3.cell? ⟨w.heap.size + 2, 2, none⟩ = some (.slice none 0 0) := (Af b3 2).trans rfl; have f0 := Ag b3 0; have f1 := Ag b3 1; have f2 := Ag b3 2; clear b3 hown hb)
  refine bodyPost_ret (results_ct rfl _ _ (w.heap.size + 2) 24 #[.int .i64 (W : Int), .int .i64 (H : Int), .slice Av l.length cv] (0, 0) _ rfl (Az (Az (Az B3.out 0 _ rfl) 1 _ rfl) 2 _ rfl) hu24 rfl (by kernel_rfl)) rfl ?_; have hsz : w.heap.size ≤ w2.heap.size := HB2.out.size; have hlt2 := Ba B2'.out; have hR : (Kd.int .u32).R 28 w3 w2.heap.size (fun k => w2.heap.size ≤ k) (.slice Av l.length cv) l := Kd.Dq (enc := Value.int .u32) (by simpa [encs] using HO.out) (fun k hk => C6 HO.out k hk); refine ⟨_, rfl, ?_, ((HB2.out.trans (HB3.out.mono hsz)).setCell (show w.heap.size ≤ w.heap.size + 2 by omega) _ |>.setCell (show w.heap.size ≤ w.heap.size + 2 by omega) _).setCell (show w.heap.size ≤ w.heap.size + 2 by omega) _⟩; exact Kd.Bt (Kd.Bn (Kd.Bn (Kd.Bn (Kd.B9 hR hsz) (p := ⟨w.heap.size + 2, 0, none⟩) (fun k hk e => by have e2 : k = w.heap.size + 2 := e; omega) _) (p := ⟨w.heap.size + 2, 1, none⟩) (fun k hk e => by have e2 : k = w.heap.size + 2 := e; omega) _) (p := ⟨w.heap.size + 2, 2, none⟩) (fun k hk e => by have e2 : k = w.heap.size + 2 := e; omega) _) (fun _ _ => trivial)
end Go.Proofs.Ytbfimplajocmmaa.CR
end
section
open Go Go.RowKit Go.Shelf Go.Proofs.YtbfimplajocmmaaW.PrintWords Go.Proofs.YtbfimplajocmmaaW.PrintLast Go.Proofs.YtbfimplajocmmaaW.PrintMore
attribute [local go_sem] Oper.semAt_some
set_option linter.unusedVariables false
set_option linter.unusedSimpArgs false
namespace Go.Proofs.Ytbfimplajocmmaa
open PFA FM
def paintL (s : Int) (is : List Nat) (l : List Int) : List Int := is.foldl (fun a i => a.set i s) l
theorem paintL_len (s : Int) : ∀ (is : List Nat) (l : List Int), (paintL s is l).length = l.length
  | [], l => rfl
  | i :: t, l => by rw [paintL, List.foldl_cons]; exact (paintL_len s t (l.set i s)).trans (by simp)
theorem paintL_snoc (s : Int) (is : List Nat) (i : Nat) (l : List Int) : paintL s (is ++ [i]) l = (paintL s is l).set i s := by simp [paintL]
def Dk.f (a0 a1 : Int) (l : List Int) (m0 m1 : Int) (ml : List Bool) (s : Int) : Option (Int × Int × List Int × Int) :=
  (Cw.f a0 a1 l).bind fun e => if e = 0 then (Cp.f m0 m1 ml).bind fun e2 => if e2 = 0 then
    (if a0 = m0 ∧ a1 = m1 then (if 1 ≤ a0 ∧ a0 ≤ 1024 ∧ 1 ≤ a1 ∧ a1 ≤ 1024 ∧ l.length = a0.toNat * a1.toNat ∧ ml.length = l.length then some (a0, a1, paintL s (trues ml ml.length) l, 0) else none) else some (0, 0, [], 306)) else some (0, 0, [], e2) else some (0, 0, [], e)
structure PBW (B G : Nat) (W0 : World) (s : Int) (mask : Array Value) (a0 a1 : Int) (v : Value) (cur : List Int) (W : World) : Prop where
  sb : W.heap[B + 2]? = some (.cells #[.int .u32 s] 28 (0, 0))
  rb : W.heap[B + 3]? = some (.cells #[.int .i64 0, .int .i64 0, .slice none 0 0] 24 (0, 0))
  qb : W.heap[G]? = some (.cells #[.int .i64 a0, .int .i64 a1, v] 24 (0, 0))
  mb : W.heap[G + 1]? = some (.cells mask 27 (0, 0))
  o : (Kd.int .u32).R 28 W B (fun k => B + 4 ≤ k ∧ k < G) v cur
  below : Below B W0 W
  le : B + 4 ≤ G
theorem PBW.lt {B G : Nat} {W0 W : World} {s a0 a1 : Int} {mask : Array Value} {v : Value} {cur : List Int} (H : PBW B G W0 s mask a0 a1 v cur W) : G + 1 < W.heap.size := Ba H.mb
theorem PBW.kept {B C G : Nat} {W0 W W' : World} {s a0 a1 : Int} {mask : Array Value} {v : Value} {cur : List Int} {row : Option Nat} (H : PBW B G W0 s mask a0 a1 v cur W) (hBC : B ≤ C) (hg : W.grownBy W' row) (hr : ∀ r, row = some r → C ≤ r ∧ ∃ o : Obj, W.heap[r]? = some o ∧ o.isCells = false) : PBW B G W0 s mask a0 a1 v cur W' := by
  have hr2 : ∀ r, row = some r → ∃ o : Obj, W.heap[r]? = some o ∧ o.isCells = false := fun r e => (hr r e).2
  exact ⟨Cs H.sb hg hr2, Cs H.rb hg hr2, Cs H.qb hg hr2, Cs H.mb hg hr2, R_kept H.o hg hr2, H.below.grown hg (by have := H.lt; have := H.le; omega) (fun k e => Nat.le_trans hBC (hr k e).1), H.le⟩
theorem PBW.put {B G S cap n : Nat} {W0 W : World} {s a0 a1 : Int} {mask : Array Value} {cur : List Int} (hl : cur.length = n) (H : PBW B G W0 s mask a0 a1 (.slice (some ⟨S, 0, none⟩) n cap) cur W) (i : Nat) (x : Int) : PBW B G W0 s mask a0 a1 (.slice (some ⟨S, 0, none⟩) n cap) (cur.set i x) (W.setCell ⟨S, i, none⟩ (.int .u32 x)) := by
  subst hl; have hS := H.o.1 S rfl; have h1 := H.le; refine ⟨Be H.sb (show B + 2 ≠ S by omega) _, Be H.rb (show B + 3 ≠ S by omega) _, Be H.qb (show G ≠ S by omega) _, Be H.mb (show G + 1 ≠ S by omega) _, ?_, H.below.setCell (show B ≤ S by omega) _, h1⟩; have := (Kd.R_put H.o (i : Int) x).1; rw [Int.toNat_natCast] at this; exact this
theorem PBW.cell {B G S cap n : Nat} {W0 W : World} {s a0 a1 : Int} {mask : Array Value} {cur : List Int} (hl : cur.length = n) (H : PBW B G W0 s mask a0 a1 (.slice (some ⟨S, 0, none⟩) n cap) cur W) (i : Nat) (hi : i < cur.length) : W.cell? ⟨S, i, none⟩ = some (.int .u32 (cur.getD i 0)) ∧ W.frozen? ⟨S, i, none⟩ = false := by
  subst hl; have h := Kd.R_cell (enc := Value.int .u32) 0 H.o (i : Int) (by omega) (by omega); rw [Int.toNat_natCast] at h; refine ⟨h.1.trans ?_, h.2⟩; unfold rdOf; rw [Int.toNat_natCast]
end Go.Proofs.Ytbfimplajocmmaa
end
