import Derived.Test.YtbfimplajocmmaaProg
import Derived.Test.YtbfimplajocmmaaYUP
import Derived.WalkKit
import Derived.KernelRfl
import Derived.Deep.RegionHeld3
import Derived.Deep.RegionLaw
import Derived.Deep.DrawnRows
import Derived.Deep.AppendLies
import Derived.Deep.LoopGhost
import Derived.Deep.QuietTactic
import Derived.BigQuiet
import Derived.Lib.Hide
import Derived.Deep.DeepCutAuto
import Derived.WalkLawsBesides
import Derived.WalkSpells
open Go Go.RowKit Go.Proofs.YtbfimplajocmmaaW.PrintWords Go.Proofs.YtbfimplajocmmaaW.PrintLast
attribute [local go_sem ↓] Go.wp_at_zero Go.wp_at_succ
set_option linter.unusedVariables false
set_option linter.unusedSimpArgs false
namespace Go.Proofs.Ytbfimplajocmmaa.H

theorem info76 : (Try.prog.info? 28).map (fun i => (i.zero, i.size, i.bytes)) = some (some (.int .u32 0), 1, 4) := by kernel_rfl

theorem new1 (a : Addr) (s x y : Int) (w : World) (hc : w.cell? a = some (.int .u32 s)) :
  Calls Try.prog 90 #[.int .i64 x, .int .i64 y, .pointer (some a)] w fun e w' => e = .returned (.int .u32 s) ∧ w = w' := by
 go_enter Try.func90, Try.ntmps90
 go_wp2
 go_ret
 simp


theorem wrapMul (W H : Nat) (hW : W ≤ 1024) (hH : H ≤ 1024) : IntKind.i64.wrap ((W : Int) * (H : Int)) = ((W * H : Nat) : Int) := by
 have h : W * H ≤ 1024 * 1024 := Nat.mul_le_mul hW hH; rw [← Int.natCast_mul, IntKind.wrap_i64]
 omega

theorem bnew {w : World} {g : Nat} (o : Obj) (hg : w.heap.size = g) : (w.alloc o).heap[g]? = some o := by subst hg; exact heap_alloc_new w o
theorem omade0 {W : World} {base e cap g : Nat} (cur : Array Value) (hg : W.heap.size = g) (hb : base ≤ W.heap.size) (hm : cap ≤ maxLen) (hs : cur.size = cap) :
  (W.alloc (.cells cur e)).ownsRow base e 1 (.slice (some ⟨g, 0, none⟩) 0 cap) 0 [] := by
 subst hg; exact World.ownsRow_made W cur cap hb hm (by omega)
theorem one_new {W : World} {g t : Nat} {v : Value} (hg : W.heap.size = g) : ∀ j u, ([v] : List Value)[j]? = some u → (W.alloc (.cells #[v] t)).cell? ((⟨g, 0, none⟩ : Addr).add j) = some u := by
 intro j u hu
 match j, hu with
 | 0, hu => rw [add_plain, Ad (bnew _ hg)]; simpa using hu
 | j + 1, hu => simp at hu

def St (B g : Nat) (W H : Nat) (a : Addr) (s : Int) (w : World) (n : Nat) (wr : World) : Prop :=
 ∃ v, wr.heap[B]? = some (.cells #[.int .i64 W, .int .i64 H, .func (.func 90) #[] #[.pointer (some a)]] 117 (0, 0)) ∧
  wr.heap[B + 1]? = some (.cells #[.int .i64 0, .int .i64 0, .slice none 0 0] 24 (0, 0)) ∧
  wr.heap[g]? = some (.cells #[.int .i64 W, .int .i64 H, v] 24 (0, 0)) ∧ B + 2 ≤ g ∧
  wr.ownsRow B 28 1 v n (List.replicate n (.int .u32 s)) ∧ Below B w wr

theorem idx_lt {W H y x : Nat} (hy : y < H) (hx : x < W) : y * W + x < W * H := by
 have h1 : (y + 1) * W ≤ H * W := Nat.mul_le_mul_right W hy; have h2 : (y + 1) * W = y * W + W := Nat.succ_mul y W; rw [Nat.mul_comm W H]
 omega

set_option maxHeartbeats 2000000 in
set_option maxRecDepth 100000 in
theorem made (W H : Nat) (hW : W ≤ 1024) (hH : H ≤ 1024) (a : Addr) (s : Int) (w : World) (hc : w.cell? a = some (.int .u32 s)) :
  Calls Try.prog 79 #[.agg #[.int .i64 W, .int .i64 H, .func (.func 90) #[] #[.pointer (some a)]]] w fun e w' =>
   ∃ v, e = .returned (.agg #[.int .i64 W, .int .i64 H, v]) ∧ w'.ownsRow w.heap.size 28 1 v (W * H) (List.replicate (W * H) (.int .u32 s)) ∧ Below w.heap.size w w' := by
 have ea := World.new_ne w a hc; have ha := World.block_lt_of_cell? w a hc; obtain ⟨i0, hi, hz0, hz1, hz2⟩ := info_parts info76; obtain ⟨N, hN⟩ : ∃ N, N = W * H := ⟨_, rfl⟩; have hNb : N ≤ 1048576 := by rw [hN]; exact Nat.mul_le_mul hW hH
 have hwr : IntKind.i64.wrap ((W : Int) * (H : Int)) = (N : Int) := by rw [wrapMul W H hW hH, hN]
 rw [← hN]; have HN := Lib.hid hN; clear hN
 have hmk : ∀ W0 : World, (Instr.makeSlice 22 (.int .i64 0) (.int .i64 (N : Int))).run Try.prog W0 = .ok (.slice (some ⟨W0.heap.size, 0, none⟩) 0 N) (W0.alloc (.cells (madeCells (Value.cells (.int .u32 0)) N) 28)) := by
  intro W0; have h := run_make (P := Try.prog) W0 22 28 i0 _ Try.underlying22 hi hz0 .i64 .i64 0 (N : Int) (by omega) (by omega) (by rw [hz2]; omega) (by omega); rw [hz1, Nat.mul_one] at h
  simpa using h
 go_enter Try.func79, Try.ntmps79
 go_upto_region 1 with fail
 go_cut [3] (fun s3 wx => ∃ g, s3 = .pointer (some ⟨g, 0, none⟩) ∧ St w.heap.size g W H a s w 0 wx)
 case first =>
  go_region_held3 (fun w' => w'.cell? ⟨w.heap.size, 0, none⟩ = some (.int .i64 W) ∧ w'.cell? ⟨w.heap.size, 1, none⟩ = some (.int .i64 H)) (go_keep) (fail)
  all_goals (go_wp2_with fail; go_meet)
  ·refine ⟨_, rfl, _, Ar (Aj (Aj (Aj (bnew _ rfl) _) _) _), Ar (Aj (Aj (bnew _ (by simp)) _) _), Ar (bnew _ (by simp)), by omega, own_drew (Dn (omade0 _ (by simp) (by simp; omega) (by unfold maxLen; omega) (by simp [madeCells])) _), ?_⟩
   exact below_drew (Ah (Ah (Ah (Ah (Below.refl _ _) _) _) _) _)
  ·refine ⟨_, rfl, _, Ar (Aj (Aj (Aj (bnew _ rfl) _) _) _), Ar (Aj (Aj (bnew _ (by simp)) _) _), Ar (Aj (bnew _ (by simp)) _), by omega, own_drew (omade0 _ (by simp) (by simp; omega) (by unfold maxLen; omega) (by simp [madeCells])), ?_⟩
   exact below_drew (Ah (Ah (Ah (Ah (Below.refl _ _) _) _) _) _)
 case rest =>
  obtain ⟨g, rfl, hst⟩ := hcut; clear hmk hwr; have HS := Lib.hid hst; have c1 : wc.cell? ⟨w.heap.size, 1, none⟩ = some (.int .i64 H) := by obtain ⟨v, h0, _⟩ := hst; exact (Ad h0 1).trans rfl
  clear hst
  go_wp2
  go_loopw [19] (fun v19 wr => ∃ y : Nat, y ≤ H ∧ v19 = .int .i64 y ∧ St w.heap.size g W H a s w (y * W) wr) (fun v19 _ => H - (intOf v19).toNat)
  case atStart => exact ⟨0, Nat.zero_le _, rfl, by rw [Nat.zero_mul]; exact HS.out⟩
  case round =>
   obtain ⟨y, hy, rfl, hst⟩ := hrel; clear HS c1; have HS := Lib.hid hst; clear hst
   by_cases hlt : y < H
   ·have c0 : wr.cell? ⟨w.heap.size, 0, none⟩ = some (.int .i64 W) := by obtain ⟨v, h0, _⟩ := HS.out; exact (Ad h0 0).trans rfl
    go_wp2
    clear c0; obtain ⟨wo, hwo⟩ : ∃ wo : World, wo = wr := ⟨_, rfl⟩; subst hwo
    go_loopw [24] (fun v24 wr => ∃ x : Nat, x ≤ W ∧ v24 = .int .i64 x ∧ St w.heap.size g W H a s w (y * W + x) wr) (fun v24 _ => W - (intOf v24).toNat)
    case atStart => exact ⟨0, Nat.zero_le _, rfl, HS.out⟩
    case round =>
     obtain ⟨x, hx, rfl, hst⟩ := hrel; clear HS
     by_cases hlx : x < W
     ·have hn : y * W + x < N := by rw [HN.out]; exact idx_lt hlt hlx
      obtain ⟨n, hne⟩ : ∃ n, n = y * W + x := ⟨_, rfl⟩; rw [← hne] at hst hn; have HE := Lib.hid hne; clear hne; obtain ⟨v, h0, h1, h2, hg, hown, hb⟩ := hst; have H0 := Lib.hid h0; have H1 := Lib.hid h1; have H2 := Lib.hid h2; have HO := Lib.hid hown; have HB := Lib.hid hb; have cv : wr.cell? ⟨g, 2, none⟩ = some v := (Ad h2 2).trans rfl; have cf : wr.cell? ⟨w.heap.size, 2, none⟩ = some (.func (.func 90) #[] #[.pointer (some a)]) := (Ad h0 2).trans rfl; have ca : wr.cell? a = some (.int .u32 s) := C8 hb hc; have fv : wr.frozen? ⟨g, 2, none⟩ = false := Af h2 2; have eg := World.new_ne wr ⟨g, 2, none⟩ cv; have eB := World.new_ne wr ⟨w.heap.size, 2, none⟩ cf; have eA := World.new_ne wr a ca; have hsz : w.heap.size ≤ wr.heap.size := hb.size; have FB : some w.heap.size ≠ v.ownBlock := own_ne hown h0 (by decide); have FB1 : some (w.heap.size + 1) ≠ v.ownBlock := own_ne hown h1 (by decide); have FG : some g ≠ v.ownBlock := own_ne hown h2 (by decide); have FA : some a.block ≠ v.ownBlock := fun e => by have := C9 hown _ e.symm; omega
      have FZ : g < (wr.alloc (.cells #[.int .u32 s] 28)).drew.heap.size := by have := Bh h2; simp; omega
      clear h0 h1 h2 hown hb
      go_upto_region 8 with fail
      have q0 : wr.drew.heap[w.heap.size]? = _ := H0.out; have q1 : wr.drew.heap[w.heap.size + 1]? = _ := H1.out; have q2 : wr.drew.heap[g]? = _ := H2.out; have qo : wr.drew.ownsRow w.heap.size 28 1 v n _ := HO.out; have qb : Below w.heap.size w wr.drew := below_drew HB.out; have Q0 := Lib.hid q0; have Q1 := Lib.hid q1; have Q2 := Lib.hid q2; have QO := Lib.hid qo; have QB := Lib.hid qb; clear q0 q1 q2 qo qb H0 H1 H2 HO HB; have ca' : wr.drew.cell? a = some (.int .u32 s) := ca; have hsz' : w.heap.size ≤ wr.drew.heap.size := hsz; refine start_ (n := 11) (S := fun w' => w'.cell? ⟨g, 2, none⟩ = some v ∧ w'.cell? ⟨w.heap.size, 2, none⟩ = some (.func (.func 90) #[] #[.pointer (some a)])) (ds := [10]) #[false, false, false, false, false, false, false, false, false, false, false] (by kernel_rfl) rfl rfl ⟨cv, cf⟩ (fun hHeld => ?_); clear cv cf ca fv eg eB eA hsz FZ; generalize wr.drew = w1 at Q0 Q1 Q2 QO QB ca' hsz' hHeld ⊢; refine pure_ (i := 0) (N := (some 27)) (v := ?_) (a' := ?_) #[true, false, false, false, false, false, false, false, false, false, false] rfl rfl (by kernel_rfl) (fun _ _ _ h => h) (Or.inl ⟨by rfl, ?_⟩) ?_ ?_; rotate_left
      ·intro w'
       go_simp
       with_reducible rfl
      rotate_left
      ·simp only [Act.put, List.setIfInBounds_toArray, List.set_cons_zero, List.set_cons_succ, i64_w, i32_w]
       rfl
      refine pure_ (i := 2) (N := (some 29)) (v := ?_) (a' := ?_) #[true, false, true, false, false, false, false, false, false, false, false] rfl rfl (by kernel_rfl) (fun _ _ _ h => h) (Or.inl ⟨by rfl, ?_⟩) ?_ ?_; rotate_left
      ·intro w'
       go_simp
       with_reducible rfl
      rotate_left
      ·simp only [Act.put, List.setIfInBounds_toArray, List.set_cons_zero, List.set_cons_succ, i64_w, i32_w]
       rfl
      refine pure_ (i := 4) (N := (some 31)) (v := ?_) (a' := ?_) #[true, false, true, false, true, false, false, false, false, false, false] rfl rfl (by kernel_rfl) (fun _ _ _ h => h) (Or.inl ⟨by rfl, ?_⟩) ?_ ?_; rotate_left
      ·intro w'
       go_simp
       with_reducible rfl
      rotate_left
      ·simp only [Act.put, List.setIfInBounds_toArray, List.set_cons_zero, List.set_cons_succ, i64_w, i32_w]
       rfl
      refine pure_ (i := 5) (N := (some 32)) (v := ?_) (a' := ?_) #[true, false, true, false, true, true, false, false, false, false, false] rfl rfl (by kernel_rfl) (fun _ _ _ h => h) (Or.inl ⟨by rfl, ?_⟩) ?_ ?_; rotate_left
      ·intro w'
       go_simp
       with_reducible rfl
      rotate_left
      ·simp only [Act.put, List.setIfInBounds_toArray, List.set_cons_zero, List.set_cons_succ, i64_w, i32_w]
       rfl
      refine take_ (i := 1) (N := (some 28)) (v := ?_) (a' := ?_) #[true, true, true, false, true, true, false, false, false, false, false] rfl rfl (by kernel_rfl) (fun _ _ _ h => h) (Or.inl ⟨by rfl, ?_⟩) hHeld ?_ ?_; rotate_left
      ·rintro w' ⟨s0, s1⟩
       go_simp
       with_reducible rfl
      rotate_left
      ·simp only [Act.put, List.setIfInBounds_toArray, List.set_cons_zero, List.set_cons_succ, i64_w, i32_w]
       rfl
      refine take_ (i := 3) (N := (some 30)) (v := ?_) (a' := ?_) #[true, true, true, true, true, true, false, false, false, false, false] rfl rfl (by kernel_rfl) (fun _ _ _ h => h) (Or.inl ⟨by rfl, ?_⟩) hHeld ?_ ?_; rotate_left
      ·rintro w' ⟨s0, s1⟩
       go_simp
       with_reducible rfl
      rotate_left
      ·simp only [Act.put, List.setIfInBounds_toArray, List.set_cons_zero, List.set_cons_succ, i64_w, i32_w]
       rfl
      refine one_ (i := 6) (N := (some 33)) #[true, true, true, true, true, true, true, false, false, false, false] rfl rfl (by kernel_rfl) (by decide) (fun K hK => ?_); refine call_ 90 #[.int .i64 x, .int .i64 y, .pointer (some a)] (by rfl) rfl (by go_simp) ?_; refine (new1 a s x y w1 ca').mono ?_; rintro e w' ⟨rfl, rfl⟩; refine ⟨_, rfl, ?_⟩; refine hK.out _ _ hHeld (fun hHeld => ?_); clear hK K; refine norm_ (a' := ?_) ?_ ?_; rotate_left
      ·simp only [Act.put, List.setIfInBounds_toArray, List.set_cons_zero, List.set_cons_succ]
       rfl
      refine one_ (i := 7) (N := (some 34)) #[true, true, true, true, true, true, true, true, false, false, false] rfl rfl (by kernel_rfl) (by decide) (fun K hK => ?_); refine value_ (v := .slice (some ⟨w1.heap.size, 0, none⟩) 1 1) (w1 := w1.alloc (.cells #[.int .u32 s] 28)) (by rfl) rfl (by go_simp) ?_; refine hK.out _ _ ⟨(Ad (Aj Q2.out _) 2).trans rfl, (Ad (Aj Q0.out _) 2).trans rfl⟩ (fun hHeld => ?_); clear hK K; refine norm_ (a' := ?_) ?_ ?_; rotate_left
      ·simp only [Act.put, List.setIfInBounds_toArray, List.set_cons_zero, List.set_cons_succ]
       rfl
      refine one_ (i := 8) (N := (some 35)) #[true, true, true, true, true, true, true, true, true, false, false] rfl rfl (by kernel_rfl) (by decide) (fun K hK => ?_); refine step_append_lies _ (by rfl) _ _ _ (by rfl) w.heap.size 28 i0 (.int .u32 0) 1 4 Try.underlying22 hi hz0 hz1 hz2 rfl (by omega) v n _ (by rfl) (Dn QO.out _) ⟨w1.heap.size, 0, none⟩ 1 1 [.int .u32 s] (by rfl) rfl (one_new rfl) (by intro u hu; simp at hu; subst hu; rfl) (by omega) (by unfold maxLen; omega) (by omega) (by simp; omega) (w1.heap.size + 1) (by simp) ?_; intro g2 cap w2 hown1 hgrow hat hlt1; have r0 := B3 (Aj Q0.out _) hgrow FB; have r1 := B3 (Aj Q1.out _) hgrow FB1; have r2 := B3 (Aj Q2.out _) hgrow FG; have rb := Below.grown (Ah QB.out _) hgrow (by simp; omega) (fun k e => C9 QO.out k e); refine hK.out _ _ ⟨(Ad r2 2).trans rfl, (Ad r0 2).trans rfl⟩ (fun hHeld => ?_); clear hK K; refine norm_ (a' := ?_) ?_ ?_; rotate_left
      ·simp only [Act.put, List.setIfInBounds_toArray, List.set_cons_zero, List.set_cons_succ]
       rfl
      refine pure_ (i := 9) (N := (some 36)) (v := ?_) (a' := ?_) #[true, true, true, true, true, true, true, true, true, true, false] rfl rfl (by kernel_rfl) (fun _ _ _ h => h) (Or.inl ⟨by rfl, ?_⟩) ?_ ?_; rotate_left
      ·intro w'
       go_simp
       with_reducible rfl
      rotate_left
      ·simp only [Act.put, List.setIfInBounds_toArray, List.set_cons_zero, List.set_cons_succ, i64_w, i32_w]
       rfl
      refine last_ (i := 10) (N := none) #[true, true, true, true, true, true, true, true, true, true, true] rfl rfl (by kernel_rfl) (by decide) (fun K hK => ?_); have cv := (Ad r2 2).trans rfl; have fv := Af r2 2; refine skip_ (w1 := ?_) (by rfl) rfl ?_ ?_; rotate_left
      ·go_simp
       rfl
      refine hK.out _ _ ?_; clear hK K; refine done_ (by kernel_rfl) ?_
      go_wp2
      go_roundw
      case rel =>
       refine ⟨x + 1, by omega, by go_num, .slice (some ⟨g2, 0, none⟩) (n + 1) cap, Bd r0 (show w.heap.size ≠ g by omega) _, Bd r1 (show w.heap.size + 1 ≠ g by omega) _, Ax r2 2 _ rfl, hg, ?_, Ag rb (by omega)⟩; rw [show y * W + (x + 1) = n + 1 from by rw [HE.out]; omega, List.replicate_succ']; exact C4 hown1 (own_ne hown1 r2 (by decide)) _
      case measure => simp [intOf]; omega
     ·obtain rfl : x = W := by omega
      have HS := Lib.hid hst; clear hst
      go_wp2
      go_roundw
      case rel =>
       refine ⟨y + 1, by omega, by go_num, ?_⟩; rw [Nat.succ_mul]; exact HS.out
      case measure => simp [intOf]; omega
   ·obtain rfl : y = H := by omega
    obtain ⟨v, h0, h1, h2, hg, hown, hb⟩ := HS.out; clear HS; have H0 := Lib.hid h0; have H1 := Lib.hid h1; have H2 := Lib.hid h2; have HO := Lib.hid hown; have HB := Lib.hid hb; have k0 : wr.cell? ⟨g, 0, none⟩ = some (.int .i64 W) := (Ad h2 0).trans rfl; have k1 : wr.cell? ⟨g, 1, none⟩ = some (.int .i64 y) := (Ad h2 1).trans rfl; have k2 : wr.cell? ⟨g, 2, none⟩ = some v := (Ad h2 2).trans rfl; have m0 : wr.cell? ⟨w.heap.size + 1, 0, none⟩ = some (.int .i64 0) := (Ad h1 0).trans rfl; have m1 : wr.cell? ⟨w.heap.size + 1, 1, none⟩ = some (.int .i64 0) := (Ad h1 1).trans rfl; have m2 : wr.cell? ⟨w.heap.size + 1, 2, none⟩ = some (.slice none 0 0) := (Ad h1 2).trans rfl; have f0 := Af h1 0; have f1 := Af h1 1; have f2 := Af h1 2; clear h0 h1 h2 hown hb; obtain ⟨A, c, rfl⟩ := own_slice HO.out
    go_wp2
    refine bodyPost_ret (results_cell_row rfl _ _ (w.heap.size + 1) 24 #[.int .i64 W, .int .i64 y, .slice A (y * W) c] (0, 0) _ rfl ?_ Try.underlying24 rfl (by kernel_rfl)) rfl ?_
    ·exact Ax (Ax (Ax H1.out 0 _ rfl) 1 _ rfl) 2 _ rfl
    ·refine ⟨_, rfl, ?_, Ag (Ag (Ag HB.out (by omega)) (by omega)) (by omega)⟩
     rw [show N = y * W from by rw [HN.out, Nat.mul_comm]]; have hne : some (w.heap.size + 1) ≠ (Value.slice A (y * W) c).ownBlock := own_ne HO.out H1.out (by decide); exact C4 (C4 (C4 HO.out (p := ⟨w.heap.size + 1, 0, none⟩) hne _) (p := ⟨w.heap.size + 1, 1, none⟩) hne _) (p := ⟨w.heap.size + 1, 2, none⟩) hne _

end Go.Proofs.Ytbfimplajocmmaa.H
namespace Go.Proofs.Ytbfimplajocmmaa
open H
def plane_New.f (a0 a1 a2 : Int) : Option (Int × Int × List Int × Int) :=
 if 1 ≤ a0 ∧ 1 ≤ a1 ∧ a0 ≤ 1024 ∧ a1 ≤ 1024 ∧ a0 * a1 ≤ 65536 then some (a0, a1, List.replicate (a0 * a1).toNat a2, 0) else some (0, 0, [], 50)

theorem size_no (W H : Int) (w : World) (h : ¬ (1 ≤ W ∧ 1 ≤ H ∧ W ≤ 1024 ∧ H ≤ 1024 ∧ W * H ≤ 65536)) :
  Calls Try.prog 74 #[.int .i64 W, .int .i64 H] w fun e w' => e = .returned (.bool false) ∧ w = w' := by
 by_cases h1 : 1 ≤ W
 ·by_cases h2 : 1 ≤ H
  ·by_cases h3 : W ≤ 1024
   ·by_cases h4 : H ≤ 1024
    ·have hb : W * H ≤ 1024 * 1024 := Int.mul_le_mul h3 h4 (by omega) (by omega)
     have hp : 0 ≤ W * H := Int.mul_nonneg (by omega) (by omega); have hw : IntKind.i64.wrap (W * H) = W * H := by rw [IntKind.wrap_i64]; omega
     have hd : decide (W * H ≤ 65536) = false := decide_eq_false (fun q => h ⟨h1, h2, h3, h4, q⟩); clear h; go_enter Try.func74, Try.ntmps74
     go_wp2
     go_ret
     exact ⟨by simp [hd], rfl⟩
    all_goals (clear h; go_enter Try.func74, Try.ntmps74; go_wp2; go_ret; exact ⟨by simp, rfl⟩)
   all_goals (clear h; go_enter Try.func74, Try.ntmps74; go_wp2; go_ret; exact ⟨by simp, rfl⟩)
  all_goals (clear h; go_enter Try.func74, Try.ntmps74; go_wp2; go_ret; exact ⟨by simp, rfl⟩)
 all_goals (clear h; go_enter Try.func74, Try.ntmps74; go_wp2; go_ret; exact ⟨by simp, rfl⟩)
theorem size_yes (W H : Int) (w : World) (h : 1 ≤ W ∧ 1 ≤ H ∧ W ≤ 1024 ∧ H ≤ 1024 ∧ W * H ≤ 65536) :
  Calls Try.prog 74 #[.int .i64 W, .int .i64 H] w fun e w' => e = .returned (.bool true) ∧ w = w' := by
 obtain ⟨h1, h2, h3, h4, h5⟩ := h; have hp : 0 ≤ W * H := Int.mul_nonneg (by omega) (by omega); have hw : IntKind.i64.wrap (W * H) = W * H := by rw [IntKind.wrap_i64]; omega
 have hd : decide (W * H ≤ 65536) = true := decide_eq_true h5; clear h5; go_enter Try.func74, Try.ntmps74
 go_wp2
 go_ret
 exact ⟨by simp [hd], rfl⟩

theorem plane_New.calls (a0 a1 a2 : Int) (r1 r2 : Int) (r3 : List Int) (r4 : Int) (w : World) (h : plane_New.f a0 a1 a2 = some (r1, r2, r3, r4)) :
  Calls Try.prog 82 #[.int .i64 a0, .int .i64 a1, .int .u32 a2] w fun e w' => ∃ v2_ : Value, e = .returned (.tuple #[.agg #[.int .i64 r1, .int .i64 r2, v2_], .int .i64 r4]) ∧ Kd.R (Kd.int .u32) 28 w' w.heap.size (fun _ => True) v2_ r3 ∧ Below w.heap.size w w' := by
 unfold plane_New.f at h
 by_cases hs : 1 ≤ a0 ∧ 1 ≤ a1 ∧ a0 ≤ 1024 ∧ a1 ≤ 1024 ∧ a0 * a1 ≤ 65536
 ·rw [if_pos hs] at h
  simp only [Option.some.injEq, Prod.mk.injEq] at h
  obtain ⟨rfl, rfl, rfl, rfl⟩ := h; have HS := Lib.hid hs; obtain ⟨W, rfl⟩ := Int.eq_ofNat_of_zero_le (show 0 ≤ a0 by omega); obtain ⟨H, rfl⟩ := Int.eq_ofNat_of_zero_le (show 0 ≤ a1 by omega); have hW : W ≤ 1024 := by omega
  have hH : H ≤ 1024 := by omega
  clear hs; go_enter Try.func82, Try.ntmps82
  go_wp2_with fail
  refine (size_yes _ _ _ HS.out).mono ?_; rintro e w1 ⟨rfl, rfl⟩
  go_wp2_with fail
  refine (made W H hW hH ⟨w.heap.size, 0, none⟩ a2 _ (by go_keep)).mono ?_; rintro e w1 ⟨v, rfl, hown, hb⟩; have b1 : w1.heap[w.heap.size + 1]? = some (.cells #[.int .i64 0, .int .i64 0, .slice none 0 0] 24 (0, 0)) := An (bnew _ (by simp)) hb; have hb0 : Below w.heap.size w w1 := below_then (Ah (Ah (Below.refl _ _) _) _) (by simp; omega) hb; obtain ⟨A, c, rfl⟩ := own_slice hown; have B1 := Lib.hid b1; have HO := Lib.hid hown; have HB := Lib.hid hb0; have m0 : w1.cell? ⟨w.heap.size + 1, 0, none⟩ = some (.int .i64 0) := (Ad b1 0).trans rfl; have m1 : w1.cell? ⟨w.heap.size + 1, 1, none⟩ = some (.int .i64 0) := (Ad b1 1).trans rfl; have m2 : w1.cell? ⟨w.heap.size + 1, 2, none⟩ = some (.slice none 0 0) := (Ad b1 2).trans rfl; have f0 := Af b1 0; have f1 := Af b1 1; have f2 := Af b1 2; clear b1 hown hb hb0
  go_wp2
  refine bodyPost_ret (results_ct rfl _ _ (w.heap.size + 1) 24 #[.int .i64 W, .int .i64 H, .slice A (W * H) c] (0, 0) _ rfl ?_ Try.underlying24 rfl (by kernel_rfl)) rfl ?_
  ·exact Ax (Ax (Ax B1.out 0 _ rfl) 1 _ rfl) 2 _ rfl
  ·have hne : some (w.heap.size + 1) ≠ (Value.slice A (W * H) c).ownBlock := own_ne HO.out B1.out (by decide)
   have ho := C4 (C4 (C4 (own_less HO.out (base := w.heap.size) (by simp; omega)) (p := ⟨w.heap.size + 1, 0, none⟩) hne (.int .i64 W)) (p := ⟨w.heap.size + 1, 1, none⟩) hne (.int .i64 H)) (p := ⟨w.heap.size + 1, 2, none⟩) hne (.slice A (W * H) c); refine ⟨_, rfl, Kd.Dt ?_ (fun _ _ => trivial), Ag (Ag (Ag HB.out (by omega)) (by omega)) (by omega)⟩; rw [show ((W : Int) * (H : Int)).toNat = W * H from by rw [← Int.natCast_mul]; rfl]
   simpa [encs] using ho
 ·rw [if_neg hs] at h
  simp only [Option.some.injEq, Prod.mk.injEq] at h
  obtain ⟨rfl, rfl, rfl, rfl⟩ := h; go_enter Try.func82, Try.ntmps82
  go_wp2_with fail
  refine (size_no _ _ _ hs).mono ?_; rintro e w1 ⟨rfl, rfl⟩
  go_wp2
  refine bodyPost_ret (results_ct rfl _ _ (w.heap.size + 1) 24 #[.int .i64 0, .int .i64 0, .slice none 0 0] (0, 0) _ rfl ?_ Try.underlying24 rfl (by kernel_rfl)) rfl ?_
  ·exact bnew _ (by simp)
  ·exact ⟨_, rfl, Kd.Ct _ _ _ _ _, Ah (Ah (Below.refl _ _) _) _⟩
end Go.Proofs.Ytbfimplajocmmaa


