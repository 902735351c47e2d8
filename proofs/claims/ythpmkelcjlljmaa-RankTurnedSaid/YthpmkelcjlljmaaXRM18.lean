import Derived.Test.YthpmkelcjlljmaaXRM9
open Go Go.RowKit
set_option linter.unusedVariables false
set_option linter.unusedSimpArgs false
namespace Go.Proofs.Ythpmkelcjlljmaa

theorem isrt_unique (l out : List Int) (hu : U32 l) (hp : out.Perm l) (hs : Up out) : out = isrt l := (srtI_unique l out hu hp hs).trans (isrt_eq l hu).symm
def u32 (s : Int) : Prop := 0 ≤ s ∧ s < 4294967296
theorem isrt_u32 (l : List Int) (hu : U32 l) : U32 (isrt l) := fun s hs => hu s ((isrt_perm l).mem_iff.mp hs)
theorem isrt_map (g : Int → Int) (l : List Int) (hu : U32 l) (hgu : ∀ s, u32 s → u32 (g s)) (hg : ∀ a b, u32 a → u32 b → leK a b = true → leK (g a) (g b) = true) : isrt (l.map g) = (isrt l).map g := by
  symm
  refine isrt_unique _ _ (fun s hs => ?_) ((isrt_perm l).map g) ?_
  · obtain ⟨x, hx, rfl⟩ := List.mem_map.mp hs
    exact hgu x (hu x hx)
  · refine List.pairwise_map.mpr ?_
    have h := isrt_up l
    have hm := isrt_u32 l hu
    generalize isrt l = m at h hm
    induction m with
    | nil => exact List.Pairwise.nil
    | cons a t ih =>
      have h2 := List.pairwise_cons.mp h
      refine List.pairwise_cons.mpr ⟨fun b hb => hg a b (hm a List.mem_cons_self) (hm b (List.mem_cons_of_mem _ hb)) (h2.1 b hb), ih h2.2 (fun s hs => hm s (List.mem_cons_of_mem _ hs))⟩
theorem isrt_turn (g : Int → Int) (l : List Int) (hu : U32 l) (hgu : ∀ s, u32 s → u32 (g s)) (hg : ∀ a b, u32 a → u32 b → leK a b = true → leK (g b) (g a) = true) : isrt (l.map g) = ((isrt l).map g).reverse := by
  symm
  refine isrt_unique _ _ (fun s hs => ?_) ((List.reverse_perm _).trans ((isrt_perm l).map g)) ?_
  · obtain ⟨x, hx, rfl⟩ := List.mem_map.mp hs
    exact hgu x (hu x hx)
  · refine List.pairwise_reverse.mpr (List.pairwise_map.mpr ?_)
    have h := isrt_up l
    have hm := isrt_u32 l hu
    generalize isrt l = m at h hm
    induction m with
    | nil => exact List.Pairwise.nil
    | cons a t ih =>
      have h2 := List.pairwise_cons.mp h
      refine List.pairwise_cons.mpr ⟨fun b hb => hg a b (hm a List.mem_cons_self) (hm b (List.mem_cons_of_mem _ hb)) (h2.1 b hb), ih h2.2 (fun s hs => hm s (List.mem_cons_of_mem _ hs))⟩
theorem getD_map (g : Int → Int) (l : List Int) (k : Nat) (hk : k < l.length) : (l.map g).getD k 0 = g (l.getD k 0) := by
  rw [List.getD_eq_getElem?_getD, List.getD_eq_getElem?_getD, List.getElem?_map, List.getElem?_eq_getElem hk]; rfl
theorem getD_rev (l : List Int) (k : Nat) (hk : k < l.length) : l.reverse.getD (l.length - 1 - k) 0 = l.getD k 0 := by
  rw [List.getD_eq_getElem?_getD, List.getD_eq_getElem?_getD, List.getElem?_reverse (by omega), show l.length - 1 - (l.length - 1 - k) = k by omega]
def rowI (bk : Int) (W : Nat) (y : Nat) (x0 : Int) : Nat → Nat → List Nat
  | 0, _ => []
  | m + 1, i => (y * W + bdr bk W (wrap64 (x0 + (i : Int)))) :: rowI bk W y x0 m (i + 1)
def allI (bk : Int) (W H : Nat) (x0 y0 : Int) (w : Nat) : Nat → Nat → List Nat
  | 0, _ => []
  | m + 1, j => rowI bk W (bdr bk H (wrap64 (y0 + (j : Int)))) x0 w 0 ++ allI bk W H x0 y0 w m (j + 1)
theorem rowL_I (bk : Int) (W : Nat) (l : List Int) (y : Nat) (x0 : Int) : ∀ m i, rowL bk W l y x0 m i = (rowI bk W y x0 m i).map (fun q => l.getD q 0)
  | 0, i => rfl
  | m + 1, i => by rw [rowL, rowI, List.map_cons, rowL_I bk W l y x0 m (i + 1)]
theorem allL_I (bk : Int) (W H : Nat) (l : List Int) (x0 y0 : Int) (w : Nat) : ∀ m j, allL bk W H l x0 y0 w m j = (allI bk W H x0 y0 w m j).map (fun q => l.getD q 0)
  | 0, j => rfl
  | m + 1, j => by rw [allL, allI, List.map_append, rowL_I, allL_I bk W H l x0 y0 w m (j + 1)]
theorem rowI_lt (bk : Int) (W H y : Nat) (x0 : Int) (hW : 1 ≤ W) (hy : y < H) : ∀ m i, ∀ q ∈ rowI bk W y x0 m i, q < W * H
  | 0, i, q, hq => by simp [rowI] at hq
  | m + 1, i, q, hq => by
    rw [rowI] at hq
    rcases List.mem_cons.mp hq with rfl | hq
    · exact idx_lt W H y _ hy (bdr_lt bk W _ hW)
    · exact rowI_lt bk W H y x0 hW hy m (i + 1) q hq
theorem allI_lt (bk : Int) (W H : Nat) (x0 y0 : Int) (w : Nat) (hW : 1 ≤ W) (hH : 1 ≤ H) : ∀ m j, ∀ q ∈ allI bk W H x0 y0 w m j, q < W * H
  | 0, j, q, hq => by simp [allI] at hq
  | m + 1, j, q, hq => by
    rw [allI] at hq
    rcases List.mem_append.mp hq with hq | hq
    · exact rowI_lt bk W H _ x0 hW (bdr_lt bk H _ hH) w 0 q hq
    · exact allI_lt bk W H x0 y0 w hW hH m (j + 1) q hq
def winI (bk : Int) (W H : Nat) (w h : Nat) (c r : Int) : List Nat := allI bk W H (wrap64 (c - ((w / 2 : Nat) : Int))) (wrap64 (r - ((h / 2 : Nat) : Int))) w h 0
theorem win_I (bk : Int) (W H : Nat) (l : List Int) (w h : Nat) (c r : Int) : win bk W H l w h c r = (winI bk W H w h c r).map (fun q => l.getD q 0) := allL_I _ _ _ _ _ _ _ _ _
theorem winI_length (bk : Int) (W H : Nat) (w h : Nat) (c r : Int) : (winI bk W H w h c r).length = w * h := by
  have h1 := allL_length bk W H [] (wrap64 (c - ((w / 2 : Nat) : Int))) (wrap64 (r - ((h / 2 : Nat) : Int))) w h 0
  rw [allL_I, List.length_map, Nat.mul_comm] at h1
  exact h1
theorem win_length (bk : Int) (W H : Nat) (l : List Int) (w h : Nat) (c r : Int) : (win bk W H l w h c r).length = w * h := by rw [win_I, List.length_map, winI_length]
theorem win_u32 (bk : Int) (W H : Nat) (l : List Int) (w h : Nat) (c r : Int) (hu : U32 l) : U32 (win bk W H l w h c r) := allL_u32 bk W H l _ _ w hu h 0
theorem win_map (bk : Int) (W H : Nat) (l : List Int) (w h : Nat) (c r : Int) (hW : 1 ≤ W) (hH : 1 ≤ H) (hl : l.length = W * H) (g : Int → Int) : win bk W H (l.map g) w h c r = (win bk W H l w h c r).map g := by
  rw [win_I, win_I, List.map_map]
  refine List.map_congr_left fun q hq => ?_
  exact getD_map g l q (by rw [hl]; exact allI_lt bk W H _ _ w hW hH h 0 q hq)
theorem atV_map (bk : Int) (W H : Nat) (l : List Int) (w h k : Nat) (c r : Int) (hW : 1 ≤ W) (hH : 1 ≤ H) (hl : l.length = W * H) (hu : U32 l) (hk : k < w * h) (g : Int → Int) (hgu : ∀ s, u32 s → u32 (g s)) (hg : ∀ a b, u32 a → u32 b → leK a b = true → leK (g a) (g b) = true) :
    atV bk W H (l.map g) w h k c r = g (atV bk W H l w h k c r) := by
  unfold atV
  rw [win_map bk W H l w h c r hW hH hl g, isrt_map g _ (win_u32 bk W H l w h c r hu) hgu hg, getD_map g _ k (by rw [isrt_length, win_length]; exact hk)]
theorem atV_turn (bk : Int) (W H : Nat) (l : List Int) (w h k : Nat) (c r : Int) (hW : 1 ≤ W) (hH : 1 ≤ H) (hl : l.length = W * H) (hu : U32 l) (hk : k < w * h) (g : Int → Int) (hgu : ∀ s, u32 s → u32 (g s)) (hg : ∀ a b, u32 a → u32 b → leK a b = true → leK (g b) (g a) = true) :
    atV bk W H (l.map g) w h (w * h - 1 - k) c r = g (atV bk W H l w h k c r) := by
  unfold atV
  have hlen : (isrt (win bk W H l w h c r)).length = w * h := by rw [isrt_length, win_length]
  rw [win_map bk W H l w h c r hW hH hl g, isrt_turn g _ (win_u32 bk W H l w h c r hu) hgu hg]
  have h1 := getD_rev ((isrt (win bk W H l w h c r)).map g) k (by rw [List.length_map, hlen]; exact hk)
  rw [List.length_map, hlen] at h1
  rw [h1, getD_map g _ k (by rw [hlen]; exact hk)]
theorem rowI_mem (bk : Int) (W : Nat) (y : Nat) (x0 : Int) (t : Nat) : ∀ m i, i ≤ t → t < i + m → y * W + bdr bk W (wrap64 (x0 + (t : Int))) ∈ rowI bk W y x0 m i
  | 0, i, h1, h2 => by omega
  | m + 1, i, h1, h2 => by
    rw [rowI]
    by_cases e : i = t
    · subst e; exact List.mem_cons_self
    · exact List.mem_cons_of_mem _ (rowI_mem bk W y x0 t m (i + 1) (by omega) (by omega))
theorem allI_mem (bk : Int) (W H : Nat) (x0 y0 : Int) (w : Nat) (t : Nat) (q : Nat) (hq : q ∈ rowI bk W (bdr bk H (wrap64 (y0 + (t : Int)))) x0 w 0) : ∀ m j, j ≤ t → t < j + m → q ∈ allI bk W H x0 y0 w m j
  | 0, j, h1, h2 => by omega
  | m + 1, j, h1, h2 => by
    rw [allI]
    by_cases e : j = t
    · subst e; exact List.mem_append_left _ hq
    · exact List.mem_append_right _ (allI_mem bk W H x0 y0 w t q hq m (j + 1) (by omega) (by omega))
theorem win_own (bk : Int) (W H : Nat) (l : List Int) (w h c r : Nat) (hW : W ≤ 1024) (hH : H ≤ 1024) (hc : c < W) (hr : r < H) (hw : 1 ≤ w) (hh : 1 ≤ h) (hw2 : w ≤ 15) (hh2 : h ≤ 15) : l.getD (r * W + c) 0 ∈ win bk W H l w h c r := by
  rw [win_I]
  refine List.mem_map.mpr ⟨r * W + c, ?_, rfl⟩
  have e1 : wrap64 (wrap64 ((c : Int) - ((w / 2 : Nat) : Int)) + ((w / 2 : Nat) : Int)) = (c : Int) := by rw [wd ((c : Int) - ((w / 2 : Nat) : Int)) (by omega) (by omega), wd _ (by omega) (by omega)]; omega
  have e2 : wrap64 (wrap64 ((r : Int) - ((h / 2 : Nat) : Int)) + ((h / 2 : Nat) : Int)) = (r : Int) := by rw [wd ((r : Int) - ((h / 2 : Nat) : Int)) (by omega) (by omega), wd _ (by omega) (by omega)]; omega
  have h1 := rowI_mem bk W r (wrap64 ((c : Int) - ((w / 2 : Nat) : Int))) (w / 2) w 0 (by omega) (by omega)
  rw [e1, bdr_id bk W c hc] at h1
  refine allI_mem bk W H _ _ w (h / 2) _ ?_ h 0 (by omega) (by omega)
  rw [e2, bdr_id bk H r hr]
  exact h1
theorem atV_one (bk : Int) (W H : Nat) (l : List Int) (c r : Nat) (hW : W ≤ 1024) (hH : H ≤ 1024) (hc : c < W) (hr : r < H) : atV bk W H l 1 1 0 c r = l.getD (r * W + c) 0 := by
  have h1 := win_own bk W H l 1 1 c r hW hH hc hr (by omega) (by omega) (by omega) (by omega)
  have h2 := win_length bk W H l 1 1 c r
  unfold atV
  generalize win bk W H l 1 1 c r = m at *
  match m, h2, h1 with
  | [x], _, h1 =>
    rw [List.mem_singleton] at h1
    rw [h1]; rfl
end Go.Proofs.Ythpmkelcjlljmaa

