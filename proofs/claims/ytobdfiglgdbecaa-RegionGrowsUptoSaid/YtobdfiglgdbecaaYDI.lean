import Derived.Test.YtobdfiglgdbecaaYPGBx0
import Derived.Test.YtobdfiglgdbecaaYM3
import Derived.Shelf.SortM.Plain
import Derived.Shelf.SortM.SortNone
import Derived.Shelf.SlicesE.Compact
import Derived.Shelf.SlicesE.Kit
import Derived.Shelf.SlicesE.Equal
import Derived.Shelf.Lay
import Derived.Ground.SlgmProg
import Derived.Ground.SlgnProg
import Derived.Lib.OwnBridge
import Derived.WalkKit
namespace Go.Proofs
open Go.Shelf
shelf_lay_g SlLaysM.n5 Slgm 5 at Try 83 as Try.sortI
shelf_lay_g SlLaysE.n43 Slgn 43 at Try 84 as Try.compI
end Go.Proofs
namespace Go.Proofs.Ytobdfiglgdbecaa
open Go Go.RowKit Go.Shelf Go.Lib Go.Sort Go.Proofs.YtobdfiglgdbecaaW.PrintWords Go.Proofs.YtobdfiglgdbecaaW.PrintLast Go.Proofs.YtobdfiglgdbecaaW.PrintMore
open PGB
set_option linter.unusedVariables false
set_option linter.unusedSimpArgs false
theorem rise_of : ∀ a : List Int, a.Pairwise (· < ·) → RG.Rise a
  | [], _ => trivial
  | x :: t, h => RG.rise_cons.mpr ⟨rise_of t (List.pairwise_cons.mp h).2, (List.pairwise_cons.mp h).1⟩
theorem comp_mem (d : Array Int) (z : Int) : z ∈ compactUpTo d d.size ↔ z ∈ d.toList := by
  unfold compactUpTo
  rw [List.mem_map]
  constructor
  · rintro ⟨j, hj, rfl⟩
    have hj := List.mem_range.mp (List.mem_filter.mp hj).1
    rw [getElem!_pos d j hj]
    exact Array.mem_toList_iff.mpr (Array.getElem_mem hj)
  · intro hz
    obtain ⟨j, hj, rfl⟩ := Array.getElem_of_mem (Array.mem_toList_iff.mp hz)
    have hk : ∀ j, j < d.size → ∃ i, i ∈ (List.range d.size).filter (keeps d) ∧ d[i]! = d[j]! := by
      intro j
      induction j using Nat.strongRecOn with
      | _ j ih =>
        intro hj
        by_cases hk : keeps d j = true
        · exact ⟨j, List.mem_filter.mpr ⟨List.mem_range.mpr hj, hk⟩, rfl⟩
        · unfold keeps at hk
          simp only [decide_eq_true_eq, not_or, Decidable.not_not, ne_eq] at hk
          obtain ⟨i, hi, e⟩ := ih (j - 1) (by omega) (by omega)
          exact ⟨i, hi, e.trans hk.2.symm⟩
    obtain ⟨i, hi, e⟩ := hk j hj
    exact ⟨i, hi, by rw [e, getElem!_pos d j hj]⟩
theorem comp_rise (d : Array Int) (hs : ∀ i j, i ≤ j → j < d.size → d[i]! ≤ d[j]!) : RG.Rise (compactUpTo d d.size) := by
  refine rise_of _ ?_
  unfold compactUpTo
  rw [List.pairwise_map]
  refine List.Pairwise.imp_of_mem (fun {i j} hi hj hij => ?_) (List.Pairwise.filter _ (List.pairwise_lt_range (n := d.size)))
  have h1 := List.mem_range.mp (List.mem_filter.mp hj).1
  have h2 := (List.mem_filter.mp hj).2
  unfold keeps at h2
  simp only [decide_eq_true_eq, ne_eq] at h2
  have h3 := hs i (j - 1) (by omega) (by omega)
  have h4 := hs (j - 1) j (by omega) h1
  rcases h2 with h2 | h2
  · omega
  · have : d[j - 1]! ≠ d[j]! := fun e => h2 e.symm
    omega
theorem sort_dist (l : List Int) : compactUpTo (l.mergeSort fun x y => decide (x ≤ y)).toArray (l.mergeSort fun x y => decide (x ≤ y)).toArray.size = RG.dist l := by
  have hp : (l.mergeSort fun x y => decide (x ≤ y)).Pairwise (fun x y => x ≤ y) := by
    have h := List.pairwise_mergeSort (le := fun x y : Int => decide (x ≤ y)) (fun a b c h1 h2 => by simp at *; omega) (fun a b => by simp; omega) l
    exact h.imp (fun h => by simpa using h)
  refine RG.rise_unique _ _ (comp_rise _ (fun i j hij hj => ?_)) (RG.dist_rise l) (fun z => ?_)
  · rcases Nat.lt_or_ge i j with h | h
    · have hj' : j < (l.mergeSort fun x y => decide (x ≤ y)).length := by simpa using hj
      have := List.pairwise_iff_getElem.mp hp i j (by omega) hj' h
      rw [getElem!_pos _ i (by simpa using (by omega : i < (l.mergeSort fun x y => decide (x ≤ y)).length)), getElem!_pos _ j hj]
      simpa using this
    · have : i = j := by omega
      subst this; exact Int.le_refl _
  · rw [comp_mem, RG.mem_dist]
    simp
theorem grow_heap (w : World) (os : Array Obj) (k : Nat) (hk : k < w.heap.size) : (grow w os).heap[k]? = w.heap[k]? := by
  simp [grow, Array.getElem?_append, hk]
theorem own_grow {w : World} {base : Nat} {e : TypeId} {size n : Nat} {v : Value} {xs : List Value} (h : w.ownsRow base e size v n xs) (os : Array Obj) : (grow w os).ownsRow base e size v n xs :=
  own_move h (fun k hk => by
    obtain ⟨cells, hc⟩ := own_typed h k hk
    exact grow_heap w os k (Cj hc))
theorem below_grow {B : Nat} {w0 w : World} (h : Below B w0 w) (hB : B ≤ w.heap.size) (os : Array Obj) : Below B w0 (grow w os) :=
  ⟨h.os, h.tape, h.output, by have := h.size; simp [grow]; omega, fun k hk => by rw [grow_heap w os k (by omega)]; exact h.block k hk⟩
theorem size_putR (enc : Int → Value) (w : World) (q g : Nat) (d : Array Int) : (putRow enc (Sort.ahead w q) g 0 d).heap.size = w.heap.size := by simp [putRow, mapBlock, Sort.ahead]
theorem heap_putR (enc : Int → Value) (w : World) (q g : Nat) (d : Array Int) (k : Nat) (hk : k ≠ g) : (putRow enc (Sort.ahead w q) g 0 d).heap[k]? = w.heap[k]? := by
  simp [putRow, mapBlock, Sort.ahead, Array.getElem?_modify, show g ≠ k from fun e => hk e.symm]
theorem comp_none (A : Option Addr) (c : Nat) (w : World) : Calls Try.prog 84 #[.slice A 0 c] w fun e w' => e = .returned (.slice A 0 c) ∧ w' = w := by
  go_enter Try.func84, Try.ntmps84
  go_wp2
  go_ret
  exact ⟨rfl, rfl⟩
theorem dist_none (A : Option Addr) (c : Nat) (w : World) : Calls Try.prog 71 #[.slice A 0 c] w fun e w' => e = .returned (.slice A 0 c) ∧ w' = w := by
  have hS := fun W => AnyM.slices_Sort_int_none (P := Try.prog) (ρ := Try.sortI_ren) { Try.sortI with } A c W
  change ∀ W, Calls Try.prog 83 _ _ _ at hS
  go_enter Try.func71, Try.ntmps71
  go_wp2_with (first | (go_at_call 83; refine (hS _).mono ?_; rintro e w' ⟨rfl, rfl⟩) | (go_at_call 84; refine (comp_none A c _).mono ?_; rintro e w' ⟨rfl, rfl⟩))
  go_ret
  exact ⟨rfl, rfl⟩
def Cb.f (l0 : List Int) : Option (List Int) := if l0.length < 4611686018427387904 then some (RG.dist l0) else none
set_option maxHeartbeats 1000000 in
theorem Cb.calls (P0_ : Nat → Prop) (u9000_ : Value) (l0 : List Int) (r : List Int) (w0 w : World) (hB : Below w0.heap.size w0 w) (ho0 : Kd.R (Kd.int .i64) 3 w w0.heap.size P0_ u9000_ l0) (h : Cb.f l0 = some r) :
    Calls Try.prog 71 #[u9000_] w fun e w' => ∃ v0_ : Value, e = .returned (v0_) ∧ Kd.R (Kd.int .i64) 3 w' w0.heap.size (fun k_ => (P0_ k_ ∨ w.heap.size ≤ k_)) v0_ r ∧ Below w0.heap.size w0 w' ∧ Kept w w' (fun k_ => P0_ k_) := by
  unfold Cb.f at h
  split at h
  rotate_left
  · cases h
  rename_i hlen
  obtain rfl := Option.some.inj h
  by_cases hl : l0 = []
  · subst hl
    obtain ⟨A, c, rfl⟩ := Kd.Bn ho0
    exact (dist_none A c w).mono fun e w' ⟨h1, h2⟩ => ⟨_, h1, by rw [h2]; exact Kd.Bs ho0 (fun k hk => .inl hk), by rw [h2]; exact hB, by rw [h2]; exact Kept.refl _ _⟩
  · have hown := Kd.own_of_R (enc := Value.int .i64) ho0
    have hne : u9000_ ≠ .slice none 0 0 := fun e => by
      rcases hown.2 with ⟨_, h0⟩ | ⟨g, cap, cur, h1, _⟩
      · exact hl (List.length_eq_zero_iff.mp h0)
      · rw [e] at h1; cases h1
    obtain ⟨g, cap, rfl, hbg, hg, hnc, hcm, _, hH⟩ := holds_of_ownsRow (zs := l0) hown hne
    have hP : P0_ g := ho0.1 g rfl
    obtain ⟨S, hS⟩ : ∃ S, S = l0.mergeSort fun x y => decide (x ≤ y) := ⟨_, rfl⟩
    have hSl : S.length = l0.length := by rw [hS, List.length_mergeSort]
    have h1 := AnyM.slices_Sort_int Try.sortI g 0 cap l0 w hH hg hlen
    change Calls Try.prog 83 _ _ _ at h1
    rw [← hS] at h1
    have hsd : compactUpTo S.toArray S.toArray.size = RG.dist l0 := by rw [hS]; exact sort_dist l0
    have hcl : (RG.dist l0).length ≤ l0.length := RG.dist_len l0
    have hk : ∀ n os, Calls Try.prog 84 #[.slice (some ⟨g, 0, none⟩) l0.length cap] (grow (putRow (Value.int .i64) (Sort.ahead w n) g 0 S.toArray) os) fun e w' => e = .returned (.slice (some ⟨g, 0, none⟩) (RG.dist l0).length cap) ∧
        ∃ q, w' = putRow (Value.int .i64) (Sort.ahead (grow (putRow (Value.int .i64) (Sort.ahead w n) g 0 S.toArray) os) q) g 0 (RG.dist l0 ++ List.replicate (l0.length - (RG.dist l0).length) 0).toArray := fun n os => by
      have o1 := own_grow (ownsRow_putRow (q := n) (ys := S) hown hSl (Nat.le_refl _)) os
      rw [List.take_of_length_le (by omega)] at o1
      obtain ⟨g', cap', e1, _, _, _, _, _, hH1⟩ := holds_of_ownsRow (zs := S) o1 (by simp)
      injection e1 with e1 _ e3
      injection e1 with e1
      injection e1 with e1
      subst e1 e3
      have h2 := AnyE.slices_Compact Try.compI (Value.int .i64) (fun _ => rfl) (EqlAt.intD _ _ _) (NeqAt.intD _ _ _) 0 Try.zeroValue3 g 0 cap S.toArray (grow (putRow (Value.int .i64) (Sort.ahead w n) g 0 S.toArray) os) hH1 (by simp; omega) (by simp; omega)
      change Calls Try.prog 84 _ _ _ at h2
      rw [hsd, List.size_toArray, hSl] at h2
      exact h2
    have HK := Aa.mk hk
    have HS1 := Aa.mk h1
    have HO := Aa.mk hown
    have HBb := Aa.mk hB
    have HCL := Aa.mk hcl
    have HSL := Aa.mk hSl
    clear hk h1 hown hB hcl hSl hsd hS hH ho0 hlen
    go_enter Try.func71, Try.ntmps71
    go_wp2_with (first | (go_at_call 83; refine HS1.out.mono ?_; rintro e w' ⟨rfl, n, os, rfl⟩) | (go_at_call 84; refine (HK.out n os).mono ?_; rintro e w' ⟨rfl, q, rfl⟩))
    go_ret
    have o1 := own_grow (ownsRow_putRow (q := n) (ys := S) HO.out HSL.out (Nat.le_refl _)) os
    rw [List.take_of_length_le (by have := HSL.out; omega)] at o1
    have o2 := ownsRow_putRow (q := q) (zs := S) (ys := RG.dist l0 ++ List.replicate (l0.length - (RG.dist l0).length) 0) o1 (by have := HCL.out; simp; omega) HCL.out
    rw [List.take_left] at o2
    refine ⟨_, rfl, Kd.R_of_own (enc := Value.int .i64) o2 (fun k hk => ?_), ?_, ?_⟩
    · have : g = k := by simpa [Value.ownBlock] using hk
      exact .inl (this ▸ hP)
    · have hb1 := below_putRow (enc := Value.int .i64) (q := n) (d := S.toArray) HBb.out hbg
      have hb2 := below_grow hb1 (by rw [size_putR]; exact HBb.out.size) os
      exact below_putRow (enc := Value.int .i64) hb2 hbg
    · refine ⟨?_, fun i hi hn => ?_⟩
      · rw [size_putR]; simp [grow, size_putR]
      · have hig : i ≠ g := fun e => hn (e ▸ hP)
        rw [heap_putR _ _ _ _ _ _ hig, grow_heap _ _ _ (by rw [size_putR]; exact hi), heap_putR _ _ _ _ _ _ hig]
end Go.Proofs.Ytobdfiglgdbecaa

