import Derived.Test.YthpmkelcjlljmaaXRH1
open Go Go.RowKit
set_option linter.unusedVariables false
set_option linter.unusedSimpArgs false
namespace Go.Proofs.Ythpmkelcjlljmaa
def toS (x : Int) : Smp := Fin.ofNat 4294967296 x.toNat
def srtI (l : List Int) : List Int := (srt (l.map toS)).map (fun s => (s.val : Int))
def leK (a b : Int) : Bool := decide (keyN a.toNat ≤ keyN b.toNat)
theorem leK_trans (a b c : Int) (h1 : leK a b = true) (h2 : leK b c = true) : leK a c = true := by
  unfold leK at *
  have := of_decide_eq_true h1
  have := of_decide_eq_true h2
  exact decide_eq_true (by omega)
theorem leK_total (a b : Int) : (leK a b || leK b a) = true := by
  unfold leK
  by_cases h : keyN a.toNat ≤ keyN b.toNat
  · simp [h]
  · have : keyN b.toNat ≤ keyN a.toNat := by omega
    simp [this]
abbrev Up (l : List Int) : Prop := l.Pairwise (fun a b => leK a b = true)

theorem toS_val (x : Int) (h0 : 0 ≤ x) (h1 : x < 4294967296) : ((toS x).val : Int) = x := by
  have h : (toS x).val = x.toNat % 4294967296 := rfl
  rw [h, Nat.mod_eq_of_lt (by omega), Int.toNat_of_nonneg h0]
theorem srtI_perm (l : List Int) (hu : ∀ s ∈ l, 0 ≤ s ∧ s < 4294967296) : (srtI l).Perm l := by
  unfold srtI srt
  have h1 := (List.mergeSort_perm (l.map toS) (fun x y => decide (keyN x.val ≤ keyN y.val))).map (fun s : Smp => (s.val : Int))
  rw [List.map_map] at h1
  have h2 : l.map ((fun s : Smp => (s.val : Int)) ∘ toS) = l := by
    have : l.map ((fun s : Smp => (s.val : Int)) ∘ toS) = l.map id := List.map_congr_left fun x hx => toS_val x (hu x hx).1 (hu x hx).2
    rw [this, List.map_id]
  rw [h2] at h1
  exact h1
theorem srtI_up (l : List Int) : Up (srtI l) := by
  unfold srtI srt
  refine List.pairwise_map.mpr ?_
  refine (List.pairwise_mergeSort (le := fun x y : Smp => decide (keyN x.val ≤ keyN y.val)) ?_ ?_ (l.map toS)).imp ?_
  · intro a b c h1 h2
    have := of_decide_eq_true h1
    have := of_decide_eq_true h2
    exact decide_eq_true (by omega)
  · intro a b
    by_cases h : keyN a.val ≤ keyN b.val
    · simp [h]
    · have : keyN b.val ≤ keyN a.val := by omega
      simp [this]
  · intro a b h
    unfold leK
    rw [Int.toNat_natCast, Int.toNat_natCast]
    exact h
theorem srtI_unique (l out : List Int) (hu : ∀ s ∈ l, 0 ≤ s ∧ s < 4294967296) (hp : out.Perm l) (hs : Up out) : out = srtI l := by
  refine List.Perm.eq_of_pairwise (le := fun a b => leK a b = true) ?_ hs (srtI_up l) (hp.trans (srtI_perm l hu).symm)
  intro a b ha hb h1 h2
  have ua := hu a (hp.mem_iff.mp ha)
  have ub := hu b ((srtI_perm l hu).mem_iff.mp hb)
  unfold leK at h1 h2
  have h1 := of_decide_eq_true h1
  have h2 := of_decide_eq_true h2
  have := keyN_inj a.toNat b.toNat (by omega) (by omega) (by omega)
  omega

def insK (x : Int) : List Int → List Int
  | [] => [x]
  | y :: t => if leK x y = true then x :: y :: t else y :: insK x t
def isrt : List Int → List Int
  | [] => []
  | x :: t => insK x (isrt t)
theorem insK_perm (x : Int) : ∀ l, (insK x l).Perm (x :: l)
  | [] => List.Perm.refl _
  | y :: t => by
    rw [insK]
    split
    · exact List.Perm.refl _
    · exact ((insK_perm x t).cons y).trans (List.Perm.swap x y t)
theorem isrt_perm : ∀ l, (isrt l).Perm l
  | [] => List.Perm.refl _
  | x :: t => (insK_perm x (isrt t)).trans ((isrt_perm t).cons x)
theorem insK_up (x : Int) : ∀ l, Up l → Up (insK x l)
  | [], h => List.pairwise_singleton _ _
  | y :: t, h => by
    have h2 := List.pairwise_cons.mp h
    rw [insK]
    split
    · rename_i hxy
      refine List.pairwise_cons.mpr ⟨fun z hz => ?_, h⟩
      rcases List.mem_cons.mp hz with rfl | hz
      · exact hxy
      · exact leK_trans _ _ _ hxy (h2.1 z hz)
    · rename_i hxy
      refine List.pairwise_cons.mpr ⟨fun z hz => ?_, insK_up x t h2.2⟩
      rcases List.mem_cons.mp ((insK_perm x t).mem_iff.mp hz) with rfl | hz
      · have := leK_total z y
        cases h9 : leK z y with
        | true => exact absurd h9 hxy
        | false => rw [h9] at this; simpa using this
      · exact h2.1 z hz
theorem isrt_up : ∀ l, Up (isrt l)
  | [] => List.Pairwise.nil
  | x :: t => insK_up x _ (isrt_up t)
theorem isrt_eq (l : List Int) (hu : ∀ s ∈ l, 0 ≤ s ∧ s < 4294967296) : isrt l = srtI l := srtI_unique l (isrt l) hu (isrt_perm l) (isrt_up l)
end Go.Proofs.Ythpmkelcjlljmaa

