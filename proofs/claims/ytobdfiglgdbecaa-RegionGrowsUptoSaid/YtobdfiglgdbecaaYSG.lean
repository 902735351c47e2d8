import Derived.Test.YtobdfiglgdbecaaYPGBx0
import Derived.Shelf.Spec.SlicesGrow
import Derived.Shelf.Lay
import Derived.Ground.Names8Prog
namespace Go.Proofs
open Go.Shelf
shelf_lay_g Lays8.n4 Nm8 4 at Try 94 as Try.growS
end Go.Proofs
namespace Go.Proofs.Ytobdfiglgdbecaa
open Go Go.RowKit Go.Shelf Go.Lib Go.Proofs.YtobdfiglgdbecaaW.PrintWords Go.Proofs.YtobdfiglgdbecaaW.PrintLast Go.Proofs.YtobdfiglgdbecaaW.PrintMore
open PGB
set_option linter.unusedVariables false
set_option linter.unusedSimpArgs false
def Cw.f (l0 : List S93) (a1 : Int) : Option (List S93) := if 0 ≤ a1 ∧ a1 ≤ 4398046511104 then some [] else none
theorem R_empty {w : World} {base g cap : Nat} {cur : Array Value} (h : w.heap[g]? = some (.cells cur 93 (0, 0))) (hb : base ≤ g) (hc : cap ≤ maxLen) (hs : cur.size = cap * 2) : Kd.R k93 93 w base (fun _ => True) (.slice (some ⟨g, 0, none⟩) 0 cap) [] :=
  ⟨fun _ _ => trivial, [], ⟨rfl, .inr ⟨g, cap, cur, rfl, hb, h, Nat.zero_le _, hc, hs, by simp⟩⟩, Reps.none _ _⟩
theorem Cw.callsN (a1 : Int) (r : List S93) (w : World) (h : Cw.f [] a1 = some r) :
    Calls Try.prog 94 #[.slice none 0 0, .int .i64 a1] w fun e w' => ∃ v0_ : Value, e = .returned v0_ ∧ Kd.R k93 93 w' w.heap.size (fun _ => True) v0_ r ∧ Below w.heap.size w w' := by
  unfold Cw.f at h
  split at h
  · rename_i hc
    obtain rfl := Option.some.inj h
    obtain ⟨n, rfl⟩ := Int.eq_ofNat_of_zero_le hc.1
    by_cases hn : n = 0
    · subst hn
      have h0 := Any8.slices_Grow_room Try.growS none 0 0 0 w (Nat.le_refl _) (by omega) (by omega) (by omega)
      change Calls Try.prog 94 _ _ _ at h0
      exact h0.mono fun e w' ⟨h1, h2⟩ => ⟨_, h1, by rw [h2]; exact Kd.Cy _ _ _ _ _, by rw [h2]; exact Below.refl _ _⟩
    · obtain ⟨i0, hi, hz0, hz1, hz2⟩ := info_parts info93
      have h0 := Any8.slices_Grow_grow Try.growS i0 _ hi hz0 (by rw [hz1]; omega) none 0 0 n [] w (Nat.le_refl _) (by omega) (by rw [hz2]; omega) (by omega) (by simp) (fun _ => rfl) (by simp)
      change Calls Try.prog 94 _ _ _ at h0
      refine h0.mono fun e w' ⟨h1, h2⟩ => ⟨_, h1, ?_, ?_⟩
      · rw [h2]
        refine R_empty (blk_new _ _) (Nat.le_refl _) (grownCap_le_maxLen w _ _ _ (by unfold maxLen; omega)) ?_
        rw [Array.size_append, Array.size_append, size_zeroCells, size_zeroCells]
        show 0 + (0 + n - 0) * 2 + (_ - (0 + n)) * 2 = _
        generalize hG : grownCap w (0 + n) 0 _ = G
        have hge : 0 + n ≤ G := by rw [← hG]; exact grownCap_ge w _ _ _
        omega
      · rw [h2]
        exact Ad (Ac (Below.refl _ w)) _
  · cases h
end Go.Proofs.Ytobdfiglgdbecaa

