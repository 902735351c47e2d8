import Derived.Test.YteamphcehoaleaaM5
import Derived.Test.YteamphcehoaleaaPFKx1
import Derived.Test.YteamphcehoaleaaPFAx6
set_option linter.unusedVariables false
set_option linter.unusedSimpArgs false
open Go Go.RowKit Go.Proofs.YteamphcehoaleaaW.PrintWords
namespace Go.Proofs.Yteamphcehoaleaa
open PFA PFK FM
namespace NR
theorem wr {x : Int} (h1 : -9223372036854775808 ≤ x) (h2 : x < 9223372036854775808) : wrap64 x = x := by
  unfold wrap64; omega
theorem wr1 (i : Nat) (h : i < 1000000) : wrap64 ((i : Int) + 1) = ((i + 1 : Nat) : Int) := by
  rw [wr (by omega) (by omega)]; rfl
theorem rd_nat (l : List Int) (i : Nat) : rd l (i : Int) = l.getD i 0 := by unfold rd; rw [Int.toNat_natCast]
theorem rdb_nat (l : List Bool) (i : Nat) : rdOf false l (i : Int) = l.getD i false := by unfold rdOf; rw [Int.toNat_natCast]
theorem list_ext_getD (a b : List Bool) (h : a.length = b.length) (hg : ∀ k, k < a.length → a.getD k false = b.getD k false) : a = b := by
  refine List.ext_getElem h fun k h1 h2 => ?_
  have := hg k h1
  rw [List.getD_eq_getElem?_getD, List.getD_eq_getElem?_getD, List.getElem?_eq_getElem h1, List.getElem?_eq_getElem h2] at this
  exact this
theorem outOf_get (n : Nat) (f : Nat → Bool) (k i : Nat) (hi : i < n) : (outOf n f k).getD i false = (decide (i < k) && f i) := by
  rw [List.getD_eq_getElem?_getD]
  simp [outOf, hi]
theorem near_l0 (st : List Int) (a : Int) (N : Nat) (hN : N ≤ 65536) (hs : st.length = N) (w h : Int) : ∀ d i, i + d = N →
    Ev (fun k => B4.l0 k a st (N : Nat) (i : Nat) w h (outOf N (fun i => decide (0 ≤ st.getD i 0 ∧ st.getD i 0 ≤ a)) i)) (w, h, outOf N (fun i => decide (0 ≤ st.getD i 0 ∧ st.getD i 0 ≤ a)) N, 0) := by
  intro d
  induction d with
  | zero =>
    intro i hi
    obtain rfl : i = N := by omega
    refine ⟨1, fun k hk => ?_⟩
    obtain ⟨k, rfl⟩ : ∃ q, k = q + 1 := ⟨k - 1, by omega⟩
    show B4.l0 (k + 1) _ _ _ _ _ _ _ = _
    rw [B4.l0, if_neg (by omega)]
  | succ d ih =>
    intro i hi
    refine Ev.step (fun k => ?_) (ih (i + 1) (by omega))
    have hl := outOf_len N (fun i => decide (0 ≤ st.getD i 0 ∧ st.getD i 0 ≤ a)) i
    rw [B4.l0, if_pos (by omega), if_pos (by omega), if_pos (by omega), rd_nat, wr1 i (by omega), Int.toNat_natCast, ← outOf_set N _ i (by omega)]
    by_cases c : st.getD i 0 ≥ 0
    · rw [if_pos c, if_pos (by rw [hl]; omega)]
      congr 2
      exact decide_eq_decide.mpr ⟨fun h => ⟨c, h⟩, fun h => h.2⟩
    · rw [if_neg c, if_pos (by rw [hl]; omega)]
      congr 2
      exact (decide_eq_false (fun h => c h.1)).symm
theorem empty_val {w h : Nat} {l : List Bool} (H : OKm w h l) : Cv.f w h = some ((w : Int), (h : Int), List.replicate (w * h) false) := by
  have ha := H.a
  unfold Cv.f
  rw [area_w H, Int.toNat_natCast, if_pos (by omega), if_pos (by omega)]
theorem near_val {w h : Nat} {l : List Bool} (H : OKm w h l) (ways : Int) (hw : ways = 4 ∨ ways = 8) (a : Nat) :
    ∃ g, Ev (fun k => B4.f k w h l a ways) ((w : Int), (h : Int), g, 0) ∧ OKm w h g ∧ ∀ k, k < w * h → (g.getD k false = true ↔ within (nbs w h ways) (inM l) a k) := by
  obtain ⟨st, e1, e2, _, e3⟩ := away_val H ways hw
  have ha := H.a
  refine ⟨outOf (w * h) (fun i => decide (0 ≤ st.getD i 0 ∧ st.getD i 0 ≤ (a : Int))) (w * h), ?_, ⟨H.w1, H.w2, H.h1, H.h2, H.a, outOf_len _ _ _⟩, fun k hk => ?_⟩
  · unfold B4.f
    rw [e1, empty_val H]
    simp only [Option.bind_some]
    have h0 := near_l0 st a (w * h) ha e2 w h (w * h) 0 (by omega)
    rw [outOf_zero] at h0
    refine Ev.congr (fun k => ?_) h0
    rw [if_pos trivial, if_neg (by omega), e2]
    rfl
  · rw [outOf_get _ _ _ _ hk, decide_eq_true hk, Bool.true_and, decide_eq_true_iff]
    exact e3 a k hk
theorem turned_l0 (l : List Bool) (N : Nat) (hN : N ≤ 65536) (hl : l.length = N) (w h : Int) : ∀ d i, i + d = N →
    Ev (fun k => Bv.l0 k l (N : Nat) (i : Nat) w h ((l.map (fun b => !b)).take i)) (w, h, l.map (fun b => !b)) := by
  intro d
  induction d with
  | zero =>
    intro i hi
    obtain rfl : i = N := by omega
    refine ⟨1, fun k hk => ?_⟩
    obtain ⟨k, rfl⟩ : ∃ q, k = q + 1 := ⟨k - 1, by omega⟩
    show Bv.l0 (k + 1) _ _ _ _ _ _ = _
    rw [Bv.l0, if_neg (by omega), List.take_of_length_le (by rw [List.length_map]; omega)]
  | succ d ih =>
    intro i hi
    refine Ev.step (fun k => ?_) (ih (i + 1) (by omega))
    have hlt : i < (l.map (fun b => !b)).length := by rw [List.length_map]; omega
    have h3 : ((l.map (fun b => !b)).take i).length = i := by rw [List.length_take]; omega
    rw [Bv.l0, if_pos (by omega), if_pos (by omega), if_pos (by omega), if_pos (by rw [h3]; omega), rdb_nat, wr1 i (by omega), List.take_succ_eq_append_getElem hlt, List.getElem_map, List.getD_eq_getElem?_getD, List.getElem?_eq_getElem (by omega)]
    rfl
theorem turned_val {w h : Nat} {l : List Bool} (H : OKm w h l) : Ev (fun k => Bv.f k w h l) ((w : Int), (h : Int), l.map (fun b => !b)) ∧ OKm w h (l.map (fun b => !b)) := by
  refine ⟨?_, ⟨H.w1, H.w2, H.h1, H.h2, H.a, by rw [List.length_map, H.len]⟩⟩
  unfold Bv.f
  have h0 := turned_l0 l (w * h) H.a H.len w h (w * h) 0 (by omega)
  refine Ev.congr (fun k => ?_) h0
  rw [H.len]
  rfl
theorem not_get (l : List Bool) (k : Nat) (hk : k < l.length) : (l.map (fun b => !b)).getD k false = !(l.getD k false) := by
  rw [List.getD_eq_getElem?_getD, List.getD_eq_getElem?_getD, List.getElem?_map, List.getElem?_eq_getElem hk]; rfl
theorem shrink_val {w h : Nat} {l : List Bool} (H : OKm w h l) (ways : Int) (hw : ways = 4 ∨ ways = 8) (a : Nat) :
    ∃ s, Ev (fun k => Bp.f k w h l a ways) ((w : Int), (h : Int), s, 0) ∧ OKm w h s ∧ ∀ k, k < w * h → (s.getD k false = true ↔ ¬ within (nbs w h ways) (fun j => j < w * h ∧ ¬ l.getD j false = true) a k) := by
  obtain ⟨t1, H1⟩ := turned_val H
  obtain ⟨g, g1, g2, g3⟩ := near_val H1 ways hw a
  obtain ⟨t2, H2⟩ := turned_val g2
  refine ⟨g.map (fun b => !b), ?_, H2, fun k hk => ?_⟩
  · unfold Bp.f
    refine Ev.bind t1 ?_
    refine Ev.bind g1 ?_
    refine Ev.congr (fun k => if_pos rfl) ?_
    refine Ev.bind t2 ?_
    exact Ev.now ((w : Int), (h : Int), g.map (fun b => !b), (0 : Int))
  · have hS : ∀ j, inM (l.map (fun b => !b)) j ↔ (j < w * h ∧ ¬ l.getD j false = true) := fun j => by
      unfold inM
      rw [List.length_map, H.len]
      constructor
      · rintro ⟨h1, h2⟩
        rw [not_get l j (by rw [H.len]; exact h1)] at h2
        exact ⟨h1, by simpa using h2⟩
      · rintro ⟨h1, h2⟩
        refine ⟨h1, ?_⟩
        rw [not_get l j (by rw [H.len]; exact h1)]
        simpa using h2
    rw [not_get g k (by rw [g2.len]; exact hk)]
    have h9 : within (nbs w h ways) (inM (l.map (fun b => !b))) a k ↔ within (nbs w h ways) (fun j => j < w * h ∧ ¬ l.getD j false = true) a k := ⟨within_sub (fun x hx => (hS x).mp hx) a k, within_sub (fun x hx => (hS x).mpr hx) a k⟩
    rw [← h9, ← g3 k hk]
    cases g.getD k false <;> simp
theorem same_l0 (l : List Bool) (N : Nat) (hN : N ≤ 65536) (hl : l.length = N) (a b c d' : Int) : ∀ d i, i + d = N → Ev (fun k => Ap.l0 k (i : Nat) a b l c d' l) true := by
  intro d
  induction d with
  | zero =>
    intro i hi
    refine ⟨1, fun k hk => ?_⟩
    obtain ⟨k, rfl⟩ : ∃ q, k = q + 1 := ⟨k - 1, by omega⟩
    show Ap.l0 (k + 1) _ _ _ _ _ _ _ = _
    rw [Ap.l0, if_neg (by omega)]
  | succ d ih =>
    intro i hi
    refine Ev.step (fun k => ?_) (ih (i + 1) (by omega))
    rw [Ap.l0, if_pos (by omega), if_pos (by omega), if_pos (by omega), if_neg (by simp), wr1 i (by omega)]
theorem same_val {w h : Nat} {l : List Bool} (H : OKm w h l) : Ev (fun k => Ap.f k w h l w h l) true := by
  unfold Ap.f
  refine Ev.congr (f := fun k => Ap.j0 k ((l.length : Int) != (l.length : Int)) w h l w h l) (fun k => by rw [if_pos rfl, if_pos rfl]) ?_
  refine Ev.step (fun k => ?_) (same_l0 l (w * h) H.a H.len w h w h (w * h) 0 (by omega))
  rw [Ap.j0, if_neg (by simp)]
  rfl
end NR
end Go.Proofs.Yteamphcehoaleaa

