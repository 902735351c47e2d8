import Derived.Test.YteamphcehoaleaaXM2
import Derived.Test.YteamphcehoaleaaXPT
import Derived.Test.YteamphcehoaleaaXFL
set_option linter.unusedVariables false
set_option linter.unusedSimpArgs false
open Go Go.RowKit Go.Proofs.YteamphcehoaleaaW.PrintWords
namespace Go.Proofs.Yteamphcehoaleaa
open PFA FM
namespace FM
theorem dfs_FillR {N : Nat} {nb : Nat → List Nat} {ms : Nat → Bool} {n : Int} {i : Nat} {out0 : List Int} (hnb : ∀ i, i < N → ∀ k ∈ nb i, k < N) (hn : 0 < n) (h0 : out0.length = N) : ∀ (f : Nat) (out : List Int) (s : List Nat) (o : List Int), FI N nb ms n i out0 out s → dfs nb ms n f out s = some o → FillR N nb ms n i out0 o
  | 0, out, s, o, H, h => by simp [dfs] at h
  | f + 1, out, s, o, H, h => by
    rw [dfs] at h
    by_cases e : s = []
    · rw [if_pos e] at h
      obtain rfl := Option.some.inj h
      subst e
      exact H.fin h0
    · rw [if_neg e] at h
      have hpos : 0 < s.length := List.length_pos_iff.mpr e
      have hs : s.Perm (s.getD (s.length - 1) 0 :: s.take (s.length - 1)) := by
        have e1 : s = s.take (s.length - 1) ++ [s.getD (s.length - 1) 0] := by
          have h1 := List.take_append_drop (s.length - 1) s
          have h2 : s.drop (s.length - 1) = [s.getD (s.length - 1) 0] := by
            rw [List.getD_eq_getElem?_getD, List.getElem?_eq_getElem (by omega)]
            rw [List.drop_eq_getElem_cons (by omega), List.drop_of_length_le (by omega)]
            rfl
          rw [h2] at h1
          exact h1.symm
        generalize s.take (s.length - 1) = a at *
        generalize s.getD (s.length - 1) 0 = b at *
        rw [e1]
        exact List.perm_append_singleton b a
      exact dfs_FillR hnb hn h0 f _ _ o (FI_step hnb hn (H.perm hs)).1 h
theorem partsGo_Chain {N F : Nat} {nb : Nat → List Nat} {ms : Nat → Bool} (hnb : ∀ i, i < N → ∀ k ∈ nb i, k < N) (is : List Nat) (i : Nat) (out : List Int) (n : Int) (o : List Int) (m : Int) (hl : out.length = N) (hn : 0 ≤ n) (hr : ∀ k, k < N → 0 ≤ out.getD k 0) :
    ∀ d, i + d = N → is = (List.range' i d).filter ms → partsGo nb ms F is out n = some (o, m) → Chain N nb ms i out n o m := by
  intro d
  induction d generalizing i is out n with
  | zero =>
    intro hd his h
    obtain rfl : i = N := by omega
    subst his
    simp only [List.range'_zero, List.filter_nil, partsGo, Option.some.injEq, Prod.mk.injEq] at h
    obtain ⟨rfl, rfl⟩ := h
    exact Chain.done _ _
  | succ d ih =>
    intro hd his h
    have hi : i < N := by omega
    rw [List.range'_succ, List.filter_cons] at his
    cases hm : ms i with
    | false =>
      rw [hm, if_neg (by decide)] at his
      exact Chain.skip hi (fun e => by rw [hm] at e; exact absurd e.1 (by decide)) (ih is (i + 1) out n hl hn hr (by omega) his h)
    | true =>
      rw [hm, if_pos rfl] at his
      subst his
      rw [partsGo] at h
      by_cases hz : 0 < out.getD i 0
      · rw [if_pos hz] at h
        exact Chain.skip hi (fun e => by omega) (ih _ (i + 1) out n hl hn hr (by omega) rfl h)
      · rw [if_neg hz] at h
        obtain ⟨o1, ho1, h2⟩ := Option.bind_eq_some_iff.mp h
        have h00 : out.getD i 0 = 0 := by have := hr i hi; omega
        have hF := dfs_FillR hnb (by omega) hl F _ _ o1 (FI_start (nb := nb) hl hi hm h00 (n := n + 1) (by omega)) ho1
        refine Chain.root hi hm h00 hF (ih _ (i + 1) o1 (n + 1) (by rw [hF.len]; exact hl) (by omega) (fun k hk => ?_) (by omega) rfl h2)
        have := hr k hk
        rcases hF.either k hk with h | h <;> omega
end FM
theorem i64_small (p : Nat) (h : p ≤ 65536) : wrap64 (p : Int) = (p : Int) := by unfold wrap64; omega
structure OKm (w h : Nat) (l : List Bool) : Prop where
  w1 : 1 ≤ w
  w2 : w ≤ 1024
  h1 : 1 ≤ h
  h2 : h ≤ 1024
  a : w * h ≤ 65536
  len : l.length = w * h
theorem new_ok {w h : Nat} {l : List Bool} (H : OKm w h l) : Df.f w h 0 = some ((w : Int), (h : Int), List.replicate ((w : Int) * h).toNat 0, 0) := by
  have h1 := H.w1; have h2 := H.w2; have h3 := H.h1; have h4 := H.h2; have h5 := H.a
  have h7 : (w : Int) * h ≤ 65536 := by
    rw [← Int.natCast_mul]
    generalize w * h = p at *
    omega
  unfold Df.f
  exact if_pos ⟨by omega, by omega, by omega, by omega, h7⟩
theorem area_w {w h : Nat} {l : List Bool} (H : OKm w h l) : wrap64 ((w : Int) * h) = ((w * h : Nat) : Int) := by
  have h5 := H.a
  rw [← Int.natCast_mul]
  exact i64_small _ h5
theorem sized_ok {w h : Nat} {l : List Bool} (H : OKm w h l) : Cs.f w h = some true := by
  unfold Cs.f
  rw [new_ok H, Option.bind_some]
  rfl
theorem fcheck_ok {w h : Nat} {l : List Bool} (H : OKm w h l) : Cj.f w h l = some 0 := by
  unfold Cj.f
  rw [sized_ok H, Option.bind_some, if_pos rfl, area_w H, if_pos (by rw [H.len])]
theorem gridOf_ok {w h : Nat} {l : List Bool} (H : OKm w h l) (ways : Int) (hw : ways = 4 ∨ ways = 8) : Cu.f w h l ways = some ((w : Int), (h : Int), ways, 0) := by
  unfold Cu.f
  rw [fcheck_ok H, Option.bind_some, if_pos rfl]
  rcases hw with e | e
  · rw [if_pos e]
  · rw [if_neg (by omega), if_pos e]
theorem parts_val {w h : Nat} {l : List Bool} (H : OKm w h l) (ways : Int) (hw : ways = 4 ∨ ways = 8) :
    ∃ po pn, Co.f w h l ways = some (po, pn, 0) ∧ pn ≤ ((w * h : Nat) : Int) ∧ Chain (w * h) (nbs w h ways) (fun k => l.getD k false) 0 (List.replicate (w * h) 0) 0 po pn := by
  have h1 := H.w1; have h2 := H.w2; have h3 := H.h1; have h4 := H.h2; have h6 := H.len
  have hnb : ∀ i, i < w * h → ∀ k ∈ nbs w h ways i, k < w * h := fun i hi k hk => nbs_lt h1 hi k hk
  have hnb' : ∀ i, i < l.length → ∀ k ∈ nbs w h ways i, k < l.length := fun i hi k hk => by rw [h6] at hi ⊢; exact hnb i hi k hk
  obtain ⟨o, m, e1, e2, e3, e4⟩ := partsGo_some (nbs w h ways) (fun k => l.getD k false) l.length hnb' (trues l l.length) (List.replicate l.length 0) 0 (Int.le_refl _) (by simp) (trues_lt l l.length)
  have h9 := trues_le l l.length
  refine ⟨o, m, ?_, by rw [← h6]; omega, ?_⟩
  · unfold Co.f
    rw [gridOf_ok H ways hw, Option.bind_some]
    dsimp only
    rw [if_pos rfl, if_pos ⟨by omega, by omega, by omega, by omega, by simp only [Int.toNat_natCast]; exact h6⟩]
    simp only [Int.toNat_natCast]
    rw [e1, Option.bind_some]
  · rw [← h6]
    refine partsGo_Chain (F := l.length + 2) hnb' (trues l l.length) 0 _ 0 o m (by simp) (Int.le_refl _) (fun k hk => ?_) l.length (by omega) ?_ e1
    · rw [List.getD_eq_getElem?_getD, List.getElem?_replicate]; split <;> simp
    · unfold trues; rw [List.range_eq_range']
end Go.Proofs.Yteamphcehoaleaa

