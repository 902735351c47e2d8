/- known() of chapter 12's statements, by evaluation; RankNames, RankSorted: the plain laws. -/
import Derived.Test.YthpmkelcjlljmaaRM1
import Derived.Test.YthpmkelcjlljmaaRH4
import Derived.Test.YthpmkelcjlljmaaPRKx1
import Derived.Test.YthpmkelcjlljmaaPRSx1
import Derived.Test.YthpmkelcjlljmaaPRNx1
open Go Go.RowKit Go.Proofs.YthpmkelcjlljmaaW.PrintWords Go.Proofs.YthpmkelcjlljmaaW.PrintLast Go.Proofs.YthpmkelcjlljmaaW.PrintMore
set_option linter.unusedVariables false
set_option linter.unusedSimpArgs false
namespace Go.Proofs.Ythpmkelcjlljmaa
open PRA PRB PRK PRS PRN
set_option maxRecDepth 100000 in
theorem known_true : halidelaw12_known.f 100 = some true := by decide +kernel
theorem up {α : Type} (f : Nat → Option α) (h : ∀ k, LeO (f k) (f (k + 1))) {k m : Nat} {v : α} (hv : f k = some v) (hk : k ≤ m) : f m = some v := by
  obtain ⟨d, rfl⟩ : ∃ d, m = k + d := ⟨m - k, by omega⟩
  clear hk
  induction d with
  | zero => exact hv
  | succ d ih => exact h _ _ ih
theorem known_up (k : Nat) (hk : 100 ≤ k) : halidelaw12_known.f k = some true := up _ halidelaw12_known.mono known_true hk
theorem w64 (x : Int) (h1 : -9223372036854775808 ≤ x) (h2 : x ≤ 9223372036854775807) : wrap64 x = x := by unfold wrap64; omega
theorem w_succ (n : Nat) (h : n ≤ 100000000) : wrap64 ((n : Int) + 1) = ((n + 1 : Nat) : Int) := by rw [w64 _ (by omega) (by omega)]; omega
theorem words_self (l : List Int) (hl : l.length ≤ 100000) : ∀ m i fuel, i + m = l.length → m < fuel → halidehelp_Words.l0 fuel l l (i : Nat) = some true
  | 0, i, fuel, hi, hf => by
    obtain ⟨k, rfl⟩ : ∃ q, fuel = q + 1 := ⟨fuel - 1, by omega⟩
    rw [halidehelp_Words.l0, if_neg (by omega)]
  | m + 1, i, fuel, hi, hf => by
    obtain ⟨k, rfl⟩ : ∃ q, fuel = q + 1 := ⟨fuel - 1, by omega⟩
    rw [halidehelp_Words.l0, if_pos (by omega), if_pos (by omega), if_pos (by omega), if_pos rfl, w_succ i (by omega)]
    exact words_self l hl m (i + 1) k (by omega) (by omega)
theorem words_eq (l : List Int) (k : Nat) (hl : l.length ≤ 100000) (hk : l.length < k) : halidehelp_Words.f k l l = some true := by
  unfold halidehelp_Words.f
  rw [if_pos rfl]
  exact words_self l (by omega) l.length 0 k (by omega) hk
theorem u32_all {l : List Int} (hw : ∀ x ∈ l, (Lit.int .u32 x).wf = true) : ∀ x ∈ l, 0 ≤ x ∧ x < 4294967296 := by
  intro x hx
  have h := hw x hx
  have h : IntKind.u32.min ≤ x ∧ x ≤ IntKind.u32.max := by simpa [Lit.wf] using h
  rw [show IntKind.u32.min = 0 from rfl, show IntKind.u32.max = 4294967295 from rfl] at h
  omega
namespace NA
theorem law : ∃ k, halidelaw12_RankNames.f k = some true := ⟨100, by unfold halidelaw12_RankNames.f; rw [known_true]; rfl⟩
end NA
namespace SO
theorem law (l : List Int) (hw : ∀ x ∈ l, (Lit.int .u32 x).wf = true) : ∃ k, halidelaw12_RankSorted.f k l = some true := by
  refine ⟨3000, ?_⟩
  have hu := u32_all hw
  unfold halidelaw12_RankSorted.f
  rw [known_up 3000 (by omega), Option.bind_some, if_pos rfl]
  by_cases hl : (l.length : Int) > 2000
  · rw [if_pos hl]
  · rw [if_neg hl, if_pos (by simp; omega), Option.bind_some, List.nil_append]
    have hp := (isrt_perm l).length_eq
    have h1 : rank_Sorted.f l = some (isrt l) := by unfold rank_Sorted.f; rw [if_pos ⟨by omega, hu⟩]
    have h2 : halideref12_Sorted.f l = some (isrt l) := by unfold halideref12_Sorted.f; rw [if_pos ⟨by omega, hu⟩]
    rw [h1, Option.bind_some, h2, Option.bind_some, words_eq (isrt l) 3000 (by omega) (by omega), Option.bind_some, if_pos rfl, words_eq l 3000 (by omega) (by omega)]
    rfl
end SO
end Go.Proofs.Ythpmkelcjlljmaa
