import Derived.Test.YthpmkelcjlljmaaPRKx1
open Go Go.RowKit Go.Proofs.YthpmkelcjlljmaaW.PrintWords Go.Proofs.YthpmkelcjlljmaaW.PrintLast Go.Proofs.YthpmkelcjlljmaaW.PrintMore
set_option linter.unusedVariables false
set_option linter.unusedSimpArgs false
namespace Go.Proofs.Ythpmkelcjlljmaa
open PRA PRB PRK
set_option maxRecDepth 100000 in
theorem known_true : Av.f 100 = some true := by decide +kernel
theorem up {α : Type} (f : Nat → Option α) (h : ∀ k, LeO (f k) (f (k + 1))) {k m : Nat} {v : α} (hv : f k = some v) (hk : k ≤ m) : f m = some v := by
  obtain ⟨d, rfl⟩ : ∃ d, m = k + d := ⟨m - k, by omega⟩
  clear hk
  induction d with
  | zero => exact hv
  | succ d ih => exact h _ _ ih
theorem known_up (k : Nat) (hk : 100 ≤ k) : Av.f k = some true := up _ Av.mono known_true hk
theorem w64 (x : Int) (h1 : -9223372036854775808 ≤ x) (h2 : x ≤ 9223372036854775807) : wrap64 x = x := by unfold wrap64; omega
theorem w_succ (n : Nat) (h : n ≤ 100000000) : wrap64 ((n : Int) + 1) = ((n + 1 : Nat) : Int) := by rw [w64 _ (by omega) (by omega)]; omega
theorem words_self (l : List Int) (hl : l.length ≤ 100000) : ∀ m i fuel, i + m = l.length → m < fuel → At.l0 fuel l l (i : Nat) = some true
  | 0, i, fuel, hi, hf => by
    obtain ⟨k, rfl⟩ : ∃ q, fuel = q + 1 := ⟨fuel - 1, by omega⟩
    rw [At.l0, if_neg (by omega)]
  | m + 1, i, fuel, hi, hf => by
    obtain ⟨k, rfl⟩ : ∃ q, fuel = q + 1 := ⟨fuel - 1, by omega⟩
    rw [At.l0, if_pos (by omega), if_pos (by omega), if_pos (by omega), if_pos rfl, w_succ i (by omega)]
    exact words_self l hl m (i + 1) k (by omega) (by omega)
theorem words_eq (l : List Int) (k : Nat) (hl : l.length ≤ 100000) (hk : l.length < k) : At.f k l l = some true := by
  unfold At.f
  rw [if_pos rfl]
  exact words_self l (by omega) l.length 0 k (by omega) hk
theorem planes_eq (a b : Int) (l : List Int) (k : Nat) (hl : l.length ≤ 100000) (hk : l.length < k) : Be.f k a b l a b l = some true := by
  unfold Be.f
  rw [if_pos rfl, if_pos rfl, words_eq l k hl hk]; rfl
theorem u32_all {l : List Int} (hw : ∀ x ∈ l, (Lit.int .u32 x).wf = true) : ∀ x ∈ l, 0 ≤ x ∧ x < 4294967296 := by
  intro x hx
  have h := hw x hx
  have h : IntKind.u32.min ≤ x ∧ x ≤ IntKind.u32.max := by simpa [Lit.wf] using h
  rw [show IntKind.u32.min = 0 from rfl, show IntKind.u32.max = 4294967295 from rfl] at h
  omega
end Go.Proofs.Ythpmkelcjlljmaa

