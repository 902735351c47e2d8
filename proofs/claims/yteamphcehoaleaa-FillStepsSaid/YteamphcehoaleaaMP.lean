import Derived.Test.YteamphcehoaleaaMB
set_option linter.unusedVariables false
set_option linter.unusedSimpArgs false
namespace Go.Proofs.Yteamphcehoaleaa
namespace FM
def part1 (ms : Nat → Bool) (n : Int) : List Nat → List Int → List Nat → List Int × List Nat
  | [], out, s => (out, s)
  | k :: t, out, s => if ms k = true ∧ out.getD k 0 = 0 then part1 ms n t (out.set k n) (s ++ [k]) else part1 ms n t out s
theorem list_ext_getD (a b : List Int) (h : a.length = b.length) (hg : ∀ k, k < a.length → a.getD k 0 = b.getD k 0) : a = b := by
  refine List.ext_getElem h fun k h1 h2 => ?_
  have := hg k h1
  rw [List.getD_eq_getElem?_getD, List.getD_eq_getElem?_getD, List.getElem?_eq_getElem h1, List.getElem?_eq_getElem h2] at this
  exact this
def zeros (out : List Int) : Nat := out.countP (fun x => x == 0)
theorem zeros_set (out : List Int) (k : Nat) (n : Int) (hk : k < out.length) (h0 : out.getD k 0 = 0) (hn : n ≠ 0) : zeros (out.set k n) + 1 = zeros out := by
  induction out generalizing k with
  | nil => simp at hk
  | cons x t ih =>
    cases k with
    | zero =>
      rw [List.getD_cons_zero] at h0
      subst h0
      simp [zeros, List.countP_cons, hn]
    | succ k =>
      rw [List.getD_cons_succ] at h0
      have := ih k (by simpa using hk) h0
      simp only [zeros, List.set_cons_succ, List.countP_cons] at *
      omega
end FM
end Go.Proofs.Yteamphcehoaleaa

