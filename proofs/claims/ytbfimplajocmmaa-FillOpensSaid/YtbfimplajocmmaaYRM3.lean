import Derived.Test.YtbfimplajocmmaaYRM7
open Go Go.RowKit Go.Proofs.YtbfimplajocmmaaW.PrintWords Go.Proofs.YtbfimplajocmmaaW.PrintLast Go.Proofs.YtbfimplajocmmaaW.PrintMore
set_option linter.unusedVariables false
set_option linter.unusedSimpArgs false
namespace Go.Proofs.Ytbfimplajocmmaa
open PFA PRA

theorem wd (x : Int) (h1 : -9223372036854775808 ≤ x) (h2 : x ≤ 9223372036854775807) : wrap64 x = x := by unfold wrap64; omega
def bdr (kind : Int) (n : Nat) (i : Int) : Nat :=
  if kind = 1 then (if i < 0 then 0 else if (n : Int) - 1 < i then n - 1 else i.toNat)
  else if kind = 3 then (i % (n : Int)).toNat
  else if n = 1 then 0
  else if (i % (2 * ((n : Int) - 1))) ≤ (n : Int) - 1 then (i % (2 * ((n : Int) - 1))).toNat else (2 * ((n : Int) - 1) - i % (2 * ((n : Int) - 1))).toNat
theorem rest_mod (i m : Int) (h0 : 0 < m) (h1 : m ≤ 100000) : Dg.f i m = some (i % m) := by
  unfold Dg.f; rw [if_neg (by omega)]
  congr 1
  have hb : -m < Int.tmod i m ∧ Int.tmod i m < m := by
    refine ⟨?_, Int.tmod_lt_of_pos i h0⟩
    rcases Int.le_total 0 i with h | h
    · have := Int.tmod_nonneg m h
      omega
    · have h3 : Int.tmod i m = -(Int.tmod (-i) m) := by rw [Int.neg_tmod, Int.neg_neg]
      have h4 := Int.tmod_lt_of_pos (-i) h0
      omega
  have hd := Int.tmod_def i m; generalize hm : Int.tmod i m = M at *; rw [wd _ (by omega) (by omega), Int.tmod_eq_emod_of_nonneg (by omega), Int.add_emod_right, hd, Int.sub_mul_emod_self_left]
theorem bdr_lt (kind : Int) (n : Nat) (i : Int) (h : 1 ≤ n) : bdr kind n i < n := by
  unfold bdr
  split
  · split
    · omega
    · split <;> omega
  · split
    · have h0 := Int.emod_nonneg i (show (n : Int) ≠ 0 by omega)
      have h1 := Int.emod_lt_of_pos i (show (0 : Int) < n by omega)
      omega
    · split
      · omega
      · have h0 := Int.emod_nonneg i (show 2 * ((n : Int) - 1) ≠ 0 by omega)
        have h1 := Int.emod_lt_of_pos i (show (0 : Int) < 2 * ((n : Int) - 1) by omega)
        split <;> omega
theorem border_eq (kind : Int) (n : Nat) (i : Int) (hk : 1 ≤ kind ∧ kind ≤ 3) (h1 : 1 ≤ n) (h2 : n ≤ 1024) (k : Nat) (h3 : 3 ≤ k) : B7.f k kind n i = some ((bdr kind n i : Int), 0) := by
  obtain ⟨k, rfl⟩ : ∃ q, k = q + 2 := ⟨k - 2, by omega⟩; unfold B7.f; rw [if_neg (by omega), decide_eq_false (by omega), B7.j0, if_neg (by decide), if_neg (by omega), decide_eq_false (by omega), B7.j1, if_neg (by decide)]; have w1 : wrap64 ((n : Int) - 1) = (n : Int) - 1 := wd _ (by omega) (by omega); unfold bdr
  by_cases c1 : kind = 1
  · rw [if_pos c1, if_pos c1, w1]
    unfold mn mx
    congr 2
    split <;> split <;> (try split) <;> omega
  · rw [if_neg c1, if_neg c1]
    by_cases c3 : kind = 3
    · rw [if_pos c3, if_pos c3, rest_mod i n (by omega) (by omega), Option.bind_some]
      have h0 := Int.emod_nonneg i (show (n : Int) ≠ 0 by omega); rw [Int.toNat_of_nonneg h0]
    · rw [if_neg c3, if_neg c3]
      by_cases cn : n = 1
      · rw [if_pos (by omega), if_pos cn]; rfl
      · rw [if_neg (by omega), if_neg cn, w1]
        have w2 : wrap64 (2 * ((n : Int) - 1)) = 2 * ((n : Int) - 1) := wd _ (by omega) (by omega); rw [w2, rest_mod i _ (by omega) (by omega), Option.bind_some]; have h0 := Int.emod_nonneg i (show 2 * ((n : Int) - 1) ≠ 0 by omega); have h4 := Int.emod_lt_of_pos i (show (0 : Int) < 2 * ((n : Int) - 1) by omega); generalize i % (2 * ((n : Int) - 1)) = m at *; rw [wd _ (by omega) (by omega)]; unfold mn
        congr 2
        split <;> split <;> omega
end Go.Proofs.Ytbfimplajocmmaa


