import Derived.Test.YteamphcehoaleaaMB
set_option linter.unusedVariables false
set_option linter.unusedSimpArgs false
namespace Go.Proofs.Yteamphcehoaleaa
namespace FM
def part1 (ms : Nat → Bool) (n : Int) : List Nat → List Int → List Nat → List Int × List Nat
  | [], out, s => (out, s)
  | k :: t, out, s => if ms k = true ∧ out.getD k 0 = 0 then part1 ms n t (out.set k n) (s ++ [k]) else part1 ms n t out s
structure FillR (N : Nat) (nb : Nat → List Nat) (ms : Nat → Bool) (n : Int) (i : Nat) (out out' : List Int) : Prop where
  len : out'.length = out.length
  either : ∀ k, k < N → out'.getD k 0 = out.getD k 0 ∨ (out.getD k 0 = 0 ∧ ms k = true ∧ out'.getD k 0 = n)
  root : out'.getD i 0 = n
  closed : ∀ j, j < N → out.getD j 0 = 0 → out'.getD j 0 = n → ∀ k ∈ nb j, ms k = true → out'.getD k 0 ≠ 0
  least : ∀ C : Nat → Prop, C i → (∀ j, C j → ∀ k ∈ nb j, ms k = true → out.getD k 0 = 0 → C k) → ∀ j, j < N → out.getD j 0 = 0 → out'.getD j 0 = n → C j
theorem list_ext_getD (a b : List Int) (h : a.length = b.length) (hg : ∀ k, k < a.length → a.getD k 0 = b.getD k 0) : a = b := by
  refine List.ext_getElem h fun k h1 h2 => ?_
  have := hg k h1
  rw [List.getD_eq_getElem?_getD, List.getD_eq_getElem?_getD, List.getElem?_eq_getElem h1, List.getElem?_eq_getElem h2] at this
  exact this
theorem FillR.sub {N : Nat} {nb : Nat → List Nat} {ms : Nat → Bool} {n : Int} {i : Nat} {out a b : List Int} (hnb : ∀ i, i < N → ∀ k ∈ nb i, k < N) (hn : 0 < n) (hi : i < N) (h0 : out.getD i 0 = 0) (A : FillR N nb ms n i out a) (B : FillR N nb ms n i out b) :
    ∀ k, k < N → out.getD k 0 = 0 → a.getD k 0 = n → b.getD k 0 = n := by
  intro k hk hz ha
  have h := A.least (fun j => j < N ∧ out.getD j 0 = 0 ∧ b.getD j 0 = n) ⟨hi, h0, B.root⟩ (fun j hj x hx hm hz => by
    have hxN := hnb j hj.1 x hx
    have h1 := B.closed j hj.1 hj.2.1 hj.2.2 x hx hm
    rcases B.either x hxN with h2 | h2
    · rw [h2] at h1; exact absurd hz h1
    · exact ⟨hxN, hz, h2.2.2⟩) k hk hz ha
  exact h.2.2
theorem FillR.unique {N : Nat} {nb : Nat → List Nat} {ms : Nat → Bool} {n : Int} {i : Nat} {out a b : List Int} (hnb : ∀ i, i < N → ∀ k ∈ nb i, k < N) (hn : 0 < n) (hi : i < N) (hl : out.length = N) (h0 : out.getD i 0 = 0) (A : FillR N nb ms n i out a) (B : FillR N nb ms n i out b) : a = b := by
  refine list_ext_getD a b (by rw [A.len, B.len]) fun k hk => ?_
  have hkN : k < N := by rw [A.len, hl] at hk; exact hk
  by_cases hz : out.getD k 0 = 0
  · rcases A.either k hkN with h1 | h1
    · rcases B.either k hkN with h2 | h2
      · rw [h1, h2]
      · have := FillR.sub hnb hn hi h0 B A k hkN hz h2.2.2
        rw [this, h2.2.2]
    · rw [h1.2.2, FillR.sub hnb hn hi h0 A B k hkN hz h1.2.2]
  · rcases A.either k hkN with h1 | h1
    · rcases B.either k hkN with h2 | h2
      · rw [h1, h2]
      · exact absurd h2.1 hz
    · exact absurd h1.1 hz
def zeros (out : List Int) : Nat := out.countP (fun x => x == 0)
theorem zeros_set (out : List Int) (k : Nat) (n : Int) (hk : k < out.length) (h0 : out.getD k 0 = 0) (hn : n ≠ 0) : zeros (out.set k n) + 1 = zeros out := by
  induction out generalizing k with
  | nil => simp at hk
  | cons x t ih =>
    cases k with
    | zero =>
      rw [List.getD_cons_zero] at h0
      subst h0
      simp [zeros, List.countP_cons, hn]
    | succ k =>
      rw [List.getD_cons_succ] at h0
      have := ih k (by simpa using hk) h0
      simp only [zeros, List.set_cons_succ, List.countP_cons] at *
      omega
inductive Chain (N : Nat) (nb : Nat → List Nat) (ms : Nat → Bool) : Nat → List Int → Int → List Int → Int → Prop
  | done (out : List Int) (n : Int) : Chain N nb ms N out n out n
  | skip {i : Nat} {out : List Int} {n : Int} {o' : List Int} {n' : Int} : i < N → ¬(ms i = true ∧ out.getD i 0 = 0) → Chain N nb ms (i + 1) out n o' n' → Chain N nb ms i out n o' n'
  | root {i : Nat} {out o1 : List Int} {n : Int} {o' : List Int} {n' : Int} : i < N → ms i = true → out.getD i 0 = 0 → FillR N nb ms (n + 1) i out o1 → Chain N nb ms (i + 1) o1 (n + 1) o' n' → Chain N nb ms i out n o' n'
theorem Chain.unique {N : Nat} {nb : Nat → List Nat} {ms : Nat → Bool} (hnb : ∀ i, i < N → ∀ k ∈ nb i, k < N) {i : Nat} {out : List Int} {n : Int} {a : List Int} {x : Int} (A : Chain N nb ms i out n a x) : ∀ {b : List Int} {y : Int}, out.length = N → 0 ≤ n → Chain N nb ms i out n b y → a = b ∧ x = y := by
  induction A with
  | done out n =>
    intro b y hl hn B
    cases B with
    | done => exact ⟨rfl, rfl⟩
    | skip h _ _ => omega
    | root h _ _ _ _ => omega
  | skip h1 h2 h3 ih =>
    intro b y hl hn B
    cases B with
    | done => omega
    | skip _ _ g3 => exact ih hl hn g3
    | root _ g2 g3 _ _ => exact absurd ⟨g2, g3⟩ h2
  | root h1 h2 h3 h4 h5 ih =>
    intro b y hl hn B
    cases B with
    | done => omega
    | skip _ g2 _ => exact absurd ⟨h2, h3⟩ g2
    | root _ _ _ g4 g5 =>
      have e := FillR.unique hnb (by omega) h1 hl h3 h4 g4
      subst e
      exact ih (by rw [h4.len]; exact hl) (by omega) g5
end FM
end Go.Proofs.Yteamphcehoaleaa

