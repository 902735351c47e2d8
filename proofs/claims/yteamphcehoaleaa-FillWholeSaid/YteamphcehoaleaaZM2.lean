import Derived.Test.YteamphcehoaleaaZMP
import Derived.Test.YteamphcehoaleaaZI3
set_option linter.unusedVariables false
set_option linter.unusedSimpArgs false
namespace Go.Proofs.Yteamphcehoaleaa
namespace FM
structure CI (N : Nat) (nb : Nat → List Nat) (ms : Nat → Bool) (i : Nat) (out : List Int) (n : Int) : Prop where
  len : out.length = N
  n0 : 0 ≤ n
  rng : ∀ k, k < N → 0 ≤ out.getD k 0 ∧ out.getD k 0 ≤ n
  inm : ∀ k, k < N → 0 < out.getD k 0 → ms k = true
  all : ∀ k, k < i → k < N → ms k = true → 0 < out.getD k 0
  nbr : ∀ j, j < N → ∀ k ∈ nb j, ms j = true → ms k = true → 0 < out.getD j 0 → out.getD k 0 = out.getD j 0
  ord : ∀ k, k < N → ∀ v, 1 ≤ v → v < out.getD k 0 → ∃ j, j < k ∧ out.getD j 0 = v
  top : ∀ v, 1 ≤ v → v ≤ n → ∃ j, j < i ∧ j < N ∧ out.getD j 0 = v
theorem CI_start (N : Nat) (nb : Nat → List Nat) (ms : Nat → Bool) : CI N nb ms 0 (List.replicate N 0) 0 := by
  have h0 : ∀ k, (List.replicate N (0 : Int)).getD k 0 = 0 := fun k => by
    rw [List.getD_eq_getElem?_getD, List.getElem?_replicate]; split <;> rfl
  refine ⟨by simp, Int.le_refl _, fun k hk => by rw [h0]; omega, fun k hk h => by rw [h0] at h; omega, fun k h => by omega, fun j hj k hk h1 h2 h3 => by rw [h0] at h3; omega, fun k hk v h1 h2 => by rw [h0] at h2; omega, fun v h1 h2 => by omega⟩
theorem CI.root {N : Nat} {nb : Nat → List Nat} {ms : Nat → Bool} {i : Nat} {out o1 : List Int} {n : Int} (hnb : ∀ i, i < N → ∀ k ∈ nb i, k < N) (hsym : ∀ j, j < N → ∀ k ∈ nb j, j ∈ nb k) (H : CI N nb ms i out n) (hi : i < N) (hm : ms i = true) (h0 : out.getD i 0 = 0) (F : FillR N nb ms (n + 1) i out o1) : CI N nb ms (i + 1) o1 (n + 1) := by
  have hn := H.n0
  have old : ∀ k, k < N → out.getD k 0 ≠ 0 → o1.getD k 0 = out.getD k 0 := fun k hk h => by
    rcases F.either k hk with h1 | h1
    · exact h1
    · exact absurd h1.1 h
  have low : ∀ k, k < i → k < N → o1.getD k 0 = out.getD k 0 := fun k hk hkN => by
    rcases F.either k hkN with h1 | h1
    · exact h1
    · have := H.all k hk hkN h1.2.1; omega
  refine ⟨by rw [F.len]; exact H.len, by omega, fun k hk => ?_, fun k hk h => ?_, fun k hk hkN hmk => ?_, fun j hj k hk h1 h2 h3 => ?_, fun k hk v h1 h2 => ?_, fun v h1 h2 => ?_⟩
  · have := H.rng k hk
    rcases F.either k hk with h1 | h1 <;> omega
  · rcases F.either k hk with h1 | h1
    · exact H.inm k hk (by omega)
    · exact h1.2.1
  · by_cases e : k = i
    · rw [e, F.root]; omega
    · have := H.all k (by omega) hkN hmk
      rw [old k hkN (by omega)]; exact this
  · have hkN := hnb j hj k hk
    by_cases hz : out.getD j 0 = 0
    · have hjn : o1.getD j 0 = n + 1 := by
        rcases F.either j hj with h | h
        · omega
        · exact h.2.2
      have hc := F.closed j hj hz hjn k hk h2
      rcases F.either k hkN with h | h
      · have hko : out.getD k 0 ≠ 0 := by rw [← h]; exact hc
        have hr := H.rng k hkN
        have := H.nbr k hkN j (hsym j hj k hk) h2 h1 (by omega)
        omega
      · rw [h.2.2, hjn]
    · have hr := H.rng j hj
      have h4 := H.nbr j hj k hk h1 h2 (by omega)
      rw [old j hj hz, old k hkN (by omega), h4]
  · by_cases hz : out.getD k 0 = 0
    · rcases F.either k hk with h | h
      · omega
      · obtain ⟨j, hj1, hj2, hj3⟩ := H.top v h1 (by omega)
        have hki : ¬ k < i := fun hlt => by have := H.all k hlt hk h.2.1; omega
        exact ⟨j, by omega, by rw [old j hj2 (by omega)]; exact hj3⟩
    · rw [old k hk hz] at h2
      obtain ⟨j, hj1, hj2⟩ := H.ord k hk v h1 h2
      exact ⟨j, hj1, by rw [old j (by omega) (by omega)]; exact hj2⟩
  · by_cases e : v = n + 1
    · exact ⟨i, by omega, hi, by rw [F.root, e]⟩
    · obtain ⟨j, hj1, hj2, hj3⟩ := H.top v h1 (by omega)
      exact ⟨j, by omega, hj2, by rw [old j hj2 (by omega)]; exact hj3⟩
theorem Chain.CI {N : Nat} {nb : Nat → List Nat} {ms : Nat → Bool} (hnb : ∀ i, i < N → ∀ k ∈ nb i, k < N) (hsym : ∀ j, j < N → ∀ k ∈ nb j, j ∈ nb k) {i : Nat} {out : List Int} {n : Int} {o' : List Int} {n' : Int} (A : Chain N nb ms i out n o' n') : FM.CI N nb ms i out n → FM.CI N nb ms N o' n' := by
  induction A with
  | done out n => exact fun h => h
  | @skip i out n o' n' h1 h2 h3 ih =>
    refine fun H => ih ⟨H.len, H.n0, H.rng, H.inm, fun k hk hkN hmk => ?_, H.nbr, H.ord, fun v h1 h2 => by obtain ⟨j, a, b⟩ := H.top v h1 h2; exact ⟨j, by omega, b⟩⟩
    by_cases e : k = i
    · subst e
      have := H.rng k hkN
      rcases Int.lt_or_le 0 (out.getD k 0) with h | h
      · exact h
      · exact absurd ⟨hmk, by omega⟩ h2
    · exact H.all k (by omega) hkN hmk
  | root h1 h2 h3 h4 h5 ih => exact fun H => ih (H.root hnb hsym h1 h2 h3 h4)
theorem Chain.const {N : Nat} {nb : Nat → List Nat} {ms : Nat → Bool} {β : Type} (G : Nat → β) (hnb : ∀ i, i < N → ∀ k ∈ nb i, k < N) (hG : ∀ j, j < N → ∀ k ∈ nb j, ms j = true → ms k = true → G k = G j) {i : Nat} {out : List Int} {n : Int} {o' : List Int} {n' : Int} (A : Chain N nb ms i out n o' n') :
    out.length = N → 0 ≤ n → (∀ k, k < N → out.getD k 0 ≤ n) → (∀ a b, a < N → b < N → 0 < out.getD a 0 → out.getD a 0 = out.getD b 0 → G a = G b) → ∀ a b, a < N → b < N → 0 < o'.getD a 0 → o'.getD a 0 = o'.getD b 0 → G a = G b := by
  induction A with
  | done out n => exact fun _ _ _ h => h
  | skip h1 h2 h3 ih => exact ih
  | @root i out o1 n o' n' h1 h2 h3 h4 h5 ih =>
    intro hl hn hr h
    have hroot : ∀ j, j < N → out.getD j 0 = 0 → o1.getD j 0 = n + 1 → G j = G i := fun j hj hz hjn => by
      have := h4.least (fun j => j < N ∧ ms j = true ∧ G j = G i) ⟨h1, h2, rfl⟩ (fun j hj k hk hm hz => ⟨hnb j hj.1 k hk, hm, (hG j hj.1 k hk hj.2.1 hm).trans hj.2.2⟩) j hj hz hjn
      exact this.2.2
    refine ih (by rw [h4.len]; exact hl) (by omega) (fun k hk => ?_) (fun a b ha hb h6 h7 => ?_)
    · have := hr k hk
      rcases h4.either k hk with h | h <;> omega
    · have ra := hr a ha
      have rb := hr b hb
      rcases h4.either a ha with ea | ea
      · rcases h4.either b hb with eb | eb
        · exact h a b ha hb (by omega) (by omega)
        · omega
      · rcases h4.either b hb with eb | eb
        · omega
        · exact (hroot a ha ea.1 ea.2.2).trans (hroot b hb eb.1 eb.2.2).symm
end FM
theorem nbs_iff {w h : Nat} {ways : Int} {i : Nat} (hw : 1 ≤ w) (hi : i < w * h) (k : Nat) : k ∈ nbs w h ways i ↔
    (k < w * h ∧ k ≠ i ∧ k % w ≤ i % w + 1 ∧ i % w ≤ k % w + 1 ∧ k / w ≤ i / w + 1 ∧ i / w ≤ k / w + 1 ∧ (ways = 4 → k % w = i % w ∨ k / w = i / w)) := by
  have hx : i % w < w := Nat.mod_lt _ (by omega)
  have hy : i / w < h := (Nat.div_lt_iff_lt_mul (by omega)).mpr (by rw [Nat.mul_comm]; exact hi)
  have hdm : i = w * (i / w) + i % w := (Nat.div_add_mod i w).symm
  unfold nbs nbTo
  rw [List.mem_filterMap]
  constructor
  · rintro ⟨t, ht, e⟩
    unfold nbAt at e
    split at e
    · cases e
    · rename_i hs
      have e2 : k = ((i : Int) + ((t / 3 : Nat) - 1) * w + ((t % 3 : Nat) - 1)).toNat := by simpa using e.symm
      unfold nbSkip at hs
      have hlt : k < w * h := nbs_lt hw hi k (by unfold nbs nbTo; rw [List.mem_filterMap]; exact ⟨t, ht, by unfold nbAt; rw [if_neg (by unfold nbSkip; exact hs), e2]⟩)
      have ht3 : t % 3 < 3 := Nat.mod_lt _ (by omega)
      have ht9 : t / 3 < 3 := by have := List.mem_range.mp ht; omega
      generalize i % w = x at *
      generalize i / w = y at *
      generalize t % 3 = b at *
      generalize t / 3 = a at *
      obtain ⟨X, hX⟩ : ∃ X : Nat, (X : Int) = (x : Int) + ((b : Int) - 1) := ⟨((x : Int) + ((b : Int) - 1)).toNat, Int.toNat_of_nonneg (by omega)⟩
      obtain ⟨Y, hY⟩ : ∃ Y : Nat, (Y : Int) = (y : Int) + ((a : Int) - 1) := ⟨((y : Int) + ((a : Int) - 1)).toNat, Int.toNat_of_nonneg (by omega)⟩
      have hk : k = w * Y + X := by
        have : (i : Int) + ((a : Int) - 1) * w + ((b : Int) - 1) = ((w * Y + X : Nat) : Int) := by
          push_cast
          rw [hdm, hX, hY]
          push_cast
          rw [Int.mul_add, Int.mul_comm (w : Int) ((a : Int) - 1)]
          omega
        rw [e2, this, Int.toNat_natCast]
      have hXw : X < w := by omega
      have e3 : k % w = X := by rw [hk, Nat.mul_add_mod, Nat.mod_eq_of_lt hXw]
      have e4 : k / w = Y := by rw [hk, Nat.mul_add_div (by omega), Nat.div_eq_of_lt hXw]; rfl
      rw [e3, e4]
      refine ⟨hlt, fun e5 => ?_, by omega, by omega, by omega, by omega, fun h4 => by omega⟩
      have : X = x ∧ Y = y := by
        rw [hk] at e5
        have a1 : (w * Y + X) % w = (w * y + x) % w := by rw [e5, hdm]
        have a2 : (w * Y + X) / w = (w * y + x) / w := by rw [e5, hdm]
        rw [Nat.mul_add_mod, Nat.mul_add_mod, Nat.mod_eq_of_lt hXw, Nat.mod_eq_of_lt hx] at a1
        rw [Nat.mul_add_div (by omega), Nat.mul_add_div (by omega), Nat.div_eq_of_lt hXw, Nat.div_eq_of_lt hx] at a2
        exact ⟨a1, by omega⟩
      omega
  · rintro ⟨h1, h2, h3, h4, h5, h6, h7⟩
    have hkx : k % w < w := Nat.mod_lt _ (by omega)
    have hky : k / w < h := (Nat.div_lt_iff_lt_mul (by omega)).mpr (by rw [Nat.mul_comm]; exact h1)
    have hkm : k = w * (k / w) + k % w := (Nat.div_add_mod k w).symm
    have hne : ¬(k % w = i % w ∧ k / w = i / w) := fun e => h2 (by rw [hkm, hdm, e.1, e.2])
    obtain ⟨t, htd⟩ : ∃ t, t = (k / w + 1 - i / w) * 3 + (k % w + 1 - i % w) := ⟨_, rfl⟩
    have t1 : t % 3 = k % w + 1 - i % w := by rw [htd]; omega
    have t2 : t / 3 = k / w + 1 - i / w := by rw [htd]; omega
    refine ⟨t, List.mem_range.mpr (by omega), ?_⟩
    unfold nbAt
    rw [t1, t2]
    generalize hX : k % w = X at *
    generalize hY : k / w = Y at *
    generalize hx9 : i % w = x at *
    generalize hy9 : i / w = y at *
    rw [if_neg (by unfold nbSkip; rw [hx9, hy9]; omega)]
    congr 1
    have e1 : ((Y + 1 - y : Nat) : Int) - 1 = (Y : Int) - y := by omega
    have e2 : ((X + 1 - x : Nat) : Int) - 1 = (X : Int) - x := by omega
    rw [e1, e2]
    have : (i : Int) + ((Y : Int) - y) * w + ((X : Int) - x) = (k : Int) := by
      rw [hdm, hkm]
      push_cast
      rw [Int.sub_mul, Int.mul_comm (Y : Int), Int.mul_comm (y : Int)]
      omega
    rw [this, Int.toNat_natCast]
theorem nbs_sym {w h : Nat} {ways : Int} (hw : 1 ≤ w) : ∀ j, j < w * h → ∀ k ∈ nbs w h ways j, j ∈ nbs w h ways k := by
  intro j hj k hk
  have h := (nbs_iff hw hj k).mp hk
  exact (nbs_iff hw h.1 j).mpr ⟨hj, h.2.1.symm, by omega, by omega, by omega, by omega, fun h4 => by have := h.2.2.2.2.2.2 h4; omega⟩
end Go.Proofs.Yteamphcehoaleaa

