import Derived.Test.YteamphcehoaleaaXMB
set_option linter.unusedVariables false
set_option linter.unusedSimpArgs false
namespace Go.Proofs.Yteamphcehoaleaa
namespace FM
def part1 (ms : Nat → Bool) (n : Int) : List Nat → List Int → List Nat → List Int × List Nat
  | [], out, s => (out, s)
  | k :: t, out, s => if ms k = true ∧ out.getD k 0 = 0 then part1 ms n t (out.set k n) (s ++ [k]) else part1 ms n t out s
structure FillR (N : Nat) (nb : Nat → List Nat) (ms : Nat → Bool) (n : Int) (i : Nat) (out out' : List Int) : Prop where
  len : out'.length = out.length
  either : ∀ k, k < N → out'.getD k 0 = out.getD k 0 ∨ (out.getD k 0 = 0 ∧ ms k = true ∧ out'.getD k 0 = n)
  root : out'.getD i 0 = n
  closed : ∀ j, j < N → out.getD j 0 = 0 → out'.getD j 0 = n → ∀ k ∈ nb j, ms k = true → out'.getD k 0 ≠ 0
  least : ∀ C : Nat → Prop, C i → (∀ j, C j → ∀ k ∈ nb j, ms k = true → out.getD k 0 = 0 → C k) → ∀ j, j < N → out.getD j 0 = 0 → out'.getD j 0 = n → C j
theorem list_ext_getD (a b : List Int) (h : a.length = b.length) (hg : ∀ k, k < a.length → a.getD k 0 = b.getD k 0) : a = b := by
  refine List.ext_getElem h fun k h1 h2 => ?_
  have := hg k h1
  rw [List.getD_eq_getElem?_getD, List.getD_eq_getElem?_getD, List.getElem?_eq_getElem h1, List.getElem?_eq_getElem h2] at this
  exact this
theorem FillR.sub {N : Nat} {nb : Nat → List Nat} {ms : Nat → Bool} {n : Int} {i : Nat} {out a b : List Int} (hnb : ∀ i, i < N → ∀ k ∈ nb i, k < N) (hn : 0 < n) (hi : i < N) (h0 : out.getD i 0 = 0) (A : FillR N nb ms n i out a) (B : FillR N nb ms n i out b) :
    ∀ k, k < N → out.getD k 0 = 0 → a.getD k 0 = n → b.getD k 0 = n := by
  intro k hk hz ha
  have h := A.least (fun j => j < N ∧ out.getD j 0 = 0 ∧ b.getD j 0 = n) ⟨hi, h0, B.root⟩ (fun j hj x hx hm hz => by
    have hxN := hnb j hj.1 x hx
    have h1 := B.closed j hj.1 hj.2.1 hj.2.2 x hx hm
    rcases B.either x hxN with h2 | h2
    · rw [h2] at h1; exact absurd hz h1
    · exact ⟨hxN, hz, h2.2.2⟩) k hk hz ha
  exact h.2.2
theorem FillR.unique {N : Nat} {nb : Nat → List Nat} {ms : Nat → Bool} {n : Int} {i : Nat} {out a b : List Int} (hnb : ∀ i, i < N → ∀ k ∈ nb i, k < N) (hn : 0 < n) (hi : i < N) (hl : out.length = N) (h0 : out.getD i 0 = 0) (A : FillR N nb ms n i out a) (B : FillR N nb ms n i out b) : a = b := by
  refine list_ext_getD a b (by rw [A.len, B.len]) fun k hk => ?_
  have hkN : k < N := by rw [A.len, hl] at hk; exact hk
  by_cases hz : out.getD k 0 = 0
  · rcases A.either k hkN with h1 | h1
    · rcases B.either k hkN with h2 | h2
      · rw [h1, h2]
      · have := FillR.sub hnb hn hi h0 B A k hkN hz h2.2.2
        rw [this, h2.2.2]
    · rw [h1.2.2, FillR.sub hnb hn hi h0 A B k hkN hz h1.2.2]
  · rcases A.either k hkN with h1 | h1
    · rcases B.either k hkN with h2 | h2
      · rw [h1, h2]
      · exact absurd h2.1 hz
    · exact absurd h1.1 hz
structure FI (N : Nat) (nb : Nat → List Nat) (ms : Nat → Bool) (n : Int) (i : Nat) (out0 : List Int) (out : List Int) (pend : List Nat) : Prop where
  len : out.length = N
  either : ∀ k, k < N → out.getD k 0 = out0.getD k 0 ∨ (out0.getD k 0 = 0 ∧ ms k = true ∧ out.getD k 0 = n)
  root : out.getD i 0 = n
  nodup : pend.Nodup
  pnew : ∀ k ∈ pend, k < N ∧ out0.getD k 0 = 0 ∧ out.getD k 0 = n
  closed : ∀ j, j < N → out0.getD j 0 = 0 → out.getD j 0 = n → j ∉ pend → ∀ k ∈ nb j, ms k = true → out.getD k 0 ≠ 0
  least : ∀ C : Nat → Prop, C i → (∀ j, C j → ∀ k ∈ nb j, ms k = true → out0.getD k 0 = 0 → C k) → ∀ j, j < N → out0.getD j 0 = 0 → out.getD j 0 = n → C j
theorem FI.perm {N : Nat} {nb : Nat → List Nat} {ms : Nat → Bool} {n : Int} {i : Nat} {out0 out : List Int} {p p' : List Nat} (H : FI N nb ms n i out0 out p) (hp : p.Perm p') : FI N nb ms n i out0 out p' :=
  ⟨H.len, H.either, H.root, hp.nodup_iff.mp H.nodup, fun k hk => H.pnew k (hp.mem_iff.mpr hk), fun j h1 h2 h3 h4 => H.closed j h1 h2 h3 (fun h => h4 (hp.mem_iff.mp h)), H.least⟩
theorem FI.fin {N : Nat} {nb : Nat → List Nat} {ms : Nat → Bool} {n : Int} {i : Nat} {out0 out : List Int} (h0 : out0.length = N) (H : FI N nb ms n i out0 out []) : FillR N nb ms n i out0 out :=
  ⟨by rw [H.len, h0], H.either, H.root, fun j h1 h2 h3 => H.closed j h1 h2 h3 (by simp), H.least⟩
def zeros (out : List Int) : Nat := out.countP (fun x => x == 0)
theorem zeros_set (out : List Int) (k : Nat) (n : Int) (hk : k < out.length) (h0 : out.getD k 0 = 0) (hn : n ≠ 0) : zeros (out.set k n) + 1 = zeros out := by
  induction out generalizing k with
  | nil => simp at hk
  | cons x t ih =>
    cases k with
    | zero =>
      rw [List.getD_cons_zero] at h0
      subst h0
      simp [zeros, List.countP_cons, hn]
    | succ k =>
      rw [List.getD_cons_succ] at h0
      have := ih k (by simpa using hk) h0
      simp only [zeros, List.set_cons_succ, List.countP_cons] at *
      omega
theorem part1_FI (N : Nat) (nb : Nat → List Nat) (ms : Nat → Bool) (n : Int) (i : Nat) (out0 : List Int) (hn : 0 < n) (j : Nat) (hj : j < N) (hj0 : out0.getD j 0 = 0) : ∀ (ks : List Nat) (out : List Int) (s : List Nat), (∀ k ∈ ks, k < N) → (∀ k ∈ ks, k ∈ nb j) →
    out.getD j 0 = n → j ∉ s → FI N nb ms n i out0 out (j :: s) → (∀ k ∈ nb j, ms k = true → out.getD k 0 ≠ 0 ∨ k ∈ ks) →
    FI N nb ms n i out0 (part1 ms n ks out s).1 (part1 ms n ks out s).2 ∧ zeros (part1 ms n ks out s).1 + (part1 ms n ks out s).2.length = zeros out + s.length
  | [], out, s, hk, hknb, hjn, hjs, H, hc => by
    rw [part1]
    refine ⟨⟨H.len, H.either, H.root, (List.nodup_cons.mp H.nodup).2, fun k hk => H.pnew k (List.mem_cons_of_mem _ hk), fun x h1 h2 h3 h4 => ?_, H.least⟩, rfl⟩
    by_cases e : x = j
    · subst e
      intro k hk hm
      rcases hc k hk hm with h | h
      · exact h
      · simp at h
    · exact H.closed x h1 h2 h3 (by simp [e, h4])
  | k :: t, out, s, hk, hknb, hjn, hjs, H, hc => by
    have hkN : k < N := hk k List.mem_cons_self
    have hl := H.len
    rw [part1]
    split
    · rename_i hcond
      obtain ⟨hm, hz⟩ := hcond
      have hkj : k ≠ j := fun e => by rw [e, hjn] at hz; omega
      have hz0 : out0.getD k 0 = 0 := by
        rcases H.either k hkN with h | h
        · rw [← h]; exact hz
        · exact h.1
      have hks : k ∉ s := fun h => by have := (H.pnew k (List.mem_cons_of_mem _ h)).2.2; omega
      have hset : ∀ x, x ≠ k → (out.set k n).getD x 0 = out.getD x 0 := fun x hx => getD_set_ne _ _ _ _ (Ne.symm hx)
      have hself : (out.set k n).getD k 0 = n := getD_set_self _ _ _ (by omega)
      have hns := List.nodup_cons.mp H.nodup
      have B : ∀ x ∈ nb j, ms x = true → (out.set k n).getD x 0 ≠ 0 ∨ x ∈ t := by
        intro x hx hxm
        by_cases e : x = k
        · left; rw [e, hself]; omega
        · rcases hc x hx hxm with h | h
          · left; rw [hset x e]; exact h
          · rcases List.mem_cons.mp h with h | h
            · exact absurd h e
            · exact .inr h
      have A : FI N nb ms n i out0 (out.set k n) (j :: (s ++ [k])) := by
        refine ⟨by rw [List.length_set]; exact H.len, fun x hx => ?_, ?_, ?_, fun x hx => ?_, fun x g1 g2 g3 g4 y hy hym => ?_, fun C hC hcl x g1 g2 g3 => ?_⟩
        · by_cases e : x = k
          · subst e; exact .inr ⟨hz0, hm, hself⟩
          · rw [hset x e]; exact H.either x hx
        · by_cases e : i = k
          · rw [e]; exact hself
          · rw [hset i e]; exact H.root
        · refine List.nodup_cons.mpr ⟨by simp [hjs, Ne.symm hkj], List.nodup_append.mpr ⟨hns.2, by simp, fun a ha b hb => ?_⟩⟩
          rw [List.mem_singleton] at hb
          subst hb
          exact fun e => hks (by rw [← e]; exact ha)
        · by_cases e : x = k
          · subst e; exact ⟨hkN, hz0, hself⟩
          · have hx2 : x ∈ j :: s := by
              rcases List.mem_cons.mp hx with h | h
              · rw [h]; exact List.mem_cons_self
              · rcases List.mem_append.mp h with h | h
                · exact List.mem_cons_of_mem _ h
                · rw [List.mem_singleton] at h; exact absurd h e
            have := H.pnew x hx2
            exact ⟨this.1, this.2.1, by rw [hset x e]; exact this.2.2⟩
        · by_cases e2 : y = k
          · rw [e2, hself]; omega
          · rw [hset y e2]
            by_cases e : x = k
            · subst e; exact absurd (show x ∈ j :: (s ++ [x]) by simp) g4
            · rw [hset x e] at g3
              exact H.closed x g1 g2 g3 (fun h => g4 (by
                rcases List.mem_cons.mp h with h | h
                · rw [h]; exact List.mem_cons_self
                · exact List.mem_cons_of_mem _ (List.mem_append_left _ h))) y hy hym
        · by_cases e : x = k
          · subst e
            have hCj : C j := H.least C hC hcl j hj hj0 hjn
            exact hcl j hCj x (hknb x List.mem_cons_self) hm g2
          · rw [hset x e] at g3
            exact H.least C hC hcl x g1 g2 g3
      obtain ⟨h1, h2⟩ := part1_FI N nb ms n i out0 hn j hj hj0 t (out.set k n) (s ++ [k]) (fun x hx => hk x (List.mem_cons_of_mem _ hx)) (fun x hx => hknb x (List.mem_cons_of_mem _ hx))
        (by rw [hset j (Ne.symm hkj)]; exact hjn) (by simp [hjs, Ne.symm hkj]) A B
      refine ⟨h1, ?_⟩
      rw [h2, List.length_append, List.length_singleton]
      have := zeros_set out k n (by omega) hz (by omega)
      omega
    · rename_i hcond
      refine part1_FI N nb ms n i out0 hn j hj hj0 t out s (fun x hx => hk x (List.mem_cons_of_mem _ hx)) (fun x hx => hknb x (List.mem_cons_of_mem _ hx)) hjn hjs H fun x hx hxm => ?_
      rcases hc x hx hxm with h | h
      · exact .inl h
      · rcases List.mem_cons.mp h with h | h
        · subst h
          exact .inl (fun hz => hcond ⟨hxm, hz⟩)
        · exact .inr h
theorem FI_step {N : Nat} {nb : Nat → List Nat} {ms : Nat → Bool} {n : Int} {i : Nat} {out0 out : List Int} {j : Nat} {s : List Nat} (hnb : ∀ i, i < N → ∀ k ∈ nb i, k < N) (hn : 0 < n) (H : FI N nb ms n i out0 out (j :: s)) :
    FI N nb ms n i out0 (part1 ms n (nb j) out s).1 (part1 ms n (nb j) out s).2 ∧ zeros (part1 ms n (nb j) out s).1 + (part1 ms n (nb j) out s).2.length = zeros out + s.length := by
  have hj := H.pnew j List.mem_cons_self
  exact part1_FI N nb ms n i out0 hn j hj.1 hj.2.1 (nb j) out s (hnb j hj.1) (fun k hk => hk) hj.2.2 (List.nodup_cons.mp H.nodup).1 H (fun k hk hm => .inr hk)
theorem FI_start {N : Nat} {nb : Nat → List Nat} {ms : Nat → Bool} {n : Int} {i : Nat} {out : List Int} (hl : out.length = N) (hi : i < N) (hm : ms i = true) (h0 : out.getD i 0 = 0) (hn : 0 < n) : FI N nb ms n i out (out.set i n) [i] := by
  have hset : ∀ x, x ≠ i → (out.set i n).getD x 0 = out.getD x 0 := fun x hx => getD_set_ne _ _ _ _ (Ne.symm hx)
  have hself : (out.set i n).getD i 0 = n := getD_set_self _ _ _ (by omega)
  refine ⟨by rw [List.length_set]; exact hl, fun k hk => ?_, hself, by simp, fun k hk => ?_, fun j h1 h2 h3 h4 => ?_, fun C hC hcl j h1 h2 h3 => ?_⟩
  · by_cases e : k = i
    · subst e; exact .inr ⟨h0, hm, hself⟩
    · exact .inl (hset k e)
  · rw [List.mem_singleton] at hk; subst hk; exact ⟨hi, h0, hself⟩
  · rw [hset j (by simpa using h4)] at h3; omega
  · by_cases e : j = i
    · rw [e]; exact hC
    · rw [hset j e] at h3; omega
inductive Chain (N : Nat) (nb : Nat → List Nat) (ms : Nat → Bool) : Nat → List Int → Int → List Int → Int → Prop
  | done (out : List Int) (n : Int) : Chain N nb ms N out n out n
  | skip {i : Nat} {out : List Int} {n : Int} {o' : List Int} {n' : Int} : i < N → ¬(ms i = true ∧ out.getD i 0 = 0) → Chain N nb ms (i + 1) out n o' n' → Chain N nb ms i out n o' n'
  | root {i : Nat} {out o1 : List Int} {n : Int} {o' : List Int} {n' : Int} : i < N → ms i = true → out.getD i 0 = 0 → FillR N nb ms (n + 1) i out o1 → Chain N nb ms (i + 1) o1 (n + 1) o' n' → Chain N nb ms i out n o' n'
theorem Chain.unique {N : Nat} {nb : Nat → List Nat} {ms : Nat → Bool} (hnb : ∀ i, i < N → ∀ k ∈ nb i, k < N) {i : Nat} {out : List Int} {n : Int} {a : List Int} {x : Int} (A : Chain N nb ms i out n a x) : ∀ {b : List Int} {y : Int}, out.length = N → 0 ≤ n → Chain N nb ms i out n b y → a = b ∧ x = y := by
  induction A with
  | done out n =>
    intro b y hl hn B
    cases B with
    | done => exact ⟨rfl, rfl⟩
    | skip h _ _ => omega
    | root h _ _ _ _ => omega
  | skip h1 h2 h3 ih =>
    intro b y hl hn B
    cases B with
    | done => omega
    | skip _ _ g3 => exact ih hl hn g3
    | root _ g2 g3 _ _ => exact absurd ⟨g2, g3⟩ h2
  | root h1 h2 h3 h4 h5 ih =>
    intro b y hl hn B
    cases B with
    | done => omega
    | skip _ g2 _ => exact absurd ⟨h2, h3⟩ g2
    | root _ _ _ g4 g5 =>
      have e := FillR.unique hnb (by omega) h1 hl h3 h4 g4
      subst e
      exact ih (by rw [h4.len]; exact hl) (by omega) g5
end FM
end Go.Proofs.Yteamphcehoaleaa

