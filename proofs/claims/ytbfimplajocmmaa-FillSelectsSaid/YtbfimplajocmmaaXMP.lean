import Derived.RowKit
section
set_option linter.unusedVariables false
set_option linter.unusedSimpArgs false
namespace Go.Proofs.Ytbfimplajocmmaa
namespace FM
def reach1 (may : Nat → Bool) (i : Nat) : List Nat → List Int → List Nat → List Int × List Nat
  | [], st, q => (st, q)
  | k :: t, st, q => if st.getD k 0 < 0 ∧ may k = true then reach1 may i t (st.set k (st.getD i 0 + 1)) (q ++ [k]) else reach1 may i t st q
def spread (nb : Nat → List Nat) (may : Nat → Bool) : Nat → Nat → List Int → List Nat → Option (List Int × List Nat)
  | 0, _, _, _ => none
  | f + 1, n, st, q => if n = q.length then some (st, q) else spread nb may f (n + 1) (reach1 may (q.getD n 0) (nb (q.getD n 0)) st q).1 (reach1 may (q.getD n 0) (nb (q.getD n 0)) st q).2
theorem getD_set_self (l : List Int) (k : Nat) (v : Int) (h : k < l.length) : (l.set k v).getD k 0 = v := by
  rw [List.getD_eq_getElem?_getD, List.getElem?_set_self h]; rfl
theorem getD_set_ne (l : List Int) (k j : Nat) (v : Int) (h : k ≠ j) : (l.set k v).getD j 0 = l.getD j 0 := by
  rw [List.getD_eq_getElem?_getD, List.getD_eq_getElem?_getD, List.getElem?_set_ne h]
structure R1 (N : Nat) (may : Nat → Bool) (i : Nat) (ks : List Nat) (st : List Int) (q : List Nat) (st' : List Int) (q' : List Nat) : Prop where
  len : st'.length = st.length
  ext : ∃ r, q' = q ++ r ∧ (∀ k ∈ r, k ∈ ks ∧ may k = true ∧ st'.getD k 0 = st.getD i 0 + 1)
  old : ∀ k, k ∈ q → st'.getD k 0 = st.getD k 0
  nodup : q'.Nodup
  mem : ∀ k, k < N → (0 ≤ st'.getD k 0 ↔ k ∈ q')
  lt : ∀ k ∈ q', k < N
  all : ∀ k ∈ ks, may k = true → k ∈ q'
theorem reach1_R1 (N : Nat) (may : Nat → Bool) (i : Nat) : ∀ (ks : List Nat) (st : List Int) (q : List Nat), st.length = N → (∀ k ∈ ks, k < N) → i ∈ q → q.Nodup → (∀ k, k < N → (0 ≤ st.getD k 0 ↔ k ∈ q)) → (∀ k ∈ q, k < N) →
    R1 N may i ks st q (reach1 may i ks st q).1 (reach1 may i ks st q).2
  | [], st, q, hl, hk, hi, hn, hm, hlt => ⟨rfl, ⟨[], by simp [reach1], by simp⟩, fun _ _ => rfl, hn, hm, hlt, by simp⟩
  | k :: t, st, q, hl, hk, hi, hn, hm, hlt => by
    have hkN : k < N := hk k List.mem_cons_self; have hiN : i < N := hlt i hi; rw [reach1]
    split
    · rename_i hc
      obtain ⟨hneg, hmay⟩ := hc; have hkq : k ∉ q := fun h => by have := (hm k hkN).mpr h; omega
      have hik : k ≠ i := fun h => hkq (h ▸ hi)
      have hi0 : 0 ≤ st.getD i 0 := (hm i hiN).mpr hi
      have ih := reach1_R1 N may i t (st.set k (st.getD i 0 + 1)) (q ++ [k]) (by rw [List.length_set]; exact hl) (fun x hx => hk x (List.mem_cons_of_mem _ hx)) (List.mem_append_left _ hi)
        (List.nodup_append.mpr ⟨hn, by simp, fun a ha b hb => by rw [List.mem_singleton] at hb; subst hb; exact fun e => hkq (e ▸ ha)⟩)
        (fun x hx => by
          by_cases e : k = x
          · subst e
            rw [getD_set_self _ _ _ (by omega)]; exact ⟨fun _ => by simp, fun _ => by omega⟩
          · rw [getD_set_ne _ _ _ _ e, hm x hx]
            simp [Ne.symm e])
        (fun x hx => by
          rcases List.mem_append.mp hx with h | h
          · exact hlt x h
          · rw [List.mem_singleton] at h; subst h; exact hkN)
      obtain ⟨r, hr, hrk⟩ := ih.ext; refine ⟨by rw [ih.len, List.length_set], ⟨k :: r, by rw [hr]; simp, fun x hx => ?_⟩, fun x hx => ?_, ih.nodup, ih.mem, ih.lt, fun x hx hmx => ?_⟩
      · rcases List.mem_cons.mp hx with rfl | hx
        · refine ⟨List.mem_cons_self, hmay, ?_⟩
          rw [ih.old x (by simp), getD_set_self _ _ _ (by omega)]
        · obtain ⟨h1, h2, h3⟩ := hrk x hx
          exact ⟨List.mem_cons_of_mem _ h1, h2, by rw [h3, getD_set_ne _ _ _ _ hik]⟩
      · rw [ih.old x (List.mem_append_left _ hx), getD_set_ne _ _ _ _ (fun e : k = x => hkq (by rw [e]; exact hx))]
      · rcases List.mem_cons.mp hx with rfl | hx
        · rw [hr]; simp
        · exact ih.all x hx hmx
    · rename_i hc
      have ih := reach1_R1 N may i t st q hl (fun x hx => hk x (List.mem_cons_of_mem _ hx)) hi hn hm hlt; obtain ⟨r, hr, hrk⟩ := ih.ext; refine ⟨ih.len, ⟨r, hr, fun x hx => ⟨List.mem_cons_of_mem _ (hrk x hx).1, (hrk x hx).2⟩⟩, ih.old, ih.nodup, ih.mem, ih.lt, fun x hx hmx => ?_⟩
      rcases List.mem_cons.mp hx with rfl | hx
      · have : 0 ≤ st.getD x 0 := by
          rcases Int.lt_or_le (st.getD x 0) 0 with h | h
          · exact absurd ⟨h, hmx⟩ hc
          · exact h
        rw [hr]; exact List.mem_append_left _ ((hm x hkN).mp this)
      · exact ih.all x hx hmx
structure BI (N : Nat) (nb : Nat → List Nat) (may : Nat → Bool) (src : List Nat) (h : Nat) (st : List Int) (q : List Nat) : Prop where
  len : st.length = N
  nodup : q.Nodup
  mem : ∀ k, k < N → (0 ≤ st.getD k 0 ↔ k ∈ q)
  lt : ∀ k ∈ q, k < N
  pre : ∃ r, q = src ++ r
  zero : ∀ k ∈ src, st.getD k 0 = 0
  par : ∀ p, p < q.length → src.length ≤ p → may (q.getD p 0) = true ∧ ∃ o, o < p ∧ o < h ∧ q.getD p 0 ∈ nb (q.getD o 0) ∧ st.getD (q.getD p 0) 0 = st.getD (q.getD o 0) 0 + 1
  done : ∀ p, p < h → p < q.length → ∀ k ∈ nb (q.getD p 0), may k = true → k ∈ q ∧ st.getD k 0 ≤ st.getD (q.getD p 0) 0 + 1
  mono : ∀ a b, a ≤ b → b < q.length → st.getD (q.getD a 0) 0 ≤ st.getD (q.getD b 0) 0
  top : ∀ p, p < q.length → h < q.length → st.getD (q.getD p 0) 0 ≤ st.getD (q.getD h 0) 0 + 1
  hle : h ≤ q.length
theorem qget_left (a b : List Nat) (i : Nat) (h : i < a.length) : (a ++ b).getD i 0 = a.getD i 0 := by
  rw [List.getD_eq_getElem?_getD, List.getD_eq_getElem?_getD, List.getElem?_append_left h]
theorem qget_right (a b : List Nat) (i : Nat) (h : a.length ≤ i) : (a ++ b).getD i 0 = b.getD (i - a.length) 0 := by
  rw [List.getD_eq_getElem?_getD, List.getD_eq_getElem?_getD, List.getElem?_append_right h]
theorem qget_mem (a : List Nat) (i : Nat) (h : i < a.length) : a.getD i 0 ∈ a := by
  rw [List.getD_eq_getElem?_getD, List.getElem?_eq_getElem h]; exact List.getElem_mem _
theorem mem_qget (a : List Nat) (x : Nat) (h : x ∈ a) : ∃ i, i < a.length ∧ a.getD i 0 = x := by
  obtain ⟨i, hi, e⟩ := List.mem_iff_getElem.mp h; exact ⟨i, hi, by rw [List.getD_eq_getElem?_getD, List.getElem?_eq_getElem hi]; exact e⟩
theorem BI_step {N : Nat} {nb : Nat → List Nat} {may : Nat → Bool} {src : List Nat} {h : Nat} {st : List Int} {q : List Nat} (hnb : ∀ i, i < N → ∀ k ∈ nb i, k < N) (H : BI N nb may src h st q) (hh : h < q.length) :
    BI N nb may src (h + 1) (reach1 may (q.getD h 0) (nb (q.getD h 0)) st q).1 (reach1 may (q.getD h 0) (nb (q.getD h 0)) st q).2 := by
  have hi : q.getD h 0 ∈ q := qget_mem q h hh; have hiN := H.lt _ hi; have R := reach1_R1 N may (q.getD h 0) (nb (q.getD h 0)) st q H.len (hnb _ hiN) hi H.nodup H.mem H.lt; generalize (reach1 may (q.getD h 0) (nb (q.getD h 0)) st q).1 = st' at R ⊢; generalize (reach1 may (q.getD h 0) (nb (q.getD h 0)) st q).2 = q' at R ⊢; obtain ⟨r, hr, hrk⟩ := R.ext; have hl : q.length ≤ q'.length := by rw [hr, List.length_append]; omega
  have qo : ∀ p, p < q.length → q'.getD p 0 = q.getD p 0 := fun p hp => by rw [hr]; exact qget_left q r p hp
  have so : ∀ p, p < q.length → st'.getD (q'.getD p 0) 0 = st.getD (q.getD p 0) 0 := fun p hp => by rw [qo p hp]; exact R.old _ (qget_mem q p hp)
  have sn : ∀ p, q.length ≤ p → p < q'.length → may (q'.getD p 0) = true ∧ q'.getD p 0 ∈ nb (q.getD h 0) ∧ st'.getD (q'.getD p 0) 0 = st.getD (q.getD h 0) 0 + 1 := fun p h1 h2 => by
    have e : q'.getD p 0 = r.getD (p - q.length) 0 := by rw [hr]; exact qget_right q r p h1
    have hm := hrk _ (qget_mem r (p - q.length) (by rw [hr, List.length_append] at h2; omega)); rw [← e] at hm; exact ⟨hm.2.1, hm.1, hm.2.2⟩
  have up : ∀ p, p < q'.length → st'.getD (q'.getD p 0) 0 ≤ st.getD (q.getD h 0) 0 + 1 := fun p hp => by
    rcases Nat.lt_or_ge p q.length with h1 | h1
    · rw [so p h1]; exact H.top p h1 hh
    · rw [(sn p h1 hp).2.2]; exact Int.le_refl _
  refine ⟨by rw [R.len]; exact H.len, R.nodup, R.mem, R.lt, ?_, fun k hk => ?_, fun p hp hs => ?_, fun p hp hp2 k hk hm => ?_, fun a b hab hb => ?_, fun p hp hh2 => ?_, by omega⟩
  · obtain ⟨s, hs⟩ := H.pre
    exact ⟨s ++ r, by rw [hr, hs, List.append_assoc]⟩
  · obtain ⟨s, hs⟩ := H.pre
    rw [R.old k (by rw [hs]; exact List.mem_append_left _ hk)]; exact H.zero k hk
  · rcases Nat.lt_or_ge p q.length with h1 | h1
    · obtain ⟨g1, o, g2, g3, g4, g5⟩ := H.par p h1 hs
      refine ⟨by rw [qo p h1]; exact g1, o, g2, by omega, ?_, ?_⟩
      · rw [qo p h1, qo o (by omega)]; exact g4
      · rw [so p h1, so o (by omega)]; exact g5
    · obtain ⟨g1, g2, g3⟩ := sn p h1 hp
      exact ⟨g1, h, by omega, by omega, by rw [qo h hh]; exact g2, by rw [g3, so h hh]⟩
  · rcases Nat.lt_or_ge p h with h1 | h1
    · have hpq : p < q.length := by omega
      rw [qo p hpq] at hk; obtain ⟨g1, g2⟩ := H.done p h1 hpq k hk hm; refine ⟨by rw [hr]; exact List.mem_append_left _ g1, ?_⟩; rw [so p hpq, R.old k g1]; exact g2
    · obtain rfl : p = h := by omega
      rw [qo p hh] at hk; have g1 := R.all k hk hm; refine ⟨g1, ?_⟩; obtain ⟨x, hx, rfl⟩ := mem_qget q' k g1; rw [so p hh]; exact up x hx
  · rcases Nat.lt_or_ge b q.length with h1 | h1
    · rw [so a (by omega), so b h1]; exact H.mono a b hab h1
    · rw [(sn b h1 hb).2.2]; exact up a (by omega)
  · have h1 := up p hp
    have h2 : st.getD (q.getD h 0) 0 ≤ st'.getD (q'.getD (h + 1) 0) 0 := by
      rcases Nat.lt_or_ge (h + 1) q.length with h3 | h3
      · rw [so (h + 1) h3]; exact H.mono h (h + 1) (by omega) h3
      · rw [(sn (h + 1) h3 hh2).2.2]; omega
    omega
theorem nodup_len : ∀ (N : Nat) (q : List Nat), q.Nodup → (∀ k ∈ q, k < N) → q.length ≤ N
  | 0, [], _, _ => Nat.le_refl _
  | 0, x :: t, _, h => absurd (h x List.mem_cons_self) (by omega)
  | N + 1, q, hn, h => by
    by_cases hm : N ∈ q
    · have h1 := nodup_len N (q.erase N) (hn.erase N) (fun k hk => by have h2 := hn.mem_erase_iff.mp hk; have := h k h2.2; omega)
      rw [List.length_erase_of_mem hm] at h1
      omega
    · have := nodup_len N q hn (fun k hk => by have h2 := h k hk; have : k ≠ N := fun e => hm (by rw [← e]; exact hk); omega)
      omega
end FM
end Go.Proofs.Ytbfimplajocmmaa
end
section
set_option linter.unusedVariables false
set_option linter.unusedSimpArgs false
namespace Go.Proofs.Ytbfimplajocmmaa
namespace FM
def part1 (ms : Nat → Bool) (n : Int) : List Nat → List Int → List Nat → List Int × List Nat
  | [], out, s => (out, s)
  | k :: t, out, s => if ms k = true ∧ out.getD k 0 = 0 then part1 ms n t (out.set k n) (s ++ [k]) else part1 ms n t out s
structure FillR (N : Nat) (nb : Nat → List Nat) (ms : Nat → Bool) (n : Int) (i : Nat) (out out' : List Int) : Prop where
  len : out'.length = out.length
  either : ∀ k, k < N → out'.getD k 0 = out.getD k 0 ∨ (out.getD k 0 = 0 ∧ ms k = true ∧ out'.getD k 0 = n)
  root : out'.getD i 0 = n
  closed : ∀ j, j < N → out.getD j 0 = 0 → out'.getD j 0 = n → ∀ k ∈ nb j, ms k = true → out'.getD k 0 ≠ 0
  least : ∀ C : Nat → Prop, C i → (∀ j, C j → ∀ k ∈ nb j, ms k = true → out.getD k 0 = 0 → C k) → ∀ j, j < N → out.getD j 0 = 0 → out'.getD j 0 = n → C j
def zeros (out : List Int) : Nat := out.countP (fun x => x == 0)
theorem zeros_set (out : List Int) (k : Nat) (n : Int) (hk : k < out.length) (h0 : out.getD k 0 = 0) (hn : n ≠ 0) : zeros (out.set k n) + 1 = zeros out := by
  induction out generalizing k with
  | nil => simp at hk
  | cons x t ih =>
    cases k with
    | zero =>
      rw [List.getD_cons_zero] at h0; subst h0
      simp [zeros, List.countP_cons, hn]
    | succ k =>
      rw [List.getD_cons_succ] at h0; have := ih k (by simpa using hk) h0
      simp only [zeros, List.set_cons_succ, List.countP_cons] at *
      omega
inductive Chain (N : Nat) (nb : Nat → List Nat) (ms : Nat → Bool) : Nat → List Int → Int → List Int → Int → Prop
  | done (out : List Int) (n : Int) : Chain N nb ms N out n out n
  | skip {i : Nat} {out : List Int} {n : Int} {o' : List Int} {n' : Int} : i < N → ¬(ms i = true ∧ out.getD i 0 = 0) → Chain N nb ms (i + 1) out n o' n' → Chain N nb ms i out n o' n'
  | root {i : Nat} {out o1 : List Int} {n : Int} {o' : List Int} {n' : Int} : i < N → ms i = true → out.getD i 0 = 0 → FillR N nb ms (n + 1) i out o1 → Chain N nb ms (i + 1) o1 (n + 1) o' n' → Chain N nb ms i out n o' n'
end FM
end Go.Proofs.Ytbfimplajocmmaa
end
