import Derived.Test.YteamphcehoaleaaM3
import Derived.Test.YteamphcehoaleaaEG
set_option linter.unusedVariables false
set_option linter.unusedSimpArgs false
open Go Go.RowKit Go.Proofs.YteamphcehoaleaaW.PrintWords
namespace Go.Proofs.Yteamphcehoaleaa
open PFA FM
namespace FM
def within (nb : Nat → List Nat) (S : Nat → Prop) : Nat → Nat → Prop
  | 0, k => S k
  | n + 1, k => within nb S n k ∨ ∃ j, within nb S n j ∧ k ∈ nb j
theorem within_le {nb : Nat → List Nat} {S : Nat → Prop} {k : Nat} (n d : Nat) (h : within nb S n k) : within nb S (n + d) k := by
  induction d with
  | zero => exact h
  | succ d ih => exact .inl ih
theorem within_sub {nb : Nat → List Nat} {S T : Nat → Prop} (hST : ∀ k, S k → T k) : ∀ n k, within nb S n k → within nb T n k
  | 0, k, h => hST k h
  | n + 1, k, h => by
    rcases h with h | ⟨j, h, hk⟩
    · exact .inl (within_sub hST n k h)
    · exact .inr ⟨j, within_sub hST n j h, hk⟩
theorem within_add {nb : Nat → List Nat} {S : Nat → Prop} (a : Nat) : ∀ b k, within nb (within nb S a) b k ↔ within nb S (a + b) k
  | 0, k => Iff.rfl
  | b + 1, k => by
    show (within nb (within nb S a) b k ∨ ∃ j, within nb (within nb S a) b j ∧ k ∈ nb j) ↔ (within nb S (a + b) k ∨ ∃ j, within nb S (a + b) j ∧ k ∈ nb j)
    rw [within_add a b k]
    constructor
    · rintro (h | ⟨j, h, hk⟩)
      · exact .inl h
      · exact .inr ⟨j, (within_add a b j).mp h, hk⟩
    · rintro (h | ⟨j, h, hk⟩)
      · exact .inl h
      · exact .inr ⟨j, (within_add a b j).mpr h, hk⟩
theorem within_lt {N : Nat} {nb : Nat → List Nat} {S : Nat → Prop} (hnb : ∀ i, i < N → ∀ k ∈ nb i, k < N) (hS : ∀ k, S k → k < N) : ∀ n k, within nb S n k → k < N
  | 0, k, h => hS k h
  | n + 1, k, h => by
    rcases h with h | ⟨j, h, hk⟩
    · exact within_lt hnb hS n k h
    · exact hnb j (within_lt hnb hS n j h) k hk
theorem within_one {nb : Nat → List Nat} {S : Nat → Prop} : ∀ n k, within nb S n k → ∃ s, S s ∧ within nb (fun x => x = s) n k
  | 0, k, h => ⟨k, h, rfl⟩
  | n + 1, k, h => by
    rcases h with h | ⟨j, h, hk⟩
    · obtain ⟨s, h1, h2⟩ := within_one n k h
      exact ⟨s, h1, .inl h2⟩
    · obtain ⟨s, h1, h2⟩ := within_one n j h
      exact ⟨s, h1, .inr ⟨j, h2, hk⟩⟩
theorem within_sym {N : Nat} {nb : Nat → List Nat} (hnb : ∀ i, i < N → ∀ k ∈ nb i, k < N) (hsym : ∀ j, j < N → ∀ k ∈ nb j, j ∈ nb k) {s : Nat} (hs : s < N) : ∀ n k, within nb (fun x => x = s) n k → within nb (fun x => x = k) n s
  | 0, k, h => Eq.symm h
  | n + 1, k, h => by
    rcases h with h | ⟨j, h, hk⟩
    · exact .inl (within_sym hnb hsym hs n k h)
    · have hj : j < N := within_lt hnb (fun x (e : x = s) => by rw [e]; exact hs) n j h
      have h1 := within_sym hnb hsym hs n j h
      have h2 : within nb (within nb (fun x => x = k) 1) n s := within_sub (fun x (e : x = j) => .inr ⟨k, rfl, by rw [e]; exact hsym j hj k hk⟩) n s h1
      rw [within_add] at h2
      rw [Nat.add_comm]
      exact h2
theorem within_back {N : Nat} {nb : Nat → List Nat} (hnb : ∀ i, i < N → ∀ k ∈ nb i, k < N) (hsym : ∀ j, j < N → ∀ k ∈ nb j, j ∈ nb k) {S T : Nat → Prop} (a : Nat) (hT : ∀ s, T s → s < N ∧ ¬ within nb (fun j => j < N ∧ ¬ S j) a s) {k : Nat} (h : within nb T a k) : S k := by
  obtain ⟨s, h1, h2⟩ := within_one a k h
  obtain ⟨hs, h3⟩ := hT s h1
  have hk : k < N := within_lt hnb (fun x (e : x = s) => by rw [e]; exact hs) a k h2
  refine Classical.byContradiction fun hn => h3 ?_
  exact within_sub (fun x (e : x = k) => by rw [e]; exact ⟨hk, hn⟩) a s (within_sym hnb hsym hs a k h2)
theorem BI_within {N : Nat} {nb : Nat → List Nat} {src : List Nat} {st : List Int} {q : List Nat} (hnb : ∀ i, i < N → ∀ k ∈ nb i, k < N) (H : BI N nb (fun _ => true) src q.length st q) (n : Nat) (k : Nat) (hk : k < N) :
    (0 ≤ st.getD k 0 ∧ st.getD k 0 ≤ n) ↔ within nb (fun x => x ∈ src) n k := by
  have hA : ∀ p, p < q.length → within nb (fun x => x ∈ src) (st.getD (q.getD p 0) 0).toNat (q.getD p 0) := by
    intro p
    induction p using Nat.strongRecOn with
    | _ p ih =>
      intro hp
      rcases Nat.lt_or_ge p src.length with h1 | h1
      · obtain ⟨r, hr⟩ := H.pre
        have hm : q.getD p 0 ∈ src := by rw [hr, qget_left src r p h1]; exact qget_mem src p h1
        rw [H.zero _ hm]
        exact hm
      · obtain ⟨_, o, ho, _, hnbr, he⟩ := H.par p hp h1
        have h2 := ih o ho (by omega)
        have h3 := (H.mem _ (H.lt _ (qget_mem q o (by omega)))).mpr (qget_mem q o (by omega))
        rw [he, show (st.getD (q.getD o 0) 0 + 1).toNat = (st.getD (q.getD o 0) 0).toNat + 1 by omega]
        exact .inr ⟨_, h2, hnbr⟩
  have hB : ∀ n k, k < N → within nb (fun x => x ∈ src) n k → k ∈ q ∧ st.getD k 0 ≤ n := by
    intro n
    induction n with
    | zero =>
      intro k hk h
      obtain ⟨r, hr⟩ := H.pre
      have hm : k ∈ src := h
      exact ⟨by rw [hr]; exact List.mem_append_left _ hm, by rw [H.zero k hm]; simp⟩
    | succ n ih =>
      intro k hk h
      rcases h with h | ⟨j, h, hkj⟩
      · have := ih k hk h
        exact ⟨this.1, by omega⟩
      · have hs : ∀ x, x ∈ src → x < N := fun x hx => by
          obtain ⟨r, hr⟩ := H.pre
          exact H.lt x (by rw [hr]; exact List.mem_append_left _ hx)
        have hj := within_lt hnb hs n j h
        obtain ⟨h1, h2⟩ := ih j hj h
        obtain ⟨p, hp, hpe⟩ := mem_qget q j h1
        have := H.done p hp hp k (by rw [hpe]; exact hkj) rfl
        rw [hpe] at this
        exact ⟨this.1, by omega⟩
  constructor
  · rintro ⟨h1, h2⟩
    have hm := (H.mem k hk).mp h1
    obtain ⟨p, hp, hpe⟩ := mem_qget q k hm
    have h3 := hA p hp
    rw [hpe] at h3
    have := within_le _ (n - (st.getD k 0).toNat) h3
    rw [show (st.getD k 0).toNat + (n - (st.getD k 0).toNat) = n by omega] at this
    exact this
  · intro h
    obtain ⟨h1, h2⟩ := hB n k hk h
    exact ⟨(H.mem k hk).mpr h1, h2⟩
theorem set_lo {l : List Int} {k : Nat} {v : Int} (hl : ∀ j, -1 ≤ l.getD j 0) (hv : -1 ≤ v) (j : Nat) : -1 ≤ (l.set k v).getD j 0 := by
  by_cases e : k = j
  · subst e
    by_cases hk : k < l.length
    · rw [getD_set_self _ _ _ hk]; exact hv
    · rw [List.set_eq_of_length_le (by omega)]; exact hl k
  · rw [getD_set_ne _ _ _ _ e]; exact hl j
theorem reach1_lo (may : Nat → Bool) (i : Nat) : ∀ (ks : List Nat) (st : List Int) (q : List Nat), (∀ j, -1 ≤ st.getD j 0) → ∀ j, -1 ≤ (reach1 may i ks st q).1.getD j 0
  | [], st, q, h => h
  | k :: t, st, q, h => by
    rw [reach1]
    split
    · exact reach1_lo may i t _ _ (set_lo h (by have := h i; omega))
    · exact reach1_lo may i t _ _ h
theorem spread_lo (nb : Nat → List Nat) (may : Nat → Bool) : ∀ (f h : Nat) (st : List Int) (q : List Nat) (st' : List Int) (q' : List Nat), (∀ j, -1 ≤ st.getD j 0) → spread nb may f h st q = some (st', q') → ∀ j, -1 ≤ st'.getD j 0
  | 0, h, st, q, st', q', h1, h2 => by simp [spread] at h2
  | f + 1, h, st, q, st', q', h1, h2 => by
    rw [spread] at h2
    by_cases e : h = q.length
    · rw [if_pos e] at h2
      obtain ⟨rfl, rfl⟩ : st = st' ∧ q = q' := by simpa using h2
      exact h1
    · rw [if_neg e] at h2
      exact spread_lo nb may f (h + 1) _ _ st' q' (reach1_lo may _ _ st q h1) h2
end FM
theorem steps0_lo (N : Nat) (src : List Nat) : ∀ j, -1 ≤ (steps0 N src).getD j 0 := by
  have h : ∀ (src : List Nat) (l : List Int), (∀ j, -1 ≤ l.getD j 0) → ∀ j, -1 ≤ (setAll l src).getD j 0 := by
    intro src
    induction src with
    | nil => exact fun l h => h
    | cons k t ih => exact fun l h => ih (l.set k 0) (set_lo h (by omega))
  refine h src _ fun j => ?_
  rw [List.getD_eq_getElem?_getD, List.getElem?_replicate]
  split
  · exact Int.le_refl _
  · show (-1 : Int) ≤ 0
    omega
def inM (l : List Bool) (k : Nat) : Prop := k < l.length ∧ l.getD k false = true
theorem mem_trues (l : List Bool) (k : Nat) : k ∈ trues l l.length ↔ inM l k := by
  unfold trues inM
  rw [List.mem_filter, List.mem_range]
theorem away_val {w h : Nat} {l : List Bool} (H : OKm w h l) (ways : Int) (hw : ways = 4 ∨ ways = 8) :
    ∃ st, Cn.f w h l ways = some (st, 0) ∧ st.length = w * h ∧ (∀ k, -1 ≤ st.getD k 0) ∧ ∀ (n k : Nat), k < w * h → ((0 ≤ st.getD k 0 ∧ st.getD k 0 ≤ n) ↔ within (nbs w h ways) (inM l) n k) := by
  have h1 := H.w1; have h2 := H.w2; have h3 := H.h1; have h4 := H.h2; have h6 := H.len
  have hnb : ∀ i, i < w * h → ∀ k ∈ nbs w h ways i, k < w * h := fun i hi k hk => nbs_lt h1 hi k hk
  have hlt : ∀ k ∈ trues l l.length, k < w * h := fun k hk => by rw [← h6]; exact trues_lt l l.length k hk
  obtain ⟨st, q, e, B⟩ := spread_BI hnb (w * h) (w * h + 1) 0 _ _ (BI_start (N := w * h) (nb := nbs w h ways) (may := fun _ => true) (trues_nodup l l.length) hlt) (by omega) (by omega)
  refine ⟨st, ?_, B.len, spread_lo _ _ _ _ _ _ _ _ (steps0_lo _ _) e, fun n k hk => ?_⟩
  · unfold Cn.f
    rw [gridOf_ok H ways hw, Option.bind_some]
    dsimp only
    rw [if_pos rfl, if_pos ⟨by omega, by omega, by omega, by omega, by simp only [Int.toNat_natCast]; exact h6⟩]
    simp only [Int.toNat_natCast]
    rw [e, Option.bind_some]
  · rw [BI_within hnb B n k hk]
    exact ⟨within_sub (fun x hx => (mem_trues l x).mp hx) n k, within_sub (fun x hx => (mem_trues l x).mpr hx) n k⟩
end Go.Proofs.Yteamphcehoaleaa

