import Derived.Test.YtobdfiglgdbecaaXM5
set_option linter.unusedVariables false
set_option linter.unusedSimpArgs false
namespace Go.Proofs.Ytobdfiglgdbecaa
namespace RG
theorem rise_pw : ∀ a : List Int, a.Pairwise (· < ·) → Rise a
  | [], _ => trivial
  | [_], _ => trivial
  | x :: y :: t, h => ⟨(List.pairwise_cons.mp h).1 y List.mem_cons_self, rise_pw (y :: t) (List.pairwise_cons.mp h).2⟩
theorem ins_there {x : Int} {l : List Int} (hr : Rise l) (h : x ∈ l) : ins x l = l :=
  rise_unique _ _ (ins_rise x l hr) hr fun z => by
    rw [mem_ins]
    constructor
    · rintro (rfl | h2)
      · exact h
      · exact h2
    · exact .inr
theorem ins_at {x : Int} {l : List Int} (i : Nat) (hr : Rise l) (h1 : ∀ z ∈ l.take i, z < x) (h2 : ∀ z ∈ l.drop i, x < z) : ins x l = l.take i ++ x :: l.drop i := by
  refine rise_unique _ _ (ins_rise x l hr) (rise_pw _ ?_) fun z => ?_
  · have hp := rise_pairwise l hr
    rw [List.pairwise_append, List.pairwise_cons]; refine ⟨hp.sublist (List.take_sublist i l), ⟨h2, hp.sublist (List.drop_sublist i l)⟩, fun a ha b hb => ?_⟩
    rcases List.mem_cons.mp hb with rfl | hb
    · exact h1 a ha
    · have := h1 a ha
      have := h2 b hb
      omega
  · rw [mem_ins, List.mem_append, List.mem_cons]
    have e : z ∈ l ↔ z ∈ l.take i ∨ z ∈ l.drop i := by
      rw [← List.mem_append, List.take_append_drop]
    rw [e]
    constructor
    · rintro (h | h | h)
      · exact .inr (.inl h)
      · exact .inl h
      · exact .inr (.inr h)
    · rintro (h | h | h)
      · exact .inr (.inl h)
      · exact .inl h
      · exact .inr (.inr h)
def cle (p : List Int) (x : Int) : Nat := p.countP fun z => decide (z ≤ x)
theorem cle_split {p : List Int} {x : Int} (i : Nat) (hi : i ≤ p.length) (h1 : ∀ z ∈ p.take i, z ≤ x) (h2 : ∀ z ∈ p.drop i, x < z) : cle p x = i := by
  unfold cle; have e : p.countP (fun z => decide (z ≤ x)) = (p.take i ++ p.drop i).countP (fun z => decide (z ≤ x)) := by rw [List.take_append_drop]
  rw [e, List.countP_append, List.countP_eq_length.mpr (fun z hz => decide_eq_true (h1 z hz)), List.countP_eq_zero.mpr (fun z hz => by have := h2 z hz; simp; omega), List.length_take]
  omega
theorem scov_par : ∀ s : List Sp, SNF s → ∀ x, scov s x = (cle (endsOf s) x % 2 == 1)
  | [], _, _ => rfl
  | p :: t, h, x => by
    have hr := snf_ends (p :: t) h; have ht : SNF t := PNF.tail (p := (p.1, p.2, ())) (t := up t) h; have ih := scov_par t ht x; have e0 : endsOf (p :: t) = p.1 :: p.2 :: endsOf t := rfl; rw [e0] at hr; have h1 : p.1 < p.2 := hr.1; have h2 : ∀ z ∈ endsOf t, p.2 < z := Rise.lt hr.2; rw [scov_cons, e0]
    have ec : cle (p.1 :: p.2 :: endsOf t) x = (if x < p.1 then 0 else if x < p.2 then 1 else 2 + cle (endsOf t) x) := by
      have hz : x < p.2 → cle (endsOf t) x = 0 := fun hx => List.countP_eq_zero.mpr fun z hz => by have := h2 z hz; simp; omega
      unfold cle at hz ⊢; rw [List.countP_cons, List.countP_cons]
      by_cases c1 : x < p.1
      · rw [if_pos c1, hz (by omega), if_neg (by simp; omega), if_neg (by simp; omega)]
      · rw [if_neg c1]
        by_cases c2 : x < p.2
        · rw [if_pos c2, hz c2, if_neg (by simp; omega), if_pos (by simp; omega)]
        · rw [if_neg c2, if_pos (by simp; omega), if_pos (by simp; omega)]; omega
    rw [ec]
    by_cases c1 : x < p.1
    · rw [if_pos c1, scov_lo (fun d hd => by have := h2 d hd; omega)]
      simp; omega
    · rw [if_neg c1]
      by_cases c2 : x < p.2
      · rw [if_pos c2, decide_eq_true (show p.1 ≤ x by omega), decide_eq_true c2]; rfl
      · rw [if_neg c2, ih, decide_eq_false c2, Bool.and_false, Bool.false_or]
        have : (2 + cle (endsOf t) x) % 2 = cle (endsOf t) x % 2 := by omega
        rw [this]
theorem joined_addS {out : List Sp} {x x' : Int} (hx : x < x') (h : ∀ s ∈ out, s.2 ≤ x) : joined out (x, x') = addS out x x' := by
  unfold joined addS
  rcases last_split out with rfl | ⟨i, p, rfl⟩
  · rfl
  · have hp := h p (by simp)
    simp only [List.getLast?_concat, List.dropLast_concat]
    by_cases c : p.2 = x
    · rw [if_pos (by omega), if_pos c, show max p.2 x' = x' by omega]
    · rw [if_neg (by omega), if_neg c]
theorem addS_hi {out : List Sp} {x x' : Int} (hx : x < x') (h : ∀ s ∈ out, s.2 ≤ x) : ∀ s ∈ addS out x x', s.2 ≤ x' := by
  intro s hs; unfold addS at hs
  rcases last_split out with rfl | ⟨i, p, rfl⟩
  · simp at hs; subst hs; exact Int.le_refl _
  · simp only [List.getLast?_concat, List.dropLast_concat] at hs
    split at hs
    · simp at hs
      rcases hs with hs | rfl
      · have := h s (by simp [hs]); omega
      · exact Int.le_refl _
    · simp at hs
      rcases hs with hs | hs | rfl
      · have := h s (by simp [hs]); omega
      · rw [hs]; have := h p (by simp); omega
      · exact Int.le_refl _
end RG
end Go.Proofs.Ytobdfiglgdbecaa

