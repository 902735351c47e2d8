import Derived.RowKit
set_option linter.unusedVariables false
set_option linter.unusedSimpArgs false
namespace Go.Proofs.Ytobdfiglgdbecaa
namespace RG
def PNF {V : Type} : List (Int × Int × V) → Prop
  | [] => True
  | [p] => p.1 < p.2.1
  | p :: q :: t => p.1 < p.2.1 ∧ p.2.1 ≤ q.1 ∧ (p.2.1 = q.1 → p.2.2 ≠ q.2.2) ∧ PNF (q :: t)
def pval {V : Type} : List (Int × Int × V) → Int → Option V
  | [], _ => none
  | p :: t, y => if p.1 ≤ y ∧ y < p.2.1 then some p.2.2 else pval t y
theorem PNF.head {V : Type} {p : Int × Int × V} {t : List (Int × Int × V)} (h : PNF (p :: t)) : p.1 < p.2.1 := by
  cases t with
  | nil => exact h
  | cons q t => exact h.1
theorem PNF.tail {V : Type} {p : Int × Int × V} {t : List (Int × Int × V)} (h : PNF (p :: t)) : PNF t := by
  cases t with
  | nil => trivial
  | cons q t => exact h.2.2.2
theorem pval_low {V : Type} : ∀ (t : List (Int × Int × V)) (p : Int × Int × V), PNF (p :: t) → ∀ y, y < p.1 → pval (p :: t) y = none
  | [], p, _, y, hy => by simp only [pval]; rw [if_neg (by omega)]
  | q :: t, p, h, y, hy => by
    have h1 := h.head
    simp only [pval]
    rw [if_neg (by omega)]
    exact pval_low t q h.tail y (by have := h.2.1; omega)
theorem pval_tail_low {V : Type} {p : Int × Int × V} {t : List (Int × Int × V)} (h : PNF (p :: t)) {y : Int} (hy : y < p.2.1) : pval t y = none := by
  cases t with
  | nil => rfl
  | cons q t => exact pval_low t q h.tail y (by have := h.2.1; omega)
theorem pval_head {V : Type} {p : Int × Int × V} {t : List (Int × Int × V)} (h : PNF (p :: t)) {y : Int} (h1 : p.1 ≤ y) (h2 : y < p.2.1) : pval (p :: t) y = some p.2.2 := by
  simp only [pval]; rw [if_pos ⟨h1, h2⟩]
theorem pval_end {V : Type} {p : Int × Int × V} {t : List (Int × Int × V)} (h : PNF (p :: t)) : pval (p :: t) p.2.1 ≠ some p.2.2 := by
  simp only [pval]
  rw [if_neg (by omega)]
  cases t with
  | nil => simp [pval]
  | cons q t =>
    by_cases e : p.2.1 = q.1
    · have := h.tail.head
      rw [pval_head h.tail (by omega) (by omega)]
      have := h.2.2.1 e
      simpa using Ne.symm this
    · rw [pval_low t q h.tail _ (by have := h.2.1; omega)]
      simp
theorem pnf_unique {V : Type} : ∀ (a b : List (Int × Int × V)), PNF a → PNF b → (∀ y, pval a y = pval b y) → a = b
  | [], [], _, _, _ => rfl
  | [], q :: t, _, hb, h => by
    have := h q.1
    rw [pval_head hb (by omega) hb.head] at this
    simp [pval] at this
  | p :: t, [], ha, _, h => by
    have := h p.1
    rw [pval_head ha (by omega) ha.head] at this
    simp [pval] at this
  | p :: t, q :: t', ha, hb, h => by
    have h1 := ha.head
    have h2 := hb.head
    have e1 : p.1 = q.1 := by
      rcases Int.lt_trichotomy p.1 q.1 with h3 | h3 | h3
      · have := h p.1
        rw [pval_head ha (by omega) h1, pval_low _ _ hb _ h3] at this
        cases this
      · exact h3
      · have := h q.1
        rw [pval_head hb (by omega) h2, pval_low _ _ ha _ h3] at this
        cases this
    have e2 : p.2.2 = q.2.2 := by
      have := h p.1
      rw [pval_head ha (by omega) h1, pval_head hb (by omega) (by omega)] at this
      exact Option.some.inj this
    have e3 : p.2.1 = q.2.1 := by
      rcases Int.lt_trichotomy p.2.1 q.2.1 with h3 | h3 | h3
      · have := h p.2.1
        rw [pval_head hb (by omega) h3, ← e2] at this
        exact absurd this (pval_end ha)
      · exact h3
      · have := h q.2.1
        rw [pval_head ha (by omega) h3, e2] at this
        exact absurd this.symm (pval_end hb)
    have e : p = q := by
      obtain ⟨p1, p2, p3⟩ := p
      obtain ⟨q1, q2, q3⟩ := q
      simp only at e1 e2 e3
      rw [e1, e2, e3]
    subst e
    rw [pnf_unique t t' ha.tail hb.tail (fun y => ?_)]
    by_cases hy : y < p.2.1
    · rw [pval_tail_low ha hy, pval_tail_low hb hy]
    · have := h y
      simp only [pval] at this
      rw [if_neg (by omega), if_neg (by omega)] at this
      exact this
theorem pval_append {V : Type} (a b : List (Int × Int × V)) (y : Int) : pval (a ++ b) y = (pval a y).or (pval b y) := by
  induction a with
  | nil => simp [pval]
  | cons p t ih =>
    rw [List.cons_append]
    simp only [pval]
    by_cases h : p.1 ≤ y ∧ y < p.2.1
    · rw [if_pos h, if_pos h]; rfl
    · rw [if_neg h, if_neg h]; exact ih
theorem pval_beyond {V : Type} {a : List (Int × Int × V)} {x y : Int} (h : ∀ p ∈ a, p.2.1 ≤ x) (hy : x ≤ y) : pval a y = none := by
  induction a with
  | nil => rfl
  | cons p t ih =>
    have := h p List.mem_cons_self
    simp only [pval]
    rw [if_neg (by omega)]
    exact ih (fun q hq => h q (List.mem_cons_of_mem _ hq))
theorem pnf_snoc {V : Type} : ∀ (a : List (Int × Int × V)) (q : Int × Int × V), PNF (a ++ [q]) ↔ PNF a ∧ q.1 < q.2.1 ∧ ∀ p, a.getLast? = some p → p.2.1 ≤ q.1 ∧ (p.2.1 = q.1 → p.2.2 ≠ q.2.2)
  | [], q => by simp [PNF]
  | [p], q => by
    simp only [List.cons_append, List.nil_append, PNF, List.getLast?_singleton, Option.some.injEq]
    constructor
    · rintro ⟨h1, h2, h3, h4⟩
      exact ⟨h1, h4, fun r e => e ▸ ⟨h2, h3⟩⟩
    · rintro ⟨h1, h4, h⟩
      exact ⟨h1, (h p rfl).1, (h p rfl).2, h4⟩
  | p :: r :: t, q => by
    have ih := pnf_snoc (r :: t) q
    simp only [List.cons_append, PNF, List.getLast?_cons_cons] at ih ⊢
    rw [ih]
    constructor
    · rintro ⟨h1, h2, h3, h4, h5, h6⟩
      exact ⟨⟨h1, h2, h3, h4⟩, h5, h6⟩
    · rintro ⟨⟨h1, h2, h3, h4⟩, h5, h6⟩
      exact ⟨h1, h2, h3, h4, h5, h6⟩
def addP {V : Type} [DecidableEq V] (out : List (Int × Int × V)) (x x' : Int) (v : V) : List (Int × Int × V) :=
  match out.getLast? with
  | some p => if p.2.1 = x ∧ p.2.2 = v then out.dropLast ++ [(p.1, x', v)] else out ++ [(x, x', v)]
  | none => [(x, x', v)]
def stepP {V : Type} [DecidableEq V] (out : List (Int × Int × V)) (x x' : Int) (o : Option V) : List (Int × Int × V) :=
  match o with
  | some v => addP out x x' v
  | none => out
def buildP {V : Type} [DecidableEq V] (g : Int → Option V) : List Int → List (Int × Int × V) → List (Int × Int × V)
  | x :: x' :: t, out => buildP g (x' :: t) (stepP out x x' (g x))
  | _, out => out
theorem last_split {α : Type} (l : List α) : l = [] ∨ ∃ i p, l = i ++ [p] := by
  rcases List.eq_nil_or_concat l with h | ⟨i, p, h⟩
  · exact .inl h
  · exact .inr ⟨i, p, by rw [h, List.concat_eq_append]⟩
theorem add_ok {V : Type} [DecidableEq V] (out : List (Int × Int × V)) (x x' : Int) (v : V) (hx : x < x') (h : PNF out) (hle : ∀ p ∈ out, p.2.1 ≤ x) :
    PNF (addP out x x' v) ∧ (∀ p ∈ addP out x x' v, p.2.1 ≤ x') ∧ ∀ y, pval (addP out x x' v) y = if x ≤ y ∧ y < x' then some v else pval out y := by
  rcases last_split out with rfl | ⟨i, p, rfl⟩
  · refine ⟨hx, fun p hp => ?_, fun y => rfl⟩
    simp [addP] at hp
    rw [hp]; exact Int.le_refl _
  · have hp := hle p (by simp)
    have hi : ∀ q ∈ i, q.2.1 ≤ x := fun q hq => hle q (by simp [hq])
    obtain ⟨s1, s2, s3⟩ := (pnf_snoc i p).mp h
    have hl : (i ++ [p]).getLast? = some p := by simp
    unfold addP
    rw [hl]
    dsimp only
    by_cases c : p.2.1 = x ∧ p.2.2 = v
    · rw [if_pos c, List.dropLast_concat]
      refine ⟨(pnf_snoc i _).mpr ⟨s1, by show p.1 < x'; omega, fun r hr => ⟨(s3 r hr).1, fun e => by have := (s3 r hr).2 e; rw [← c.2]; exact this⟩⟩, fun q hq => ?_, fun y => ?_⟩
      · rw [List.mem_append, List.mem_singleton] at hq
        rcases hq with hq | rfl
        · have := hi q hq; omega
        · exact Int.le_refl _
      · rw [pval_append, pval_append]
        simp only [pval]
        by_cases hy : x ≤ y ∧ y < x'
        · rw [if_pos hy, pval_beyond hi hy.1, if_pos ⟨by omega, hy.2⟩]; rfl
        · rw [if_neg hy, c.1, c.2]
          by_cases h1 : p.1 ≤ y ∧ y < x'
          · rw [if_pos h1, if_pos ⟨h1.1, by omega⟩]
          · rw [if_neg h1, if_neg (by omega)]
    · rw [if_neg c]
      refine ⟨(pnf_snoc _ _).mpr ⟨h, hx, fun r hr => ?_⟩, fun q hq => ?_, fun y => ?_⟩
      · rw [hl] at hr
        cases hr
        exact ⟨hp, fun e e2 => c ⟨e, e2⟩⟩
      · rw [List.mem_append, List.mem_singleton] at hq
        rcases hq with hq | rfl
        · have := hle q hq; omega
        · exact Int.le_refl _
      · rw [pval_append]
        simp only [pval]
        by_cases hy : x ≤ y ∧ y < x'
        · rw [if_pos hy, if_pos hy, pval_beyond hle hy.1]; rfl
        · rw [if_neg hy, if_neg hy]; simp
theorem step_ok {V : Type} [DecidableEq V] (out : List (Int × Int × V)) (x x' : Int) (o : Option V) (hx : x < x') (h : PNF out) (hle : ∀ p ∈ out, p.2.1 ≤ x) :
    PNF (stepP out x x' o) ∧ (∀ p ∈ stepP out x x' o, p.2.1 ≤ x') ∧ ∀ y, pval (stepP out x x' o) y = if x ≤ y ∧ y < x' then o else pval out y := by
  cases o with
  | some v => exact add_ok out x x' v hx h hle
  | none =>
    refine ⟨h, fun p hp => by have := hle p hp; omega, fun y => ?_⟩
    by_cases hy : x ≤ y ∧ y < x'
    · rw [if_pos hy]; exact pval_beyond hle hy.1
    · rw [if_neg hy]; rfl
def Rise : List Int → Prop
  | [] => True
  | [_] => True
  | x :: y :: t => x < y ∧ Rise (y :: t)
theorem Rise.tail {x : Int} {t : List Int} (h : Rise (x :: t)) : Rise t := by
  cases t with
  | nil => trivial
  | cons y t => exact h.2
theorem Rise.lt : ∀ {t : List Int} {x : Int}, Rise (x :: t) → ∀ y ∈ t, x < y
  | y :: t, x, h, z, hz => by
    rcases List.mem_cons.mp hz with rfl | hz
    · exact h.1
    · have := Rise.lt h.2 z hz
      have := h.1
      omega
theorem build_ok {V : Type} [DecidableEq V] (g : Int → Option V) : ∀ (t : List Int) (x : Int) (out : List (Int × Int × V)), Rise (x :: t) → PNF out → (∀ p ∈ out, p.2.1 ≤ x) →
    (∀ a b, x ≤ a → a ≤ b → (∀ d ∈ x :: t, ¬ (a < d ∧ d ≤ b)) → g a = g b) → (∀ y, (∀ d ∈ x :: t, d ≤ y) → g y = none) → (∀ y, y < x → pval out y = g y) →
    PNF (buildP g (x :: t) out) ∧ ∀ y, pval (buildP g (x :: t) out) y = g y
  | [], x, out, hr, h, hle, h1, h3, h4 => by
    refine ⟨h, fun y => ?_⟩
    by_cases hy : y < x
    · exact h4 y hy
    · rw [h3 y (by simp; omega)]
      exact pval_beyond hle (by omega)
  | x' :: t, x, out, hr, h, hle, h1, h3, h4 => by
    have hx := hr.1
    obtain ⟨s1, s2, s3⟩ := step_ok out x x' (g x) hx h hle
    refine build_ok g t x' (stepP out x x' (g x)) hr.2 s1 s2 (fun a b ha hab hd => h1 a b (by omega) hab (fun d hd2 => ?_)) (fun y hy => h3 y (fun d hd => ?_)) (fun y hy => ?_)
    · rcases List.mem_cons.mp hd2 with rfl | hd2
      · omega
      · exact hd d hd2
    · rcases List.mem_cons.mp hd with rfl | hd
      · have := hy x' List.mem_cons_self; omega
      · exact hy d hd
    · rw [s3 y]
      by_cases c : x ≤ y
      · rw [if_pos ⟨c, hy⟩]
        exact h1 x y (Int.le_refl _) c (fun d hd2 => by
          rcases List.mem_cons.mp hd2 with rfl | hd2
          · omega
          · have : x' ≤ d := by
              rcases List.mem_cons.mp hd2 with rfl | hd3
              · exact Int.le_refl _
              · exact Int.le_of_lt (Rise.lt hr.2 d hd3)
            omega)
      · rw [if_neg (by omega)]
        exact h4 y (by omega)
end RG
end Go.Proofs.Ytobdfiglgdbecaa

