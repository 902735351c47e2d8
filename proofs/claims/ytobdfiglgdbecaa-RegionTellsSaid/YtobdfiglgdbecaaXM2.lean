import Derived.RowKit
section
set_option linter.unusedVariables false
set_option linter.unusedSimpArgs false
namespace Go.Proofs.Ytobdfiglgdbecaa
namespace RG
def PNF {V : Type} : List (Int × Int × V) → Prop
  | [] => True
  | [p] => p.1 < p.2.1
  | p :: q :: t => p.1 < p.2.1 ∧ p.2.1 ≤ q.1 ∧ (p.2.1 = q.1 → p.2.2 ≠ q.2.2) ∧ PNF (q :: t)
def pval {V : Type} : List (Int × Int × V) → Int → Option V
  | [], _ => none
  | p :: t, y => if p.1 ≤ y ∧ y < p.2.1 then some p.2.2 else pval t y
theorem PNF.head {V : Type} {p : Int × Int × V} {t : List (Int × Int × V)} (h : PNF (p :: t)) : p.1 < p.2.1 := by
  cases t with
  | nil => exact h
  | cons q t => exact h.1
theorem PNF.tail {V : Type} {p : Int × Int × V} {t : List (Int × Int × V)} (h : PNF (p :: t)) : PNF t := by
  cases t with
  | nil => trivial
  | cons q t => exact h.2.2.2
theorem pval_low {V : Type} : ∀ (t : List (Int × Int × V)) (p : Int × Int × V), PNF (p :: t) → ∀ y, y < p.1 → pval (p :: t) y = none
  | [], p, _, y, hy => by simp only [pval]; rw [if_neg (by omega)]
  | q :: t, p, h, y, hy => by
    have h1 := h.head
    simp only [pval]
    rw [if_neg (by omega)]; exact pval_low t q h.tail y (by have := h.2.1; omega)
theorem pval_tail_low {V : Type} {p : Int × Int × V} {t : List (Int × Int × V)} (h : PNF (p :: t)) {y : Int} (hy : y < p.2.1) : pval t y = none := by
  cases t with
  | nil => rfl
  | cons q t => exact pval_low t q h.tail y (by have := h.2.1; omega)
theorem pval_head {V : Type} {p : Int × Int × V} {t : List (Int × Int × V)} (h : PNF (p :: t)) {y : Int} (h1 : p.1 ≤ y) (h2 : y < p.2.1) : pval (p :: t) y = some p.2.2 := by
  simp only [pval]; rw [if_pos ⟨h1, h2⟩]
theorem pval_end {V : Type} {p : Int × Int × V} {t : List (Int × Int × V)} (h : PNF (p :: t)) : pval (p :: t) p.2.1 ≠ some p.2.2 := by
  simp only [pval]
  rw [if_neg (by omega)]; cases t with
  | nil => simp [pval]
  | cons q t =>
    by_cases e : p.2.1 = q.1
    · have := h.tail.head
      rw [pval_head h.tail (by omega) (by omega)]; have := h.2.2.1 e
      simpa using Ne.symm this
    · rw [pval_low t q h.tail _ (by have := h.2.1; omega)]
      simp
theorem pnf_unique {V : Type} : ∀ (a b : List (Int × Int × V)), PNF a → PNF b → (∀ y, pval a y = pval b y) → a = b
  | [], [], _, _, _ => rfl
  | [], q :: t, _, hb, h => by
    have := h q.1; rw [pval_head hb (by omega) hb.head] at this
    simp [pval] at this
  | p :: t, [], ha, _, h => by
    have := h p.1; rw [pval_head ha (by omega) ha.head] at this
    simp [pval] at this
  | p :: t, q :: t', ha, hb, h => by
    have h1 := ha.head; have h2 := hb.head
    have e1 : p.1 = q.1 := by
      rcases Int.lt_trichotomy p.1 q.1 with h3 | h3 | h3
      · have := h p.1
        rw [pval_head ha (by omega) h1, pval_low _ _ hb _ h3] at this; cases this
      · exact h3
      · have := h q.1
        rw [pval_head hb (by omega) h2, pval_low _ _ ha _ h3] at this; cases this
    have e2 : p.2.2 = q.2.2 := by
      have := h p.1; rw [pval_head ha (by omega) h1, pval_head hb (by omega) (by omega)] at this; exact Option.some.inj this
    have e3 : p.2.1 = q.2.1 := by
      rcases Int.lt_trichotomy p.2.1 q.2.1 with h3 | h3 | h3
      · have := h p.2.1
        rw [pval_head hb (by omega) h3, ← e2] at this; exact absurd this (pval_end ha)
      · exact h3
      · have := h q.2.1
        rw [pval_head ha (by omega) h3, e2] at this; exact absurd this.symm (pval_end hb)
    have e : p = q := by
      obtain ⟨p1, p2, p3⟩ := p; obtain ⟨q1, q2, q3⟩ := q
      simp only at e1 e2 e3
      rw [e1, e2, e3]
    subst e; rw [pnf_unique t t' ha.tail hb.tail (fun y => ?_)]
    by_cases hy : y < p.2.1
    · rw [pval_tail_low ha hy, pval_tail_low hb hy]
    · have := h y
      simp only [pval] at this
      rw [if_neg (by omega), if_neg (by omega)] at this; exact this
theorem pval_append {V : Type} (a b : List (Int × Int × V)) (y : Int) : pval (a ++ b) y = (pval a y).or (pval b y) := by
  induction a with
  | nil => simp [pval]
  | cons p t ih =>
    rw [List.cons_append]
    simp only [pval]
    by_cases h : p.1 ≤ y ∧ y < p.2.1
    · rw [if_pos h, if_pos h]; rfl
    · rw [if_neg h, if_neg h]; exact ih
theorem pval_beyond {V : Type} {a : List (Int × Int × V)} {x y : Int} (h : ∀ p ∈ a, p.2.1 ≤ x) (hy : x ≤ y) : pval a y = none := by
  induction a with
  | nil => rfl
  | cons p t ih =>
    have := h p List.mem_cons_self
    simp only [pval]
    rw [if_neg (by omega)]; exact ih (fun q hq => h q (List.mem_cons_of_mem _ hq))
theorem pnf_snoc {V : Type} : ∀ (a : List (Int × Int × V)) (q : Int × Int × V), PNF (a ++ [q]) ↔ PNF a ∧ q.1 < q.2.1 ∧ ∀ p, a.getLast? = some p → p.2.1 ≤ q.1 ∧ (p.2.1 = q.1 → p.2.2 ≠ q.2.2)
  | [], q => by simp [PNF]
  | [p], q => by
    simp only [List.cons_append, List.nil_append, PNF, List.getLast?_singleton, Option.some.injEq]
    constructor
    · rintro ⟨h1, h2, h3, h4⟩
      exact ⟨h1, h4, fun r e => e ▸ ⟨h2, h3⟩⟩
    · rintro ⟨h1, h4, h⟩
      exact ⟨h1, (h p rfl).1, (h p rfl).2, h4⟩
  | p :: r :: t, q => by
    have ih := pnf_snoc (r :: t) q
    simp only [List.cons_append, PNF, List.getLast?_cons_cons] at ih ⊢
    rw [ih]
    constructor
    · rintro ⟨h1, h2, h3, h4, h5, h6⟩
      exact ⟨⟨h1, h2, h3, h4⟩, h5, h6⟩
    · rintro ⟨⟨h1, h2, h3, h4⟩, h5, h6⟩
      exact ⟨h1, h2, h3, h4, h5, h6⟩
def addP {V : Type} [DecidableEq V] (out : List (Int × Int × V)) (x x' : Int) (v : V) : List (Int × Int × V) :=
  match out.getLast? with
  | some p => if p.2.1 = x ∧ p.2.2 = v then out.dropLast ++ [(p.1, x', v)] else out ++ [(x, x', v)]
  | none => [(x, x', v)]
def stepP {V : Type} [DecidableEq V] (out : List (Int × Int × V)) (x x' : Int) (o : Option V) : List (Int × Int × V) :=
  match o with
  | some v => addP out x x' v
  | none => out
def buildP {V : Type} [DecidableEq V] (g : Int → Option V) : List Int → List (Int × Int × V) → List (Int × Int × V)
  | x :: x' :: t, out => buildP g (x' :: t) (stepP out x x' (g x))
  | _, out => out
theorem last_split {α : Type} (l : List α) : l = [] ∨ ∃ i p, l = i ++ [p] := by
  rcases List.eq_nil_or_concat l with h | ⟨i, p, h⟩
  · exact .inl h
  · exact .inr ⟨i, p, by rw [h, List.concat_eq_append]⟩
theorem add_ok {V : Type} [DecidableEq V] (out : List (Int × Int × V)) (x x' : Int) (v : V) (hx : x < x') (h : PNF out) (hle : ∀ p ∈ out, p.2.1 ≤ x) :
    PNF (addP out x x' v) ∧ (∀ p ∈ addP out x x' v, p.2.1 ≤ x') ∧ ∀ y, pval (addP out x x' v) y = if x ≤ y ∧ y < x' then some v else pval out y := by
  rcases last_split out with rfl | ⟨i, p, rfl⟩
  · refine ⟨hx, fun p hp => ?_, fun y => rfl⟩
    simp [addP] at hp
    rw [hp]; exact Int.le_refl _
  · have hp := hle p (by simp)
    have hi : ∀ q ∈ i, q.2.1 ≤ x := fun q hq => hle q (by simp [hq])
    obtain ⟨s1, s2, s3⟩ := (pnf_snoc i p).mp h; have hl : (i ++ [p]).getLast? = some p := by simp
    unfold addP; rw [hl]; dsimp only
    by_cases c : p.2.1 = x ∧ p.2.2 = v
    · rw [if_pos c, List.dropLast_concat]
      refine ⟨(pnf_snoc i _).mpr ⟨s1, by show p.1 < x'; omega, fun r hr => ⟨(s3 r hr).1, fun e => by have := (s3 r hr).2 e; rw [← c.2]; exact this⟩⟩, fun q hq => ?_, fun y => ?_⟩
      · rw [List.mem_append, List.mem_singleton] at hq
        rcases hq with hq | rfl
        · have := hi q hq; omega
        · exact Int.le_refl _
      · rw [pval_append, pval_append]
        simp only [pval]
        by_cases hy : x ≤ y ∧ y < x'
        · rw [if_pos hy, pval_beyond hi hy.1, if_pos ⟨by omega, hy.2⟩]; rfl
        · rw [if_neg hy, c.1, c.2]
          by_cases h1 : p.1 ≤ y ∧ y < x'
          · rw [if_pos h1, if_pos ⟨h1.1, by omega⟩]
          · rw [if_neg h1, if_neg (by omega)]
    · rw [if_neg c]
      refine ⟨(pnf_snoc _ _).mpr ⟨h, hx, fun r hr => ?_⟩, fun q hq => ?_, fun y => ?_⟩
      · rw [hl] at hr
        cases hr; exact ⟨hp, fun e e2 => c ⟨e, e2⟩⟩
      · rw [List.mem_append, List.mem_singleton] at hq
        rcases hq with hq | rfl
        · have := hle q hq; omega
        · exact Int.le_refl _
      · rw [pval_append]
        simp only [pval]
        by_cases hy : x ≤ y ∧ y < x'
        · rw [if_pos hy, if_pos hy, pval_beyond hle hy.1]; rfl
        · rw [if_neg hy, if_neg hy]; simp
theorem step_ok {V : Type} [DecidableEq V] (out : List (Int × Int × V)) (x x' : Int) (o : Option V) (hx : x < x') (h : PNF out) (hle : ∀ p ∈ out, p.2.1 ≤ x) :
    PNF (stepP out x x' o) ∧ (∀ p ∈ stepP out x x' o, p.2.1 ≤ x') ∧ ∀ y, pval (stepP out x x' o) y = if x ≤ y ∧ y < x' then o else pval out y := by
  cases o with
  | some v => exact add_ok out x x' v hx h hle
  | none =>
    refine ⟨h, fun p hp => by have := hle p hp; omega, fun y => ?_⟩
    by_cases hy : x ≤ y ∧ y < x'
    · rw [if_pos hy]; exact pval_beyond hle hy.1
    · rw [if_neg hy]; rfl
def Rise : List Int → Prop
  | [] => True
  | [_] => True
  | x :: y :: t => x < y ∧ Rise (y :: t)
theorem Rise.tail {x : Int} {t : List Int} (h : Rise (x :: t)) : Rise t := by
  cases t with
  | nil => trivial
  | cons y t => exact h.2
theorem Rise.lt : ∀ {t : List Int} {x : Int}, Rise (x :: t) → ∀ y ∈ t, x < y
  | y :: t, x, h, z, hz => by
    rcases List.mem_cons.mp hz with rfl | hz
    · exact h.1
    · have := Rise.lt h.2 z hz
      have := h.1
      omega
theorem build_ok {V : Type} [DecidableEq V] (g : Int → Option V) : ∀ (t : List Int) (x : Int) (out : List (Int × Int × V)), Rise (x :: t) → PNF out → (∀ p ∈ out, p.2.1 ≤ x) →
    (∀ a b, x ≤ a → a ≤ b → (∀ d ∈ x :: t, ¬ (a < d ∧ d ≤ b)) → g a = g b) → (∀ y, (∀ d ∈ x :: t, d ≤ y) → g y = none) → (∀ y, y < x → pval out y = g y) →
    PNF (buildP g (x :: t) out) ∧ ∀ y, pval (buildP g (x :: t) out) y = g y
  | [], x, out, hr, h, hle, h1, h3, h4 => by
    refine ⟨h, fun y => ?_⟩
    by_cases hy : y < x
    · exact h4 y hy
    · rw [h3 y (by simp; omega)]
      exact pval_beyond hle (by omega)
  | x' :: t, x, out, hr, h, hle, h1, h3, h4 => by
    have hx := hr.1; obtain ⟨s1, s2, s3⟩ := step_ok out x x' (g x) hx h hle; refine build_ok g t x' (stepP out x x' (g x)) hr.2 s1 s2 (fun a b ha hab hd => h1 a b (by omega) hab (fun d hd2 => ?_)) (fun y hy => h3 y (fun d hd => ?_)) (fun y hy => ?_)
    · rcases List.mem_cons.mp hd2 with rfl | hd2
      · omega
      · exact hd d hd2
    · rcases List.mem_cons.mp hd with rfl | hd
      · have := hy x' List.mem_cons_self; omega
      · exact hy d hd
    · rw [s3 y]
      by_cases c : x ≤ y
      · rw [if_pos ⟨c, hy⟩]
        exact h1 x y (Int.le_refl _) c (fun d hd2 => by
          rcases List.mem_cons.mp hd2 with rfl | hd2
          · omega
          · have : x' ≤ d := by
              rcases List.mem_cons.mp hd2 with rfl | hd3
              · exact Int.le_refl _
              · exact Int.le_of_lt (Rise.lt hr.2 d hd3)
            omega)
      · rw [if_neg (by omega)]
        exact h4 y (by omega)
end RG
end Go.Proofs.Ytobdfiglgdbecaa
end
section
set_option linter.unusedVariables false
set_option linter.unusedSimpArgs false
namespace Go.Proofs.Ytobdfiglgdbecaa
namespace RG
abbrev Sp := Int × Int
abbrev Rc := Int × Int × Int × Int
abbrev Bd := Int × Int × List Sp
def up (s : List Sp) : List (Int × Int × Unit) := s.map fun p => (p.1, p.2, ())
def SNF (s : List Sp) : Prop := PNF (up s)
def scov (s : List Sp) (x : Int) : Bool := s.any fun p => decide (p.1 ≤ x) && decide (x < p.2)
theorem up_append (a b : List Sp) : up (a ++ b) = up a ++ up b := by simp [up]
theorem up_inj : ∀ a b : List Sp, up a = up b → a = b
  | [], [], _ => rfl
  | [], q :: t, h => by simp [up] at h
  | p :: t, [], h => by simp [up] at h
  | p :: t, q :: t', h => by
    simp only [up, List.map_cons, List.cons.injEq, Prod.mk.injEq, and_true] at h
    rw [up_inj t t' h.2, Prod.ext h.1.1 h.1.2]
theorem scov_cons (p : Sp) (t : List Sp) (x : Int) : scov (p :: t) x = (decide (p.1 ≤ x) && decide (x < p.2) || scov t x) := rfl
theorem scov_append (a b : List Sp) (x : Int) : scov (a ++ b) x = (scov a x || scov b x) := by simp [scov]
theorem pval_up (s : List Sp) (x : Int) : pval (up s) x = if scov s x = true then some () else none := by
  induction s with
  | nil => simp [up, pval, scov]
  | cons p t ih =>
    show pval ((p.1, p.2, ()) :: up t) x = _
    simp only [pval]
    rw [ih, scov_cons]
    by_cases h : p.1 ≤ x ∧ x < p.2
    · rw [if_pos h]; simp [h.1, h.2]
    · rw [if_neg h]
      have : (decide (p.1 ≤ x) && decide (x < p.2)) = false := by
        rw [Bool.and_eq_false_iff]; simp; omega
      rw [this, Bool.false_or]
theorem snf_unique {a b : List Sp} (ha : SNF a) (hb : SNF b) (h : ∀ x, scov a x = scov b x) : a = b :=
  up_inj a b (pnf_unique _ _ ha hb (fun y => by rw [pval_up, pval_up, h]))
theorem snf_snoc (a : List Sp) (q : Sp) : SNF (a ++ [q]) ↔ SNF a ∧ q.1 < q.2 ∧ ∀ p, a.getLast? = some p → p.2 < q.1 := by
  unfold SNF; rw [up_append]; show PNF (up a ++ [(q.1, q.2, ())]) ↔ _; rw [pnf_snoc]; have e : (up a).getLast? = a.getLast?.map fun p => (p.1, p.2, ()) := by unfold up; rw [List.getLast?_map]
  rw [e]
  constructor
  · rintro ⟨h1, h2, h3⟩
    refine ⟨h1, h2, fun p hp => ?_⟩; have := h3 (p.1, p.2, ()) (by rw [hp]; rfl); have h4 : p.2 ≤ q.1 := this.1; have h5 : p.2 ≠ q.1 := fun e => this.2 e rfl
    clear this
    omega
  · rintro ⟨h1, h2, h3⟩
    refine ⟨h1, h2, fun r hr => ?_⟩; rw [Option.map_eq_some_iff] at hr; obtain ⟨p, hp, rfl⟩ := hr; have := h3 p hp; exact ⟨by show p.2 ≤ q.1; omega, fun e => by exfalso; have e2 : p.2 = q.1 := e; omega⟩
def joined (l : List Sp) (s : Sp) : List Sp :=
  match l.getLast? with
  | some p => if s.1 ≤ p.2 then l.dropLast ++ [(p.1, max p.2 s.2)] else l ++ [s]
  | none => [s]
theorem joined_ok {l : List Sp} {s : Sp} (h : SNF l) (hs : s.1 < s.2) (hle : ∀ p ∈ l, p.1 ≤ s.1) :
    SNF (joined l s) ∧ (∀ p ∈ joined l s, p.1 ≤ s.1) ∧ ∀ x, scov (joined l s) x = (scov l x || (decide (s.1 ≤ x) && decide (x < s.2))) := by
  rcases last_split l with rfl | ⟨i, p, rfl⟩
  · refine ⟨hs, fun p hp => ?_, fun x => ?_⟩
    · simp [joined] at hp
      rw [hp]; exact Int.le_refl _
    · simp [joined, scov]
  · have hp := hle p (by simp)
    obtain ⟨s1, s2, s3⟩ := (snf_snoc i p).mp h; have hl : (i ++ [p]).getLast? = some p := by simp
    unfold joined; rw [hl]; dsimp only
    by_cases c : s.1 ≤ p.2
    · rw [if_pos c, List.dropLast_concat]
      refine ⟨(snf_snoc i _).mpr ⟨s1, by show p.1 < max p.2 s.2; omega, s3⟩, fun q hq => ?_, fun x => ?_⟩
      · rw [List.mem_append, List.mem_singleton] at hq
        rcases hq with hq | rfl
        · exact hle q (by simp [hq])
        · exact hp
      · rw [scov_append, scov_append, Bool.or_assoc]
        congr 1
        simp only [scov, List.any_cons, List.any_nil, Bool.or_false]
        rw [Bool.eq_iff_iff]
        simp only [Bool.and_eq_true, Bool.or_eq_true, decide_eq_true_eq]
        omega
    · rw [if_neg c]
      refine ⟨(snf_snoc _ _).mpr ⟨h, hs, fun r hr => ?_⟩, fun q hq => ?_, fun x => ?_⟩
      · rw [hl] at hr
        cases hr
        omega
      · rw [List.mem_append, List.mem_singleton] at hq
        rcases hq with hq | rfl
        · exact hle q hq
        · exact Int.le_refl _
      · rw [scov_append]
        simp [scov]
def joinAll (l : List Sp) : List Sp := l.foldl joined []
theorem joinAll_gen : ∀ (l out : List Sp), SNF out → (∀ p ∈ out, ∀ q ∈ l, p.1 ≤ q.1) → l.Pairwise (fun p q => p.1 ≤ q.1) → (∀ p ∈ l, p.1 < p.2) →
    SNF (l.foldl joined out) ∧ ∀ x, scov (l.foldl joined out) x = (scov out x || scov l x)
  | [], out, h, _, _, _ => ⟨h, fun x => by simp [scov]⟩
  | s :: t, out, h, h1, h2, h3 => by
    obtain ⟨j1, j2, j3⟩ := joined_ok h (h3 s List.mem_cons_self) (fun p hp => h1 p hp s List.mem_cons_self); obtain ⟨r1, r2⟩ := joinAll_gen t (joined out s) j1 (fun p hp q hq => Int.le_trans (j2 p hp) ((List.pairwise_cons.mp h2).1 q hq)) (List.pairwise_cons.mp h2).2 (fun p hp => h3 p (List.mem_cons_of_mem _ hp)); refine ⟨r1, fun x => ?_⟩; show scov (t.foldl joined (joined out s)) x = _; rw [r2, j3, scov_cons, Bool.or_assoc]
theorem joinAll_ok {l : List Sp} (h2 : l.Pairwise (fun p q => p.1 ≤ q.1)) (h3 : ∀ p ∈ l, p.1 < p.2) : SNF (joinAll l) ∧ ∀ x, scov (joinAll l) x = scov l x := by
  obtain ⟨r1, r2⟩ := joinAll_gen l [] trivial (fun p hp => by simp at hp) h2 h3; exact ⟨r1, fun x => by unfold joinAll; rw [r2]; simp [scov]⟩
def sins (s : Sp) : List Sp → List Sp
  | [] => [s]
  | p :: t => if s.1 ≤ p.1 then s :: p :: t else p :: sins s t
def ssrt (l : List Sp) : List Sp := l.foldr sins []
theorem mem_sins (s q : Sp) : ∀ l : List Sp, q ∈ sins s l ↔ q = s ∨ q ∈ l
  | [] => by simp [sins]
  | p :: t => by
    simp only [sins]
    split
    · simp
    · rw [List.mem_cons, mem_sins s q t, List.mem_cons]
      constructor
      · rintro (h | h | h) <;> simp [h]
      · rintro (h | h | h) <;> simp [h]
theorem mem_ssrt (q : Sp) (l : List Sp) : q ∈ ssrt l ↔ q ∈ l := by
  unfold ssrt
  induction l with
  | nil => rfl
  | cons s t ih => rw [List.foldr_cons, mem_sins, ih, List.mem_cons]
theorem sins_sorted (s : Sp) : ∀ l : List Sp, l.Pairwise (fun p q => p.1 ≤ q.1) → (sins s l).Pairwise (fun p q => p.1 ≤ q.1)
  | [], _ => by simp [sins]
  | p :: t, h => by
    obtain ⟨h1, h2⟩ := List.pairwise_cons.mp h
    simp only [sins]
    split
    · rename_i c
      refine List.pairwise_cons.mpr ⟨fun q hq => ?_, h⟩
      rcases List.mem_cons.mp hq with rfl | hq
      · exact c
      · exact Int.le_trans c (h1 q hq)
    · rename_i c
      refine List.pairwise_cons.mpr ⟨fun q hq => ?_, sins_sorted s t h2⟩
      rcases (mem_sins s q t).mp hq with rfl | hq
      · omega
      · exact h1 q hq
theorem ssrt_sorted (l : List Sp) : (ssrt l).Pairwise (fun p q => p.1 ≤ q.1) := by
  unfold ssrt
  induction l with
  | nil => simp
  | cons s t ih => exact sins_sorted s _ ih
theorem scov_mem {a b : List Sp} (h : ∀ p, p ∈ a ↔ p ∈ b) (x : Int) : scov a x = scov b x := by
  unfold scov; rw [Bool.eq_iff_iff, List.any_eq_true, List.any_eq_true]
  constructor
  · rintro ⟨p, hp, e⟩; exact ⟨p, (h p).mp hp, e⟩
  · rintro ⟨p, hp, e⟩; exact ⟨p, (h p).mpr hp, e⟩
def some1 (r : Rc) : Bool := decide (r.1 < r.2.2.1) && decide (r.2.1 < r.2.2.2)
def cov (l : List Rc) (x y : Int) : Bool := l.any fun r => decide (r.1 ≤ x) && decide (x < r.2.2.1) && decide (r.2.1 ≤ y) && decide (y < r.2.2.2)
def acts (y : Int) (r : Rc) : Bool := some1 r && decide (r.2.1 ≤ y) && decide (y < r.2.2.2)
def act (l : List Rc) (y : Int) : List Sp := (l.filter (acts y)).map fun r => (r.1, r.2.2.1)
def rowP (l : List Rc) (y : Int) : List Sp := joinAll (ssrt (act l y))
theorem act_pos {l : List Rc} {y : Int} {p : Sp} (h : p ∈ act l y) : p.1 < p.2 := by
  unfold act at h
  simp only [List.mem_map, List.mem_filter, acts, some1, Bool.and_eq_true, decide_eq_true_eq] at h
  obtain ⟨r, ⟨_, ⟨⟨h1, _⟩, _⟩, _⟩, rfl⟩ := h; exact h1
theorem scov_act (l : List Rc) (x y : Int) : scov (act l y) x = cov l x y := by
  unfold act scov cov; rw [Bool.eq_iff_iff, List.any_eq_true, List.any_eq_true]
  simp only [List.mem_map, List.mem_filter, acts, some1, Bool.and_eq_true, decide_eq_true_eq]
  constructor
  · rintro ⟨p, ⟨r, ⟨hr, ⟨⟨h1, h2⟩, h3⟩, h4⟩, rfl⟩, h5, h6⟩
    exact ⟨r, hr, ⟨⟨h5, h6⟩, h3⟩, h4⟩
  · rintro ⟨r, hr, ⟨⟨h5, h6⟩, h3⟩, h4⟩
    exact ⟨(r.1, r.2.2.1), ⟨r, ⟨hr, ⟨⟨by omega, by omega⟩, h3⟩, h4⟩, rfl⟩, h5, h6⟩
theorem row_any {l : List Rc} {y : Int} {d : List Sp} (hm : ∀ p, p ∈ d ↔ p ∈ act l y) (hs : d.Pairwise (fun p q => p.1 ≤ q.1)) : SNF (joinAll d) ∧ ∀ x, scov (joinAll d) x = cov l x y := by
  obtain ⟨h1, h2⟩ := joinAll_ok hs (fun p hp => act_pos ((hm p).mp hp)); exact ⟨h1, fun x => by rw [h2, scov_mem hm, scov_act]⟩
theorem row_ok (l : List Rc) (y : Int) : SNF (rowP l y) ∧ ∀ x, scov (rowP l y) x = cov l x y :=
  row_any (fun p => mem_ssrt p _) (ssrt_sorted _)
theorem row_of {l : List Rc} {y : Int} {d : List Sp} (hm : ∀ p, p ∈ d ↔ p ∈ act l y) (hs : d.Pairwise (fun p q => p.1 ≤ q.1)) : joinAll d = rowP l y :=
  snf_unique (row_any hm hs).1 (row_ok l y).1 (fun x => by rw [(row_any hm hs).2, (row_ok l y).2])
def ins (x : Int) : List Int → List Int
  | [] => [x]
  | y :: t => if x < y then x :: y :: t else if x = y then y :: t else y :: ins x t
def dist (l : List Int) : List Int := l.foldr ins []
theorem mem_ins (x z : Int) : ∀ l : List Int, z ∈ ins x l ↔ z = x ∨ z ∈ l
  | [] => by simp [ins]
  | y :: t => by
    simp only [ins]
    split
    · simp
    · split
      · rename_i h; subst h; simp
      · rw [List.mem_cons, mem_ins x z t, List.mem_cons]
        constructor
        · rintro (h | h | h) <;> simp [h]
        · rintro (h | h | h) <;> simp [h]
theorem rise_cons {x : Int} {t : List Int} : Rise (x :: t) ↔ Rise t ∧ ∀ y ∈ t, x < y := by
  constructor
  · intro h; exact ⟨h.tail, h.lt⟩
  · rintro ⟨h1, h2⟩
    cases t with
    | nil => trivial
    | cons y t => exact ⟨h2 y List.mem_cons_self, h1⟩
theorem ins_rise (x : Int) : ∀ l : List Int, Rise l → Rise (ins x l)
  | [], _ => trivial
  | y :: t, h => by
    simp only [ins]
    split
    · rename_i c; exact ⟨c, h⟩
    · split
      · exact h
      · rw [rise_cons]
        refine ⟨ins_rise x t h.tail, fun z hz => ?_⟩
        rcases (mem_ins x z t).mp hz with rfl | hz
        · omega
        · exact h.lt z hz
theorem mem_dist (z : Int) (l : List Int) : z ∈ dist l ↔ z ∈ l := by
  unfold dist
  induction l with
  | nil => rfl
  | cons x t ih => rw [List.foldr_cons, mem_ins, ih, List.mem_cons]
theorem dist_rise (l : List Int) : Rise (dist l) := by
  unfold dist
  induction l with
  | nil => trivial
  | cons x t ih => exact ins_rise x _ ih
theorem rise_unique : ∀ a b : List Int, Rise a → Rise b → (∀ z, z ∈ a ↔ z ∈ b) → a = b
  | [], [], _, _, _ => rfl
  | [], y :: t, _, _, h => by have := (h y).mpr List.mem_cons_self; simp at this
  | x :: t, [], _, _, h => by have := (h x).mp List.mem_cons_self; simp at this
  | x :: t, y :: t', ha, hb, h => by
    have e : x = y := by
      have h1 := (h x).mp List.mem_cons_self; have h2 := (h y).mpr List.mem_cons_self
      rcases List.mem_cons.mp h1 with h1 | h1
      · exact h1
      · rcases List.mem_cons.mp h2 with h2 | h2
        · exact h2.symm
        · have := hb.lt x h1; have := ha.lt y h2; omega
    subst e; rw [rise_unique t t' ha.tail hb.tail (fun z => ?_)]; have := h z; rw [List.mem_cons, List.mem_cons] at this
    constructor
    · intro hz
      rcases this.mp (.inr hz) with e | h
      · have := ha.lt z hz; omega
      · exact h
    · intro hz
      rcases this.mpr (.inr hz) with e | h
      · have := hb.lt z hz; omega
      · exact h
def addS (out : List Sp) (x x' : Int) : List Sp :=
  match out.getLast? with
  | some p => if p.2 = x then out.dropLast ++ [(p.1, x')] else out ++ [(x, x')]
  | none => [(x, x')]
def buildS (k : Int → Bool) : List Int → List Sp → List Sp
  | x :: x' :: t, out => buildS k (x' :: t) (if k x = true then addS out x x' else out)
  | _, out => out
theorem up_addS (out : List Sp) (x x' : Int) : up (addS out x x') = addP (up out) x x' () := by
  rcases last_split out with rfl | ⟨i, p, rfl⟩
  · rfl
  · unfold addS addP
    have e : (up (i ++ [p])).getLast? = some (p.1, p.2, ()) := by rw [up_append]; simp [up]
    rw [e]
    simp only [List.getLast?_append, List.getLast?_singleton, Option.some_or, and_true]
    by_cases c : p.2 = x
    · rw [if_pos c, if_pos c, List.dropLast_concat, up_append, up_append]
      simp [up]
    · rw [if_neg c, if_neg c, up_append]; simp [up]
theorem up_buildS (k : Int → Bool) : ∀ (t : List Int) (out : List Sp), up (buildS k t out) = buildP (fun x => if k x = true then some () else none) t (up out)
  | [], out => rfl
  | [x], out => rfl
  | x :: x' :: t, out => by
    simp only [buildS, buildP]
    rw [up_buildS k (x' :: t)]
    congr 1
    by_cases c : k x = true
    · rw [if_pos c, if_pos c, up_addS]; rfl
    · rw [if_neg c, if_neg c]; rfl
def endsOf (l : List Sp) : List Int := l.flatMap fun s => [s.1, s.2]
theorem scov_const {s : List Sp} {a b : Int} (hab : a ≤ b) (h : ∀ d ∈ endsOf s, ¬ (a < d ∧ d ≤ b)) : scov s a = scov s b := by
  unfold scov; rw [Bool.eq_iff_iff, List.any_eq_true, List.any_eq_true]
  have hh : ∀ p ∈ s, ((decide (p.1 ≤ a) && decide (a < p.2)) = true ↔ (decide (p.1 ≤ b) && decide (b < p.2)) = true) := fun p hp => by
    have h1 := h p.1 (List.mem_flatMap.mpr ⟨p, hp, by simp⟩); have h2 := h p.2 (List.mem_flatMap.mpr ⟨p, hp, by simp⟩)
    simp only [Bool.and_eq_true, decide_eq_true_eq]
    omega
  constructor
  · rintro ⟨p, hp, e⟩; exact ⟨p, hp, (hh p hp).mp e⟩
  · rintro ⟨p, hp, e⟩; exact ⟨p, hp, (hh p hp).mpr e⟩
theorem scov_hi {s : List Sp} {y : Int} (h : ∀ d ∈ endsOf s, d ≤ y) : scov s y = false := by
  unfold scov; rw [List.any_eq_false]; intro p hp; have h2 := h p.2 (List.mem_flatMap.mpr ⟨p, hp, by simp⟩)
  simp only [Bool.and_eq_true, decide_eq_true_eq]
  omega
theorem scov_lo {s : List Sp} {y : Int} (h : ∀ d ∈ endsOf s, y < d) : scov s y = false := by
  unfold scov; rw [List.any_eq_false]; intro p hp; have h2 := h p.1 (List.mem_flatMap.mpr ⟨p, hp, by simp⟩)
  simp only [Bool.and_eq_true, decide_eq_true_eq]
  omega
def mergeP (a b : List Sp) (keep : Bool → Bool → Bool) : List Sp := buildS (fun x => keep (scov a x) (scov b x)) (dist (endsOf (a ++ b))) []
theorem build_all {V : Type} [DecidableEq V] (g : Int → Option V) (cuts : List Int) (hr : Rise cuts) (h1 : ∀ a b, a ≤ b → (∀ d ∈ cuts, ¬ (a < d ∧ d ≤ b)) → g a = g b) (h3 : ∀ y, (∀ d ∈ cuts, d ≤ y) → g y = none) (h4 : ∀ y, (∀ d ∈ cuts, y < d) → g y = none) :
    PNF (buildP g cuts []) ∧ ∀ y, pval (buildP g cuts []) y = g y := by
  cases cuts with
  | nil => exact ⟨trivial, fun y => (h3 y (by simp)).symm⟩
  | cons x t =>
    refine build_ok g t x [] hr trivial (by simp) (fun a b _ hab hd => h1 a b hab hd) h3 (fun y hy => ?_)
    rw [h4 y (fun d hd => by
      rcases List.mem_cons.mp hd with rfl | hd
      · exact hy
      · have := hr.lt d hd; omega)]
    rfl
theorem merge_ok (a b : List Sp) (keep : Bool → Bool → Bool) (hk : keep false false = false) : SNF (mergeP a b keep) ∧ ∀ x, scov (mergeP a b keep) x = keep (scov a x) (scov b x) := by
  have hin : ∀ d, d ∈ dist (endsOf (a ++ b)) ↔ d ∈ endsOf a ∨ d ∈ endsOf b := fun d => by
    rw [mem_dist]; unfold endsOf; rw [List.flatMap_append, List.mem_append]
  obtain ⟨r1, r2⟩ := build_all (fun x => if keep (scov a x) (scov b x) = true then some () else none) (dist (endsOf (a ++ b))) (dist_rise _)
    (fun p q hpq hd => by
      rw [scov_const hpq (fun d hd2 => hd d ((hin d).mpr (.inl hd2))), scov_const (s := b) hpq (fun d hd2 => hd d ((hin d).mpr (.inr hd2)))])
    (fun y hy => by
      rw [scov_hi (fun d hd2 => hy d ((hin d).mpr (.inl hd2))), scov_hi (s := b) (fun d hd2 => hy d ((hin d).mpr (.inr hd2))), hk]; rfl)
    (fun y hy => by
      rw [scov_lo (fun d hd2 => hy d ((hin d).mpr (.inl hd2))), scov_lo (s := b) (fun d hd2 => hy d ((hin d).mpr (.inr hd2))), hk]; rfl)
  have e : up (mergeP a b keep) = buildP (fun x => if keep (scov a x) (scov b x) = true then some () else none) (dist (endsOf (a ++ b))) [] := by
    unfold mergeP; rw [up_buildS]; rfl
  refine ⟨by unfold SNF; rw [e]; exact r1, fun x => ?_⟩; have h := r2 x; rw [← e, pval_up] at h
  revert h
  cases scov (mergeP a b keep) x <;> cases keep (scov a x) (scov b x) <;> simp
def cutsOf (l : List Rc) : List Int := (l.filter some1).flatMap fun r => [r.2.1, r.2.2.2]
theorem act_const {l : List Rc} {a b : Int} (hab : a ≤ b) (h : ∀ d ∈ cutsOf l, ¬ (a < d ∧ d ≤ b)) : act l a = act l b := by
  unfold act
  congr 1
  refine List.filter_congr (fun r hr => ?_); unfold acts
  by_cases c : some1 r = true
  · have h1 := h r.2.1 (List.mem_flatMap.mpr ⟨r, List.mem_filter.mpr ⟨hr, c⟩, by simp⟩)
    have h2 := h r.2.2.2 (List.mem_flatMap.mpr ⟨r, List.mem_filter.mpr ⟨hr, c⟩, by simp⟩); rw [c, Bool.eq_iff_iff]
    simp only [Bool.true_and, Bool.and_eq_true, decide_eq_true_eq]
    omega
  · rw [Bool.not_eq_true] at c
    rw [c]; rfl
theorem act_hi {l : List Rc} {y : Int} (h : ∀ d ∈ cutsOf l, d ≤ y) : act l y = [] := by
  unfold act; rw [List.map_eq_nil_iff, List.filter_eq_nil_iff]; intro r hr hc
  simp only [acts, Bool.and_eq_true, decide_eq_true_eq] at hc
  have h2 := h r.2.2.2 (List.mem_flatMap.mpr ⟨r, List.mem_filter.mpr ⟨hr, hc.1.1⟩, by simp⟩)
  omega
theorem act_lo {l : List Rc} {y : Int} (h : ∀ d ∈ cutsOf l, y < d) : act l y = [] := by
  unfold act; rw [List.map_eq_nil_iff, List.filter_eq_nil_iff]; intro r hr hc
  simp only [acts, Bool.and_eq_true, decide_eq_true_eq] at hc
  have h2 := h r.2.1 (List.mem_flatMap.mpr ⟨r, List.mem_filter.mpr ⟨hr, hc.1.1⟩, by simp⟩)
  omega
def rowOf (a b : List Rc) (keep : Bool → Bool → Bool) (y : Int) : Option (List Sp) :=
  if mergeP (rowP a y) (rowP b y) keep = [] then none else some (mergeP (rowP a y) (rowP b y) keep)
def cutsP (a b : List Rc) : List Int := dist (cutsOf a ++ cutsOf b)
def sweepP (a b : List Rc) (keep : Bool → Bool → Bool) : List Bd := buildP (rowOf a b keep) (cutsP a b) []
structure BNF (l : List Bd) : Prop where
  p : PNF l
  s : ∀ b ∈ l, SNF b.2.2 ∧ b.2.2 ≠ []
def bcov (l : List Bd) (x y : Int) : Bool := match pval l y with | some s => scov s x | none => false
theorem build_vals {V : Type} [DecidableEq V] {P : V → Prop} (g : Int → Option V) (hg : ∀ y v, g y = some v → P v) : ∀ (t : List Int) (out : List (Int × Int × V)), (∀ p ∈ out, P p.2.2) → ∀ p ∈ buildP g t out, P p.2.2
  | [], out, h => h
  | [x], out, h => h
  | x :: x' :: t, out, h => by
    simp only [buildP]
    refine build_vals g hg (x' :: t) _ ?_; cases e : g x with
    | none => exact h
    | some v =>
      have hv := hg x v e; show ∀ p ∈ addP out x x' v, P p.2.2
      rcases last_split out with rfl | ⟨i, q, rfl⟩
      · intro p hp
        simp [addP] at hp
        rw [hp]; exact hv
      · unfold addP
        rw [show (i ++ [q]).getLast? = some q by simp]; dsimp only
        split
        · intro p hp
          rw [List.dropLast_concat, List.mem_append, List.mem_singleton] at hp
          rcases hp with hp | rfl
          · exact h p (by simp [hp])
          · exact hv
        · intro p hp
          rw [List.mem_append, List.mem_singleton] at hp
          rcases hp with hp | rfl
          · exact h p hp
          · exact hv
theorem sweep_ok (a b : List Rc) (keep : Bool → Bool → Bool) (hk : keep false false = false) : BNF (sweepP a b keep) ∧ ∀ x y, bcov (sweepP a b keep) x y = keep (cov a x y) (cov b x y) := by
  have hin : ∀ d, d ∈ cutsP a b ↔ d ∈ cutsOf a ∨ d ∈ cutsOf b := fun d => by
    unfold cutsP; rw [mem_dist, List.mem_append]
  have hnone : mergeP [] [] keep = [] := rfl
  have hrow : ∀ {p q : Int}, p ≤ q → (∀ d ∈ cutsP a b, ¬ (p < d ∧ d ≤ q)) → rowOf a b keep p = rowOf a b keep q := fun {p q} hpq hd => by
    unfold rowOf rowP; rw [act_const hpq (fun d hd2 => hd d ((hin d).mpr (.inl hd2))), act_const (l := b) hpq (fun d hd2 => hd d ((hin d).mpr (.inr hd2)))]
  obtain ⟨r1, r2⟩ := build_all (rowOf a b keep) (cutsP a b) (dist_rise _) (fun p q => hrow)
    (fun y hy => by
      unfold rowOf rowP; rw [act_hi (fun d hd2 => hy d ((hin d).mpr (.inl hd2))), act_hi (l := b) (fun d hd2 => hy d ((hin d).mpr (.inr hd2)))]; exact if_pos hnone)
    (fun y hy => by
      unfold rowOf rowP; rw [act_lo (fun d hd2 => hy d ((hin d).mpr (.inl hd2))), act_lo (l := b) (fun d hd2 => hy d ((hin d).mpr (.inr hd2)))]; exact if_pos hnone)
  refine ⟨⟨r1, ?_⟩, fun x y => ?_⟩
  · refine build_vals (P := fun s => SNF s ∧ s ≠ []) _ (fun y v hv => ?_) _ _ (by simp)
    unfold rowOf at hv
    split at hv
    · cases hv
    · rename_i c
      obtain rfl := Option.some.inj hv; exact ⟨(merge_ok _ _ keep hk).1, c⟩
  · have e : scov (mergeP (rowP a y) (rowP b y) keep) x = keep (cov a x y) (cov b x y) := by
      rw [(merge_ok _ _ keep hk).2, (row_ok a y).2, (row_ok b y).2]
    unfold bcov; rw [show pval (sweepP a b keep) y = rowOf a b keep y from r2 y]; unfold rowOf
    split
    · rename_i h
      split at h
      · cases h
      · obtain rfl := Option.some.inj h
        exact e
    · rename_i h
      split at h
      · rename_i c
        rw [← e, c]; rfl
      · cases h
def flat (l : List Bd) : List Rc := l.flatMap fun b => b.2.2.map fun s => (s.1, b.1, s.2, b.2.1)
end RG
end Go.Proofs.Ytobdfiglgdbecaa
end
