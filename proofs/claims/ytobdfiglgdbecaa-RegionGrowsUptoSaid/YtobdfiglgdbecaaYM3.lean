import Derived.Test.YtobdfiglgdbecaaYM2
set_option linter.unusedVariables false
set_option linter.unusedSimpArgs false
namespace Go.Proofs.Ytobdfiglgdbecaa
namespace RG
theorem joined_len (l : List Sp) (s : Sp) : (joined l s).length ≤ l.length + 1 := by
  rcases last_split l with rfl | ⟨i, p, rfl⟩
  · exact Nat.le_refl _
  · unfold joined
    rw [show (i ++ [p]).getLast? = some p by simp]
    dsimp only
    split <;> simp
theorem joinAll_len (l : List Sp) : (joinAll l).length ≤ l.length := by
  have h : ∀ (l out : List Sp), (l.foldl joined out).length ≤ out.length + l.length := by
    intro l
    induction l with
    | nil => intro out; simp
    | cons s t ih => intro out; rw [List.foldl_cons]; have := ih (joined out s); have := joined_len out s; simp only [List.length_cons]; omega
  have := h l []
  simpa [joinAll] using this
theorem sins_len (s : Sp) : ∀ l : List Sp, (sins s l).length = l.length + 1
  | [] => rfl
  | p :: t => by
    simp only [sins]
    split
    · rfl
    · simp [sins_len s t]
theorem ssrt_len (l : List Sp) : (ssrt l).length = l.length := by
  unfold ssrt
  induction l with
  | nil => rfl
  | cons s t ih => rw [List.foldr_cons, sins_len, ih]; rfl
theorem row_len (l : List Rc) (y : Int) : (rowP l y).length ≤ (act l y).length := by
  have := joinAll_len (ssrt (act l y))
  rw [ssrt_len] at this
  exact this
theorem ends_len (s : List Sp) : (endsOf s).length = 2 * s.length := by
  unfold endsOf
  induction s with
  | nil => rfl
  | cons p t ih => rw [List.flatMap_cons, List.length_append, ih]; simp; omega
theorem snf_ends : ∀ s : List Sp, SNF s → Rise (endsOf s)
  | [], _ => trivial
  | [p], h => ⟨h, trivial⟩
  | p :: q :: t, h => by
    have h1 : p.1 < p.2 := h.1
    have h2 : p.2 ≤ q.1 := h.2.1
    have h3 : p.2 ≠ q.1 := fun e => h.2.2.1 e rfl
    have h4 := snf_ends (q :: t) h.2.2.2
    exact ⟨h1, by show p.2 < q.1; omega, h4⟩
theorem rise_nodup : ∀ a : List Int, Rise a → a.Nodup
  | [], _ => List.nodup_nil
  | x :: t, h => List.nodup_cons.mpr ⟨fun hx => by have := h.lt x hx; omega, rise_nodup t h.tail⟩
theorem nodup_sub : ∀ (a b : List Int), a.Nodup → (∀ z ∈ a, z ∈ b) → a.length ≤ b.length
  | [], b, _, _ => Nat.zero_le _
  | x :: t, b, h, hs => by
    obtain ⟨h1, h2⟩ := List.nodup_cons.mp h
    have hx := hs x List.mem_cons_self
    have := nodup_sub t (b.erase x) h2 (fun z hz => (List.mem_erase_of_ne (fun e : z = x => h1 (by rw [← e]; exact hz))).mpr (hs z (List.mem_cons_of_mem _ hz)))
    rw [List.length_erase_of_mem hx] at this
    have := List.length_pos_of_mem hx
    simp only [List.length_cons]
    omega
theorem ins_len (x : Int) : ∀ l : List Int, (ins x l).length ≤ l.length + 1
  | [] => Nat.le_refl _
  | y :: t => by
    simp only [ins]
    split
    · exact Nat.le_refl _
    · split
      · exact Nat.le_succ _
      · have := ins_len x t
        simp only [List.length_cons]; omega
theorem dist_len (l : List Int) : (dist l).length ≤ l.length := by
  unfold dist
  induction l with
  | nil => exact Nat.le_refl _
  | cons x t ih => rw [List.foldr_cons]; have := ins_len x (t.foldr ins []); simp only [List.length_cons]; omega
theorem ends_append (a b : List Sp) : endsOf (a ++ b) = endsOf a ++ endsOf b := by unfold endsOf; rw [List.flatMap_append]
theorem addS_ends (out : List Sp) (x x' z : Int) (h : z ∈ endsOf (addS out x x')) : z = x ∨ z = x' ∨ z ∈ endsOf out := by
  rcases last_split out with rfl | ⟨i, p, rfl⟩
  · simp [addS, endsOf] at h
    rcases h with h | h <;> simp [h]
  · unfold addS at h
    rw [show (i ++ [p]).getLast? = some p by simp] at h
    dsimp only at h
    split at h
    · rw [List.dropLast_concat, ends_append, List.mem_append] at h
      rw [ends_append, List.mem_append]
      rcases h with h | h
      · exact .inr (.inr (.inl h))
      · simp [endsOf] at h
        rcases h with h | h
        · exact .inr (.inr (.inr (by simp [endsOf, h])))
        · exact .inr (.inl h)
    · rw [ends_append, List.mem_append] at h
      rcases h with h | h
      · exact .inr (.inr h)
      · simp [endsOf] at h
        rcases h with h | h <;> simp [h]
theorem buildS_ends (k : Int → Bool) : ∀ (t : List Int) (out : List Sp) (z : Int), z ∈ endsOf (buildS k t out) → z ∈ t ∨ z ∈ endsOf out
  | [], out, z, h => .inr h
  | [x], out, z, h => .inr h
  | x :: x' :: t, out, z, h => by
    simp only [buildS] at h
    rcases buildS_ends k (x' :: t) _ z h with h | h
    · exact .inl (List.mem_cons_of_mem _ h)
    · split at h
      · rcases addS_ends out x x' z h with h | h | h
        · exact .inl (h ▸ List.mem_cons_self)
        · exact .inl (h ▸ List.mem_cons_of_mem _ List.mem_cons_self)
        · exact .inr h
      · exact .inr h
theorem merge_len (a b : List Sp) (keep : Bool → Bool → Bool) (hk : keep false false = false) : (mergeP a b keep).length ≤ a.length + b.length := by
  have h1 := nodup_sub _ (dist (endsOf (a ++ b))) (rise_nodup _ (snf_ends _ (merge_ok a b keep hk).1)) (fun z hz => by
    rcases buildS_ends _ _ _ z hz with h | h
    · exact h
    · simp [endsOf] at h)
  have h2 := dist_len (endsOf (a ++ b))
  rw [ends_len] at h1 h2
  rw [List.length_append] at h2
  omega
def rects (l : List Bd) : Nat := (l.map fun b => b.2.2.length).sum
theorem flat_len (l : List Bd) : (flat l).length = rects l := by
  unfold flat rects
  rw [List.length_flatMap]
  congr 1
  refine List.map_congr_left (fun b _ => ?_)
  rw [List.length_map]
theorem rects_append (a b : List Bd) : rects (a ++ b) = rects a + rects b := by unfold rects; rw [List.map_append, List.sum_append]
def rowLen (o : Option (List Sp)) : Nat := match o with | some s => s.length | none => 0
theorem build_len (g : Int → Option (List Sp)) : ∀ (t : List Int) (out : List Bd), rects (buildP g t out) ≤ rects out + (t.map fun c => rowLen (g c)).sum
  | [], out => Nat.le_add_right _ _
  | [x], out => Nat.le_add_right _ _
  | x :: x' :: t, out => by
    simp only [buildP]
    have ih := build_len g (x' :: t) (stepP out x x' (g x))
    have hs : rects (stepP out x x' (g x)) ≤ rects out + rowLen (g x) := by
      cases e : g x with
      | none => exact Nat.le_add_right _ _
      | some v =>
        show rects (addP out x x' v) ≤ rects out + v.length
        rcases last_split out with rfl | ⟨i, q, rfl⟩
        · simp [addP, rects]
        · unfold addP
          rw [show (i ++ [q]).getLast? = some q by simp]
          dsimp only
          split
          · rename_i c
            rw [List.dropLast_concat, rects_append, rects_append]
            simp [rects, c.2]
          · rw [rects_append]
            simp [rects]
    simp only [List.map_cons, List.sum_cons] at ih ⊢
    omega
def nact (l : List Rc) (c : Int) : Nat := l.countP (acts c)
theorem act_len (l : List Rc) (c : Int) : (act l c).length = nact l c := by
  unfold act nact
  rw [List.length_map, List.countP_eq_length_filter]
theorem sweep_len (a b : List Rc) (keep : Bool → Bool → Bool) (hk : keep false false = false) : (flat (sweepP a b keep)).length ≤ ((cutsP a b).map (nact (a ++ b))).sum := by
  rw [flat_len]
  refine Nat.le_trans (build_len _ _ _) ?_
  show rects [] + _ ≤ _
  rw [show rects [] = 0 from rfl, Nat.zero_add]
  have h : ∀ c, rowLen (rowOf a b keep c) ≤ nact (a ++ b) c := fun c => by
    have h1 := merge_len (rowP a c) (rowP b c) keep hk
    have h2 := row_len a c
    have h3 := row_len b c
    rw [act_len] at h2 h3
    have h4 : nact (a ++ b) c = nact a c + nact b c := by unfold nact; rw [List.countP_append]
    unfold rowOf
    split
    · exact Nat.zero_le _
    · show (mergeP _ _ _).length ≤ _
      omega
  generalize cutsP a b = cs
  induction cs with
  | nil => exact Nat.le_refl _
  | cons c t ih => simp only [List.map_cons, List.sum_cons]; have := h c; omega
def begun (l : List Rc) (c : Int) : Nat := l.countP fun r => some1 r && decide (r.2.1 ≤ c)
def ended (l : List Rc) (c : Int) : Nat := l.countP fun r => some1 r && decide (r.2.2.2 ≤ c)
theorem begun_split (l : List Rc) (c : Int) : begun l c = ended l c + nact l c := by
  unfold begun ended nact
  induction l with
  | nil => rfl
  | cons r t ih =>
    simp only [List.countP_cons]
    rw [ih]
    have h : (if (some1 r && decide (r.2.1 ≤ c)) = true then 1 else 0) = (if (some1 r && decide (r.2.2.2 ≤ c)) = true then 1 else 0) + (if acts c r = true then 1 else 0) := by
      unfold acts
      by_cases h1 : some1 r = true
      · have h2 : r.2.1 < r.2.2.2 := by
          unfold some1 at h1
          simp only [Bool.and_eq_true, decide_eq_true_eq] at h1
          exact h1.2
        rw [h1]
        simp only [Bool.true_and, Bool.and_eq_true, decide_eq_true_eq]
        by_cases h3 : r.2.1 ≤ c
        · by_cases h4 : r.2.2.2 ≤ c
          · rw [if_pos h3, if_pos h4, if_neg (by omega)]
          · rw [if_pos h3, if_neg h4, if_pos (by omega)]
        · rw [if_neg h3, if_neg (by omega), if_neg (by omega)]
      · rw [Bool.not_eq_true] at h1
        rw [h1]; rfl
    omega
theorem countP_lt {l : List Rc} {p q : Rc → Bool} (h : ∀ r, p r = true → q r = true) {r : Rc} (hr : r ∈ l) (h1 : p r = false) (h2 : q r = true) : l.countP p < l.countP q := by
  induction l with
  | nil => simp at hr
  | cons s t ih =>
    simp only [List.countP_cons]
    have hle : t.countP p ≤ t.countP q := List.countP_mono_left (fun x _ hx => h x hx)
    rcases List.mem_cons.mp hr with rfl | hr
    · rw [if_neg (by simp [h1]), if_pos h2]; omega
    · have := ih hr
      by_cases hs : p s = true
      · rw [if_pos hs, if_pos (h s hs)]; omega
      · rw [if_neg hs]; omega
def tOf (l : List Rc) (c : Int) : Nat := begun l c + ended l c
theorem tOf_lt {l : List Rc} {c c' : Int} (hc : c < c') (hm : c' ∈ cutsOf l) : tOf l c < tOf l c' := by
  unfold tOf
  have hb : begun l c ≤ begun l c' := List.countP_mono_left (fun r _ h => by simp only [Bool.and_eq_true, decide_eq_true_eq] at h ⊢; exact ⟨h.1, by omega⟩)
  have he : ended l c ≤ ended l c' := List.countP_mono_left (fun r _ h => by simp only [Bool.and_eq_true, decide_eq_true_eq] at h ⊢; exact ⟨h.1, by omega⟩)
  unfold cutsOf at hm
  rw [List.mem_flatMap] at hm
  obtain ⟨r, hr, hm⟩ := hm
  obtain ⟨hr, hs⟩ := List.mem_filter.mp hr
  simp at hm
  rcases hm with hm | hm
  · have : begun l c < begun l c' := countP_lt (fun r h => by simp only [Bool.and_eq_true, decide_eq_true_eq] at h ⊢; exact ⟨h.1, by omega⟩) hr (by simp [hs]; omega) (by simp [hs]; omega)
    omega
  · have : ended l c < ended l c' := countP_lt (fun r h => by simp only [Bool.and_eq_true, decide_eq_true_eq] at h ⊢; exact ⟨h.1, by omega⟩) hr (by simp [hs]; omega) (by simp [hs]; omega)
    omega
theorem nact_le (l : List Rc) (c : Int) : nact l c ≤ min (tOf l c) (2 * l.length - tOf l c) ∧ tOf l c < 2 * l.length + 1 := by
  have h1 := begun_split l c
  have h2 : begun l c ≤ l.length := List.countP_le_length
  unfold tOf
  omega
theorem sum_sub (g : Nat → Nat) : ∀ (m : Nat) (ts : List Nat), ts.Pairwise (· < ·) → (∀ t ∈ ts, t < m) → (ts.map g).sum ≤ ((List.range m).map g).sum
  | 0, ts, _, h => by
    cases ts with
    | nil => exact Nat.le_refl _
    | cons t r => have := h t List.mem_cons_self; omega
  | m + 1, ts, hp, h => by
    rw [List.range_succ, List.map_append, List.sum_append]
    rcases last_split ts with rfl | ⟨i, p, rfl⟩
    · exact Nat.zero_le _
    · have hi := List.pairwise_append.mp hp
      have hpm := h p (by simp)
      have hip : ∀ t ∈ i, t < p := fun t ht => hi.2.2 t ht p (by simp)
      by_cases e : p = m
      · subst e
        have := sum_sub g p i hi.1 hip
        rw [List.map_append, List.sum_append]
        simp only [List.map_cons, List.map_nil, List.sum_cons, List.sum_nil]
        omega
      · have := sum_sub g m (i ++ [p]) hp (fun t ht => by
          rcases List.mem_append.mp ht with ht | ht
          · have := hip t ht; omega
          · rw [List.mem_singleton.mp ht]; omega)
        omega
theorem rise_pairwise : ∀ a : List Int, Rise a → a.Pairwise (· < ·)
  | [], _ => List.Pairwise.nil
  | x :: t, h => List.pairwise_cons.mpr ⟨h.lt, rise_pairwise t h.tail⟩
theorem tri : ∀ n, n < 61 → ((List.range (2 * n + 1)).map fun t => min t (2 * n - t)).sum ≤ 3600 := by decide +kernel
theorem few_ok (a b : List Rc) (keep : Bool → Bool → Bool) (hk : keep false false = false) (h : a.length + b.length ≤ 60) : (flat (sweepP a b keep)).length ≤ 3600 := by
  have h1 := sweep_len a b keep hk
  have hmem : ∀ c ∈ cutsP a b, c ∈ cutsOf (a ++ b) := fun c hc => by
    unfold cutsP at hc
    rw [mem_dist] at hc
    unfold cutsOf at hc ⊢
    rw [List.filter_append, List.flatMap_append]
    exact hc
  have hts : ((cutsP a b).map (tOf (a ++ b))).Pairwise (· < ·) := by
    rw [List.pairwise_map]
    refine List.Pairwise.imp_of_mem (fun {x y} hx hy hxy => tOf_lt hxy (hmem y hy)) (rise_pairwise _ (dist_rise _))
  have h2 := sum_sub (fun t => min t (2 * (a ++ b).length - t)) (2 * (a ++ b).length + 1) _ hts (fun t ht => by
    obtain ⟨c, _, rfl⟩ := List.mem_map.mp ht
    exact (nact_le _ c).2)
  have h3 := tri (a ++ b).length (by rw [List.length_append]; omega)
  have h4 : ((cutsP a b).map (nact (a ++ b))).sum ≤ (((cutsP a b).map (tOf (a ++ b))).map (fun t => min t (2 * (a ++ b).length - t))).sum := by
    generalize cutsP a b = cs
    induction cs with
    | nil => exact Nat.le_refl _
    | cons c t ih => simp only [List.map_cons, List.sum_cons]; have := (nact_le (a ++ b) c).1; omega
  omega
def sumN (f : Int → Nat) (lo : Int) : Nat → Nat
  | 0 => 0
  | n + 1 => sumN f lo n + f (lo + n)
theorem sumN_add (f g : Int → Nat) (lo : Int) : ∀ n, sumN (fun x => f x + g x) lo n = sumN f lo n + sumN g lo n
  | 0 => rfl
  | n + 1 => by simp only [sumN]; rw [sumN_add f g lo n]; omega
theorem sumN_zero (lo : Int) : ∀ n, sumN (fun _ => 0) lo n = 0
  | 0 => rfl
  | n + 1 => by simp only [sumN]; rw [sumN_zero lo n]
theorem sumN_mul (f : Int → Nat) (k : Nat) (lo : Int) : ∀ n, sumN (fun x => f x * k) lo n = sumN f lo n * k
  | 0 => by simp [sumN]
  | n + 1 => by simp only [sumN]; rw [sumN_mul f k lo n, Nat.add_mul]
theorem sumN_le {f : Int → Nat} {k : Nat} {lo : Int} (h : ∀ x, f x ≤ k) : ∀ n, sumN f lo n ≤ n * k
  | 0 => by simp [sumN]
  | n + 1 => by simp only [sumN]; rw [Nat.add_mul]; have := sumN_le (lo := lo) h n; have := h (lo + n); omega
def ivl (p q x : Int) : Nat := if p ≤ x ∧ x < q then 1 else 0
theorem sumN_ivl (p q lo : Int) : ∀ n : Nat, sumN (ivl p q) lo n = (min q (lo + n) - max p lo).toNat
  | 0 => by simp only [sumN]; omega
  | n + 1 => by
    simp only [sumN]
    rw [sumN_ivl p q lo n]
    unfold ivl
    split <;> omega
theorem sumN_in {p q lo : Int} {n : Nat} (h1 : lo ≤ p) (h2 : q ≤ lo + n) : sumN (ivl p q) lo n = (q - p).toNat := by
  rw [sumN_ivl]; omega
def spl (s : List Sp) : Nat := (s.map fun p => (p.2 - p.1).toNat).sum
def ind (b : Bool) : Nat := if b = true then 1 else 0
theorem scov_head {p : Sp} {t : List Sp} (h : SNF (p :: t)) (x : Int) : ind (scov (p :: t) x) = ivl p.1 p.2 x + ind (scov t x) := by
  rw [scov_cons]
  unfold ivl
  by_cases c : p.1 ≤ x ∧ x < p.2
  · have h0 : pval (up t) x = none := pval_tail_low (p := (p.1, p.2, ())) h c.2
    rw [pval_up] at h0
    have : scov t x = false := by
      cases e : scov t x with
      | false => rfl
      | true => rw [e] at h0; simp at h0
    rw [if_pos c, this]
    simp [c.1, c.2, ind]
  · rw [if_neg c]
    have : (decide (p.1 ≤ x) && decide (x < p.2)) = false := by
      rw [Bool.and_eq_false_iff]; simp; omega
    rw [this, Bool.false_or, Nat.zero_add]
theorem sum_scov (lo : Int) (n : Nat) : ∀ s : List Sp, SNF s → (∀ p ∈ s, lo ≤ p.1 ∧ p.2 ≤ lo + n) → sumN (fun x => ind (scov s x)) lo n = spl s
  | [], _, _ => sumN_zero lo n
  | p :: t, h, hr => by
    have hp := hr p List.mem_cons_self
    rw [show (fun x => ind (scov (p :: t) x)) = fun x => ivl p.1 p.2 x + ind (scov t x) from funext (scov_head h), sumN_add, sumN_in hp.1 hp.2, sum_scov lo n t h.tail (fun q hq => hr q (List.mem_cons_of_mem _ hq))]
    rfl
def areaB (l : List Bd) : Nat := (l.map fun b => (b.2.1 - b.1).toNat * spl b.2.2).sum
def cnt (c : Int → Int → Bool) (lo : Int) (n : Nat) : Nat := sumN (fun y => sumN (fun x => ind (c x y)) lo n) lo n
theorem area_cnt (lo : Int) (n : Nat) : ∀ l : List Bd, BNF l → (∀ b ∈ l, lo ≤ b.1 ∧ b.2.1 ≤ lo + n ∧ ∀ p ∈ b.2.2, lo ≤ p.1 ∧ p.2 ≤ lo + n) → cnt (bcov l) lo n = areaB l
  | [], _, _ => by
    unfold cnt
    have : (fun y => sumN (fun x => ind (bcov [] x y)) lo n) = fun _ => 0 := funext fun y => sumN_zero lo n
    rw [this]; exact sumN_zero lo n
  | b :: t, h, hr => by
    have hb := hr b List.mem_cons_self
    have hrow : ∀ y, sumN (fun x => ind (bcov (b :: t) x y)) lo n = ivl b.1 b.2.1 y * spl b.2.2 + sumN (fun x => ind (bcov t x y)) lo n := fun y => by
      by_cases c : b.1 ≤ y ∧ y < b.2.1
      · have e1 : ∀ x, bcov (b :: t) x y = scov b.2.2 x := fun x => by unfold bcov; rw [pval_head h.p c.1 c.2]
        have e2 : ∀ x, bcov t x y = false := fun x => by unfold bcov; rw [pval_tail_low h.p c.2]
        unfold ivl
        rw [if_pos c, Nat.one_mul]
        simp only [e1, e2]
        rw [sum_scov lo n b.2.2 (h.s b List.mem_cons_self).1 hb.2.2]
        show _ = _ + sumN (fun _ => 0) lo n
        rw [sumN_zero]; rfl
      · have e1 : ∀ x, bcov (b :: t) x y = bcov t x y := fun x => by
          unfold bcov
          rw [show pval (b :: t) y = pval t y from by simp only [pval]; rw [if_neg c]]
        unfold ivl
        rw [if_neg c, Nat.zero_mul, Nat.zero_add]
        simp only [e1]
    unfold cnt
    rw [show (fun y => sumN (fun x => ind (bcov (b :: t) x y)) lo n) = fun y => ivl b.1 b.2.1 y * spl b.2.2 + sumN (fun x => ind (bcov t x y)) lo n from funext hrow, sumN_add, sumN_mul, sumN_in hb.1 hb.2.1]
    have ih := area_cnt lo n t ⟨h.p.tail, fun q hq => h.s q (List.mem_cons_of_mem _ hq)⟩ (fun q hq => hr q (List.mem_cons_of_mem _ hq))
    unfold cnt at ih
    rw [ih]
    rfl
theorem cnt_le (c : Int → Int → Bool) (lo : Int) (n : Nat) : cnt c lo n ≤ n * n :=
  sumN_le (fun y => by have := sumN_le (f := fun x => ind (c x y)) (k := 1) (lo := lo) (fun x => by unfold ind; split <;> omega) n; omega) n
end RG
end Go.Proofs.Ytobdfiglgdbecaa

