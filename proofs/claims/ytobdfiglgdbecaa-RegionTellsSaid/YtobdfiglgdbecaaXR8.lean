import Derived.Test.YtobdfiglgdbecaaXR4
section
set_option linter.unusedVariables false
set_option linter.unusedSectionVars false
set_option linter.unusedSimpArgs false
open Go Go.RowKit Go.Proofs.YtobdfiglgdbecaaW.PrintWords Go.Proofs.YtobdfiglgdbecaaW.PrintMore
namespace Go.Proofs.Ytobdfiglgdbecaa
open PGA PGB PGH PGK PGI PGR
namespace VR
structure Left (p q t : List Int) (i j : Nat) : Prop where
  rise : RG.Rise t
  mem : ∀ z, z ∈ t ↔ z ∈ p.drop i ∨ z ∈ q.drop j
theorem drop_ge {p : List Int} (hp : RG.Rise p) {i : Nat} {z : Int} (hz : z ∈ p.drop i) : ∃ h : i < p.length, p[i] ≤ z := by
  obtain ⟨t, ht, rfl⟩ := List.mem_iff_getElem.mp hz; rw [List.length_drop] at ht; refine ⟨by omega, ?_⟩; rw [List.getElem_drop]
  rcases Nat.eq_zero_or_pos t with rfl | h
  · exact Int.le_refl _
  · have := rise_lt hp i (i + t) (by omega) (by omega); omega
theorem mem_at {p : List Int} {i : Nat} (h : i < p.length) : p[i] ∈ p.drop i := by rw [List.drop_eq_getElem_cons h]; exact List.mem_cons_self
theorem Left.swap {p q t : List Int} {i j : Nat} (h : Left p q t i j) : Left q p t j i := ⟨h.rise, fun z => by rw [h.mem]; exact Or.comm⟩
theorem Left.nil {p q : List Int} {i j : Nat} (h : Left p q [] i j) : p.length ≤ i ∧ q.length ≤ j := by
  constructor
  · rcases Nat.lt_or_ge i p.length with c | c
    · have := (h.mem _).mpr (.inl (mem_at c)); cases this
    · exact c
  · rcases Nat.lt_or_ge j q.length with c | c
    · have := (h.mem _).mpr (.inr (mem_at c)); cases this
    · exact c
theorem Left.le {p q t : List Int} {i j : Nat} {x : Int} (h : Left p q (x :: t) i j) : (∀ hi : i < p.length, x ≤ p[i]) ∧ ∀ hj : j < q.length, x ≤ q[j] := by
  constructor
  · intro hi
    rcases List.mem_cons.mp ((h.mem _).mpr (.inl (mem_at hi))) with e | e
    · omega
    · have := RG.Rise.lt h.rise _ e; omega
  · intro hj
    rcases List.mem_cons.mp ((h.mem _).mpr (.inr (mem_at hj))) with e | e
    · omega
    · have := RG.Rise.lt h.rise _ e; omega
theorem Left.is {p q t : List Int} {i j : Nat} {x : Int} (hp : RG.Rise p) (hq : RG.Rise q) (h : Left p q (x :: t) i j) : (∃ hi : i < p.length, p[i] = x) ∨ ∃ hj : j < q.length, q[j] = x := by
  obtain ⟨h1, h2⟩ := h.le
  rcases (h.mem x).mp List.mem_cons_self with e | e
  · obtain ⟨hi, e2⟩ := drop_ge hp e
    exact .inl ⟨hi, by have := h1 hi; omega⟩
  · obtain ⟨hj, e2⟩ := drop_ge hq e
    exact .inr ⟨hj, by have := h2 hj; omega⟩
def big : Int := 1099511627776
def hdB (t : List Int) : Int := match t with | [] => big | x :: _ => x
theorem head_both {p q t : List Int} {i j : Nat} (hp : RG.Rise p) (hq : RG.Rise q) (h : Left p q t i j) (hi : i < p.length) (hj : j < q.length) : mn p[i] q[j] = hdB t := by
  cases t with
  | nil => have := h.nil; omega
  | cons x t =>
    obtain ⟨h1, h2⟩ := h.le; have a := h1 hi; have b := h2 hj; show mn p[i] q[j] = x; unfold mn
    rcases h.is hp hq with ⟨_, e⟩ | ⟨_, e⟩ <;> split <;> omega
theorem head_left {p q t : List Int} {i j : Nat} (hp : RG.Rise p) (hq : RG.Rise q) (h : Left p q t i j) (hi : i < p.length) (hj : ¬ j < q.length) : p[i] = hdB t := by
  cases t with
  | nil => have := h.nil; omega
  | cons x t =>
    rcases h.is hp hq with ⟨_, e⟩ | ⟨hj', e⟩
    · exact e
    · exact absurd hj' hj
theorem head_right {p q t : List Int} {i j : Nat} (hp : RG.Rise p) (hq : RG.Rise q) (hb : ∀ z ∈ q, z < big) (h : Left p q t i j) (hi : ¬ i < p.length) (hj : j < q.length) : mn big q[j] = hdB t := by
  have e := head_left hq hp h.swap hj hi; have := hb q[j] (List.getElem_mem hj); unfold mn; rw [if_pos this, e]
theorem head_none {p q t : List Int} {i j : Nat} (hp : RG.Rise p) (hq : RG.Rise q) (h : Left p q t i j) (hi : ¬ i < p.length) (hj : ¬ j < q.length) : big = hdB t := by
  cases t with
  | nil => rfl
  | cons x t =>
    rcases h.is hp hq with ⟨h', _⟩ | ⟨h', _⟩
    · exact absurd h' hi
    · exact absurd h' hj
def skp (p : List Int) (i : Nat) (x : Int) : Nat := if h : i < p.length then (if p[i] = x then i + 1 else i) else i
theorem skp_le {p : List Int} {i : Nat} {x : Int} (h : i ≤ p.length) : skp p i x ≤ p.length := by
  unfold skp; split
  · split <;> omega
  · omega
theorem skp_ge (p : List Int) (i : Nat) (x : Int) : i ≤ skp p i x ∧ skp p i x ≤ i + 1 := by
  unfold skp; split
  · split <;> omega
  · omega
theorem skp_drop {p : List Int} (hp : RG.Rise p) {i : Nat} {x : Int} (hx : ∀ h : i < p.length, x ≤ p[i]) : (∀ z ∈ p.drop (skp p i x), x < z) ∧ (∀ z, z ∈ p.drop (skp p i x) ↔ z ∈ p.drop i ∧ z ≠ x) ∧ (∀ z ∈ p.take (skp p i x), z ∈ p.take i ∨ z = x) := by
  unfold skp
  by_cases c : i < p.length
  · rw [dif_pos c]
    by_cases c2 : p[i] = x
    · rw [if_pos c2]
      have a : ∀ z ∈ p.drop (i + 1), x < z := fun z hz => by
        obtain ⟨h, e⟩ := drop_ge hp hz; have := rise_lt hp i (i + 1) h (Nat.lt_succ_self i)
        omega
      refine ⟨a, fun z => ?_, fun z hz => ?_⟩
      · rw [List.drop_eq_getElem_cons c, List.mem_cons]
        constructor
        · intro h; exact ⟨.inr h, by have := a z h; omega⟩
        · rintro ⟨h | h, h2⟩
          · exact absurd (h.trans c2) h2
          · exact h
      · rw [List.take_succ_eq_append_getElem c, List.mem_append, List.mem_singleton] at hz
        rcases hz with h | h
        · exact .inl h
        · exact .inr (h.trans c2)
    · rw [if_neg c2]
      have a : ∀ z ∈ p.drop i, x < z := fun z hz => by
        obtain ⟨h, e⟩ := drop_ge hp hz; have := hx c
        omega
      exact ⟨a, fun z => ⟨fun h => ⟨h, by have := a z h; omega⟩, fun h => h.1⟩, fun z hz => .inl hz⟩
  · rw [dif_neg c]
    have e : p.drop i = [] := List.drop_of_length_le (by omega); rw [e]; exact ⟨(fun z hz => by cases hz), (fun z => by simp), fun z hz => .inl hz⟩
theorem Left.next {p q t : List Int} {i j : Nat} {x : Int} (hp : RG.Rise p) (hq : RG.Rise q) (h : Left p q (x :: t) i j) : Left p q t (skp p i x) (skp q j x) := by
  obtain ⟨h1, h2⟩ := h.le; refine ⟨h.rise.tail, fun z => ?_⟩; rw [(skp_drop hp h1).2.1, (skp_drop hq h2).2.1]; have := h.mem z; rw [List.mem_cons] at this
  constructor
  · intro hz
    have hne : z ≠ x := by have := RG.Rise.lt h.rise z hz; omega
    rcases this.mp (.inr hz) with e | e
    · exact .inl ⟨e, hne⟩
    · exact .inr ⟨e, hne⟩
  · rintro (⟨e, hne⟩ | ⟨e, hne⟩)
    · exact (this.mpr (.inl e)).resolve_left hne
    · exact (this.mpr (.inr e)).resolve_left hne
section
variable {way : Int} {p q : List Int} (hp : RG.Rise p) (hq : RG.Rise q) (lp : p.length ≤ 200000) (lq : q.length ≤ 200000) (bp : ∀ z ∈ p, z < big) (bq : ∀ z ∈ q, z < big)
include hp hq lp lq bp bq
theorem put_first {t : List Int} {i j : Nat} {out : List S99} {R} (h : Left p q t i j) (hne : t ≠ []) (hR : Ev (fun k => An.j3 k way p q out (i : Int) (j : Int) (hdB t)) R) : Ev (fun k => An.l0 k way p q out (i : Int) (j : Int)) R := by
  by_cases ci : i < p.length
  · refine Ev.step (fun k => by rw [An.l0, if_pos (by omega)]) (Ev.step (fun k => by rw [An.j1, if_pos rfl, if_pos (by omega), if_pos (by omega), rdI p i ci]) ?_)
    by_cases cj : j < q.length
    · rw [← head_both hp hq h ci cj] at hR
      exact Ev.step (fun k => by rw [An.j2, if_pos (by omega), if_pos (by omega), rdI q j cj]) hR
    · rw [← head_left hp hq h ci cj] at hR
      exact Ev.step (fun k => by rw [An.j2, if_neg (by omega)]) hR
  · by_cases cj : j < q.length
    · rw [← head_right hp hq bq h ci cj] at hR
      refine Ev.step (fun k => by rw [An.l0, if_neg (by omega), decide_eq_true (by omega)]) (Ev.step (fun k => by rw [An.j1, if_pos rfl, if_neg (by omega)]) ?_); exact Ev.step (fun k => by rw [An.j2, if_pos (by omega), if_pos (by omega), rdI q j cj]; rfl) hR
    · exfalso
      cases t with
      | nil => exact hne rfl
      | cons x t =>
        rcases h.is hp hq with ⟨h', _⟩ | ⟨h', _⟩
        · exact ci h'
        · exact cj h'
theorem put_second {t : List Int} {i j : Nat} {out : List S99} {x : Int} {R} (h : Left p q t i j) (hR : Ev (fun k => An.j9 k way p q out (i : Int) (j : Int) x (hdB t)) R) : Ev (fun k => An.j7 k way p q out (i : Int) (j : Int) x) R := by
  by_cases ci : i < p.length
  · refine Ev.step (fun k => by rw [An.j7, if_pos (by omega), if_pos (by omega), rdI p i ci]) ?_
    by_cases cj : j < q.length
    · rw [← head_both hp hq h ci cj] at hR
      exact Ev.step (fun k => by rw [An.j8, if_pos (by omega), if_pos (by omega), rdI q j cj]) hR
    · rw [← head_left hp hq h ci cj] at hR
      exact Ev.step (fun k => by rw [An.j8, if_neg (by omega)]) hR
  · refine Ev.step (fun k => by rw [An.j7, if_neg (by omega)]) ?_
    by_cases cj : j < q.length
    · rw [← head_right hp hq bq h ci cj] at hR
      exact Ev.step (fun k => by rw [An.j8, if_pos (by omega), if_pos (by omega), rdI q j cj]; rfl) hR
    · rw [← head_none hp hq h ci cj] at hR
      exact Ev.step (fun k => by rw [An.j8, if_neg (by omega)]; rfl) hR
theorem put_skip2 {i j : Nat} {out : List S99} {x : Int} {R} (hR : Ev (fun k => An.j7 k way p q out (i : Int) (skp q j x : Nat) x) R) : Ev (fun k => An.l2 k way p q out (i : Int) (j : Int) x) R := by
  unfold skp at hR
  by_cases c : j < q.length
  · rw [dif_pos c] at hR
    by_cases c2 : q[j] = x
    · rw [if_pos c2] at hR
      refine Ev.step (fun k => by rw [An.l2, if_pos (by omega), if_pos (by omega), rdI q j c, if_pos c2, wrs j (by omega)]) ?_
      by_cases c3 : j + 1 < q.length
      · have := rise_lt hq j (j + 1) c3 (Nat.lt_succ_self j)
        exact Ev.step (fun k => by rw [An.l2, if_pos (by omega), if_pos (by omega), rdI q (j + 1) c3, if_neg (by omega)]) hR
      · exact Ev.step (fun k => by rw [An.l2, if_neg (by omega)]) hR
    · rw [if_neg c2] at hR
      exact Ev.step (fun k => by rw [An.l2, if_pos (by omega), if_pos (by omega), rdI q j c, if_neg c2]) hR
  · rw [dif_neg c] at hR
    exact Ev.step (fun k => by rw [An.l2, if_neg (by omega)]) hR
theorem put_skip1 {i j : Nat} {out : List S99} {x : Int} {R} (hR : Ev (fun k => An.l2 k way p q out (skp p i x : Nat) (j : Int) x) R) : Ev (fun k => An.l1 k way p q out (i : Int) (j : Int) x) R := by
  have h5 : Ev (fun k => An.j5 k way p q out (skp p i x : Nat) (j : Int) x) R := Ev.step (fun k => by rw [An.j5]) hR; unfold skp at h5
  by_cases c : i < p.length
  · rw [dif_pos c] at h5
    by_cases c2 : p[i] = x
    · rw [if_pos c2] at h5
      refine Ev.step (fun k => by rw [An.l1, if_pos (by omega), if_pos (by omega), rdI p i c, if_pos c2, wrs i (by omega)]) ?_
      by_cases c3 : i + 1 < p.length
      · have := rise_lt hp i (i + 1) c3 (Nat.lt_succ_self i)
        exact Ev.step (fun k => by rw [An.l1, if_pos (by omega), if_pos (by omega), rdI p (i + 1) c3, if_neg (by omega)]) h5
      · exact Ev.step (fun k => by rw [An.l1, if_neg (by omega)]) h5
    · rw [if_neg c2] at h5
      exact Ev.step (fun k => by rw [An.l1, if_pos (by omega), if_pos (by omega), rdI p i c, if_neg c2]) h5
  · rw [dif_neg c] at h5
    exact Ev.step (fun k => by rw [An.l1, if_neg (by omega)]) h5
theorem put_loop {keep : Bool → Bool → Bool} (hk : ∀ x y, Ct.f way x y = some (keep x y)) (kf : Int → Bool) (hkf : ∀ x, kf x = keep (RG.cle p x % 2 == 1) (RG.cle q x % 2 == 1)) : ∀ n i j t (out : List RG.Sp), (p.length - i) + (q.length - j) ≤ n → i ≤ p.length → j ≤ q.length → Left p q t i j →
    (∀ z ∈ p.take i, ∀ w ∈ t, z < w) → (∀ z ∈ q.take j, ∀ w ∈ t, z < w) → (∀ s ∈ out, ∀ w ∈ t, s.2 ≤ w) → out.length ≤ i + j →
    Ev (fun k => An.l0 k way p q (out.map p6) (i : Int) (j : Int)) ((RG.buildS kf t out).map p6) := by
  intro n
  induction n with
  | zero =>
    intro i j t out hn hi hj ht h1 h2 h3 ho; cases t with
    | nil =>
      exact Ev.step (fun k => by rw [An.l0, if_neg (by omega), decide_eq_false (by omega)]) (one_round fun k => by rw [An.j1, if_neg (by decide)]; rfl)
    | cons x t =>
      exfalso
      rcases ht.is hp hq with ⟨h', _⟩ | ⟨h', _⟩ <;> omega
  | succ n ih =>
    intro i j t out hn hi hj ht h1 h2 h3 ho; cases t with
    | nil =>
      have := ht.nil; exact Ev.step (fun k => by rw [An.l0, if_neg (by omega), decide_eq_false (by omega)]) (one_round fun k => by rw [An.j1, if_neg (by decide)]; rfl)
    | cons x t =>
      refine put_first hp hq lp lq bp bq ht (by simp) (Ev.step (fun k => by rw [An.j3]) ?_); show Ev (fun k => An.l1 k way p q (out.map p6) (i : Int) (j : Int) x) _; refine put_skip1 hp hq lp lq bp bq (put_skip2 hp hq lp lq bp bq ?_); have hnx := ht.next hp hq; obtain ⟨le1, le2⟩ := ht.le; obtain ⟨d1, d2, d3⟩ := skp_drop hp le1; obtain ⟨f1, f2, f3⟩ := skp_drop hq le2; have gi := skp_ge p i x; have gj := skp_ge q j x; have li := skp_le (x := x) hi; have lj := skp_le (x := x) hj
      have t1 : ∀ z ∈ p.take (skp p i x), z ≤ x := fun z hz => by
        rcases d3 z hz with h | h
        · have := h1 z h x List.mem_cons_self; omega
        · omega
      have t2 : ∀ z ∈ q.take (skp q j x), z ≤ x := fun z hz => by
        rcases f3 z hz with h | h
        · have := h2 z h x List.mem_cons_self; omega
        · omega
      have less : (p.length - skp p i x) + (q.length - skp q j x) ≤ n := by
        rcases ht.is hp hq with ⟨h', e⟩ | ⟨h', e⟩
        · have : skp p i x = i + 1 := by unfold skp; rw [dif_pos h', if_pos e]
          omega
        · have : skp q j x = j + 1 := by unfold skp; rw [dif_pos h', if_pos e]
          omega
      have n1 : ∀ z ∈ p.take (skp p i x), ∀ w ∈ t, z < w := fun z hz w hw => by have := t1 z hz; have := RG.Rise.lt ht.rise w hw; omega
      have n2 : ∀ z ∈ q.take (skp q j x), ∀ w ∈ t, z < w := fun z hz w hw => by have := t2 z hz; have := RG.Rise.lt ht.rise w hw; omega
      refine put_second hp hq lp lq bp bq hnx ?_; cases t with
      | nil =>
        refine Ev.step (fun k => by rw [An.j9, if_neg (show ¬ hdB [] < 1099511627776 by decide)]) ?_; exact ih _ _ [] out less li lj hnx n1 n2 (fun s hs w hw => by cases hw) (by omega)
      | cons x' t =>
        have hx : x < x' := RG.Rise.lt ht.rise x' List.mem_cons_self
        have hbx : x' < 1099511627776 := by
          rcases hnx.is hp hq with ⟨h', e⟩ | ⟨h', e⟩
          · rw [← e]; exact bp _ (List.getElem_mem h')
          · rw [← e]; exact bq _ (List.getElem_mem h')
        have tm : ∀ m : Nat, (Int.tmod (m : Int) 2 == 1) = (m % 2 == 1) := fun m => by
          rw [show Int.tmod (m : Int) 2 = ((m % 2 : Nat) : Int) from rfl]
          rcases Nat.mod_two_eq_zero_or_one m with h | h <;> rw [h] <;> rfl
        have hkx : kf x = keep (skp p i x % 2 == 1) (skp q j x % 2 == 1) := by
          rw [hkf, RG.cle_split _ li t1 d1, RG.cle_split _ lj t2 f1]
        have hout : ∀ s ∈ out, s.2 ≤ x := fun s hs => h3 s hs x List.mem_cons_self
        have e9 : RG.buildS kf (x :: x' :: t) out = RG.buildS kf (x' :: t) (if kf x = true then RG.addS out x x' else out) := rfl; rw [e9]
        by_cases ck : kf x = true
        · rw [if_pos ck, ← RG.joined_addS hx hout]
          have hjl := RG.joined_len out (x, x')
          refine Ev.step (fun k => by
            show An.j9 (k + 1) way p q (out.map p6) (skp p i x : Nat) (skp q j x : Nat) x x' = _; rw [An.j9, if_pos hbx, hk, Option.bind_some, tm, tm, ← hkx, if_pos ck, joined6 _ _ _ (by omega), Option.bind_some]) ?_
          refine ih _ _ (x' :: t) (RG.joined out (x, x')) less li lj hnx n1 n2 (fun s hs w hw => ?_) ?_
          · rw [RG.joined_addS hx hout] at hs
            have := RG.addS_hi hx hout s hs
            rcases List.mem_cons.mp hw with rfl | hw
            · exact this
            · have := RG.Rise.lt hnx.rise w hw; omega
          · rcases ht.is hp hq with ⟨h', e⟩ | ⟨h', e⟩
            · have : skp p i x = i + 1 := by unfold skp; rw [dif_pos h', if_pos e]
              omega
            · have : skp q j x = j + 1 := by unfold skp; rw [dif_pos h', if_pos e]
              omega
        · rw [if_neg ck]
          refine Ev.step (fun k => by
            show An.j9 (k + 1) way p q (out.map p6) (skp p i x : Nat) (skp q j x : Nat) x x' = _; rw [An.j9, if_pos hbx, hk, Option.bind_some, tm, tm, ← hkx, if_neg ck]) ?_
          exact ih _ _ (x' :: t) out less li lj hnx n1 n2 (fun s hs w hw => by have := hout s hs; rcases List.mem_cons.mp hw with rfl | hw; omega; have := RG.Rise.lt hnx.rise w hw; omega) (by omega)
end
theorem put_val {way : Int} {keep : Bool → Bool → Bool} (hk : ∀ x y, Ct.f way x y = some (keep x y)) (a b : List RG.Sp) (ha : RG.SNF a) (hb : RG.SNF b) (la : a.length ≤ 100000) (lb : b.length ≤ 100000) (ba : ∀ z ∈ RG.endsOf a, z < big) (bb : ∀ z ∈ RG.endsOf b, z < big) :
    Ev (fun k => An.f k (a.map p6) (b.map p6) way) ((RG.mergeP a b keep).map p6) := by
  unfold An.f; refine Ev.bind (ends6_val a la) (Ev.bind (ends6_val b lb) ?_); have pa := RG.snf_ends a ha; have pb := RG.snf_ends b hb; have la2 := RG.ends_len a; have lb2 := RG.ends_len b; unfold RG.mergeP; refine put_loop pa pb (by omega) (by omega) ba bb hk _ (fun x => ?_) _ 0 0 _ [] (Nat.le_refl _) (Nat.zero_le _) (Nat.zero_le _) ⟨RG.dist_rise _, fun z => ?_⟩ (fun z hz => by simp at hz) (fun z hz => by simp at hz) (fun s hs => by cases hs) (Nat.zero_le _)
  · rw [RG.scov_par a ha, RG.scov_par b hb]
  · rw [RG.mem_dist, RG.ends_append, List.mem_append, List.drop_zero, List.drop_zero]
end VR
end Go.Proofs.Ytobdfiglgdbecaa
end
section
set_option linter.unusedVariables false
set_option linter.unusedSectionVars false
set_option linter.unusedSimpArgs false
open Go Go.RowKit Go.Proofs.YtobdfiglgdbecaaW.PrintWords Go.Proofs.YtobdfiglgdbecaaW.PrintMore
namespace Go.Proofs.Ytobdfiglgdbecaa
open PGA PGB PGH PGK PGI PGR
namespace RG
theorem rects_addP (out : List Bd) (x x' : Int) (v : List Sp) : rects out ≤ rects (addP out x x' v) := by
  unfold addP
  rcases last_split out with rfl | ⟨i, p, rfl⟩
  · simp [rects]
  · simp only [List.getLast?_concat, List.dropLast_concat]
    split
    · rename_i h
      rw [rects_append, rects_append]
      simp [rects, h.2]
    · rw [rects_append (i ++ [p])]; omega
theorem rects_build (g : Int → Option (List Sp)) : ∀ (t : List Int) (out : List Bd), rects out ≤ rects (buildP g t out)
  | [], _ => Nat.le_refl _
  | [_], _ => Nat.le_refl _
  | x :: x' :: t, out => by
    have ih := rects_build g (x' :: t) (stepP out x x' (g x)); refine Nat.le_trans ?_ ih; unfold stepP
    split
    · exact rects_addP out x x' _
    · exact Nat.le_refl _
end RG
namespace VR
open RG (flat sweepP buildP)
def cutD (d : List S58) (z : Int) : Prop := ∃ q ∈ d, z = q.f1 ∨ z = q.f3
theorem cutD_of {d l : List S58} (h : Ord d l) (z : Int) : cutD d z ↔ z ∈ RG.cutsOf (l.map rc) := by
  unfold cutD RG.cutsOf
  simp only [List.mem_flatMap, List.mem_filter, List.mem_map, List.mem_cons, List.not_mem_nil, or_false]
  constructor
  · rintro ⟨q, hq, h1⟩
    obtain ⟨h2, h3⟩ := (h.mem q).mp hq; exact ⟨rc q, ⟨⟨q, h2, rfl⟩, h3⟩, h1⟩
  · rintro ⟨_, ⟨⟨q, h2, rfl⟩, h3⟩, h1⟩
    exact ⟨q, (h.mem q).mpr ⟨h2, h3⟩, h1⟩
theorem cuts_in (d : List S58) (hd : d.length ≤ 20000) (hs : ∀ q ∈ d, RG.some1 (rc q) = true) {R : Type} {F : Nat → List Int → Int → Option R} {G : Nat → List Int → Option R}
    (hF : ∀ k ys (i : Nat) (h : i < d.length), F (k + 1) ys (i : Int) = (Bh.f k ys d[i].f1).bind fun t => (Bh.f k t d[i].f3).bind fun u => F k u ((i + 1 : Nat) : Int))
    (hG : ∀ k ys, F (k + 1) ys (d.length : Int) = G k ys) : ∀ e i ys, i + e = d.length → RG.Rise ys → ys.length + 2 * e ≤ 60000 → ∃ ys', RG.Rise ys' ∧ (∀ z, z ∈ ys' ↔ z ∈ ys ∨ cutD (d.drop i) z) ∧ ys'.length ≤ ys.length + 2 * e ∧ ∀ r, Ev (fun k => G k ys') r → Ev (fun k => F k ys (i : Int)) r := by
  intro e
  induction e with
  | zero =>
    intro i ys hi hr hl; obtain rfl : i = d.length := by omega
    refine ⟨ys, hr, fun z => ?_, by omega, fun r h => Ev.step (fun k => hG k ys) h⟩; rw [List.drop_length]
    constructor
    · exact .inl
    · rintro (h | ⟨q, hq, _⟩)
      · exact h
      · cases hq
  | succ e ih =>
    intro i ys hi hr hl; have hlt : i < d.length := by omega
    have l1 := RG.ins_len d[i].f1 ys; have l2 := RG.ins_len d[i].f3 (RG.ins d[i].f1 ys); have r1 := RG.ins_rise d[i].f1 ys hr; have r2 := RG.ins_rise d[i].f3 _ r1; obtain ⟨ys', a1, a2, a3, a4⟩ := ih (i + 1) (RG.ins d[i].f3 (RG.ins d[i].f1 ys)) (by omega) r2 (by omega); refine ⟨ys', a1, fun z => ?_, by omega, fun r h => ?_⟩
    · rw [a2, RG.mem_ins, RG.mem_ins, List.drop_eq_getElem_cons hlt]
      unfold cutD
      constructor
      · rintro ((h | h | h) | ⟨q, hq, h⟩)
        · exact .inr ⟨_, List.mem_cons_self, .inr h⟩
        · exact .inr ⟨_, List.mem_cons_self, .inl h⟩
        · exact .inl h
        · exact .inr ⟨q, List.mem_cons_of_mem _ hq, h⟩
      · rintro (h | ⟨q, hq, h⟩)
        · exact .inl (.inr (.inr h))
        · rcases List.mem_cons.mp hq with rfl | hq
          · rcases h with h | h
            · exact .inl (.inr (.inl h))
            · exact .inl (.inl h)
          · exact .inr ⟨q, hq, h⟩
    · refine Ev.step (fun k => hF k ys i hlt) ?_
      exact Ev.bind (insert_val ys hr (by omega) _) (Ev.bind (insert_val _ r1 (by omega) _) (a4 r h))
def Wp (A B : List RG.Rc) (keep : Bool → Bool → Bool) (y : Int) : List RG.Sp := RG.mergeP (RG.rowP A y) (RG.rowP B y) keep
theorem rowOf_Wp (A B : List RG.Rc) (keep : Bool → Bool → Bool) (y : Int) : RG.rowOf A B keep y = if Wp A B keep y = [] then none else some (Wp A B keep y) := rfl
section
variable {way : Int} {keep : Bool → Bool → Bool} (hk : ∀ x y, Ct.f way x y = some (keep x y)) (hff : keep false false = false) {a b d1 d2 : List S58} (h1 : Ord d1 a) (h2 : Ord d2 b) (la : a.length ≤ 4096) (lb : b.length ≤ 4096)
  (na : ∀ r ∈ a.map rc, RG.some1 r = true → RG.near4 r = true) (nb : ∀ r ∈ b.map rc, RG.some1 r = true → RG.near4 r = true)
include hk hff h1 h2 la lb na nb
theorem row_big {l : List S58} (nl : ∀ r ∈ l.map rc, RG.some1 r = true → RG.near4 r = true) (y : Int) : ∀ z ∈ RG.endsOf (RG.rowP (l.map rc) y), z < big := by
  intro z hz; obtain ⟨r, hr, hs, hz⟩ := RG.row_ends hz; have := (RG.near4_iff r).mp (nl r hr hs); unfold big
  omega
end
end VR
end Go.Proofs.Ytobdfiglgdbecaa
end
section
set_option linter.unusedVariables false
set_option linter.unusedSectionVars false
set_option linter.unusedSimpArgs false
open Go Go.RowKit Go.Proofs.YtobdfiglgdbecaaW.PrintWords Go.Proofs.YtobdfiglgdbecaaW.PrintMore
namespace Go.Proofs.Ytobdfiglgdbecaa
open PGA PGB PGH PGK PGI PGR
namespace VR
open RG (flat sweepP buildP cov)
theorem kp4 (x y : Bool) : Ct.f 4 x y = some (RG.withoutB x y) := by unfold Ct.f; cases x <;> cases y <;> rfl
theorem kp5 (x y : Bool) : Ct.f 5 x y = some (RG.unlikeB x y) := by unfold Ct.f; cases x <;> cases y <;> rfl
end VR
end Go.Proofs.Ytobdfiglgdbecaa
end
section
set_option linter.unusedVariables false
set_option linter.unusedSectionVars false
set_option linter.unusedSimpArgs false
open Go Go.RowKit Go.Proofs.YtobdfiglgdbecaaW.PrintWords Go.Proofs.YtobdfiglgdbecaaW.PrintMore
namespace Go.Proofs.Ytobdfiglgdbecaa
open PGA PGB PGH PGK PGI PGR
namespace VR
open RG (flat sweepP buildP cov)
def allE (A B : List RG.Rc) (keep : Bool → Bool → Bool) : List Int → Bool
  | x :: x' :: t => (Wp A B keep x).isEmpty && allE A B keep (x' :: t)
  | _ => true
theorem build_empty (A B : List RG.Rc) (keep : Bool → Bool → Bool) : ∀ t : List Int, (buildP (RG.rowOf A B keep) t []).isEmpty = allE A B keep t
  | [] => rfl
  | [_] => rfl
  | x :: x' :: t => by
    have ih := build_empty A B keep (x' :: t); show (buildP (RG.rowOf A B keep) (x' :: t) (RG.stepP [] x x' (RG.rowOf A B keep x))).isEmpty = ((Wp A B keep x).isEmpty && allE A B keep (x' :: t)); rw [rowOf_Wp]
    by_cases c : Wp A B keep x = []
    · rw [if_pos c, c]
      show (buildP (RG.rowOf A B keep) (x' :: t) []).isEmpty = (true && _); rw [Bool.true_and, ih]
    · rw [if_neg c]
      have h := RG.rects_build (RG.rowOf A B keep) (x' :: t) (RG.stepP [] x x' (some (Wp A B keep x)))
      have h2 : RG.rects (RG.stepP [] x x' (some (Wp A B keep x))) = (Wp A B keep x).length := by
        show RG.rects [(x, x', Wp A B keep x)] = _
        simp [RG.rects]
      have h3 := List.length_pos_iff.mpr c; have e1 : (Wp A B keep x).isEmpty = false := by rw [List.isEmpty_eq_false_iff]; exact c
      rw [e1, Bool.false_and, List.isEmpty_eq_false_iff]; intro hn; rw [hn, h2] at h; have h4 : RG.rects ([] : List RG.Bd) = 0 := rfl
      omega
section
variable {way : Int} {keep : Bool → Bool → Bool} (hk : ∀ x y, Ct.f way x y = some (keep x y)) (hff : keep false false = false) {a b d1 d2 : List S58} (h1 : Ord d1 a) (h2 : Ord d2 b) (la : a.length ≤ 4096) (lb : b.length ≤ 4096)
  (na : ∀ r ∈ a.map rc, RG.some1 r = true → RG.near4 r = true) (nb : ∀ r ∈ b.map rc, RG.some1 r = true → RG.near4 r = true)
include hk hff h1 h2 la lb na nb
theorem none6_l2 (C : List Int) (hC : C.length ≤ 20000) : ∀ e i, i + e = C.length → Ev (fun k => At.l2 k d1 d2 way C (i : Int)) (allE (a.map rc) (b.map rc) keep (C.drop i)) := by
  intro e
  induction e with
  | zero =>
    intro i hi; refine one_round fun k => ?_
    rw [At.l2, if_neg (by rw [wrs i (by omega)]; omega), List.drop_of_length_le (by omega)]; rfl
  | succ e ih =>
    intro i hi; have hlt : i < C.length := by omega
    by_cases c : i + 1 < C.length
    · have hr1 := row_small a C[i] la
      have hr2 := row_small b C[i] lb
      have e0 : allE (a.map rc) (b.map rc) keep (C.drop i) = ((Wp (a.map rc) (b.map rc) keep C[i]).isEmpty && allE (a.map rc) (b.map rc) keep (C.drop (i + 1))) := by
        rw [List.drop_eq_getElem_cons hlt, List.drop_eq_getElem_cons c]; rfl
      rw [e0]; refine Ev.step (fun k => by rw [At.l2, if_pos (by rw [wrs i (by omega)]; omega), if_pos (by omega), if_pos (by omega), rdI C i hlt, wrs i (by omega)]) ?_; refine Ev.bind (row6_val h1 C[i] (by omega)) (Ev.bind (row6_val h2 C[i] (by omega)) (Ev.bind (put_val hk _ _ (RG.row_ok _ _).1 (RG.row_ok _ _).1 (by omega) (by omega) (row_big hk hff h1 h2 la lb na nb na _) (row_big hk hff h1 h2 la lb na nb nb _)) ?_)); show Ev (fun k => if (((Wp (a.map rc) (b.map rc) keep C[i]).map p6).length : Int) > 0 then some false else At.l2 k d1 d2 way C ((i + 1 : Nat) : Int)) _; rw [List.length_map]
      by_cases cw : Wp (a.map rc) (b.map rc) keep C[i] = []
      · rw [cw]
        refine Ev.congr (fun k => by rw [if_neg (by simp)]) ?_; exact ih (i + 1) (by omega)
      · have h3 := List.length_pos_iff.mpr cw
        have e1 : (Wp (a.map rc) (b.map rc) keep C[i]).isEmpty = false := by rw [List.isEmpty_eq_false_iff]; exact cw
        rw [e1, Bool.false_and]; exact Ev.congr (fun k => by rw [if_pos (by omega)]) (Ev.now _)
    · refine one_round fun k => ?_
      rw [At.l2, if_neg (by rw [wrs i (by omega)]; omega)]; have : C.drop i = [C[i]] := by rw [List.drop_eq_getElem_cons hlt, List.drop_of_length_le (by omega)]
      rw [this]; rfl
end
theorem none6_val {way : Int} {keep : Bool → Bool → Bool} (hk : ∀ x y, Ct.f way x y = some (keep x y)) (hff : keep false false = false) (a b : List S58) (la : a.length ≤ 4096) (lb : b.length ≤ 4096)
    (na : ∀ r ∈ a.map rc, RG.some1 r = true → RG.near4 r = true) (nb : ∀ r ∈ b.map rc, RG.some1 r = true → RG.near4 r = true) :
    Ev (fun k => At.f k a b way) (sweepP (a.map rc) (b.map rc) keep).isEmpty := by
  obtain ⟨d1, o1, h1⟩ := order_val a.length a (Nat.le_refl _) (by omega); obtain ⟨d2, o2, h2⟩ := order_val b.length b (Nat.le_refl _) (by omega); have l1 := h1.len; have l2 := h2.len; unfold At.f; refine Ev.bind o1 (Ev.bind o2 ?_)
  obtain ⟨y1, r1, m1, n1, g1⟩ := cuts_in d1 (by omega) (fun q hq => ((h1.mem q).mp hq).2) (F := fun k ys i => At.l0 k d1 d2 way ys i) (G := fun k ys => At.l1 k d1 d2 way ys 0)
    (fun k ys i h => by
      have hs := ((h1.mem d1[i]).mp (List.getElem_mem h)).2; rw [At.l0, if_pos (by omega), if_pos (by omega), rdR d1 i h, someH, hs, Option.bind_some, if_pos rfl, wrs i (by omega)])
    (fun k ys => by rw [At.l0, if_neg (by omega)]) d1.length 0 [] (Nat.zero_add _) trivial (by simp; omega)
  obtain ⟨y2, r2, m2, n2, g2⟩ := cuts_in d2 (by omega) (fun q hq => ((h2.mem q).mp hq).2) (F := fun k ys i => At.l1 k d1 d2 way ys i) (G := fun k ys => At.l2 k d1 d2 way ys 0)
    (fun k ys i h => by
      have hs := ((h2.mem d2[i]).mp (List.getElem_mem h)).2; rw [At.l1, if_pos (by omega), if_pos (by omega), rdR d2 i h, someH, hs, Option.bind_some, if_pos rfl, wrs i (by omega)])
    (fun k ys => by rw [At.l1, if_neg (by omega)]) d2.length 0 y1 (Nat.zero_add _) r1 (by simp at n1; omega)
  refine g1 _ (g2 _ ?_)
  have ey : y2 = RG.cutsP (a.map rc) (b.map rc) := RG.rise_unique _ _ r2 (RG.dist_rise _) fun z => by
    rw [m2, m1, List.drop_zero, List.drop_zero, cutD_of h1, cutD_of h2]; unfold RG.cutsP; rw [RG.mem_dist, List.mem_append]
    constructor
    · rintro ((h | h) | h)
      · cases h
      · exact .inl h
      · exact .inr h
    · rintro (h | h)
      · exact .inl (.inr h)
      · exact .inr h
  subst ey; have hl := cutsP_len (a.map rc) (b.map rc) (by rw [List.length_map]; omega) (by rw [List.length_map]; omega); have h := none6_l2 hk hff h1 h2 la lb na nb (RG.cutsP (a.map rc) (b.map rc)) (by omega) (RG.cutsP (a.map rc) (b.map rc)).length 0 (Nat.zero_add _); rw [List.drop_zero, ← build_empty] at h; exact h
theorem asked6_val {way : Int} {keep : Bool → Bool → Bool} (hk : ∀ x y, Ct.f way x y = some (keep x y)) (hff : keep false false = false) (a b : List S58) : Ev (fun k => C3.f k a b way) (RG.noneP (a.map rc) (b.map rc) keep) := by
  unfold C3.f RG.noneP; refine Ev.bind (rightH_val a) ?_
  by_cases ca : RG.rightP (a.map rc) = 0
  · rw [if_pos ca]
    refine Ev.congr (fun k => by rw [if_pos ca]) (Ev.bind (rightH_val b) ?_)
    by_cases cb : RG.rightP (b.map rc) = 0
    · rw [if_pos cb]
      refine Ev.congr (fun k => by rw [if_pos cb]) ?_; exact Ev.bind (none6_val hk hff a b (right_len ca) (right_len cb) (RG.right_le ca).2 (RG.right_le cb).2) (Ev.now _)
    · rw [if_neg cb]
      exact Ev.congr (fun k => by rw [if_neg cb]) (Ev.now _)
  · rw [if_neg ca]
    exact Ev.congr (fun k => by rw [if_neg ca]) (Ev.now _)
theorem same6r_val (a b : List S58) : Ev (fun k => Dr.f k a b) (RG.noneP (a.map rc) (b.map rc) RG.unlikeB) := Ev.bind (asked6_val kp5 rfl a b) (Ev.now _)
theorem within6_val (a b : List S58) : Ev (fun k => Dp.f k a b) (RG.noneP (a.map rc) (b.map rc) RG.withoutB) := Ev.bind (asked6_val kp4 rfl a b) (Ev.now _)
end VR
end Go.Proofs.Ytobdfiglgdbecaa
end
