import Derived.Test.YtobdfiglgdbecaaXNR
set_option linter.unusedVariables false
set_option linter.unusedSimpArgs false
namespace Go.Proofs.Ytobdfiglgdbecaa
namespace RG
theorem pnf_mem {V : Type} : ∀ {l : List (Int × Int × V)}, PNF l → ∀ p ∈ l, p.1 < p.2.1
  | q :: t, h, p, hp => by
    rcases List.mem_cons.mp hp with rfl | hp
    · exact h.head
    · exact pnf_mem h.tail p hp
theorem snf_mem {s : List Sp} (h : SNF s) : ∀ p ∈ s, p.1 < p.2 := fun p hp => pnf_mem (l := up s) h (p.1, p.2, ()) (List.mem_map.mpr ⟨p, hp, rfl⟩)
theorem spl_eq (k : Int) : ∀ s : List Sp, (∀ p ∈ s, p.1 < p.2) → (s.map fun p => (p.2 - p.1) * k).sum = (spl s : Int) * k
  | [], _ => by simp [spl]
  | p :: t, h => by
    have hp := h p List.mem_cons_self; have ih := spl_eq k t (fun q hq => h q (List.mem_cons_of_mem _ hq)); have e : spl (p :: t) = (p.2 - p.1).toNat + spl t := rfl; rw [List.map_cons, List.sum_cons, ih, e]; rw [show (((p.2 - p.1).toNat + spl t : Nat) : Int) = (p.2 - p.1) + (spl t : Int) by omega, Int.add_mul]
theorem areaI_eq : ∀ l : List Bd, BNF l → areaI l = (areaB l : Int)
  | [], _ => rfl
  | b :: t, h => by
    have hb := pnf_mem h.p b List.mem_cons_self; have ih := areaI_eq t ⟨h.p.tail, fun q hq => h.s q (List.mem_cons_of_mem _ hq)⟩; have e1 : areaI (b :: t) = (b.2.2.map fun s => (s.2 - s.1) * (b.2.1 - b.1)).sum + areaI t := rfl; have e2 : areaB (b :: t) = (b.2.1 - b.1).toNat * spl b.2.2 + areaB t := rfl; rw [e1, e2, ih, spl_eq _ _ (snf_mem (h.s b List.mem_cons_self).1), Int.natCast_add, Int.natCast_mul, Int.toNat_of_nonneg (by omega), Int.mul_comm]
theorem sweep_in {a b : List Rc} {keep : Bool → Bool → Bool} (ha : rightP a = 0) (hb : rightP b = 0) : ∀ p ∈ sweepP a b keep, (-8192 ≤ p.1 ∧ p.1 ≤ 8192) ∧ (-8192 ≤ p.2.1 ∧ p.2.1 ≤ 8192) ∧ ∀ s ∈ p.2.2, (-8192 ≤ s.1 ∧ s.1 ≤ 8192) ∧ (-8192 ≤ s.2 ∧ s.2 ≤ 8192) := by
  intro p hp; have hn : ∀ r, (r ∈ a ∨ r ∈ b) → some1 r = true → near4 r = true := fun r h hs => h.elim (fun h => (right_le ha).2 r h hs) (fun h => (right_le hb).2 r h hs)
  have hcc : ∀ z, (z ∈ cutsOf a ∨ z ∈ cutsOf b) → -8192 ≤ z ∧ z ≤ 8192 := fun z hz => by
    obtain ⟨r, h1, h2, h3⟩ : ∃ r, (r ∈ a ∨ r ∈ b) ∧ some1 r = true ∧ (z = r.2.1 ∨ z = r.2.2.2) := by
      rcases hz with h | h
      · obtain ⟨r, h1, h2⟩ := cuts_from h; exact ⟨r, .inl h1, h2⟩
      · obtain ⟨r, h1, h2⟩ := cuts_from h; exact ⟨r, .inr h1, h2⟩
    have := (near4_iff r).mp (hn r h1 h2)
    omega
  obtain ⟨h1, h2, h3⟩ := sweep_from hp; refine ⟨hcc _ h1, hcc _ h2, fun s hs => ?_⟩; obtain ⟨⟨r1, i1, s1, e1⟩, ⟨r2, i2, s2, e2⟩⟩ := h3 s hs; have n1 := (near4_iff r1).mp (hn r1 i1 s1); have n2 := (near4_iff r2).mp (hn r2 i2 s2)
  omega
theorem area_val {a b : List Rc} {keep : Bool → Bool → Bool} (ha : rightP a = 0) (hb : rightP b = 0) (hk : keep false false = false) :
    areaB (sweepP a b keep) = cnt (fun x y => keep (cov a x y) (cov b x y)) (-8192) 16384 := by
  have h := area_cnt (-8192) 16384 (sweepP a b keep) (sweep_ok a b keep hk).1 (fun p hp => by
    obtain ⟨h1, h2, h3⟩ := sweep_in ha hb p hp; exact ⟨h1.1, by omega, fun s hs => by have := h3 s hs; omega⟩)
  rw [← h]
  have e : bcov (sweepP a b keep) = fun x y => keep (cov a x y) (cov b x y) := by
    funext x y; exact (sweep_ok a b keep hk).2 x y
  rw [e]
theorem right_nil : rightP [] = 0 := rfl
end RG
end Go.Proofs.Ytobdfiglgdbecaa

