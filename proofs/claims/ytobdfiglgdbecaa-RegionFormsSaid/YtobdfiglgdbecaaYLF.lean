import Derived.Test.YtobdfiglgdbecaaYV6
import Derived.Test.YtobdfiglgdbecaaYPGFx1
set_option linter.unusedVariables false
set_option linter.unusedSimpArgs false
open Go Go.RowKit Go.Proofs.YtobdfiglgdbecaaW.PrintWords Go.Proofs.YtobdfiglgdbecaaW.PrintMore
namespace Go.Proofs.Ytobdfiglgdbecaa
open PGA PGB PGH PGK PGF
namespace VR
open RG (cov rightP twoP flat sweepP)
def pcs (x y : Int) (q : S58) : List S58 :=
  (if q.f0 < x ∧ x < q.f2 then [⟨x, q.f1, q.f2, q.f3⟩, ⟨q.f0, q.f1, x, q.f3⟩] else []) ++ (if q.f1 < y ∧ y < q.f3 then [⟨q.f0, y, q.f2, q.f3⟩, ⟨q.f0, q.f1, q.f2, y⟩] else [q])
theorem cov_append (a b : List RG.Rc) (u v : Int) : cov (a ++ b) u v = (cov a u v || cov b u v) := by unfold cov; rw [List.any_append]
theorem pcs_cov (x y : Int) (q : S58) (u v : Int) : cov ((pcs x y q).map rc) u v = cov [rc q] u v := by
  unfold pcs
  rw [List.map_append, cov_append]
  split <;> split <;> rw [Bool.eq_iff_iff] <;> simp [cov, rc] <;> omega
theorem pcs_len (x y : Int) (q : S58) : (pcs x y q).length ≤ 4 := by
  unfold pcs
  split <;> split <;> simp
theorem pcs_near (x y : Int) (q : S58) (h : RG.some1 (rc q) = true → RG.near4 (rc q) = true) : ∀ r ∈ (pcs x y q).map rc, RG.some1 r = true → RG.near4 r = true := by
  intro r hr hs
  rw [RG.near4_iff] at h ⊢
  unfold pcs at hr
  rw [List.map_append, List.mem_append] at hr
  have hq : RG.some1 (rc q) = true ↔ q.f0 < q.f2 ∧ q.f1 < q.f3 := by unfold RG.some1 rc; simp
  rw [hq] at h
  have hs' : r.1 < r.2.2.1 ∧ r.2.1 < r.2.2.2 := by unfold RG.some1 at hs; simpa using hs
  unfold rc at h
  simp only [] at h
  rcases hr with hr | hr
  · split at hr
    · simp [rc] at hr
      rcases hr with rfl | rfl <;> simp only [] at hs' ⊢ <;> have := h (by omega) <;> omega
    · simp at hr
  · split at hr
    · simp [rc] at hr
      rcases hr with rfl | rfl <;> simp only [] at hs' ⊢ <;> have := h (by omega) <;> omega
    · simp [rc] at hr
      subst hr
      simp only [] at hs' ⊢
      have := h (by omega)
      omega
theorem forms_j2 (k : Nat) (l F acc : List S58) (x y i : Int) (q : S58) (ha : acc.length ≤ 1000) :
    Ah.j2 (k + 1) l x y F acc i (decide (q.f0 < x ∧ x < q.f2)) q.f0 q.f1 q.f2 q.f3 = Ah.l0 k l x y F (acc ++ pcs x y q) (wrap64 (i - 1)) := by
  rw [Ah.j2]
  unfold pcs
  by_cases h1 : q.f0 < x ∧ x < q.f2
  · rw [if_pos (decide_eq_true h1), if_pos h1]
    simp only [Option.bind_some, List.length_append, List.length_cons, List.length_nil]
    rw [if_pos (by omega)]
    by_cases h2 : q.f1 < y
    · by_cases h3 : y < q.f3
      · rw [if_pos h2, if_pos h3, if_pos (by omega), if_pos ⟨h2, h3⟩, List.append_assoc]
      · rw [if_pos h2, if_neg h3, if_pos (by omega), if_neg (fun h => h3 h.2), List.append_assoc]
    · rw [if_neg h2, if_pos (by omega), if_neg (fun h => h2 h.1), List.append_assoc]
  · rw [if_neg (by simpa using h1), if_neg h1]
    simp only [Option.bind_some, List.length_append, List.length_cons, List.length_nil, List.nil_append]
    by_cases h2 : q.f1 < y
    · by_cases h3 : y < q.f3
      · rw [if_pos h2, if_pos h3, if_pos (by omega), if_pos ⟨h2, h3⟩]
      · rw [if_pos h2, if_neg h3, if_pos (by omega), if_neg (fun h => h3 h.2)]
    · rw [if_neg h2, if_pos (by omega), if_neg (fun h => h2 h.1)]
theorem forms_end {l acc : List S58} (hl : fewB l = true) (hn : acc.length ≤ 60) (hc : ∀ u v, cov (acc.map rc) u v = cov (l.map rc) u v) (hr : ∀ r ∈ acc.map rc, RG.some1 r = true → RG.near4 r = true) (x y : Int) :
    Ev (fun k => Ah.l0 k l x y ((flat (sweepP (l.map rc) [] RG.firstB)).map cr) acc (-1)) true := by
  have gl := good_few hl
  have g0 : Good [] (fun _ _ => false) := ⟨rfl, fun _ _ => rfl⟩
  have ga : Good (acc.map rc) (cov (l.map rc)) := ⟨RG.right_of (by rw [List.length_map]; omega) hr, hc⟩
  obtain ⟨qO, gO⟩ := good_two (keep := RG.firstB) rfl gl g0 (by have := (of_few hl).2; omega)
  have e1 : twoP (acc.map rc) [] RG.firstB = twoP (l.map rc) [] RG.firstB := two_same ga g0 gl g0 rfl rfl fun _ _ => rfl
  have e2 : twoP (flat (sweepP (l.map rc) [] RG.firstB)) [] RG.firstB = twoP (l.map rc) [] RG.firstB := two_same gO g0 gl g0 rfl rfl fun _ _ => rfl
  have e3 : sweepP (l.map rc) (acc.map rc) RG.unlikeB = [] := RG.empty_of rfl fun u v => by
    rw [ga.cov]; unfold RG.unlikeB; cases cov (l.map rc) u v <;> rfl
  refine Ev.step (fun k => by rw [Ah.l0, if_neg (by omega)]) ?_
  refine Ev.bind (of_val acc) (Ev.bind (of_of _) (Ev.bind (same_val l acc) ?_))
  rw [RG.none_good gl.right ga.right, e3, e1, e2, qO]
  refine Ev.congr (fun k => by
    simp only [outP, num_val, Option.bind_some]
    rw [if_pos (by unfold wrap64; decide), if_pos (by rfl)]) ?_
  refine Ev.bind (eqR_true _ _ (by rw [List.length_map]; have := (of_few hl).2; omega) (by rw [map_rc_cr])) ?_
  refine Ev.congr (fun k => by rw [if_pos rfl]) ?_
  exact Ev.bind (eqR_true _ _ (by rw [List.length_map]; have := (of_few hl).2; omega) rfl) (Ev.now _)
theorem forms_l0 {l : List S58} (hl : fewB l = true) (h12 : l.length ≤ 12) (x y : Int) : ∀ i acc, i ≤ l.length → acc.length ≤ 4 * (l.length - i) → (∀ u v, (cov ((l.take i).map rc) u v || cov (acc.map rc) u v) = cov (l.map rc) u v) → (∀ r ∈ acc.map rc, RG.some1 r = true → RG.near4 r = true) →
    Ev (fun k => Ah.l0 k l x y ((flat (sweepP (l.map rc) [] RG.firstB)).map cr) acc ((i : Int) - 1)) true := by
  intro i
  induction i with
  | zero =>
    intro acc _ hn hc hr
    exact forms_end hl (by omega) (fun u v => by rw [← hc u v]; rfl) hr x y
  | succ i ih =>
    intro acc hi hn hc hr
    have hlt : i < l.length := hi
    have hj : ((i + 1 : Nat) : Int) - 1 = (i : Int) := by omega
    rw [hj]
    have hstep : ∀ k, Ah.l0 (k + 2) l x y ((flat (sweepP (l.map rc) [] RG.firstB)).map cr) acc (i : Int) = Ah.l0 k l x y ((flat (sweepP (l.map rc) [] RG.firstB)).map cr) (acc ++ pcs x y l[i]) ((i : Int) - 1) := fun k => by
      have hw : wrap64 ((i : Int) - 1) = (i : Int) - 1 := by unfold wrap64; omega
      rw [Ah.l0, if_pos (by omega), if_pos (by omega), if_pos (by omega), rdR l i hlt]
      by_cases h1 : l[i].f0 < x
      · rw [if_pos h1]
        have h := forms_j2 k l ((flat (sweepP (l.map rc) [] RG.firstB)).map cr) acc x y (i : Int) l[i] (by omega)
        rw [show decide (l[i].f0 < x ∧ x < l[i].f2) = decide (x < l[i].f2) by simp [h1], hw] at h
        exact h
      · rw [if_neg h1]
        have h := forms_j2 k l ((flat (sweepP (l.map rc) [] RG.firstB)).map cr) acc x y (i : Int) l[i] (by omega)
        rw [show decide (l[i].f0 < x ∧ x < l[i].f2) = false by simp [h1], hw] at h
        exact h
    have hrec := ih (acc ++ pcs x y l[i]) (by omega) (by rw [List.length_append]; have := pcs_len x y l[i]; omega) (fun u v => by
      rw [← hc u v, List.map_append, cov_append, pcs_cov, List.take_succ_eq_append_getElem hlt, List.map_append, cov_append]
      simp only [List.map_cons, List.map_nil]
      cases cov ((l.take i).map rc) u v <;> cases cov (acc.map rc) u v <;> cases cov [rc l[i]] u v <;> rfl) (fun r hr' => by
      rw [List.map_append, List.mem_append] at hr'
      rcases hr' with h | h
      · exact hr r h
      · exact pcs_near x y l[i] ((RG.right_le (few_of hl).2).2 (rc l[i]) (List.mem_map.mpr ⟨_, List.getElem_mem hlt, rfl⟩)) r h)
    obtain ⟨K, hK⟩ := hrec
    refine ⟨K + 2, fun k hk => ?_⟩
    obtain ⟨m, rfl⟩ : ∃ m, k = m + 2 := ⟨k - 2, by omega⟩
    exact (hstep m).trans (hK m (by omega))
theorem forms_law (l : List S58) (x y : Int) : Ev (fun k => Ah.f k l x y) true := by
  unfold Ah.f
  refine Ev.bind known_true ?_
  refine Ev.congr (fun k => by rw [if_pos rfl]) ?_
  refine Ev.bind (few_val [l] (by simp)) ?_
  by_cases hf : [l].all fewB = true
  · rw [hf]
    have hl : fewB l = true := by simpa using hf
    refine Ev.congr (fun k => by rw [if_pos rfl]) ?_
    by_cases h12 : (l.length : Int) > 12
    · rw [decide_eq_true h12]
      exact Ev.step (fun k => by rw [Ah.j0, if_pos rfl]) (Ev.now _)
    · rw [decide_eq_false h12]
      refine Ev.step (fun k => by rw [Ah.j0, if_neg (by simp)]) ?_
      refine Ev.bind (of_val l) ?_
      rw [(of_few hl).1]
      have hw : wrap64 ((l.length : Int) - 1) = (l.length : Int) - 1 := by unfold wrap64; omega
      refine Ev.congr (fun k => by
        simp only [outP, num_val, Option.bind_some]
        rw [if_pos trivial, hw]) ?_
      exact forms_l0 hl (by omega) x y l.length [] (Nat.le_refl _) (by simp) (fun u v => by rw [List.take_length]; simp [cov]) (by simp)
  · rw [Bool.eq_false_iff.mpr hf]
    refine Ev.congr (fun k => by rw [if_neg (by simp)]) ?_
    exact Ev.step (fun k => by rw [Ah.j0, if_pos rfl]) (Ev.now _)
theorem forms_ok (l : List S58) (x y : Int) : ∃ k, Ah.f k l x y = some true := by
  obtain ⟨k, hk⟩ := forms_law l x y
  exact ⟨k, hk k (Nat.le_refl _)⟩
end VR
end Go.Proofs.Ytobdfiglgdbecaa

