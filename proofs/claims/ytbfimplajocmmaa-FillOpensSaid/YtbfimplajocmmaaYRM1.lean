import Derived.Test.YtbfimplajocmmaaYRM8
open Go Go.RowKit
set_option linter.unusedVariables false
set_option linter.unusedSimpArgs false
namespace Go.Proofs.Ytbfimplajocmmaa

def passK (n : Nat) : Nat → List Int → List Int
  | 0, _ => []
  | k + 1, l => List.merge (l.take n) ((l.drop n).take n) leK ++ passK n k (l.drop (2 * n))
theorem passK_nil (n : Nat) : ∀ k, passK n k [] = []
  | 0 => rfl
  | k + 1 => by rw [passK]; simp [passK_nil n k]
theorem passK_perm (n : Nat) (hn : 1 ≤ n) : ∀ k l, l.length ≤ k → (passK n k l).Perm l
  | 0, l, h => by
    obtain rfl := List.length_eq_zero_iff.mp (Nat.le_zero.mp h); exact List.Perm.refl _
  | k + 1, l, h => by
    rw [passK]; have ih := passK_perm n hn k (l.drop (2 * n)) (by rw [List.length_drop]; omega); have h1 := List.merge_perm_append leK (xs := l.take n) (ys := (l.drop n).take n); refine (h1.append ih).trans ?_
    have : l.take n ++ (l.drop n).take n ++ l.drop (2 * n) = l := by
      rw [List.append_assoc, show l.drop (2 * n) = (l.drop n).drop n by rw [List.drop_drop]; congr 1; omega, List.take_append_drop, List.take_append_drop]
    rw [this]
def Runs (n : Nat) (l : List Int) : Prop := ∀ i, UpS ((l.drop (i * n)).take n)
theorem runs_one (l : List Int) : Runs 1 l := by
  intro i
  match h : (l.drop (i * 1)).take 1 with
  | [] => exact List.Pairwise.nil
  | [a] => exact List.pairwise_singleton _ _
  | a :: b :: t =>
    have := congrArg List.length h
    simp at this
    omega
theorem runs_drop (n : Nat) (l : List Int) (h : Runs n l) : Runs n (l.drop (2 * n)) := by
  intro i; rw [List.drop_drop, show 2 * n + i * n = (i + 2) * n by rw [Nat.add_mul]; omega]; exact h (i + 2)
theorem passK_runs (n : Nat) : ∀ k l, Runs n l → Runs (2 * n) (passK n k l)
  | 0, l, h => by intro i; simp [passK]
  | k + 1, l, h => by
    have ih := passK_runs n k (l.drop (2 * n)) (runs_drop n l h); rw [passK]
    have hx : UpS (List.merge (l.take n) ((l.drop n).take n) leK) := by
      refine List.pairwise_merge leK_trans leK_total _ _ ?_ ?_
      · have := h 0; simpa using this
      · have := h 1; simpa using this
    have hl : (List.merge (l.take n) ((l.drop n).take n) leK).length = min n l.length + min n (l.length - n) := by
      rw [(List.merge_perm_append leK).length_eq, List.length_append, List.length_take, List.length_take, List.length_drop]
    generalize List.merge (l.take n) ((l.drop n).take n) leK = X at *
    by_cases hf : 2 * n ≤ l.length
    · have hX : X.length = 2 * n := by omega
      intro i; cases i with
      | zero =>
        rw [Nat.zero_mul, List.drop_zero, List.take_append_of_le_length (by omega), List.take_of_length_le (by omega)]; exact hx
      | succ i =>
        have e : (i + 1) * (2 * n) = X.length + i * (2 * n) := by rw [Nat.succ_mul i (2 * n)]; omega
        rw [e, ← List.drop_drop, List.drop_left]; exact ih i
    · have hY : passK n k (l.drop (2 * n)) = [] := by rw [List.drop_of_length_le (by omega), passK_nil]
      rw [hY, List.append_nil]; intro i; cases i with
      | zero =>
        rw [Nat.zero_mul, List.drop_zero, List.take_of_length_le (by omega)]; exact hx
      | succ i =>
        rw [List.drop_of_length_le (by rw [Nat.succ_mul i (2 * n)]; omega)]
        simp

def view (out : List Int) (i n : Nat) : List Int := (out.drop i).take n
theorem view_zero (out : List Int) (i : Nat) : view out i 0 = [] := by unfold view; simp
theorem view_eq (out : List Int) (i j n : Nat) (h : n = 0 ∨ i = j) : view out i n = view out j n := by
  rcases h with rfl | rfl
  · rw [view_zero, view_zero]
  · rfl
theorem view_cons (out : List Int) (i n : Nat) (h : i + n ≤ out.length) (h0 : 0 < n) : view out i n = out.getD i 0 :: view out (i + 1) (n - 1) := by
  obtain ⟨n, rfl⟩ : ∃ q, n = q + 1 := ⟨n - 1, by omega⟩; unfold view; rw [List.drop_eq_getElem_cons (by omega), List.take_succ_cons, List.getD_eq_getElem?_getD, List.getElem?_eq_getElem (by omega)]; rfl
theorem view_length (out : List Int) (i n : Nat) (h : i + n ≤ out.length) : (view out i n).length = n := by
  unfold view; rw [List.length_take, List.length_drop]; omega
def mrg (a b : List Int) : List Int := List.merge a b leK
theorem mrg_length (a b : List Int) : (mrg a b).length = a.length + b.length := by
  unfold mrg; rw [(List.merge_perm_append leK).length_eq, List.length_append]
theorem mrg_a (out : List Int) (ia na ib nb : Nat) (ha : ia + na ≤ out.length) (h0 : 0 < na) (hb : ib + nb ≤ out.length) (hc : nb = 0 ∨ leK (out.getD ia 0) (out.getD ib 0) = true) :
    mrg (view out ia na) (view out ib nb) = out.getD ia 0 :: mrg (view out (ia + 1) (na - 1)) (view out ib nb) := by
  unfold mrg; rw [view_cons out ia na ha h0]
  rcases Nat.eq_zero_or_pos nb with h1 | h1
  · subst h1
    rw [view_zero, List.merge_right, List.merge_right]
  · rw [view_cons out ib nb hb h1, List.cons_merge_cons, if_pos (hc.resolve_left (by omega))]
theorem mrg_b (out : List Int) (ia na ib nb : Nat) (ha : ia + na ≤ out.length) (hb : ib + nb ≤ out.length) (h0 : 0 < nb) (hc : na = 0 ∨ leK (out.getD ia 0) (out.getD ib 0) = false) :
    mrg (view out ia na) (view out ib nb) = out.getD ib 0 :: mrg (view out ia na) (view out (ib + 1) (nb - 1)) := by
  unfold mrg; rw [view_cons out ib nb hb h0]
  rcases Nat.eq_zero_or_pos na with h1 | h1
  · subst h1
    rw [view_zero, List.nil_merge, List.nil_merge]
  · rw [view_cons out ia na ha h1, List.cons_merge_cons, if_neg (by rw [hc.resolve_left (by omega)]; decide)]
theorem passK_view (n k at_ e1 e2 : Nat) (out : List Int) (h1 : e1 = min (at_ + n) out.length) (h2 : e2 = min (at_ + 2 * n) out.length) (ha : at_ ≤ out.length) :
    passK n (k + 1) (out.drop at_) = mrg (view out at_ (e1 - at_)) (view out e1 (e2 - e1)) ++ passK n k (out.drop (at_ + 2 * n)) := by
  rw [passK, List.drop_drop, List.drop_drop]; unfold mrg view
  have t : ∀ (l : List Int) (m : Nat), l.take (min m l.length) = l.take m := by
    intro l m
    rcases Nat.le_total m l.length with h | h
    · rw [Nat.min_eq_left h]
    · rw [Nat.min_eq_right h, List.take_of_length_le (Nat.le_refl _), List.take_of_length_le h]
  have e1' : (out.drop at_).take (e1 - at_) = (out.drop at_).take n := by
    rw [← t (out.drop at_) n, List.length_drop]
    congr 1
    omega
  have e2' : (out.drop e1).take (e2 - e1) = (out.drop (at_ + n)).take n := by
    rcases Nat.le_total (at_ + n) out.length with h | h
    · have : e1 = at_ + n := by omega
      rw [this, ← t (out.drop (at_ + n)) n, List.length_drop]
      congr 1
      omega
    · have : e2 - e1 = 0 := by omega
      rw [this, List.take_zero, List.drop_of_length_le h, List.take_nil]
  rw [e1', e2']
theorem take_a {nx T out : List Int} {ia na ib nb I N : Nat} {x : Int} (h : nx ++ mrg (view out ia na) (view out ib nb) = T) (ha : ia + na ≤ out.length) (hb : ib + nb ≤ out.length) (h0 : 0 < na)
    (hc : nb = 0 ∨ leK (out.getD ia 0) (out.getD ib 0) = true) (hN : N = na - 1) (hI : N = 0 ∨ I = ia + 1) (hx : x = out.getD ia 0) : nx ++ [x] ++ mrg (view out I N) (view out ib nb) = T := by
  rw [← h, mrg_a out ia na ib nb ha h0 hb hc, ← hx, List.append_assoc, view_eq out I (ia + 1) N hI, hN]; rfl
theorem take_b {nx T out : List Int} {ia na ib nb I N : Nat} {x : Int} (h : nx ++ mrg (view out ia na) (view out ib nb) = T) (ha : ia + na ≤ out.length) (hb : ib + nb ≤ out.length) (h0 : 0 < nb)
    (hc : na = 0 ∨ leK (out.getD ia 0) (out.getD ib 0) = false) (hN : N = nb - 1) (hI : N = 0 ∨ I = ib + 1) (hx : x = out.getD ib 0) : nx ++ [x] ++ mrg (view out ia na) (view out I N) = T := by
  rw [← h, mrg_b out ia na ib nb ha hb h0 hc, ← hx, List.append_assoc, view_eq out I (ib + 1) N hI, hN]; rfl
end Go.Proofs.Ytbfimplajocmmaa


