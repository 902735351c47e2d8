/- The plain law of DitherKeeps: the units of the samples are those of the levels and what fell. -/
import Derived.Test.YtmipbbkieadecaaM4
import Derived.Test.YtmipbbkieadecaaH10
import Derived.Test.YtmipbbkieadecaaPDEx1
open Go Go.RowKit Go.Proofs.YtmipbbkieadecaaW.PrintWords Go.Proofs.YtmipbbkieadecaaW.PrintLast Go.Proofs.YtmipbbkieadecaaW.PrintMore
set_option linter.unusedVariables false
set_option linter.unusedSimpArgs false
namespace Go.Proofs.Ytmipbbkieadecaa
open PDA PDB PDC PDK PDE

/-- a and b are one number to 64 bits. -/
def eqm (a b : Int) : Prop := ∃ q : Int, a = b + 18446744073709551616 * q
theorem eqm.refl (a : Int) : eqm a a := ⟨0, by omega⟩
theorem eqm.symm {a b : Int} (h : eqm a b) : eqm b a := by obtain ⟨q, h⟩ := h; exact ⟨-q, by omega⟩
theorem eqm.trans {a b c : Int} (h : eqm a b) (k : eqm b c) : eqm a c := by obtain ⟨q, h⟩ := h; obtain ⟨r, k⟩ := k; exact ⟨q + r, by omega⟩
theorem eqm.add {a b c d : Int} (h : eqm a b) (k : eqm c d) : eqm (a + c) (b + d) := by obtain ⟨q, h⟩ := h; obtain ⟨r, k⟩ := k; exact ⟨q + r, by omega⟩
theorem eqm.sub {a b c d : Int} (h : eqm a b) (k : eqm c d) : eqm (a - c) (b - d) := by obtain ⟨q, h⟩ := h; obtain ⟨r, k⟩ := k; exact ⟨q - r, by omega⟩
theorem wrap_eqm (a : Int) : eqm (wrap64 a) a := by
  unfold eqm wrap64
  exact ⟨-((a + 9223372036854775808) / 18446744073709551616), by omega⟩
theorem wrap_congr {a b : Int} (h : eqm a b) : wrap64 a = wrap64 b := by
  obtain ⟨q, h⟩ := h
  unfold wrap64
  omega

/-- m numbers of F, from a on. -/
def sumF (F : Nat → Int) : Nat → Nat → Int
  | _, 0 => 0
  | a, m + 1 => F a + sumF F (a + 1) m
theorem sumF_upd (F : Nat → Int) (j : Nat) (v : Int) : ∀ m a, sumF (upd F j v) a m = sumF F a m + (if a ≤ j ∧ j < a + m then v - F j else 0)
  | 0, a => by
    rw [sumF, sumF, if_neg (by omega)]
    rfl
  | m + 1, a => by
    rw [sumF, sumF, sumF_upd F j v m (a + 1)]
    by_cases h : a = j
    · subst h
      have : upd F a v a = v := by unfold upd; rw [if_pos rfl]
      rw [this, if_neg (by omega), if_pos (by omega)]
      omega
    · have : upd F j v a = F a := by unfold upd; rw [if_neg h]
      rw [this]
      by_cases h2 : a + 1 ≤ j ∧ j < a + 1 + m
      · rw [if_pos h2, if_pos (by omega)]; omega
      · rw [if_neg h2, if_neg (by omega)]; omega
theorem sumF_last (F : Nat → Int) : ∀ m a, sumF F a (m + 1) = sumF F a m + F (a + m)
  | 0, a => by simp [sumF]
  | m + 1, a => by
    rw [sumF, sumF_last F m (a + 1), sumF, show a + 1 + m = a + (m + 1) by omega]
    omega
theorem sumF_zero : ∀ m a, sumF (fun _ => 0) a m = 0
  | 0, a => rfl
  | m + 1, a => by rw [sumF, sumF_zero m]; rfl
theorem sumF_app (F : Nat → Int) : ∀ m k a, sumF F a (m + k) = sumF F a m + sumF F (a + m) k
  | 0, k, a => by rw [sumF, Nat.zero_add, Nat.add_zero]; omega
  | m + 1, k, a => by
    rw [show m + 1 + k = (m + k) + 1 by omega, sumF, sumF_app F m k (a + 1), sumF, show a + 1 + m = a + (m + 1) by omega]
    omega

/-- The units of m samples, from a on. -/
def un1 (l : List Int) (i : Nat) : Int := (unitsN (l.getD i 0).toNat : Int)
def sumK (n : Nat) : List Nat → Int
  | [] => 0
  | k :: t => (U n k : Int) + sumK n t
theorem sumK_app (n : Nat) (B : List Nat) : ∀ A, sumK n (A ++ B) = sumK n A + sumK n B
  | [] => by rw [sumK]; simp
  | k :: t => by rw [List.cons_append, sumK, sumK, sumK_app n B t]; omega

theorem getD_ok {l : List Int} (hl : ∀ s ∈ l, 0 ≤ s ∧ s < 4294967296) (i : Nat) : 0 ≤ l.getD i 0 ∧ l.getD i 0 < 4294967296 := by
  rcases Nat.lt_or_ge i l.length with h | h
  · rw [List.getD_eq_getElem?_getD, List.getElem?_eq_getElem h]
    exact hl _ (List.getElem_mem _)
  · rw [List.getD_eq_getElem?_getD, List.getElem?_eq_none h]
    simp

/-- One place: what stands in the two rows, less what came, is what was handed in less the level's units. -/
theorem px_some (n : Nat) (F G : Nat → Int) (x : Nat) (s : Int) (h2 : 2 ≤ n) (h : n ≤ 256) (h0 : 0 ≤ s) (h1 : s < 4294967296) :
    ∃ F' G' k, k < n ∧ px n F G x s = some (F', G', (lvlN n k : Int)) ∧ (∀ W, x < W → eqm (sumF F' (x + 2) (W - x) + sumF G' 0 (W + 2)) (sumF F (x + 1) (W - x + 1) + sumF G 0 (W + 2) + (unitsN s.toNat : Int) - (U n k : Int))) := by
  have hk := near_lt n (clampU (wrap64 ((unitsN s.toNat : Int) + F (x + 1)))) h2 (clampU_le _)
  have hn := nearest_eq n (wrap64 ((unitsN s.toNat : Int) + F (x + 1))) h2 h 1024 (by omega)
  generalize near n (clampU (wrap64 ((unitsN s.toNat : Int) + F (x + 1)))) = k at hk hn
  unfold px
  rw [units_some s h0 h1, Option.bind_some, hn, Option.bind_some, unit_eq n k h2 h hk, Option.bind_some, level_some n k h2 h hk, Option.bind_some]
  refine ⟨_, _, k, hk, rfl, fun W hx => ?_⟩
  have w1 := wrap_eqm ((unitsN s.toNat : Int) + F (x + 1))
  generalize wrap64 ((unitsN s.toNat : Int) + F (x + 1)) = v at w1
  have w2 := wrap_eqm (v - (U n k : Int))
  generalize wrap64 (v - (U n k : Int)) = e at w2
  generalize wrap64 (7 * e) / 16 = rt
  generalize wrap64 (3 * e) / 16 = lf
  generalize wrap64 (5 * e) / 16 = md
  have w3 := wrap_eqm (G x + lf)
  generalize wrap64 (G x + lf) = g0 at w3
  have u1 : upd G x g0 (x + 1) = G (x + 1) := by unfold upd; rw [if_neg (by omega)]
  rw [u1]
  have w4 := wrap_eqm (G (x + 1) + md)
  generalize wrap64 (G (x + 1) + md) = g1 at w4
  have u2 : upd (upd G x g0) (x + 1) g1 (x + 2) = G (x + 2) := by unfold upd; rw [if_neg (by omega), if_neg (by omega)]
  rw [u2]
  have w5 := wrap_eqm (e - rt)
  generalize wrap64 (e - rt) = a1 at w5
  have w6 := wrap_eqm (a1 - lf)
  generalize wrap64 (a1 - lf) = a2 at w6
  have w7 := wrap_eqm (a2 - md)
  generalize wrap64 (a2 - md) = a3 at w7
  have w8 := wrap_eqm (G (x + 2) + a3)
  generalize wrap64 (G (x + 2) + a3) = g2 at w8
  have w9 := wrap_eqm (F (x + 2) + rt)
  generalize wrap64 (F (x + 2) + rt) = f2 at w9
  rw [sumF_upd, sumF_upd, sumF_upd, sumF_upd, u1, u2, if_pos (by omega), if_pos (by omega), if_pos (by omega), if_pos (by omega)]
  rw [show sumF F (x + 1) (W - x + 1) = F (x + 1) + sumF F (x + 2) (W - x) from rfl]
  generalize sumF F (x + 2) (W - x) = A
  generalize sumF G 0 (W + 2) = B
  generalize (unitsN s.toNat : Int) = uu at *
  generalize (U n k : Int) = un at *
  generalize F (x + 1) = f1 at *
  generalize F (x + 2) = f2o at *
  generalize G x = go at *
  generalize G (x + 1) = g1o at *
  generalize G (x + 2) = g2o at *
  clear hn u1 u2
  obtain ⟨q1, w1⟩ := w1
  obtain ⟨q2, w2⟩ := w2
  obtain ⟨q3, w3⟩ := w3
  obtain ⟨q4, w4⟩ := w4
  obtain ⟨q5, w5⟩ := w5
  obtain ⟨q6, w6⟩ := w6
  obtain ⟨q7, w7⟩ := w7
  obtain ⟨q8, w8⟩ := w8
  obtain ⟨q9, w9⟩ := w9
  exact ⟨q1 + q2 + q3 + q4 + q5 + q6 + q7 + q8 + q9, by omega⟩

theorem rowT_some (n : Nat) (l : List Int) (base W : Nat) (h2 : 2 ≤ n) (h : n ≤ 256) (hl : ∀ s ∈ l, 0 ≤ s ∧ s < 4294967296) : ∀ m x F G out, x + m = W →
    ∃ F' G' ks, rowT n l base m x F G out = some (F', G', out ++ ks.map (fun k => (lvlN n k : Int))) ∧ ks.length = m ∧ (∀ k ∈ ks, k < n) ∧
      eqm (F' (W + 1) + sumF G' 0 (W + 2)) (sumF F (x + 1) (m + 1) + sumF G 0 (W + 2) + sumF (un1 l) (base + x) m - sumK n ks)
  | 0, x, F, G, out, hx => by
    obtain rfl : x = W := by omega
    refine ⟨F, G, [], by simp [rowT], rfl, by simp, ?_⟩
    simp only [sumF, sumK]
    exact ⟨0, by omega⟩
  | m + 1, x, F, G, out, hx => by
    have hs := getD_ok hl (base + x)
    obtain ⟨F1, G1, k, hk, hp, he⟩ := px_some n F G x (l.getD (base + x) 0) h2 h hs.1 hs.2
    obtain ⟨F', G', ks, hr, hlen, hks, he2⟩ := rowT_some n l base W h2 h hl m (x + 1) F1 G1 (out ++ [(lvlN n k : Int)]) (by omega)
    refine ⟨F', G', k :: ks, ?_, by rw [List.length_cons, hlen], ?_, ?_⟩
    · rw [rowT, hp, Option.bind_some]
      show rowT n l base m (x + 1) F1 G1 (out ++ [(lvlN n k : Int)]) = _
      rw [hr, List.append_assoc]
      rfl
    · intro j hj
      rcases List.mem_cons.mp hj with rfl | hj
      · exact hk
      · exact hks j hj
    · have he3 := he W (by omega)
      rw [show W - x = m + 1 by omega] at he3
      rw [show x + 1 + 1 = x + 2 by omega] at he2
      rw [sumK]
      have e4 : sumF (un1 l) (base + x) (m + 1) = (unitsN (l.getD (base + x) 0).toNat : Int) + sumF (un1 l) (base + (x + 1)) m := by rw [sumF]; rfl
      rw [e4]
      generalize sumF F1 (x + 2) (m + 1) = A1 at *
      generalize sumF G1 0 (W + 2) = B1 at *
      generalize sumF F (x + 1) (m + 1 + 1) = A0 at *
      generalize sumF G 0 (W + 2) = B0 at *
      generalize F' (W + 1) = C1 at *
      generalize sumF G' 0 (W + 2) = C2 at *
      generalize (unitsN (l.getD (base + x) 0).toNat : Int) = uu at *
      generalize sumF (un1 l) (base + (x + 1)) m = S at *
      generalize sumK n ks = K at *
      generalize (U n k : Int) = un at *
      clear hr hp e4 he
      obtain ⟨q1, he2⟩ := he2
      obtain ⟨q2, he3⟩ := he3
      exact ⟨q1 + q2, by omega⟩

theorem allT_some (n : Nat) (l : List Int) (W : Nat) (h2 : 2 ≤ n) (h : n ≤ 256) (hl : ∀ s ∈ l, 0 ≤ s ∧ s < 4294967296) : ∀ m y F fall out, F (W + 1) = 0 →
    ∃ F' fall' ks, allT n l W m y F fall out = some (F', fall', out ++ ks.map (fun k => (lvlN n k : Int))) ∧ ks.length = m * W ∧ (∀ k ∈ ks, k < n) ∧
      eqm (fall' + sumF F' 1 W) (fall + sumF F 1 W + sumF (un1 l) (y * W) (m * W) - sumK n ks)
  | 0, y, F, fall, out, hF => by
    refine ⟨F, fall, [], by simp [allT], by simp, by simp, ?_⟩
    rw [Nat.zero_mul, sumF, sumK]
    exact ⟨0, by omega⟩
  | m + 1, y, F, fall, out, hF => by
    obtain ⟨F1, G1, k1, hr, hlen, hks, he⟩ := rowT_some n l (y * W) W h2 h hl W 0 F (fun _ => 0) out (by omega)
    have hz : upd (upd G1 0 0) (W + 1) 0 (W + 1) = 0 := by unfold upd; rw [if_pos rfl]
    obtain ⟨F2, f2, k2, hr2, hlen2, hks2, he2⟩ := allT_some n l W h2 h hl m (y + 1) (upd (upd G1 0 0) (W + 1) 0) (wrap64 (wrap64 (fall + wrap64 (F1 (W + 1) + G1 0)) + upd G1 0 0 (W + 1))) (out ++ k1.map (fun k => (lvlN n k : Int))) hz
    refine ⟨F2, f2, k1 ++ k2, ?_, ?_, ?_, ?_⟩
    · rw [allT, hr, Option.bind_some]
      show allT n l W m (y + 1) (upd (upd G1 0 0) (W + 1) 0) (wrap64 (wrap64 (fall + wrap64 (F1 (W + 1) + G1 0)) + upd G1 0 0 (W + 1))) (out ++ k1.map (fun k => (lvlN n k : Int))) = _
      rw [hr2, List.map_append, List.append_assoc]
    · rw [List.length_append, hlen, hlen2, Nat.succ_mul]; omega
    · intro j hj
      rcases List.mem_append.mp hj with hj | hj
      · exact hks j hj
      · exact hks2 j hj
    · rw [sumK_app, Nat.succ_mul, Nat.add_comm (m * W) W, sumF_app]
      rw [Nat.succ_mul] at he2
      have u1 : upd G1 0 0 (W + 1) = G1 (W + 1) := by unfold upd; rw [if_neg (by omega)]
      rw [u1] at he2
      rw [Nat.add_zero, sumF_last F W 1, show 1 + W = W + 1 by omega, hF, sumF_zero] at he
      have e5 : sumF G1 0 (W + 2) = G1 0 + sumF G1 1 W + G1 (W + 1) := by
        rw [show sumF G1 0 (W + 2) = G1 0 + sumF G1 1 (W + 1) from rfl, sumF_last G1 W 1, show 1 + W = W + 1 by omega]
        omega
      rw [e5] at he
      have e6 : sumF (upd (upd G1 0 0) (W + 1) 0) 1 W = sumF G1 1 W := by
        rw [sumF_upd, sumF_upd, if_neg (by omega), if_neg (by omega)]
        omega
      rw [e6] at he2
      have w1 := wrap_eqm (F1 (W + 1) + G1 0)
      generalize wrap64 (F1 (W + 1) + G1 0) = a1 at *
      have w2 := wrap_eqm (fall + a1)
      generalize wrap64 (fall + a1) = a2 at *
      have w3 := wrap_eqm (a2 + G1 (W + 1))
      generalize wrap64 (a2 + G1 (W + 1)) = a3 at *
      generalize sumF (un1 l) (y * W + W) (m * W) = S2 at *
      generalize sumF (un1 l) (y * W) W = S1 at *
      generalize sumF G1 1 W = B at *
      generalize sumF F 1 W = A at *
      generalize sumF F2 1 W = A2 at *
      generalize F1 (W + 1) = c1 at *
      generalize G1 (W + 1) = c2 at *
      generalize G1 0 = c3 at *
      generalize sumK n k1 = K1 at *
      generalize sumK n k2 = K2 at *
      clear hr hr2 hz u1 e5 e6
      obtain ⟨q1, w1⟩ := w1
      obtain ⟨q2, w2⟩ := w2
      obtain ⟨q3, w3⟩ := w3
      obtain ⟨q4, he⟩ := he
      obtain ⟨q5, he2⟩ := he2
      exact ⟨q1 + q2 + q3 + q4 + q5, by omega⟩

theorem lastT_eqm (F : Nat → Int) : ∀ m x fall, eqm (lastT F m x fall) (fall + sumF F (x + 1) m)
  | 0, x, fall => by rw [lastT, sumF]; exact ⟨0, by omega⟩
  | m + 1, x, fall => by
    rw [lastT, sumF]
    have h1 := lastT_eqm F m (x + 1) (wrap64 (fall + F (x + 1)))
    have h2 := wrap_eqm (fall + F (x + 1))
    generalize wrap64 (fall + F (x + 1)) = a at *
    generalize lastT F m (x + 1) a = b at *
    generalize F (x + 1) = c at *
    generalize sumF F (x + 1 + 1) m = d at *
    obtain ⟨q1, h1⟩ := h1
    obtain ⟨q2, h2⟩ := h2
    exact ⟨q1 + q2, by omega⟩

/-- Diffuse: the levels, and what fell. -/
theorem diffuse_good (n W H : Nat) (l : List Int) (h2 : 2 ≤ n) (h : n ≤ 256) (hc : plane_Check.f W H l = some 0) (hl : ∀ s ∈ l, 0 ≤ s ∧ s < 4294967296) :
    ∃ fallen ks, dither_Diffuse.f W H l n = some ((W : Int), (H : Int), ks.map (fun k => (lvlN n k : Int)), fallen, 0) ∧ ks.length = H * W ∧ (∀ k ∈ ks, k < n) ∧ eqm fallen (sumF (un1 l) 0 (H * W) - sumK n ks) := by
  obtain ⟨F', f', ks, hr, hlen, hks, he⟩ := allT_some n l W h2 h hl H 0 (fun _ => 0) 0 [] rfl
  refine ⟨lastT F' W 0 f', ks, ?_, hlen, hks, ?_⟩
  · unfold dither_Diffuse.f
    rw [(levels_good (n := n) (by omega)).1, Option.bind_some, if_pos rfl, hc, Option.bind_some, if_pos rfl, Int.toNat_natCast, Int.toNat_natCast, hr, Option.bind_some]
    rfl
  · have h3 := lastT_eqm F' W 0 f'
    rw [sumF_zero, Nat.zero_mul] at he
    refine h3.trans (he.trans ⟨0, by omega⟩)

theorem Unit_some (n t : Nat) (h2 : 2 ≤ n) (h : n ≤ 256) (ht : t < n) : dither_Unit.f n t = some ((U n t : Int), 0) := by
  unfold dither_Unit.f
  rw [level_yes n t (by omega), Option.bind_some, if_pos rfl, unit_eq n t h2 h ht]
  rfl

/-- The search of a level: the first that is met is the place's own. -/
theorem keeps_search (n : Nat) (W H a b : Int) (l r : List Int) (i t : Nat) (un : Int) (h2 : 2 ≤ n) (h : n ≤ 256) (hi : i < r.length) (hil : i < l.length) (h100 : l.length ≤ 100000) (ht : t < n) (hr : rd r (i : Nat) = (lvlN n t : Int)) (hun : dither_Units.f (rd l (i : Nat)) = some un) (x8 : Int) (F : Nat) :
    ∀ m j, j + m = t → halidelaw13_DitherKeeps.l1 (2 * m + 4 + F) n x8 (i : Nat) false (j : Nat) W H l a b r = halidelaw13_DitherKeeps.l0 F n (wrap64 (wrap64 (x8 - (U n t : Int)) + un)) ((i + 1 : Nat) : Int) W H l a b r
  | 0, j, hj => by
    obtain rfl : j = t := by omega
    rw [show 2 * 0 + 4 + F = (F + 3) + 1 by omega, halidelaw13_DitherKeeps.l1, if_pos (by omega)]
    show halidelaw13_DitherKeeps.j4 (F + 3) n x8 (i : Nat) false (j : Nat) true W H l a b r = _
    rw [halidelaw13_DitherKeeps.j4, if_pos rfl, level_some n j h2 h ht, Option.bind_some, if_pos rfl, if_pos (by omega), if_pos (by omega), hr, if_pos rfl, Unit_some n j h2 h ht, Option.bind_some, halidelaw13_DitherKeeps.l1]
    have e : ∀ (c : Prop) [Decidable c] (x : Option Bool), (if c then halidelaw13_DitherKeeps.j4 (F + 1) n (wrap64 (x8 - (U n j : Int))) (i : Nat) true (wrap64 ((j : Int) + 1)) (!true) W H l a b r else halidelaw13_DitherKeeps.j4 (F + 1) n (wrap64 (x8 - (U n j : Int))) (i : Nat) true (wrap64 ((j : Int) + 1)) false W H l a b r) = halidelaw13_DitherKeeps.j4 (F + 1) n (wrap64 (x8 - (U n j : Int))) (i : Nat) true (wrap64 ((j : Int) + 1)) false W H l a b r := by
      intro c _ x
      split <;> rfl
    refine (e _ none).trans ?_
    rw [halidelaw13_DitherKeeps.j4, if_neg (by decide), if_pos rfl, if_pos (by omega), if_pos (by omega), hun, Option.bind_some, w_succ i (by omega)]
  | m + 1, j, hj => by
    rw [show 2 * (m + 1) + 4 + F = (2 * m + 4 + F + 1) + 1 by omega, halidelaw13_DitherKeeps.l1, if_pos (by omega)]
    show halidelaw13_DitherKeeps.j4 (2 * m + 4 + F + 1) n x8 (i : Nat) false (j : Nat) true W H l a b r = _
    have hne : ¬((lvlN n j : Int) = (lvlN n t : Int)) := by
      intro e
      have := lvl_inj n j t h2 h (by omega) ht (by exact_mod_cast e)
      omega
    rw [halidelaw13_DitherKeeps.j4, if_pos rfl, level_some n j h2 h (by omega), Option.bind_some, if_pos rfl, if_pos (by omega), if_pos (by omega), hr, if_neg hne, w_succ j (by omega)]
    exact keeps_search n W H a b l r i t un h2 h hi hil h100 ht hr hun x8 F m (j + 1) (by omega)

theorem keeps_loop (n : Nat) (W H a b : Int) (l r : List Int) (h2 : 2 ≤ n) (h : n ≤ 256) (h100 : l.length ≤ 100000) (hl : ∀ s ∈ l, 0 ≤ s ∧ s < 4294967296) (hrl : r.length = l.length) :
    ∀ (kr : List Nat) (i : Nat) (T : Int) (F : Nat), i + kr.length = l.length → (∀ k ∈ kr, k < n) → (∀ j, j < kr.length → r.getD (i + j) 0 = (lvlN n (kr.getD j 0) : Int)) → eqm (T + sumF (un1 l) i kr.length - sumK n kr) 0 → 600 * kr.length + 1 ≤ F →
      halidelaw13_DitherKeeps.l0 F n (wrap64 T) (i : Nat) W H l a b r = some true
  | [], i, T, F, hi, hk, hr, he, hF => by
    obtain ⟨F, rfl⟩ : ∃ q, F = q + 1 := ⟨F - 1, by omega⟩
    rw [List.length_nil] at hi he
    rw [halidelaw13_DitherKeeps.l0, if_neg (by omega)]
    rw [sumF, sumK] at he
    have : wrap64 T = wrap64 0 := wrap_congr (by obtain ⟨q, he⟩ := he; exact ⟨q, by omega⟩)
    rw [this, w64 0 (by omega) (by omega)]
    rfl
  | k :: kr, i, T, F, hi, hk, hr, he, hF => by
    rw [List.length_cons] at hi he hF
    have hkn := hk k List.mem_cons_self
    obtain ⟨F, rfl⟩ : ∃ q, F = (2 * k + 4 + q) + 1 := ⟨F - (2 * k + 4) - 1, by omega⟩
    rw [halidelaw13_DitherKeeps.l0, if_pos (by omega)]
    have hs := getD_ok hl i
    have hrd : rd l (i : Nat) = l.getD i 0 := by unfold rd; rw [Int.toNat_natCast]
    have hrr : rd r (i : Nat) = (lvlN n k : Int) := by
      have := hr 0 (by rw [List.length_cons]; omega)
      unfold rd
      rw [Int.toNat_natCast]
      simpa using this
    have hun : dither_Units.f (rd l (i : Nat)) = some (un1 l i) := by rw [hrd]; exact units_some _ hs.1 hs.2
    have hse := keeps_search n W H a b l r i k (un1 l i) h2 h (by omega) (by omega) h100 hkn hrr hun (wrap64 T) F k 0 (by omega)
    refine Eq.trans hse ?_
    have hw : wrap64 (wrap64 (wrap64 T - (U n k : Int)) + un1 l i) = wrap64 (T - (U n k : Int) + un1 l i) :=
      wrap_congr (((wrap_eqm _).trans ((wrap_eqm T).sub (eqm.refl _))).add (eqm.refl _))
    rw [hw]
    refine keeps_loop n W H a b l r h2 h h100 hl hrl kr (i + 1) _ F (by omega) (fun j hj => hk j (List.mem_cons_of_mem _ hj)) (fun j hj => ?_) ?_ (by omega)
    · have := hr (j + 1) (by rw [List.length_cons]; omega)
      rw [show i + (j + 1) = i + 1 + j by omega] at this
      simpa using this
    · rw [sumF, sumK] at he
      obtain ⟨q, he⟩ := he
      exact ⟨q, by omega⟩

namespace KE
theorem law (a b : Int) (l : List Int) (n : Int) (w0 : (Lit.int .i64 a).wf = true) (w1 : (Lit.int .i64 b).wf = true) (hw : ∀ s ∈ l, (Lit.int .u32 s).wf = true) (w3 : (Lit.int .i64 n).wf = true) : ∃ k, halidelaw13_DitherKeeps.f k a b l n = some true := by
  refine ⟨3000000, ?_⟩
  have hl := u32_all hw
  clear hw w0 w1 w3
  unfold halidelaw13_DitherKeeps.f
  rw [known_up 3000000 (by omega), Option.bind_some, if_pos rfl]
  have out : halidelaw13_DitherKeeps.j0 3000000 n true a b l = some true := by
    rw [show (3000000 : Nat) = 2999999 + 1 from rfl, halidelaw13_DitherKeeps.j0, if_pos rfl]
  obtain ⟨t, ht⟩ := few_some a b l
  rw [ht, Option.bind_some]
  cases t with
  | false => rw [if_neg (by decide)]; exact out
  | true =>
  obtain ⟨m, hm⟩ := may_some a b l
  obtain ⟨h5, h4⟩ := few_true hm ht
  rw [if_pos rfl, hm, Option.bind_some]
  by_cases hm0 : m = 0
  · subst hm0
    rw [if_pos rfl]
    by_cases hn : n < 2
    · rw [if_pos hn]; exact out
    rw [if_neg hn]
    by_cases hn2 : n > 256
    · rw [show decide (n > 256) = true from decide_eq_true hn2]; exact out
    rw [show decide (n > 256) = false from decide_eq_false hn2]
    clear out
    have hc : plane_Check.f a b l = some 0 := hm
    have hz := check_zero hc
    obtain ⟨n, rfl⟩ := Int.eq_ofNat_of_zero_le (show 0 ≤ n by omega)
    obtain ⟨W, rfl⟩ := Int.eq_ofNat_of_zero_le (show 0 ≤ a by omega)
    obtain ⟨H, rfl⟩ := Int.eq_ofNat_of_zero_le (show 0 ≤ b by omega)
    have hlen : l.length = W * H := by
      have := hz.2.2.2.2.2
      exact_mod_cast this
    have h9 : l.length ≤ 4096 := h4 rfl
    obtain ⟨fallen, ks, hd, hkl, hkn, he⟩ := diffuse_good n W H l (by omega) (by omega) hc hl
    rw [Nat.mul_comm, ← hlen] at hkl he
    rw [show (3000000 : Nat) = 2999999 + 1 from rfl, halidelaw13_DitherKeeps.j0, if_neg (by decide), copy_eq _ _ l (by omega), Option.bind_some]
    show (dither_Diffuse.f W H l n).bind _ = _
    rw [hd, Option.bind_some, if_pos rfl, if_pos rfl, if_pos rfl]
    have hml : (ks.map (fun k => (lvlN n k : Int))).length = l.length := by rw [List.length_map, hkl]
    have hb : (((ks.map (fun k => (lvlN n k : Int))).length : Int) != (l.length : Int)) = false := by rw [hml]; simp
    show halidelaw13_DitherKeeps.j1 2999999 n fallen (((ks.map (fun k => (lvlN n k : Int))).length : Int) != (l.length : Int)) W H l W H (ks.map (fun k => (lvlN n k : Int))) = _
    rw [hb, show (2999999 : Nat) = 2999998 + 1 from rfl, halidelaw13_DitherKeeps.j1, if_neg (by decide)]
    refine keeps_loop n W H W H l _ (by omega) (by omega) (by omega) hl hml ks 0 (-fallen) 2999998 (by omega) hkn (fun j hj => ?_) ?_ (by omega)
    · rw [Nat.zero_add, List.getD_eq_getElem?_getD, List.getElem?_map, List.getD_eq_getElem?_getD, List.getElem?_eq_getElem hj]
      rfl
    · rw [hkl]
      obtain ⟨q, he⟩ := he
      exact ⟨-q, by omega⟩
  · rw [if_neg hm0]; exact out
end KE
end Go.Proofs.Ytmipbbkieadecaa
