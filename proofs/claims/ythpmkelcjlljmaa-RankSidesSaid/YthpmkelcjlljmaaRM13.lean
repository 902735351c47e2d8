/- RankSides: the plain law. -/
import Derived.Test.YthpmkelcjlljmaaRM12
import Derived.Test.YthpmkelcjlljmaaRMK
import Derived.Test.YthpmkelcjlljmaaPRIx1
open Go Go.RowKit Go.Proofs.YthpmkelcjlljmaaW.PrintWords Go.Proofs.YthpmkelcjlljmaaW.PrintLast Go.Proofs.YthpmkelcjlljmaaW.PrintMore
set_option linter.unusedVariables false
set_option linter.unusedSimpArgs false
namespace Go.Proofs.Ythpmkelcjlljmaa
open PRA PRB PRK PRI
namespace SI
theorem law (a b : Int) (l : List Int) (bk w h : Int) (_ : (Lit.int .i64 a).wf = true) (_ : (Lit.int .i64 b).wf = true) (hw : ∀ x ∈ l, (Lit.int .u32 x).wf = true) (_ : (Lit.int .i64 bk).wf = true) (_ : (Lit.int .i64 w).wf = true) (_ : (Lit.int .i64 h).wf = true) :
    ∃ k, halidelaw12_RankSides.f k a b l bk w h = some true := by
  refine ⟨10001, ?_⟩
  have hu := u32_all hw
  unfold halidelaw12_RankSides.f
  rw [known_up 10001 (by omega), Option.bind_some, if_pos rfl]
  unfold halidelaw12_small.f
  by_cases hl : (l.length : Int) ≤ 2000
  rotate_left
  · rw [if_neg hl]; rfl
  rw [if_pos hl]
  by_cases ha : a ≤ 4000
  rotate_left
  · rw [if_neg ha]; rfl
  rw [if_pos ha]
  by_cases hb : b ≤ 4000
  rotate_left
  · rw [decide_eq_false hb]; rfl
  rw [decide_eq_true hb, Option.bind_some, if_pos rfl]
  have key : ∀ e, rank_window_check.f 10001 a b l bk w h (kOf (fun _ => 0) w h) = some e → rank_window_check.f 10001 a b l bk w h (kOf (fun n => wrap64 (n - 1)) w h) = some e → e ≠ 0 →
      ((rank_Erode.f 10001 a b l bk w h).bind fun bt104 => ((rank_Dilate.f 10001 a b l bk w h).bind fun bt111 => (if bt104.2.2.2 = 0 then (halidelaw12_RankSides.j0 10001 bk w h bt104.2.2.2 bt111.2.2.2 (bt111.2.2.2 != 0) a b l bt104.1 bt104.2.1 bt104.2.2.1 bt111.1 bt111.2.1 bt111.2.2.1) else (halidelaw12_RankSides.j0 10001 bk w h bt104.2.2.2 bt111.2.2.2 true a b l bt104.1 bt104.2.1 bt104.2.2.1 bt111.1 bt111.2.1 bt111.2.2.1)))) = some true := by
    intro e h1 h2 he
    have g1 : rank_Erode.f 10001 a b l bk w h = some (0, 0, [], e) := plane_bad _ _ _ _ _ _ _ _ _ h1 he
    have g2 : rank_Dilate.f 10001 a b l bk w h = some (0, 0, [], e) := plane_bad _ _ _ _ _ _ _ _ _ h2 he
    rw [g1, Option.bind_some, g2, Option.bind_some, if_neg he, halidelaw12_RankSides.j0, if_pos rfl]
    simp
  have hlast : 1 ≤ w ∧ 1 ≤ h ∧ w ≤ 15 ∧ h ≤ 15 → 0 ≤ kOf (fun n => wrap64 (n - 1)) w h ∧ kOf (fun n => wrap64 (n - 1)) w h < w * h := by
    intro hf
    rw [last_place w h hf]
    have h1 : 0 < w * h := Int.mul_pos (by omega) (by omega)
    generalize w * h = x at *
    omega
  rcases check_cases a b l with ⟨e0, hc, he⟩ | ⟨W, H, rfl, rfl, hW1, hW, hH1, hH, hWH, hlen, hc⟩
  · have c1 := check_any 10001 (by omega) a b l bk w h (kOf (fun _ => 0) w h) e0 hc (zero_place w h)
    have c2 := check_any 10001 (by omega) a b l bk w h (kOf (fun n => wrap64 (n - 1)) w h) e0 hc hlast
    rw [if_pos he] at c1 c2
    exact key e0 c1 c2 he
  · have c1 := check_any 10001 (by omega) W H l bk w h (kOf (fun _ => 0) w h) 0 hc (zero_place w h)
    have c2 := check_any 10001 (by omega) W H l bk w h (kOf (fun n => wrap64 (n - 1)) w h) 0 hc hlast
    rw [if_neg (show ¬((0 : Int) ≠ 0) by simp)] at c1 c2
    by_cases hf : 1 ≤ w ∧ 1 ≤ h ∧ w ≤ 15 ∧ h ≤ 15
    rotate_left
    · rw [if_neg hf] at c1 c2
      exact key 120 c1 c2 (by decide)
    rw [if_pos hf] at c1 c2
    by_cases hk : 1 ≤ bk ∧ bk ≤ 3
    rotate_left
    · rw [if_neg hk] at c1 c2
      exact key 53 c1 c2 (by decide)
    clear c1 c2 key
    obtain ⟨w, rfl⟩ := Int.eq_ofNat_of_zero_le (show 0 ≤ w by omega)
    obtain ⟨h, rfl⟩ := Int.eq_ofNat_of_zero_le (show 0 ≤ h by omega)
    have hw1 : 1 ≤ w := by omega
    have hh1 : 1 ≤ h := by omega
    have hw15 : w ≤ 15 := by omega
    have hh15 : h ≤ 15 := by omega
    have hl2 : l.length ≤ 2000 := by omega
    have hsz : H * (W + 2) + 1 ≤ 10000 := by
      have : H * (W + 2) = W * H + 2 * H := by rw [Nat.mul_add, Nat.mul_comm H W, Nat.mul_comm H 2]
      omega
    have hwh : 0 < w * h := Nat.mul_pos hw1 hh1
    have hwb : w * h ≤ 15 * 15 := Nat.mul_le_mul hw15 hh15
    have sized : ∀ l' : List Int, l'.length = W * H → plane_Check.f W H l' = some 0 := fun l' h' => by rw [check_len _ _ l' l (by rw [h', hlen])]; exact hc
    have one1 : ∀ w' h' : Nat, 1 ≤ w' → 1 ≤ h' → w' ≤ 15 → h' ≤ 15 → kOf (fun _ => 0) (w' : Int) (h' : Int) = ((0 : Nat) : Int) := fun w' h' q1 q2 q3 q4 => kOf_fine _ _ _ ⟨by omega, by omega, by omega, by omega⟩
    have one2 : ∀ w' h' : Nat, 1 ≤ w' → 1 ≤ h' → w' ≤ 15 → h' ≤ 15 → kOf (fun n => wrap64 (n - 1)) (w' : Int) (h' : Int) = ((w' * h' - 1 : Nat) : Int) := fun w' h' q1 q2 q3 q4 => by
      rw [last_place _ _ ⟨by omega, by omega, by omega, by omega⟩]
      have : 0 < w' * h' := Nat.mul_pos q1 q2
      rw [show (w' : Int) * (h' : Int) = ((w' * h' : Nat) : Int) by push_cast; rfl]
      generalize w' * h' = x at *
      omega
    have er : ∀ (K : Nat) (l' : List Int) (w' h' : Nat), 10000 ≤ K → l'.length = W * H → U32 l' → 1 ≤ w' → 1 ≤ h' → w' ≤ 15 → h' ≤ 15 → rank_Erode.f K W H l' bk w' h' = some ((W : Int), (H : Int), allP bk W H l' w' h' 0 0 0 W H 0, 0) := by
      intro K l' w' h' hK h1 h2 q1 q2 q3 q4
      unfold rank_Erode.f
      rw [one1 w' h' q1 q2 q3 q4]
      exact plane_fine K bk W H l' w' h' 0 (sized l' h1) hk hW1 hW hH1 hH h1 q1 q2 q3 q4 (Nat.mul_pos q1 q2) h2 (by omega) (by omega)
    have di : ∀ (K : Nat) (l' : List Int) (w' h' : Nat), 10000 ≤ K → l'.length = W * H → U32 l' → 1 ≤ w' → 1 ≤ h' → w' ≤ 15 → h' ≤ 15 → rank_Dilate.f K W H l' bk w' h' = some ((W : Int), (H : Int), allP bk W H l' w' h' (w' * h' - 1) 0 0 W H 0, 0) := by
      intro K l' w' h' hK h1 h2 q1 q2 q3 q4
      unfold rank_Dilate.f
      rw [one2 w' h' q1 q2 q3 q4]
      exact plane_fine K bk W H l' w' h' (w' * h' - 1) (sized l' h1) hk hW1 hW hH1 hH h1 q1 q2 q3 q4 (Nat.sub_lt (Nat.mul_pos q1 q2) (by omega)) h2 (by omega) (by omega)
    have lenP : ∀ l' w' h' k', (allP bk W H l' w' h' k' 0 0 W H 0).length = W * H := fun l' w' h' k' => by rw [allP_length, Nat.mul_comm]
    obtain ⟨s1, s2⟩ := sides_plane bk W H l w h hW hH1 hH hw1 hh1 hu
    rw [er 10001 l w h (by omega) hlen hu hw1 hh1 hw15 hh15, Option.bind_some, di 10001 l w h (by omega) hlen hu hw1 hh1 hw15 hh15, Option.bind_some, if_pos rfl]
    rw [halidelaw12_RankSides.j0, if_neg (show ¬((((0 : Int)) != 0) = true) from by decide)]
    have E1 := er 10000 l w 1 (by omega) hlen hu hw1 (by omega) hw15 (by omega)
    have D1 := di 10000 l w 1 (by omega) hlen hu hw1 (by omega) hw15 (by omega)
    have E2 := er 10000 (allP bk W H l w 1 0 0 0 W H 0) 1 h (by omega) (lenP _ _ _ _) (allP_u32 _ _ _ _ _ _ _ _ _ _ hu _ _) (by omega) hh1 (by omega) hh15
    have D2 := di 10000 (allP bk W H l w 1 (w * 1 - 1) 0 0 W H 0) 1 h (by omega) (lenP _ _ _ _) (allP_u32 _ _ _ _ _ _ _ _ _ _ hu _ _) (by omega) hh1 (by omega) hh15
    rw [show ((1 : Nat) : Int) = 1 from rfl] at E1 D1 E2 D2
    rw [s1] at E2
    rw [Nat.mul_one, Nat.one_mul, s2] at D2
    rw [Nat.mul_one] at D1
    rw [E1, Option.bind_some, E2, Option.bind_some, D1, Option.bind_some, D2, Option.bind_some, if_pos (show wrap64 (wrap64 (wrap64 ((0 : Int) + 0) + 0) + 0) = 0 from by simp [wrap64]), planes_eq _ _ _ _ (by rw [lenP]; omega) (by rw [lenP]; omega), Option.bind_some, if_pos rfl, planes_eq _ _ _ _ (by rw [lenP]; omega) (by rw [lenP]; omega)]
    rfl
end SI
end Go.Proofs.Ythpmkelcjlljmaa
