import Derived.Test.YthpmkelcjlljmaaXRM5
open Go Go.RowKit Go.Proofs.YthpmkelcjlljmaaW.PrintWords Go.Proofs.YthpmkelcjlljmaaW.PrintLast Go.Proofs.YthpmkelcjlljmaaW.PrintMore
set_option linter.unusedVariables false
set_option linter.unusedSimpArgs false
namespace Go.Proofs.Ythpmkelcjlljmaa
open PRA PRB

theorem upF {α : Type} (f : Nat → Option α) (h : ∀ k, LeO (f k) (f (k + 1))) {k m : Nat} {v : α} (hv : f k = some v) (hk : k ≤ m) : f m = some v := by
  obtain ⟨d, rfl⟩ : ∃ d, m = k + d := ⟨m - k, by omega⟩
  clear hk
  induction d with
  | zero => exact hv
  | succ d ih => exact h _ _ ih
theorem check_fine (K : Nat) (a b : Int) (l : List Int) (bk : Int) (w h k : Nat) (hc : Bx.f a b l = some 0) (hk : 1 ≤ bk ∧ bk ≤ 3) (hw1 : 1 ≤ w) (hh1 : 1 ≤ h) (hw : w ≤ 15) (hh : h ≤ 15) (hkw : k < w * h) (hK : 5 ≤ K) :
    Ax.f K a b l bk w h k = some 0 := by
  obtain ⟨K, rfl⟩ : ∃ q, K = q + 1 := ⟨K - 1, by omega⟩
  have hwh : w * h ≤ 15 * 15 := Nat.mul_le_mul hw hh
  have e : wrap64 ((w : Int) * (h : Int)) = ((w * h : Nat) : Int) := by
    rw [show (w : Int) * (h : Int) = ((w * h : Nat) : Int) by push_cast; rfl]
    generalize w * h = x at *
    exact wd _ (by omega) (by omega)
  unfold Ax.f
  rw [hc, Option.bind_some, if_pos rfl, if_neg (by omega), if_neg (by omega), if_neg (by omega), decide_eq_false (by omega), Ax.j0, if_neg (by decide), if_neg (by omega), e, if_neg (by omega)]
  have hb := border_eq bk 1 0 hk (by omega) (by omega) K (by omega)
  rw [show ((1 : Nat) : Int) = 1 from rfl] at hb
  rw [hb]
  rfl
theorem plane_fine (K : Nat) (bk : Int) (W H : Nat) (l : List Int) (w h k : Nat) (hc : Bx.f W H l = some 0) (hk : 1 ≤ bk ∧ bk ≤ 3) (hW1 : 1 ≤ W) (hW : W ≤ 1024) (hH1 : 1 ≤ H) (hH : H ≤ 1024) (hl : l.length = W * H)
    (hw1 : 1 ≤ w) (hh1 : 1 ≤ h) (hw : w ≤ 15) (hh : h ≤ 15) (hkw : k < w * h) (hu : ∀ s ∈ l, 0 ≤ s ∧ s < 4294967296) (hK : H * (W + 2) + 1 ≤ K) (hK5 : 5 ≤ K) :
    Bi.f K W H l bk w h k = some ((W : Int), (H : Int), allP bk W H l w h k 0 0 W H 0, 0) := by
  unfold Bi.f
  rw [check_fine K W H l bk w h k hc hk hw1 hh1 hw hh hkw hK5, Option.bind_some, if_pos rfl]
  have hHW : H * W ≤ 1024 * 1024 := Nat.mul_le_mul hH hW
  have h1 := part_rows bk W H l w h k 0 0 W H W H hk hW1 hW hH1 hH hl hw hh hkw hu (by omega) (by omega) hW hH H 0 [] (by omega) (by rw [List.length_nil, Nat.zero_add]; exact Nat.le_trans hHW (by decide))
  have h2 : Aw.f (H * (W + 2) + 1) W H l bk w h k 0 0 W H = some ((W : Int), (H : Int), allP bk W H l w h k 0 0 W H 0) := by
    unfold Aw.f
    have e1 : wrap64 ((W : Int) - 0) = (W : Int) := by rw [Int.sub_zero]; exact wd _ (by omega) (by omega)
    have e2 : wrap64 ((H : Int) - 0) = (H : Int) := by rw [Int.sub_zero]; exact wd _ (by omega) (by omega)
    rw [e1, e2]
    exact h1
  rw [upF (fun K => Aw.f K W H l bk w h k 0 0 W H) (fun K => Aw.mono _ _ _ _ _ _ _ _ _ _ _ K) h2 hK, Option.bind_some]
end Go.Proofs.Ythpmkelcjlljmaa

