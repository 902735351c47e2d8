import Derived.Test.YtbfimplajocmmaaYRM8
import Derived.Test.YtbfimplajocmmaaYPRBx1
section
open Go Go.RowKit Go.Proofs.YtbfimplajocmmaaW.PrintWords Go.Proofs.YtbfimplajocmmaaW.PrintLast Go.Proofs.YtbfimplajocmmaaW.PrintMore
set_option linter.unusedVariables false
set_option linter.unusedSimpArgs false
namespace Go.Proofs.Ytbfimplajocmmaa
open PFA PRA PRB

def rowP (bk : Int) (W H : Nat) (l : List Int) (w h k X0 y : Nat) : Nat → Nat → List Int
  | 0, _ => []
  | m + 1, i => atV bk W H l w h k ((X0 + i : Nat) : Int) (y : Int) :: rowP bk W H l w h k X0 y m (i + 1)
def allP (bk : Int) (W H : Nat) (l : List Int) (w h k X0 Y0 n : Nat) : Nat → Nat → List Int
  | 0, _ => []
  | m + 1, j => rowP bk W H l w h k X0 (Y0 + j) n 0 ++ allP bk W H l w h k X0 Y0 n m (j + 1)
theorem rowP_length (bk : Int) (W H : Nat) (l : List Int) (w h k X0 y : Nat) : ∀ m i, (rowP bk W H l w h k X0 y m i).length = m
  | 0, i => rfl
  | m + 1, i => by rw [rowP, List.length_cons, rowP_length bk W H l w h k X0 y m]
theorem part_row (bk : Int) (W H : Nat) (l : List Int) (w h k X0 Y0 X1 Y1 n m2 j : Nat) (hk : 1 ≤ bk ∧ bk ≤ 3) (hW1 : 1 ≤ W) (hW : W ≤ 1024) (hH1 : 1 ≤ H) (hH : H ≤ 1024) (hl : l.length = W * H)
    (hw : w ≤ 15) (hh : h ≤ 15) (hkw : k < w * h) (hu : ∀ s ∈ l, 0 ≤ s ∧ s < 4294967296) (hX : X0 ≤ 1024) (hY : Y0 ≤ 1024) (hj : j ≤ 1024) (hn : n ≤ 1024) (F : Nat) : ∀ m i (acc : List Int), i + m = n → acc.length + m ≤ 100000000 →
    Ba.l1 (m + 1 + F) k j m2 j n (i : Nat) W H l bk w h (X0 : Nat) (Y0 : Nat) (X1 : Nat) (Y1 : Nat) n m2 acc =
      Ba.l0 F k m2 ((j + 1 : Nat) : Int) W H l bk w h (X0 : Nat) (Y0 : Nat) (X1 : Nat) (Y1 : Nat) n m2 (acc ++ rowP bk W H l w h k X0 (Y0 + j) m i)
  | 0, i, acc, hi, ha => by
    rw [show 0 + 1 + F = F + 1 by omega, Ba.l1, if_neg (by omega), rowP, List.append_nil]; rw [wd ((j : Int) + 1) (by omega) (by omega)]; rfl
  | m + 1, i, acc, hi, ha => by
    have e1 : wrap64 ((X0 : Int) + (i : Int)) = ((X0 + i : Nat) : Int) := by rw [wd _ (by omega) (by omega)]; omega
    have e2 : wrap64 ((Y0 : Int) + (j : Int)) = ((Y0 + j : Nat) : Int) := by rw [wd _ (by omega) (by omega)]; omega
    have e3 : wrap64 ((i : Int) + 1) = ((i + 1 : Nat) : Int) := by rw [wd _ (by omega) (by omega)]; omega
    rw [show m + 1 + 1 + F = (m + 1 + F) + 1 by omega, Ba.l1, if_pos (by omega), e1, e2, at_eq bk W H l w h k _ _ hk hW1 hW hH1 hH hl hw hh hkw hu, Option.bind_some, if_pos (by omega), e3]; clear e1 e2 e3; rw [part_row bk W H l w h k X0 Y0 X1 Y1 n m2 j hk hW1 hW hH1 hH hl hw hh hkw hu hX hY hj hn F m (i + 1) (acc ++ [atV bk W H l w h k ((X0 + i : Nat) : Int) ((Y0 + j : Nat) : Int)]) (by omega) (by rw [List.length_append, List.length_singleton]; omega), rowP, List.append_assoc]; rfl
theorem part_rows (bk : Int) (W H : Nat) (l : List Int) (w h k X0 Y0 X1 Y1 n m2 : Nat) (hk : 1 ≤ bk ∧ bk ≤ 3) (hW1 : 1 ≤ W) (hW : W ≤ 1024) (hH1 : 1 ≤ H) (hH : H ≤ 1024) (hl : l.length = W * H)
    (hw : w ≤ 15) (hh : h ≤ 15) (hkw : k < w * h) (hu : ∀ s ∈ l, 0 ≤ s ∧ s < 4294967296) (hX : X0 ≤ 1024) (hY : Y0 ≤ 1024) (hn : n ≤ 1024) (hm2 : m2 ≤ 1024) : ∀ m j (acc : List Int), j + m = m2 → acc.length + m * n ≤ 90000000 →
    Ba.l0 (m * (n + 2) + 1) k m2 (j : Nat) W H l bk w h (X0 : Nat) (Y0 : Nat) (X1 : Nat) (Y1 : Nat) n m2 acc = some ((n : Int), (m2 : Int), acc ++ allP bk W H l w h k X0 Y0 n m j)
  | 0, j, acc, hj, ha => by
    rw [show 0 * (n + 2) + 1 = 0 + 1 by omega, Ba.l0, if_neg (by omega), allP, List.append_nil]
  | m + 1, j, acc, hj, ha => by
    rw [Nat.succ_mul] at ha; rw [show (m + 1) * (n + 2) + 1 = (n + 1 + (m * (n + 2) + 1)) + 1 by rw [Nat.succ_mul]; omega, Ba.l0, if_pos (by omega)]; have h1 := part_row bk W H l w h k X0 Y0 X1 Y1 n m2 j hk hW1 hW hH1 hH hl hw hh hkw hu hX hY (by omega) hn (m * (n + 2) + 1) n 0 acc (by omega) (by omega); refine Eq.trans h1 ?_; rw [part_rows bk W H l w h k X0 Y0 X1 Y1 n m2 hk hW1 hW hH1 hH hl hw hh hkw hu hX hY hn hm2 m (j + 1) _ (by omega) (by rw [List.length_append, rowP_length]; omega), allP, List.append_assoc]
end Go.Proofs.Ytbfimplajocmmaa
end
section
open Go Go.RowKit Go.Proofs.YtbfimplajocmmaaW.PrintWords Go.Proofs.YtbfimplajocmmaaW.PrintLast Go.Proofs.YtbfimplajocmmaaW.PrintMore
set_option linter.unusedVariables false
set_option linter.unusedSimpArgs false
namespace Go.Proofs.Ytbfimplajocmmaa
open PFA PRA PRB

theorem upF {α : Type} (f : Nat → Option α) (h : ∀ k, LeO (f k) (f (k + 1))) {k m : Nat} {v : α} (hv : f k = some v) (hk : k ≤ m) : f m = some v := by
  obtain ⟨d, rfl⟩ : ∃ d, m = k + d := ⟨m - k, by omega⟩; clear hk
  induction d with
  | zero => exact hv
  | succ d ih => exact h _ _ ih
theorem check_fine (K : Nat) (a b : Int) (l : List Int) (bk : Int) (w h k : Nat) (hc : Ce.f a b l = some 0) (hk : 1 ≤ bk ∧ bk ≤ 3) (hw1 : 1 ≤ w) (hh1 : 1 ≤ h) (hw : w ≤ 15) (hh : h ≤ 15) (hkw : k < w * h) (hK : 5 ≤ K) :
    Bs.f K a b l bk w h k = some 0 := by
  obtain ⟨K, rfl⟩ : ∃ q, K = q + 1 := ⟨K - 1, by omega⟩; have hwh : w * h ≤ 15 * 15 := Nat.mul_le_mul hw hh
  have e : wrap64 ((w : Int) * (h : Int)) = ((w * h : Nat) : Int) := by
    rw [show (w : Int) * (h : Int) = ((w * h : Nat) : Int) by push_cast; rfl]; generalize w * h = x at *; exact wd _ (by omega) (by omega)
  unfold Bs.f; rw [hc, Option.bind_some, if_pos rfl, if_neg (by omega), if_neg (by omega), if_neg (by omega), decide_eq_false (by omega), Bs.j0, if_neg (by decide), if_neg (by omega), e, if_neg (by omega)]; have hb := border_eq bk 1 0 hk (by omega) (by omega) K (by omega); rw [show ((1 : Nat) : Int) = 1 from rfl] at hb; rw [hb]; rfl
theorem plane_fine (K : Nat) (bk : Int) (W H : Nat) (l : List Int) (w h k : Nat) (hc : Ce.f W H l = some 0) (hk : 1 ≤ bk ∧ bk ≤ 3) (hW1 : 1 ≤ W) (hW : W ≤ 1024) (hH1 : 1 ≤ H) (hH : H ≤ 1024) (hl : l.length = W * H)
    (hw1 : 1 ≤ w) (hh1 : 1 ≤ h) (hw : w ≤ 15) (hh : h ≤ 15) (hkw : k < w * h) (hu : ∀ s ∈ l, 0 ≤ s ∧ s < 4294967296) (hK : H * (W + 2) + 1 ≤ K) (hK5 : 5 ≤ K) :
    Cw.f K W H l bk w h k = some ((W : Int), (H : Int), allP bk W H l w h k 0 0 W H 0, 0) := by
  unfold Cw.f; rw [check_fine K W H l bk w h k hc hk hw1 hh1 hw hh hkw hK5, Option.bind_some, if_pos rfl]; have hHW : H * W ≤ 1024 * 1024 := Nat.mul_le_mul hH hW; have h1 := part_rows bk W H l w h k 0 0 W H W H hk hW1 hW hH1 hH hl hw hh hkw hu (by omega) (by omega) hW hH H 0 [] (by omega) (by rw [List.length_nil, Nat.zero_add]; exact Nat.le_trans hHW (by decide))
  have h2 : Ba.f (H * (W + 2) + 1) W H l bk w h k 0 0 W H = some ((W : Int), (H : Int), allP bk W H l w h k 0 0 W H 0) := by
    unfold Ba.f; have e1 : wrap64 ((W : Int) - 0) = (W : Int) := by rw [Int.sub_zero]; exact wd _ (by omega) (by omega)
    have e2 : wrap64 ((H : Int) - 0) = (H : Int) := by rw [Int.sub_zero]; exact wd _ (by omega) (by omega)
    rw [e1, e2]; exact h1
  rw [upF (fun K => Ba.f K W H l bk w h k 0 0 W H) (fun K => Ba.mono _ _ _ _ _ _ _ _ _ _ _ K) h2 hK, Option.bind_some]
end Go.Proofs.Ytbfimplajocmmaa
end
section
open Go Go.RowKit
set_option linter.unusedVariables false
set_option linter.unusedSimpArgs false
namespace Go.Proofs.Ytbfimplajocmmaa

theorem allP_length (bk : Int) (W H : Nat) (l : List Int) (w h k X0 Y0 n : Nat) : ∀ m j, (allP bk W H l w h k X0 Y0 n m j).length = m * n
  | 0, j => by rw [allP, Nat.zero_mul]; rfl
  | m + 1, j => by rw [allP, List.length_append, rowP_length, allP_length bk W H l w h k X0 Y0 n m, Nat.succ_mul]; omega
theorem atV_u32 (bk : Int) (W H : Nat) (l : List Int) (w h k : Nat) (c r : Int) (hu : U32 l) : 0 ≤ atV bk W H l w h k c r ∧ atV bk W H l w h k c r < 4294967296 := by
  unfold atV win; refine getD_u32 (fun s hs => ?_) k; exact allL_u32 bk W H l _ _ w hu h 0 s ((isrt_perm _).mem_iff.mp hs)
theorem rowP_u32 (bk : Int) (W H : Nat) (l : List Int) (w h k X0 y : Nat) (hu : U32 l) : ∀ m i, U32 (rowP bk W H l w h k X0 y m i)
  | 0, i => fun s hs => by simp [rowP] at hs
  | m + 1, i => fun s hs => by
    rw [rowP] at hs
    rcases List.mem_cons.mp hs with rfl | hs
    · exact atV_u32 bk W H l w h k _ _ hu
    · exact rowP_u32 bk W H l w h k X0 y hu m (i + 1) s hs
theorem allP_u32 (bk : Int) (W H : Nat) (l : List Int) (w h k X0 Y0 n : Nat) (hu : U32 l) : ∀ m j, U32 (allP bk W H l w h k X0 Y0 n m j)
  | 0, j => fun s hs => by simp [allP] at hs
  | m + 1, j => fun s hs => by
    rw [allP] at hs
    rcases List.mem_append.mp hs with hs | hs
    · exact rowP_u32 bk W H l w h k X0 _ hu n 0 s hs
    · exact allP_u32 bk W H l w h k X0 Y0 n hu m (j + 1) s hs
end Go.Proofs.Ytbfimplajocmmaa
end
section
open Go Go.RowKit Go.Proofs.YtbfimplajocmmaaW.PrintWords
set_option linter.unusedVariables false
set_option linter.unusedSimpArgs false
namespace Go.Proofs.Ytbfimplajocmmaa

end Go.Proofs.Ytbfimplajocmmaa
end
