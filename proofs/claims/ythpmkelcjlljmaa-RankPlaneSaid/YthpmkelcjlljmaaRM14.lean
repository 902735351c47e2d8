import Derived.Test.YthpmkelcjlljmaaRM12
import Derived.Test.YthpmkelcjlljmaaRH4
import Derived.Test.YthpmkelcjlljmaaPRDx3
open Go Go.RowKit Go.Proofs.YthpmkelcjlljmaaW.PrintWords Go.Proofs.YthpmkelcjlljmaaW.PrintLast Go.Proofs.YthpmkelcjlljmaaW.PrintMore
set_option linter.unusedVariables false
set_option linter.unusedSimpArgs false
namespace Go.Proofs.Ythpmkelcjlljmaa
open PRA PRB PRD
theorem tmod_mod (i m : Int) (h0 : 0 < m) (h1 : m ≤ 100000) : Int.tmod (wrap64 (Int.tmod i m + m)) m = i % m := by
  have h := rest_mod i m h0 h1
  unfold Cp.f at h
  rw [if_neg (by omega)] at h
  exact Option.some.inj h
theorem ref_j1 (kind : Int) (n : Nat) (i : Int) (hk : 1 ≤ kind ∧ kind ≤ 3) (h1 : 1 ≤ n) (h2 : n ≤ 1024) (k : Nat) : Bc.j1 (k + 1) kind n i false = some ((bdr kind n i : Int), 0) := by
  rw [Bc.j1, if_neg (by decide)]
  have w1 : wrap64 ((n : Int) - 1) = (n : Int) - 1 := wd _ (by omega) (by omega)
  unfold bdr
  by_cases c1 : kind = 1
  · rw [if_pos c1, if_pos c1, w1]
    unfold mn mx
    congr 2
    split <;> split <;> (try split) <;> (try split) <;> omega
  · rw [if_neg c1, if_neg c1]
    by_cases c3 : kind = 3
    · rw [if_pos c3, if_pos c3, if_neg (by omega), tmod_mod i n (by omega) (by omega)]
      have h0 := Int.emod_nonneg i (show (n : Int) ≠ 0 by omega)
      rw [Int.toNat_of_nonneg h0]
    · rw [if_neg c3, if_neg c3]
      by_cases cn : n = 1
      · rw [if_pos (by omega), if_pos cn]; rfl
      · rw [if_neg (by omega), if_neg cn, w1]
        have w2 : wrap64 (2 * ((n : Int) - 1)) = 2 * ((n : Int) - 1) := wd _ (by omega) (by omega)
        rw [w2, if_neg (by omega), tmod_mod i _ (by omega) (by omega)]
        have h0 := Int.emod_nonneg i (show 2 * ((n : Int) - 1) ≠ 0 by omega)
        have h4 := Int.emod_lt_of_pos i (show (0 : Int) < 2 * ((n : Int) - 1) by omega)
        generalize i % (2 * ((n : Int) - 1)) = m at *
        rw [wd (2 * ((n : Int) - 1) - m) (by omega) (by omega)]
        by_cases hm : m < (n : Int)
        · rw [if_pos hm, if_pos (by omega), Int.toNat_of_nonneg h0]
        · rw [if_neg hm, if_neg (by omega), Int.toNat_of_nonneg (by omega)]
theorem refborder_eq (kind : Int) (n : Nat) (i : Int) (hk : 1 ≤ kind ∧ kind ≤ 3) (h1 : 1 ≤ n) (h2 : n ≤ 1024) (k : Nat) (h3 : 3 ≤ k) : Bc.f k kind n i = some ((bdr kind n i : Int), 0) := by
  obtain ⟨k, rfl⟩ : ∃ q, k = q + 2 := ⟨k - 2, by omega⟩
  have h0 : Bc.j0 (k + 2) kind n i false = some ((bdr kind n i : Int), 0) := by
    rw [Bc.j0, if_neg (by decide), if_neg (by omega), decide_eq_false (by omega), ref_j1 kind n i hk h1 h2 k]
  unfold Bc.f
  by_cases c1 : kind = 1
  · rw [if_pos c1, h0]
  · rw [if_neg c1]
    by_cases c2 : kind = 2
    · rw [if_pos c2, h0]
    · rw [if_neg c2, show (kind != 3) = false by simp; omega, h0]
theorem refborder_bad (bk : Int) (hk : ¬(1 ≤ bk ∧ bk ≤ 3)) (n i : Int) (K : Nat) (hK : 1 ≤ K) : Bc.f K bk n i = some (0, 53) := by
  obtain ⟨K, rfl⟩ : ∃ q, K = q + 1 := ⟨K - 1, by omega⟩
  unfold Bc.f
  rw [if_neg (by omega), if_neg (by omega), show (bk != 3) = true by simp; omega, Bc.j0, if_pos rfl]
def chk (e0 bk w h k : Int) : Int :=
  if e0 ≠ 0 then e0 else if 1 ≤ w ∧ 1 ≤ h ∧ w ≤ 15 ∧ h ≤ 15 then (if k < 0 ∨ k ≥ w * h then 121 else if 1 ≤ bk ∧ bk ≤ 3 then 0 else 53) else 120
theorem check_eq (K : Nat) (hK : 6 ≤ K) (a b : Int) (l : List Int) (bk w h k e0 : Int) (hc : B9.f a b l = some e0) : Ay.f K a b l bk w h k = some (chk e0 bk w h k) := by
  by_cases hf : 1 ≤ w ∧ 1 ≤ h ∧ w ≤ 15 ∧ h ≤ 15
  · by_cases hk : 0 ≤ k ∧ k < w * h
    · rw [check_any K hK a b l bk w h k e0 hc (fun _ => hk)]
      unfold chk
      rw [if_pos hf, if_pos hf, if_neg (show ¬(k < 0 ∨ k ≥ w * h) by omega)]
    · obtain ⟨K, rfl⟩ : ∃ q, K = q + 1 := ⟨K - 1, by omega⟩
      unfold Ay.f chk
      rw [hc, Option.bind_some]
      by_cases h0 : e0 = 0
      · subst h0
        have hwh : w * h ≤ 15 * 15 := Int.mul_le_mul hf.2.2.1 hf.2.2.2 (by omega) (by omega)
        have hwp : 0 ≤ w * h := Int.mul_nonneg (by omega) (by omega)
        have e : wrap64 (w * h) = w * h := wd _ (by omega) (by omega)
        rw [if_pos rfl, if_neg (show ¬((0 : Int) ≠ 0) by simp), if_pos hf, if_neg (by omega), if_neg (by omega), if_neg (by omega), decide_eq_false (by omega), Ay.j0, if_neg (by decide), e]
        by_cases h1 : k < 0
        · rw [if_pos h1, if_pos (.inl h1)]
        · rw [if_neg h1, if_pos (by omega), if_pos (by omega)]
      · rw [if_neg h0, if_pos (show e0 ≠ 0 from h0)]
  · rw [check_any K hK a b l bk w h k e0 hc (fun hh => absurd hh hf)]
    unfold chk
    rw [if_neg hf, if_neg hf]
theorem refsize_eq (a b : Int) : Ck.f a b = Cg.f a b := by
  unfold Ck.f Cg.f
  by_cases h1 : a ≥ 1 <;> by_cases h2 : b ≥ 1 <;> by_cases h3 : a ≤ 1024 <;> simp [h1, h2, h3]
theorem refpcheck_eq (a b : Int) (l : List Int) : Cn.f a b l = B9.f a b l := by
  unfold Cn.f B9.f
  rw [refsize_eq]
theorem refcheck_eq (K : Nat) (hK : 6 ≤ K) (a b : Int) (l : List Int) (bk w h k e0 : Int) (hc : B9.f a b l = some e0) : Bf.f K a b l bk w h k = some (chk e0 bk w h k) := by
  obtain ⟨K, rfl⟩ : ∃ q, K = q + 1 := ⟨K - 1, by omega⟩
  unfold Bf.f chk
  rw [refpcheck_eq, hc, Option.bind_some]
  by_cases h0 : e0 = 0
  · subst h0
    rw [if_pos rfl, if_neg (show ¬((0 : Int) ≠ 0) by simp)]
    by_cases hf : 1 ≤ w ∧ 1 ≤ h ∧ w ≤ 15 ∧ h ≤ 15
    · have hwh : w * h ≤ 15 * 15 := Int.mul_le_mul hf.2.2.1 hf.2.2.2 (by omega) (by omega)
      have hwp : 0 ≤ w * h := Int.mul_nonneg (by omega) (by omega)
      have e : wrap64 (w * h) = w * h := wd _ (by omega) (by omega)
      rw [if_pos hf, if_neg (by omega), if_neg (by omega), if_neg (by omega), decide_eq_false (by omega), Bf.j0, if_neg (by decide), e]
      by_cases h1 : k < 0
      · rw [if_pos h1, if_pos (.inl h1)]
      · by_cases h2 : k ≥ w * h
        · rw [if_neg h1, if_pos h2, if_pos (.inr h2)]
        · rw [if_neg h1, if_neg h2, if_neg (by omega)]
          by_cases hb : 1 ≤ bk ∧ bk ≤ 3
          · have h9 := refborder_eq bk 1 0 hb (by omega) (by omega) K (by omega)
            rw [show ((1 : Nat) : Int) = 1 from rfl] at h9
            rw [h9, if_pos hb]; rfl
          · rw [refborder_bad bk hb 1 0 K (by omega), if_neg hb]; rfl
    · rw [if_neg hf]
      by_cases q1 : w < 1
      · rw [if_pos q1, Bf.j0, if_pos rfl]
      · rw [if_neg q1]
        by_cases q2 : h < 1
        · rw [if_pos q2, Bf.j0, if_pos rfl]
        · rw [if_neg q2]
          by_cases q3 : w > 15
          · rw [if_pos q3, Bf.j0, if_pos rfl]
          · rw [if_neg q3, decide_eq_true (by omega), Bf.j0, if_pos rfl]
  · rw [if_neg h0, if_pos (show e0 ≠ 0 from h0)]
theorem half (w : Nat) (h : w ≤ 15) : wrap64 (Int.tdiv (w : Int) 2) = ((w / 2 : Nat) : Int) := by
  rw [show (2 : Int) = ((2 : Nat) : Int) from rfl, ← Int.ofNat_tdiv, wd _ (by omega) (by omega)]
theorem refat_row (bk : Int) (W H : Nat) (l : List Int) (w h k : Nat) (x y x0 : Int) (v j : Nat) (hk : 1 ≤ bk ∧ bk ≤ 3) (hW1 : 1 ≤ W) (hW : W ≤ 1024) (hH : H ≤ 1024) (hv : v < H) (hl : l.length = W * H) (hw : w ≤ 15) (hj : j ≤ 1000)
    (hx : wrap64 (x - ((w / 2 : Nat) : Int)) = x0) (F : Nat) (hF : 3 ≤ F) : ∀ m i (acc : List Int), i + m = w → acc.length + m ≤ 100000 →
    Bm.l1 (m + 1 + F) bk w h k x y acc j v (i : Nat) W H l = Bm.l0 F bk w h k x y (acc ++ rowL bk W l v x0 m i) ((j + 1 : Nat) : Int) W H l
  | 0, i, acc, hi, ha => by
    rw [show 0 + 1 + F = F + 1 by omega, Bm.l1, if_neg (by omega), rowL, List.append_nil, wd ((j : Int) + 1) (by omega) (by omega)]
    rfl
  | m + 1, i, acc, hi, ha => by
    have hb := bdr_lt bk W (wrap64 (x0 + (i : Int))) hW1
    have hq := idx_lt W H v _ hv hb
    rw [show m + 1 + 1 + F = (m + 1 + F) + 1 by omega, Bm.l1, if_pos (by omega), half w hw, hx, refborder_eq bk W _ hk hW1 hW _ (by omega), Option.bind_some]
    dsimp only
    rw [idx_wrap W H v _ hW hH hv hb, if_pos (by omega), if_pos (by omega), if_pos (by omega), wd ((i : Int) + 1) (by omega) (by omega), show ((i : Int) + 1) = ((i + 1 : Nat) : Int) by omega,
      refat_row bk W H l w h k x y x0 v j hk hW1 hW hH hv hl hw hj hx F hF m (i + 1) _ (by omega) (by rw [List.length_append, List.length_singleton]; omega), rowL, List.append_assoc]
    unfold rd
    rw [Int.toNat_natCast]
    rfl
theorem refat_all (bk : Int) (W H : Nat) (l : List Int) (w h k : Nat) (x y x0 y0 : Int) (hk : 1 ≤ bk ∧ bk ≤ 3) (hW1 : 1 ≤ W) (hW : W ≤ 1024) (hH1 : 1 ≤ H) (hH : H ≤ 1024) (hl : l.length = W * H) (hw : w ≤ 15) (hh : h ≤ 15)
    (hx : wrap64 (x - ((w / 2 : Nat) : Int)) = x0) (hy : wrap64 (y - ((h / 2 : Nat) : Int)) = y0) : ∀ m j (acc : List Int), j + m = h → acc.length + m * w ≤ 90000 →
    Bm.l0 (m * (w + 2) + 4) bk w h k x y acc (j : Nat) W H l = ((Cm.f (acc ++ allL bk W H l x0 y0 w m j)).bind fun t102 => (if 0 ≤ (k : Int) then (if (k : Int) < (t102.length : Int) then (some (rd t102 k)) else (none)) else (none)))
  | 0, j, acc, hj, ha => by
    rw [show 0 * (w + 2) + 4 = 3 + 1 by omega, Bm.l0, if_neg (by omega), allL, List.append_nil]
  | m + 1, j, acc, hj, ha => by
    rw [Nat.succ_mul] at ha
    have hb := bdr_lt bk H (wrap64 (y0 + (j : Int))) hH1
    rw [show (m + 1) * (w + 2) + 4 = (w + 1 + (m * (w + 2) + 4)) + 1 by rw [Nat.succ_mul]; omega, Bm.l0, if_pos (by omega), half h hh, hy, refborder_eq bk H _ hk hH1 hH _ (by omega), Option.bind_some]
    dsimp only
    have h1 := refat_row bk W H l w h k x y x0 (bdr bk H (wrap64 (y0 + (j : Int)))) j hk hW1 hW hH hb hl hw (by omega) hx (m * (w + 2) + 4) (by omega) w 0 acc (by omega) (by omega)
    refine Eq.trans h1 ?_
    rw [refat_all bk W H l w h k x y x0 y0 hk hW1 hW hH1 hH hl hw hh hx hy m (j + 1) _ (by omega) (by rw [List.length_append, rowL_length]; omega), allL, List.append_assoc]
theorem refat_eq (bk : Int) (W H : Nat) (l : List Int) (w h k : Nat) (x y : Int) (hk : 1 ≤ bk ∧ bk ≤ 3) (hW1 : 1 ≤ W) (hW : W ≤ 1024) (hH1 : 1 ≤ H) (hH : H ≤ 1024) (hl : l.length = W * H) (hw : w ≤ 15) (hh : h ≤ 15)
    (hkw : k < w * h) (hu : U32 l) (K : Nat) (hK : 300 ≤ K) : Bm.f K W H l bk w h k x y = some (atV bk W H l w h k x y) := by
  have h2 : h * w ≤ 15 * 15 := Nat.mul_le_mul hh hw
  have h3 : h * (w + 2) ≤ 15 * 17 := Nat.mul_le_mul hh (by omega)
  refine upF (fun K => Bm.f K W H l bk w h k x y) (fun K => Bm.mono _ _ _ _ _ _ _ _ _ K) (k := h * (w + 2) + 4) ?_ (by omega)
  show Bm.f _ W H l bk w h k x y = _
  unfold Bm.f
  have h1 := refat_all bk W H l w h k x y _ _ hk hW1 hW hH1 hH hl hw hh rfl rfl h 0 [] (by omega) (by rw [List.length_nil]; omega)
  refine Eq.trans h1 ?_
  rw [List.nil_append]
  unfold Cm.f
  have hlen := allL_length bk W H l (wrap64 (x - ((w / 2 : Nat) : Int))) (wrap64 (y - ((h / 2 : Nat) : Int))) w h 0
  have hlt : k < (isrt (allL bk W H l (wrap64 (x - ((w / 2 : Nat) : Int))) (wrap64 (y - ((h / 2 : Nat) : Int))) w h 0)).length := by rw [isrt_length, hlen, Nat.mul_comm]; exact hkw
  rw [if_pos ⟨by rw [hlen]; omega, allL_u32 _ _ _ _ _ _ _ hu _ _⟩, Option.bind_some, if_pos (by omega), if_pos (by omega)]
  unfold rd atV win
  rw [Int.toNat_natCast]
theorem refpart_row (bk : Int) (W H : Nat) (l : List Int) (w h k X0 Y0 X1 Y1 j : Nat) (a b : Int) (hk : 1 ≤ bk ∧ bk ≤ 3) (hW1 : 1 ≤ W) (hW : W ≤ 1024) (hH1 : 1 ≤ H) (hH : H ≤ 1024) (hl : l.length = W * H)
    (hw : w ≤ 15) (hh : h ≤ 15) (hkw : k < w * h) (hu : U32 l) (hX : X1 ≤ 1024) (hY : Y1 ≤ 1024) (hj : Y0 + j ≤ 1024) (F : Nat) (hF : 300 ≤ F) : ∀ m i (acc : List Int), X0 + i + m = X1 → acc.length + m ≤ 100000000 →
    Ax.l1 (m + 1 + F) bk w h k ((Y0 + j : Nat) : Int) ((X0 + i : Nat) : Int) W H l X0 Y0 X1 Y1 a b acc =
      Ax.l0 F bk w h k ((Y0 + (j + 1) : Nat) : Int) W H l X0 Y0 X1 Y1 a b (acc ++ rowP bk W H l w h k X0 (Y0 + j) m i)
  | 0, i, acc, hi, ha => by
    rw [show 0 + 1 + F = F + 1 by omega, Ax.l1, if_neg (by omega), rowP, List.append_nil, wd (((Y0 + j : Nat) : Int) + 1) (by omega) (by omega)]
    rfl
  | m + 1, i, acc, hi, ha => by
    have e3 : wrap64 (((X0 + i : Nat) : Int) + 1) = ((X0 + (i + 1) : Nat) : Int) := by rw [wd _ (by omega) (by omega)]; omega
    rw [show m + 1 + 1 + F = (m + 1 + F) + 1 by omega, Ax.l1, if_pos (by omega), refat_eq bk W H l w h k _ _ hk hW1 hW hH1 hH hl hw hh hkw hu _ (by omega), Option.bind_some, if_pos (by omega), e3]
    clear e3
    rw [refpart_row bk W H l w h k X0 Y0 X1 Y1 j a b hk hW1 hW hH1 hH hl hw hh hkw hu hX hY hj F hF m (i + 1) _ (by omega) (by rw [List.length_append, List.length_singleton]; omega), rowP, List.append_assoc]
    rfl
theorem refpart_rows (bk : Int) (W H : Nat) (l : List Int) (w h k X0 Y0 X1 Y1 n : Nat) (a b : Int) (hk : 1 ≤ bk ∧ bk ≤ 3) (hW1 : 1 ≤ W) (hW : W ≤ 1024) (hH1 : 1 ≤ H) (hH : H ≤ 1024) (hl : l.length = W * H)
    (hw : w ≤ 15) (hh : h ≤ 15) (hkw : k < w * h) (hu : U32 l) (hX : X1 ≤ 1024) (hY : Y1 ≤ 1024) (hn : X0 + n = X1) : ∀ m j (acc : List Int), Y0 + j + m = Y1 → acc.length + m * n ≤ 90000000 →
    Ax.l0 (m * (n + 2) + 301) bk w h k ((Y0 + j : Nat) : Int) W H l X0 Y0 X1 Y1 a b acc = some (a, b, acc ++ allP bk W H l w h k X0 Y0 n m j, 0)
  | 0, j, acc, hj, ha => by
    rw [show 0 * (n + 2) + 301 = 300 + 1 by omega, Ax.l0, if_neg (by omega), allP, List.append_nil]
  | m + 1, j, acc, hj, ha => by
    rw [Nat.succ_mul] at ha
    rw [show (m + 1) * (n + 2) + 301 = (n + 1 + (m * (n + 2) + 301)) + 1 by rw [Nat.succ_mul]; omega, Ax.l0, if_pos (by omega)]
    have h1 := refpart_row bk W H l w h k X0 Y0 X1 Y1 j a b hk hW1 hW hH1 hH hl hw hh hkw hu hX hY (by omega) (m * (n + 2) + 301) (by omega) n 0 acc (by omega) (by omega)
    refine Eq.trans h1 ?_
    rw [refpart_rows bk W H l w h k X0 Y0 X1 Y1 n a b hk hW1 hW hH1 hH hl hw hh hkw hu hX hY hn m (j + 1) _ (by omega) (by rw [List.length_append, rowP_length]; omega), allP, List.append_assoc]
end Go.Proofs.Ythpmkelcjlljmaa

