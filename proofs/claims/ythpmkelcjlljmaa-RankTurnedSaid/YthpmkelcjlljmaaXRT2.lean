import Derived.Test.YthpmkelcjlljmaaXRT1
import Derived.Test.YthpmkelcjlljmaaXRM12
open Go Go.RowKit Go.Proofs.YthpmkelcjlljmaaW.PrintWords Go.Proofs.YthpmkelcjlljmaaW.PrintLast Go.Proofs.YthpmkelcjlljmaaW.PrintMore
set_option linter.unusedVariables false
set_option linter.unusedSimpArgs false
namespace Go.Proofs.Ythpmkelcjlljmaa
open PRA PRB
def chq (e0 bk w h k : Int) : Int :=
  if e0 ≠ 0 then e0 else if 1 ≤ w ∧ 1 ≤ h ∧ w ≤ 15 ∧ h ≤ 15 then (if k < 0 ∨ k ≥ w * h then 121 else if 1 ≤ bk ∧ bk ≤ 3 then 0 else 53) else 120
theorem check_eq2 (K : Nat) (hK : 6 ≤ K) (a b : Int) (l : List Int) (bk w h k e0 : Int) (hc : Bx.f a b l = some e0) : Ax.f K a b l bk w h k = some (chq e0 bk w h k) := by
  by_cases hf : 1 ≤ w ∧ 1 ≤ h ∧ w ≤ 15 ∧ h ≤ 15
  · by_cases hk : 0 ≤ k ∧ k < w * h
    · rw [check_any K hK a b l bk w h k e0 hc (fun _ => hk)]
      unfold chq
      rw [if_pos hf, if_pos hf, if_neg (show ¬(k < 0 ∨ k ≥ w * h) by omega)]
    · obtain ⟨K, rfl⟩ : ∃ q, K = q + 1 := ⟨K - 1, by omega⟩
      unfold Ax.f chq
      rw [hc, Option.bind_some]
      by_cases h0 : e0 = 0
      · subst h0
        have hwh : w * h ≤ 15 * 15 := Int.mul_le_mul hf.2.2.1 hf.2.2.2 (by omega) (by omega)
        have hwp : 0 ≤ w * h := Int.mul_nonneg (by omega) (by omega)
        have e : wrap64 (w * h) = w * h := wd _ (by omega) (by omega)
        rw [if_pos rfl, if_neg (show ¬((0 : Int) ≠ 0) by simp), if_pos hf, if_neg (by omega), if_neg (by omega), if_neg (by omega), decide_eq_false (by omega), Ax.j0, if_neg (by decide), e]
        by_cases h1 : k < 0
        · rw [if_pos h1, if_pos (.inl h1)]
        · rw [if_neg h1, if_pos (by omega), if_pos (by omega)]
      · rw [if_neg h0, if_pos (show e0 ≠ 0 from h0)]
  · rw [check_any K hK a b l bk w h k e0 hc (fun hh => absurd hh hf)]
    unfold chq
    rw [if_neg hf, if_neg hf]
theorem chq_zero {e0 bk w h k : Int} (h0 : chq e0 bk w h k = 0) : e0 = 0 ∧ (1 ≤ w ∧ 1 ≤ h ∧ w ≤ 15 ∧ h ≤ 15) ∧ (0 ≤ k ∧ k < w * h) ∧ (1 ≤ bk ∧ bk ≤ 3) := by
  unfold chq at h0
  by_cases h1 : e0 = 0
  · subst h1
    rw [if_neg (show ¬((0 : Int) ≠ 0) by simp)] at h0
    by_cases hf : 1 ≤ w ∧ 1 ≤ h ∧ w ≤ 15 ∧ h ≤ 15
    · rw [if_pos hf] at h0
      by_cases hk : k < 0 ∨ k ≥ w * h
      · rw [if_pos hk] at h0; omega
      · rw [if_neg hk] at h0
        by_cases hb : 1 ≤ bk ∧ bk ≤ 3
        · exact ⟨rfl, hf, by omega, hb⟩
        · rw [if_neg hb] at h0; omega
    · rw [if_neg hf] at h0; omega
  · rw [if_pos h1] at h0; exact absurd h0 h1
structure Good (a b : Int) (l : List Int) (bk w h : Int) (W H m n : Nat) : Prop where
  a : a = W
  b : b = H
  w : w = m
  h : h = n
  W1 : 1 ≤ W
  W2 : W ≤ 1024
  H1 : 1 ≤ H
  H2 : H ≤ 1024
  len : l.length = W * H
  few : l.length ≤ 2000
  w1 : 1 ≤ m
  w2 : m ≤ 15
  h1 : 1 ≤ n
  h2 : n ≤ 15
  bk : 1 ≤ bk ∧ bk ≤ 3
  ck : Bx.f W H l = some 0
theorem plane_split (a b : Int) (l : List Int) (bk w h k : Int) (hu : U32 l) (hl2 : l.length ≤ 2000) :
    (∃ e, e ≠ 0 ∧ ∀ K, 10000 ≤ K → Bi.f K a b l bk w h k = some (0, 0, [], e)) ∨ (∃ W H m n q : Nat, Good a b l bk w h W H m n ∧ k = q ∧ q < m * n) := by
  rcases check_cases a b l with ⟨e0, hc, he⟩ | ⟨W, H, rfl, rfl, hW1, hW, hH1, hH, hWH, hlen, hc⟩
  · refine .inl ⟨chq e0 bk w h k, fun hz => he (chq_zero hz).1, fun K hK => plane_bad K a b l bk w h k _ (check_eq2 K (by omega) a b l bk w h k e0 hc) (fun hz => he (chq_zero hz).1)⟩
  · by_cases hz : chq 0 bk w h k = 0
    · obtain ⟨_, hf, hk, hb⟩ := chq_zero hz
      obtain ⟨w, rfl⟩ := Int.eq_ofNat_of_zero_le (show 0 ≤ w by omega)
      obtain ⟨h, rfl⟩ := Int.eq_ofNat_of_zero_le (show 0 ≤ h by omega)
      obtain ⟨k, rfl⟩ := Int.eq_ofNat_of_zero_le hk.1
      refine .inr ⟨W, H, w, h, k, ⟨rfl, rfl, rfl, rfl, hW1, hW, hH1, hH, hlen, hl2, by omega, by omega, by omega, by omega, hb, hc⟩, rfl, ?_⟩
      have h2 := hk.2
      rw [show (w : Int) * (h : Int) = ((w * h : Nat) : Int) by push_cast; rfl] at h2
      exact Int.ofNat_lt.mp h2
    · exact .inl ⟨chq 0 bk w h k, hz, fun K hK => plane_bad K W H l bk w h k _ (check_eq2 K (by omega) W H l bk w h k 0 hc) hz⟩
theorem Good.plane {a b : Int} {l : List Int} {bk w h : Int} {W H m n : Nat} (g : Good a b l bk w h W H m n) (l' : List Int) (hl : l'.length = W * H) (hu : U32 l') (m' n' q : Nat) (w1 : 1 ≤ m') (w2 : m' ≤ 15) (h1 : 1 ≤ n') (h2 : n' ≤ 15) (hq : q < m' * n') (K : Nat) (hK : 10000 ≤ K) :
    Bi.f K W H l' bk m' n' q = some ((W : Int), (H : Int), allP bk W H l' m' n' q 0 0 W H 0, 0) := by
  have hsz : H * (W + 2) + 1 ≤ 10000 := by
    have h3 : H * (W + 2) = W * H + 2 * H := by rw [Nat.mul_add, Nat.mul_comm H W, Nat.mul_comm H 2]
    have h4 := g.len
    have h5 := g.few
    have h6 := g.H2
    omega
  exact plane_fine K bk W H l' m' n' q (by rw [check_len _ _ l' l (by rw [hl, g.len])]; exact g.ck) g.bk g.W1 g.W2 g.H1 g.H2 hl w1 h1 w2 h2 hq hu (by omega) (by omega)
theorem allP_at (bk : Int) (W H : Nat) (l : List Int) (m n k q : Nat) (hq : q < W * H) : (allP bk W H l m n k 0 0 W H 0).getD q 0 = atV bk W H l m n k ((q % W : Nat) : Int) ((q / W : Nat) : Int) := by
  have hW : 0 < W := by
    rcases Nat.eq_zero_or_pos W with rfl | h
    · rw [Nat.zero_mul] at hq; omega
    · exact h
  have h := allP_getD bk W H l m n k 0 0 W H 0 (q / W) (q % W) (by rw [Nat.div_lt_iff_lt_mul hW, Nat.mul_comm]; exact hq) (Nat.mod_lt _ hW)
  rw [Nat.mul_comm, Nat.div_add_mod] at h
  rw [h, Nat.zero_add, Nat.zero_add, Nat.zero_add]
theorem Good.turn {a b : Int} {l : List Int} {bk w h : Int} {W H m n : Nat} (g : Good a b l bk w h W H m n) (hu : U32 l) (k : Nat) (hk : k < m * n) (q : Nat) (hq : q < W * H) :
    (allP bk W H (l.map turnV) m n (m * n - 1 - k) 0 0 W H 0).getD q 0 = turnV ((allP bk W H l m n k 0 0 W H 0).getD q 0) := by
  rw [allP_at _ _ _ _ _ _ _ _ hq, allP_at _ _ _ _ _ _ _ _ hq]
  exact atV_turn bk W H l m n k _ _ g.W1 g.H1 g.len hu hk turnV turn_u32 turn_anti
theorem Good.rise {a b : Int} {l : List Int} {bk w h : Int} {W H m n : Nat} (g : Good a b l bk w h W H m n) (hu : U32 l) (k : Nat) (hk : k < m * n) (lo hi d : Int) (hlo : u32 lo) (hhi : u32 hi) (q : Nat) (hq : q < W * H) :
    (allP bk W H (l.map (riseV lo hi d)) m n k 0 0 W H 0).getD q 0 = riseV lo hi d ((allP bk W H l m n k 0 0 W H 0).getD q 0) := by
  rw [allP_at _ _ _ _ _ _ _ _ hq, allP_at _ _ _ _ _ _ _ _ hq]
  exact atV_map bk W H l m n k _ _ g.W1 g.H1 g.len hu hk (riseV lo hi d) (fun s hs => rise_u32 lo hi d s hs hlo hhi) (fun a b ha hb => rise_mono lo hi d a b ha hb hlo hhi)
theorem map_u32 {l : List Int} (hu : U32 l) (g : Int → Int) (hg : ∀ s, u32 s → u32 (g s)) : U32 (l.map g) := by
  intro s hs
  obtain ⟨x, hx, rfl⟩ := List.mem_map.mp hs
  exact hg x (hu x hx)
theorem allP_len (bk : Int) (W H : Nat) (l : List Int) (m n k : Nat) : (allP bk W H l m n k 0 0 W H 0).length = W * H := by rw [allP_length, Nat.mul_comm]
end Go.Proofs.Ythpmkelcjlljmaa

