import Derived.Test.YthpmkelcjlljmaaRM15
import Derived.Test.YthpmkelcjlljmaaRMK
import Derived.Test.YthpmkelcjlljmaaPRPx1
open Go Go.RowKit Go.Proofs.YthpmkelcjlljmaaW.PrintWords Go.Proofs.YthpmkelcjlljmaaW.PrintLast Go.Proofs.YthpmkelcjlljmaaW.PrintMore
set_option linter.unusedVariables false
set_option linter.unusedSimpArgs false
namespace Go.Proofs.Ythpmkelcjlljmaa
open PRA PRB PRD PRK PRP
theorem spoil_some (l : List Int) : ∀ m i (fuel : Nat) (z : List Int) (a b : Int), i + m = z.length → z.length ≤ 100000 → m < fuel → ∃ r, Bv.l0 fuel (i : Nat) a b z = some r
  | 0, i, fuel, z, a, b, hi, hz, hf => by
    obtain ⟨k, rfl⟩ : ∃ q, fuel = q + 1 := ⟨fuel - 1, by omega⟩
    exact ⟨z, by rw [Bv.l0, if_neg (by omega)]⟩
  | m + 1, i, fuel, z, a, b, hi, hz, hf => by
    obtain ⟨k, rfl⟩ : ∃ q, fuel = q + 1 := ⟨fuel - 1, by omega⟩
    rw [Bv.l0, if_pos (by omega), if_pos (by omega), w_succ i (by omega)]
    exact spoil_some l m (i + 1) k _ a b (by rw [List.length_set]; omega) (by rw [List.length_set]; omega) (by omega)
theorem same_plane (a b : Int) (l : List Int) (bk w h : Int) (hu : U32 l) (hl2 : l.length ≤ 2000) :
    (∀ k, ∃ R : Int × Int × List Int × Int, R.2.2.1.length ≤ 2000 ∧ ∀ K, 5000 ≤ K → Bs.f K a b l bk w h k = some R ∧ Bt.f K a b l bk w h k = some R) ∧
    (¬(1 ≤ w ∧ 1 ≤ h ∧ w ≤ 15 ∧ h ≤ 15) → ∀ k k' K, 5000 ≤ K → Bs.f K a b l bk w h k = Bs.f K a b l bk w h k') := by
  have bad : ∀ e0, B9.f a b l = some e0 → ∀ k K, 5000 ≤ K → chk e0 bk w h k ≠ 0 → Bs.f K a b l bk w h k = some (0, 0, [], chk e0 bk w h k) ∧ Bt.f K a b l bk w h k = some (0, 0, [], chk e0 bk w h k) := by
    intro e0 hc k K hK hz
    have h1 := check_eq K (by omega) a b l bk w h k e0 hc
    have h2 := refcheck_eq K (by omega) a b l bk w h k e0 hc
    unfold Bs.f Bt.f
    rw [h1, h2, Option.bind_some, Option.bind_some, if_neg hz, if_neg hz]
    exact ⟨rfl, rfl⟩
  have any : ∃ e0, B9.f a b l = some e0 := by
    rcases check_cases a b l with ⟨e0, hc, he⟩ | ⟨W, H, rfl, rfl, hW1, hW, hH1, hH, hWH, hlen, hc⟩
    · exact ⟨e0, hc⟩
    · exact ⟨0, hc⟩
  constructor
  · intro k
    rcases check_cases a b l with ⟨e0, hc, he⟩ | ⟨W, H, rfl, rfl, hW1, hW, hH1, hH, hWH, hlen, hc⟩
    · exact ⟨_, by simp, fun K hK => bad e0 hc k K hK (fun hz => he (chk_zero hz).1)⟩
    · by_cases hz : chk 0 bk w h k = 0
      rotate_left
      · exact ⟨_, by simp, fun K hK => bad 0 hc k K hK hz⟩
      obtain ⟨_, hf, hk, hb2⟩ := chk_zero hz
      obtain ⟨w, rfl⟩ := Int.eq_ofNat_of_zero_le (show 0 ≤ w by omega)
      obtain ⟨h, rfl⟩ := Int.eq_ofNat_of_zero_le (show 0 ≤ h by omega)
      obtain ⟨k, rfl⟩ := Int.eq_ofNat_of_zero_le (show 0 ≤ k by omega)
      have hkw : k < w * h := by exact_mod_cast hk.2
      have hsz : H * (W + 2) + 400 ≤ 5000 := by
        have : H * (W + 2) = W * H + 2 * H := by rw [Nat.mul_add, Nat.mul_comm H W, Nat.mul_comm H 2]
        omega
      refine ⟨((W : Int), (H : Int), allP bk W H l w h k 0 0 W H 0, 0), by show (allP bk W H l w h k 0 0 W H 0).length ≤ 2000; rw [allP_length, Nat.mul_comm]; omega, fun K hK => ⟨?_, ?_⟩⟩
      · exact plane_fine K bk W H l w h k hc hb2 hW1 hW hH1 hH hlen (by omega) (by omega) (by omega) (by omega) hkw hu (by omega) (by omega)
      · unfold Bt.f
        obtain ⟨_, h2⟩ := part_good K bk W H l w h k 0 0 W H hc hz hb2 hW1 hW hH1 hH hlen (by omega) (by omega) hkw hu (by omega) (by omega) (by omega) (by omega) (by omega)
        rw [Nat.sub_zero, Nat.sub_zero, show ((0 : Nat) : Int) = 0 from rfl] at h2
        rw [refcheck_eq K (by omega) W H l bk w h k 0 hc, Option.bind_some, hz, if_pos rfl, h2, Option.bind_some]
  · intro hf k k' K hK
    obtain ⟨e0, hc⟩ := any
    have hnz : ∀ k, chk e0 bk w h k ≠ 0 := fun k hz => hf (chk_zero hz).2.1
    have heq : chk e0 bk w h k = chk e0 bk w h k' := by unfold chk; rw [if_neg hf, if_neg hf]
    rw [(bad e0 hc k K hK (hnz k)).1, (bad e0 hc k' K hK (hnz k')).1, heq]
theorem kOf_same (a b : Int) (l : List Int) (bk w h : Int) (hu : U32 l) (hl2 : l.length ≤ 2000) (kf : Int → Int) (K : Nat) (hK : 5000 ≤ K) :
    Bs.f K a b l bk w h (kOf kf w h) = Bs.f K a b l bk w h (kf (wrap64 (w * h))) := by
  by_cases hf : 1 ≤ w ∧ 1 ≤ h ∧ w ≤ 15 ∧ h ≤ 15
  · rw [kOf_fine kf w h hf]
  · exact (same_plane a b l bk w h hu hl2).2 hf _ _ K hK
namespace PL
theorem law (a b : Int) (l : List Int) (bk w h k : Int) (_ : (Lit.int .i64 a).wf = true) (_ : (Lit.int .i64 b).wf = true) (hw : ∀ x ∈ l, (Lit.int .u32 x).wf = true) (_ : (Lit.int .i64 bk).wf = true) (_ : (Lit.int .i64 w).wf = true) (_ : (Lit.int .i64 h).wf = true) (_ : (Lit.int .i64 k).wf = true) :
    ∃ q, Bq.f q a b l bk w h k = some true := by
  refine ⟨10003, ?_⟩
  have hu := u32_all hw
  unfold Bq.f
  rw [known_up 10003 (by omega), Option.bind_some, if_pos rfl]
  unfold Cf.f
  by_cases hl : (l.length : Int) ≤ 2000
  rotate_left
  · rw [if_neg hl]; rfl
  rw [if_pos hl]
  by_cases ha : a ≤ 4000
  rotate_left
  · rw [if_neg ha]; rfl
  rw [if_pos ha]
  by_cases hb : b ≤ 4000
  rotate_left
  · rw [decide_eq_false hb]; rfl
  rw [decide_eq_true hb, Option.bind_some, if_pos rfl]
  have hl2 : l.length ≤ 2000 := by omega
  have hcopy : B2.f a b l = some (a, b, l) := by unfold B2.f; rw [if_pos (by simp; omega), List.nil_append]
  obtain ⟨hs, _⟩ := same_plane a b l bk w h hu hl2
  obtain ⟨R, hR, hRK⟩ := hs k
  rw [hcopy, Option.bind_some, (hRK 10003 (by omega)).2, Option.bind_some]
  have spoil : ∀ K, 5000 ≤ K → ∃ r, Bv.f K R.1 R.2.1 R.2.2.1 = some r := fun K hK => by
    unfold Bv.f
    exact spoil_some [] R.2.2.1.length 0 K R.2.2.1 _ _ (by omega) (by omega) (by omega)
  have round : ∀ K n, 6000 ≤ K → 0 ≤ n → n < 2 → Bq.l0 (K + 1) bk w h k R.2.2.2 n a b l a b l R.1 R.2.1 R.2.2.1 = Bq.l0 K bk w h k R.2.2.2 (n + 1) a b l a b l R.1 R.2.1 R.2.2.1 := by
    intro K n hK hn0 hn
    obtain ⟨r, hr⟩ := spoil K (by omega)
    rw [Bq.l0, if_pos hn, (hRK K (by omega)).1, Option.bind_some, planes_eq _ _ _ _ (by omega) (by omega), Option.bind_some, if_pos rfl, if_pos rfl, planes_eq _ _ _ _ (by omega) (by omega), Option.bind_some, if_pos rfl, hr, Option.bind_some, w64 (n + 1) (by omega) (by omega)]
  rw [round 10002 0 (by omega) (by omega) (by omega), round 10001 (0 + 1) (by omega) (by omega) (by omega), Bq.l0, if_neg (by omega)]
  obtain ⟨R1, hR1, hK1⟩ := hs (wrap64 (Int.tdiv (wrap64 (w * h)) 2))
  obtain ⟨R2, hR2, hK2⟩ := hs 0
  obtain ⟨R3, hR3, hK3⟩ := hs (wrap64 ((wrap64 (w * h)) - 1))
  have m1 : Cb.f 10000 a b l bk w h = some R1 := by
    unfold Cb.f
    rw [kOf_same a b l bk w h hu hl2 _ 10000 (by omega)]; exact (hK1 10000 (by omega)).1
  have m2 : Cc.f 10000 a b l bk w h = some R2 := by
    unfold Cc.f
    rw [kOf_same a b l bk w h hu hl2 _ 10000 (by omega)]; exact (hK2 10000 (by omega)).1
  have m3 : B7.f 10000 a b l bk w h = some R3 := by
    unfold B7.f
    rw [kOf_same a b l bk w h hu hl2 _ 10000 (by omega)]; exact (hK3 10000 (by omega)).1
  rw [m1, Option.bind_some, m2, Option.bind_some, m3, Option.bind_some, (hK1 10000 (by omega)).2, Option.bind_some, (hK2 10000 (by omega)).2, Option.bind_some, (hK3 10000 (by omega)).2, Option.bind_some,
    planes_eq _ _ _ _ (by omega) (by omega), Option.bind_some, if_pos rfl, if_pos rfl, planes_eq _ _ _ _ (by omega) (by omega), Option.bind_some, if_pos rfl, if_pos rfl, planes_eq _ _ _ _ (by omega) (by omega), Option.bind_some, if_pos rfl, if_pos rfl, planes_eq _ _ _ _ (by omega) (by omega)]
  rfl
end PL
end Go.Proofs.Ythpmkelcjlljmaa

