import Derived.Test.YteamphcehoaleaaZPFEx1
import Derived.Test.YteamphcehoaleaaZM2
open Go Go.RowKit Go.Proofs.YteamphcehoaleaaW.PrintWords
set_option linter.unusedVariables false
set_option linter.unusedSimpArgs false
namespace Go.Proofs.Yteamphcehoaleaa
open PFA PFE
namespace NBFE
theorem wr {x : Int} (h1 : -9223372036854775808 ≤ x) (h2 : x < 9223372036854775808) : wrap64 x = x := by
  unfold wrap64; omega
theorem l1_step (k : Nat) (w h i t : Nat) (ways : Int) (hw : 1 ≤ w) (hw2 : w ≤ 1024) (hh2 : h ≤ 1024) (hi : i < w * h) (acc : List Int) (hl : acc.length ≤ 9) (dy dx : Int) (hdx : dx = ((t % 3 : Nat) : Int) - 1) (hdy : dy = ((t / 3 : Nat) : Int) - 1) (ht : t < 9)
    (e : acc = (nbTo w h ways i t).map (fun q : Nat => (q : Int))) :
    At.l1 (k + 1) w h ways ((i % w : Nat) : Int) ((i / w : Nat) : Int) acc dy dx = At.l1 k w h ways ((i % w : Nat) : Int) ((i / w : Nat) : Int) ((nbTo w h ways i (t + 1)).map (fun q : Nat => (q : Int))) dy (dx + 1) := by
  have hx : i % w < w := Nat.mod_lt _ (by omega)
  have hy : i / w < h := (Nat.div_lt_iff_lt_mul (by omega)).mpr (by rw [Nat.mul_comm]; exact hi)
  have hnum := nb_num (w := w) (h := h) (i := i) (dx := dx) (dy := dy) (by omega) hi
  have hdm : (i : Int) = (w : Int) * ((i / w : Nat) : Int) + ((i % w : Nat) : Int) := by exact_mod_cast (Nat.div_add_mod i w).symm
  have hat : nbAt w h ways i t = if nbSkip w h ways i dx dy then none else some ((i : Int) + dy * w + dx).toNat := by unfold nbAt; rw [← hdx, ← hdy]
  generalize hxe : i % w = x at *
  generalize hye : i / w = y at *
  have b1 : -1 ≤ dx ∧ dx ≤ 1 := by omega
  have b2 : -1 ≤ dy ∧ dy ≤ 1 := by omega
  clear hdx hdy
  have e1 : wrap64 ((x : Int) + dx) = x + dx := wr (by omega) (by omega)
  have e2 : wrap64 ((y : Int) + dy) = y + dy := wr (by omega) (by omega)
  have e3 : wrap64 (dx + 1) = dx + 1 := wr (by omega) (by omega)
  have hyes : nbSkip w h ways i dx dy → (nbTo w h ways i (t + 1)).map (fun q : Nat => (q : Int)) = acc := fun hs => by
    rw [nbTo_none (by rw [hat, if_pos hs]), e]
  have hno : ¬nbSkip w h ways i dx dy → wrap64 ((wrap64 ((wrap64 ((wrap64 ((y : Int) + dy)) * w)) + x)) + dx) = (i : Int) + dy * w + dx ∧ (nbTo w h ways i (t + 1)).map (fun q : Nat => (q : Int)) = acc ++ [(i : Int) + dy * w + dx] := fun hs => by
    have hs0 := hs
    unfold nbSkip at hs
    rw [hxe, hye] at hs
    have hn := hnum (by omega) (by omega) (by omega) (by omega)
    have hm1 : 0 ≤ ((y : Int) + dy) * w := Int.mul_nonneg (by omega) (by omega)
    have hm2 : ((y : Int) + dy) * w ≤ 1024 * 1024 := Int.mul_le_mul (by omega) (by omega) (by omega) (by omega)
    have ev : ((y : Int) + dy) * w = (w : Int) * y + dy * w := by rw [Int.add_mul, Int.mul_comm (y : Int)]
    constructor
    · rw [e2, wr (x := ((y : Int) + dy) * w) (by omega) (by omega), wr (x := ((y : Int) + dy) * w + x) (by omega) (by omega), wr (by omega) (by omega)]
      rw [hdm, ev]
      omega
    · rw [nbTo_some (by rw [hat, if_neg hs0]), List.map_append, ← e]
      simp only [List.map_cons, List.map_nil]
      rw [Int.toNat_of_nonneg hn.1]
  have hlen : acc.length < 17592186044416 := by omega
  generalize (nbTo w h ways i (t + 1)).map (fun q : Nat => (q : Int)) = acc2 at hyes hno ⊢
  have hskip : nbSkip w h ways i dx dy ↔ (dx = 0 ∧ dy = 0) ∨ (ways = 4 ∧ dx ≠ 0 ∧ dy ≠ 0) ∨ (x : Int) + dx < 0 ∨ (y : Int) + dy < 0 ∨ (x : Int) + dx ≥ w ∨ (y : Int) + dy ≥ h := by unfold nbSkip; rw [hxe, hye]
  generalize nbSkip w h ways i dx dy = S at hyes hno hskip
  clear e hat hdm hnum hi
  by_cases hS : S
  · rw [hyes hS]
    have hq := hskip.mp hS
    clear hyes hno hskip
    rw [At.l1, if_pos b1.2, e1, e2, e3]
    repeat' split
    all_goals (first | rfl | (exfalso; omega))
  · obtain ⟨hv, ha⟩ := hno hS
    rw [e2] at hv
    rw [ha]
    have hq : ¬((dx = 0 ∧ dy = 0) ∨ (ways = 4 ∧ dx ≠ 0 ∧ dy ≠ 0) ∨ (x : Int) + dx < 0 ∨ (y : Int) + dy < 0 ∨ (x : Int) + dx ≥ w ∨ (y : Int) + dy ≥ h) := fun h => hS (hskip.mpr h)
    clear hyes hno hskip
    rw [At.l1, if_pos b1.2, e1, e2, e3, hv]
    clear hv ha e1 e2 e3
    repeat' split
    all_goals (first | rfl | (exfalso; omega))
theorem l1_row (k : Nat) (w h i t : Nat) (ways : Int) (hw : 1 ≤ w) (hw2 : w ≤ 1024) (hh2 : h ≤ 1024) (hi : i < w * h) (dy : Int) (h3 : t % 3 = 0) (hdy : dy = ((t / 3 : Nat) : Int) - 1) (ht : t < 9) (acc : List Int) (e : acc = (nbTo w h ways i t).map (fun q : Nat => (q : Int))) :
    At.l0 (k + 5) w h ways ((i % w : Nat) : Int) ((i / w : Nat) : Int) acc dy = At.l0 k w h ways ((i % w : Nat) : Int) ((i / w : Nat) : Int) ((nbTo w h ways i (t + 3)).map (fun q : Nat => (q : Int))) (dy + 1) := by
  have hl : ∀ u, u ≤ 9 → ((nbTo w h ways i u).map (fun q : Nat => (q : Int))).length ≤ 9 := fun u hu => by
    rw [List.length_map]; exact Nat.le_trans (nbTo_le w h ways i u) hu
  have hd : dy ≤ 1 := by omega
  rw [At.l0, if_pos hd]
  rw [l1_step (k + 3) w h i t ways hw hw2 hh2 hi acc (by rw [e]; exact hl t (by omega)) dy (-1) (by omega) hdy ht e]
  rw [show (-1 : Int) + 1 = 0 from rfl, l1_step (k + 2) w h i (t + 1) ways hw hw2 hh2 hi _ (hl (t + 1) (by omega)) dy 0 (by omega) (by omega) (by omega) rfl]
  rw [show (0 : Int) + 1 = 1 from rfl, l1_step (k + 1) w h i (t + 2) ways hw hw2 hh2 hi _ (hl (t + 2) (by omega)) dy 1 (by omega) (by omega) (by omega) rfl]
  rw [show (1 : Int) + 1 = 2 from rfl, At.l1, if_neg (by omega), wr (x := dy + 1) (by omega) (by omega)]
theorem neighbours (k : Nat) (w h i : Nat) (ways : Int) (hw : 1 ≤ w) (hw2 : w ≤ 1024) (hh2 : h ≤ 1024) (hi : i < w * h) :
    At.f (k + 16) w h i ways = some ((nbs w h ways i).map (fun q : Nat => (q : Int))) := by
  have hlt : i < 1048576 := Nat.lt_of_lt_of_le hi (Nat.mul_le_mul hw2 hh2)
  have e1 : Int.tmod (i : Int) (w : Int) = ((i % w : Nat) : Int) := by rw [Int.tmod_eq_emod_of_nonneg (by omega)]; rfl
  have e2 : wrap64 (Int.tdiv (i : Int) (w : Int)) = ((i / w : Nat) : Int) := by
    have h1 : Int.tdiv (i : Int) (w : Int) = ((i / w : Nat) : Int) := by rw [Int.tdiv_eq_ediv_of_nonneg (by omega)]; rfl
    have h2 : i / w ≤ i := Nat.div_le_self _ _
    rw [h1]
    generalize i / w = z at *
    exact wr (by omega) (by omega)
  unfold At.f
  rw [if_neg (by omega), e1, e2]
  rw [l1_row (k + 11) w h i 0 ways hw hw2 hh2 hi (-1) rfl rfl (by omega) [] rfl]
  rw [show (-1 : Int) + 1 = 0 from rfl, l1_row (k + 6) w h i 3 ways hw hw2 hh2 hi 0 rfl rfl (by omega) _ rfl]
  rw [show (0 : Int) + 1 = 1 from rfl, l1_row (k + 1) w h i 6 ways hw hw2 hh2 hi 1 rfl rfl (by omega) _ rfl]
  rw [show (1 : Int) + 1 = 2 from rfl, At.l0, if_neg (by omega)]
  rfl
end NBFE
end Go.Proofs.Yteamphcehoaleaa

