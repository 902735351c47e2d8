import Derived.Test.YteamphcehoaleaaMK
import Derived.Test.YteamphcehoaleaaNBFN
import Derived.Test.YteamphcehoaleaaRTFN
import Derived.Test.YteamphcehoaleaaPFNx2
set_option linter.unusedVariables false
set_option linter.unusedSimpArgs false
open Go Go.RowKit Go.Proofs.YteamphcehoaleaaW.PrintWords
namespace Go.Proofs.Yteamphcehoaleaa
open PFA PFK PFN FM
namespace NU
theorem wr {x : Int} (h1 : -9223372036854775808 ≤ x) (h2 : x < 9223372036854775808) : wrap64 x = x := by
  unfold wrap64; omega
theorem w000 : wrap64 (wrap64 (0 + 0) + 0) = 0 := by unfold wrap64; omega
theorem l1_ev (w h : Nat) (l : List Bool) (H : OKm w h l) (ways pn most : Int) (po : List Int) (C : CI (w * h) (nbs w h ways) (fun k => l.getD k false) (w * h) po pn) (i : Nat) (hi : i < w * h)
    (hnext : Ev (fun k => An.l0 k ways po pn most ((i + 1 : Nat) : Int) w h l) true) : ∀ d u, u + d = (nbs w h ways i).length →
    Ev (fun k => An.l1 k ways po pn most i ((nbs w h ways i).map (fun q : Nat => (q : Int))) (u : Nat) w h l) true := by
  have ha := H.a
  have hlen := H.len
  have hpl := C.len
  have hle : (nbs w h ways i).length ≤ 9 := nbTo_le _ _ _ _ _
  intro d
  induction d with
  | zero =>
    intro u hu
    refine Ev.step (fun k => ?_) hnext
    rw [An.l1, if_neg (by rw [List.length_map]; omega), wr (by omega) (by omega)]
    rfl
  | succ d ih =>
    intro u hu
    have hu1 : u < (nbs w h ways i).length := by omega
    obtain ⟨q, hq⟩ : ∃ q, q = (nbs w h ways i).getD u 0 := ⟨_, rfl⟩
    have hqm : q ∈ nbs w h ways i := by rw [hq]; exact qget_mem _ u hu1
    have hqN : q < w * h := nbs_lt H.w1 hi q hqm
    have hrd : rd ((nbs w h ways i).map (fun q : Nat => (q : Int))) (u : Int) = (q : Int) := by
      unfold rd
      rw [Int.toNat_natCast, hq, List.getD_eq_getElem?_getD, List.getD_eq_getElem?_getD, List.getElem?_map, List.getElem?_eq_getElem hu1]; rfl
    have e1 : ∀ x : Nat, rdOf false l (x : Int) = l.getD x false := fun x => by unfold rdOf; rw [Int.toNat_natCast]
    have e2 : ∀ x : Nat, rd po (x : Int) = po.getD x 0 := fun x => by unfold rd; rw [Int.toNat_natCast]
    have hw : Aa (wrap64 ((u : Int) + 1) = ((u + 1 : Nat) : Int)) := ⟨by rw [wr (by omega) (by omega)]; rfl⟩
    refine Ev.step (fun k => ?_) (ih (u + 1) (by omega))
    rw [An.l1, if_pos (by rw [List.length_map]; omega), if_pos (by omega), if_pos (by omega), hrd, hw.out, e1, e1, e2, e2]
    by_cases m1 : l.getD i false = true
    · rw [if_pos m1, if_pos (by omega), if_pos (by omega), if_pos (by omega)]
      by_cases m2 : l.getD q false = true
      · rw [if_pos m2, if_pos (by omega), if_pos (by omega)]
        have hp := C.all i hi hi m1
        have := C.nbr i hi q hqm m1 m2 hp
        rw [if_pos this.symm]
      · rw [if_neg m2]
    · rw [if_neg m1]
theorem l0_ev (w h : Nat) (l : List Bool) (H : OKm w h l) (ways pn : Int) (po : List Int) (C : CI (w * h) (nbs w h ways) (fun k => l.getD k false) (w * h) po pn) (hpn : pn ≤ ((w * h : Nat) : Int)) : ∀ d i most, i + d = w * h → 0 ≤ most → most ≤ pn →
    (∀ j, j < i → po.getD j 0 ≤ most) → Ev (fun k => An.l0 k ways po pn most (i : Nat) w h l) true := by
  have ha := H.a
  have hlen := H.len
  have hpl := C.len
  have h1 := H.w1; have h2 := H.w2; have h4 := H.h2
  intro d
  induction d with
  | zero =>
    intro i most hi h0 hm hj
    have he : most = pn := by
      rcases Int.lt_or_le 0 pn with hp | hp
      · obtain ⟨j, a, b, c⟩ := C.top pn (by omega) (Int.le_refl _)
        have := hj j (by omega)
        omega
      · omega
    refine ⟨1, fun k hk => ?_⟩
    obtain ⟨k, rfl⟩ : ∃ q, k = q + 1 := ⟨k - 1, by omega⟩
    show An.l0 (k + 1) ways po pn most (i : Nat) w h l = some true
    rw [An.l0, if_neg (by omega), he]
    simp
  | succ d ih =>
    intro i most hi h0 hm hj
    have hiN : i < w * h := by omega
    have e1 : ∀ x : Nat, rdOf false l (x : Int) = l.getD x false := fun x => by unfold rdOf; rw [Int.toNat_natCast]
    have e2 : ∀ x : Nat, rd po (x : Int) = po.getD x 0 := fun x => by unfold rd; rw [Int.toNat_natCast]
    have hr := C.rng i hiN
    have hle : po.getD i 0 ≤ most + 1 := by
      rcases Int.lt_or_le (po.getD i 0) 2 with hp | hp
      · omega
      · obtain ⟨j, a, b⟩ := C.ord i hiN (po.getD i 0 - 1) (by omega) (by omega)
        have := hj j a
        omega
    have hb : ((decide (po.getD i 0 > 0)) != (l.getD i false)) = false := by
      cases hl : l.getD i false with
      | true =>
        have := C.all i hiN hiN hl
        rw [decide_eq_true this]; rfl
      | false =>
        have : ¬ po.getD i 0 > 0 := fun hp => by have h9 : l.getD i false = true := C.inm i hiN hp; rw [hl] at h9; exact absurd h9 (by decide)
        rw [decide_eq_false this]; rfl
    have hmx : mx most (po.getD i 0) = max most (po.getD i 0) := by unfold mx; omega
    have hnext := ih (i + 1) (max most (po.getD i 0)) (by omega) (by omega) (by omega) (fun j hj2 => by
      by_cases e : j = i
      · subst e; omega
      · have := hj j (by omega); omega)
    have hl1 := l1_ev w h l H ways pn (max most (po.getD i 0)) po C i hiN hnext (nbs w h ways i).length 0 (by omega)
    rw [show ((0 : Nat) : Int) = 0 from rfl] at hl1
    have hnb : Ev (fun k => At.f k w h i ways) ((nbs w h ways i).map (fun q : Nat => (q : Int))) := ⟨16, fun k hk => by
      obtain ⟨k, rfl⟩ : ∃ q, k = q + 16 := ⟨k - 16, by omega⟩
      exact NBFN.neighbours k w h i ways h1 h2 h4 hiN⟩
    have hj2 : Ev (fun k => An.j2 k ways po pn most i (decide (po.getD i 0 < 0)) w h l) true := by
      refine Ev.step (fun k => ?_) (Ev.bind (f := fun k t => An.l1 k ways po pn (max most (po.getD i 0)) i t 0 w h l) hnb hl1)
      rw [An.j2, if_neg (by rw [decide_eq_false (by omega)]; decide), if_pos (by omega), if_pos (by omega), e2, hmx]
    refine Ev.step (fun k => ?_) hj2
    rw [An.l0, if_pos (by omega), if_pos (by omega), if_pos (by omega), e1, e2, if_neg (by rw [hb]; decide), wr (x := most + 1) (by omega) (by omega), if_neg (by omega)]
theorem law (a b : Int) (l : List Bool) (ways : Int) : ∃ k, An.f k a b l ways = some true := by
  refine Ev.rounds ?_
  unfold An.f
  refine Ev.bind known_true ?_
  simp only [if_true]
  rcases RTFN.right_cases a b l ways with h0 | ⟨h0, w, h, rfl, rfl, H, hw⟩
  · rw [h0]
    exact Ev.now true
  · rw [h0]
    obtain ⟨po, pn, e1, e2, A⟩ := parts_val H ways hw
    obtain ⟨po4, pn4, e3, _, A4⟩ := parts_val H 4 (.inl rfl)
    obtain ⟨po8, pn8, e4, _, A8⟩ := parts_val H 8 (.inr rfl)
    have h1 := H.w1
    have hnb : ∀ ws : Int, ∀ i, i < w * h → ∀ k ∈ nbs w h ws i, k < w * h := fun ws i hi k hk => nbs_lt h1 hi k hk
    have C := A.CI (hnb ways) (nbs_sym h1) (CI_start _ _ _)
    have hf := parts_fewer (hnb 4) (nbs_sym h1) (hnb 8) (nbs_sym h1) (nbs_4_8 h1) A4 A8
    rw [e1, e3, e4]
    simp only [Option.bind_some, if_true, Aw.f]
    have hd : decide (pn8 > pn4) = false := decide_eq_false (by omega)
    refine Ev.congr (f := fun k => An.j0 k ways po pn false w h l) (fun k => by rw [if_pos w000, if_pos (by rw [C.len, H.len]), hd]) ?_
    refine Ev.step (fun k => ?_) (l0_ev w h l H ways pn po C e2 (w * h) 0 0 (by omega) (Int.le_refl _) C.n0 (fun j hj => by omega))
    rw [An.j0, if_neg (by decide)]
    rfl
end NU
end Go.Proofs.Yteamphcehoaleaa

