import Derived.Test.YteamphcehoaleaaZWK
import Derived.Test.YteamphcehoaleaaZMK
import Derived.Test.YteamphcehoaleaaZRS
import Derived.Test.YteamphcehoaleaaZMCFY
import Derived.Test.YteamphcehoaleaaZLA
set_option linter.unusedVariables false
set_option linter.unusedSimpArgs false
open Go Go.RowKit Go.Proofs.YteamphcehoaleaaW.PrintWords
namespace Go.Proofs.Yteamphcehoaleaa
open PFA PFK PFE PFY FM NR SQR
namespace LY
open WK
theorem ints_self (l : List Int) (hl : l.length ≤ 65536) : Ev (fun k => Ar.f k l l) true := by
  have h : ∀ d i, i + d = l.length → Ev (fun k => Ar.l0 k l l (i : Nat)) true := by
    intro d
    induction d with
    | zero =>
      intro i hi
      refine Ev.step (f := fun _ => some true) (fun k => ?_) (Ev.now _)
      rw [Ar.l0, if_neg (by omega)]
    | succ d ih =>
      intro i hi
      refine Ev.step (fun k => ?_) (ih (i + 1) (by omega))
      rw [Ar.l0, if_pos (by omega), if_pos (by omega), if_pos (by omega), if_pos rfl, wr1 i (by omega)]
  refine Ev.congr (f := fun k => Ar.l0 k l l 0) (fun k => ?_) (h l.length 0 (by omega))
  unfold Ar.f
  rw [if_pos rfl]
theorem same_self (a b : Int) (l : List Bool) (hl : l.length ≤ 140737488351232) : Ev (fun k => Az.f k a b l a b l) true := by
  have h : ∀ d i, i + d = l.length → Ev (fun k => Az.l0 k (i : Nat) a b l a b l) true := by
    intro d
    induction d with
    | zero =>
      intro i hi
      refine Ev.step (f := fun _ => some true) (fun k => ?_) (Ev.now _)
      rw [Az.l0, if_neg (by omega)]
    | succ d ih =>
      intro i hi
      refine Ev.step (fun k => ?_) (ih (i + 1) (by omega))
      have e : Aa (wrap64 ((i : Int) + 1) = ((i + 1 : Nat) : Int)) := ⟨by rw [wr (by omega) (by omega)]; rfl⟩
      rw [Az.l0, if_pos (by omega), if_pos (by omega), if_pos (by omega), if_neg (by simp), e.out]
  refine Ev.step (f := fun k => Az.l0 k 0 a b l a b l) (fun k => ?_) (h l.length 0 (by omega))
  unfold Az.f
  rw [if_pos rfl, if_pos rfl, Az.j0, if_neg (by simp)]
theorem all_val {w h : Nat} {l : List Bool} (H : OKm w h l) : ∃ m : List Bool, Ev (fun k => B9.f k w h) ((w : Int), (h : Int), m) ∧ m.length = w * h ∧ ∀ k, k < w * h → m.getD k false = true := by
  have ha := H.a
  have e0 : B3.f w h = some ((w : Int), (h : Int), List.replicate (w * h) false) := by
    unfold B3.f
    rw [area_w H, Int.toNat_natCast, if_pos (by omega), if_pos (by omega)]
  have hl : ∀ d i, i + d = w * h → ∀ m : List Bool, m.length = w * h → (∀ k, k < i → m.getD k false = true) → ∃ m' : List Bool, Ev (fun k => B9.l0 k (i : Nat) w h m) ((w : Int), (h : Int), m') ∧ m'.length = w * h ∧ ∀ k, k < w * h → m'.getD k false = true := by
    intro d
    induction d with
    | zero =>
      intro i hi m hm hk
      refine ⟨m, Ev.step (f := fun _ => some ((w : Int), (h : Int), m)) (fun k => ?_) (Ev.now _), hm, fun k hk2 => hk k (by omega)⟩
      rw [B9.l0, if_neg (by omega)]
    | succ d ih =>
      intro i hi m hm hk
      obtain ⟨m', e, p1, p2⟩ := ih (i + 1) (by omega) (m.set i true) (by rw [List.length_set]; exact hm) (fun k hk2 => by
        rw [List.getD_eq_getElem?_getD, List.getElem?_set]
        by_cases q : i = k
        · subst q; rw [if_pos rfl, if_pos (by omega)]; rfl
        · rw [if_neg q, ← List.getD_eq_getElem?_getD]; exact hk k (by omega))
      refine ⟨m', Ev.step (fun k => ?_) e, p1, p2⟩
      rw [B9.l0, if_pos (by omega), if_pos (by omega), Int.toNat_natCast, wr1 i (by omega)]
  obtain ⟨m', e, p1, p2⟩ := hl (w * h) 0 (by omega) (List.replicate (w * h) false) (by simp) (fun k hk => by omega)
  refine ⟨m', ?_, p1, p2⟩
  unfold B9.f
  rw [e0]
  simp only [Option.bind_some]
  exact e
theorem places_val {w h : Nat} {l : List Bool} (H : OKm w h l) : Ev (fun k => Bv.f k w h l) (cN (trues l l.length)) := by
  have ha := H.a
  have hlen := H.len
  have hl : ∀ d i, i + d = l.length → Ev (fun k => Bv.l0 k (cN (trues l i)) (i : Nat) w h l) (cN (trues l l.length)) := by
    intro d
    induction d with
    | zero =>
      intro i hi
      obtain rfl : i = l.length := by omega
      refine Ev.step (f := fun _ => some (cN (trues l l.length))) (fun k => ?_) (Ev.now _)
      rw [Bv.l0, if_neg (by omega)]
    | succ d ih =>
      intro i hi
      refine Ev.step (fun k => ?_) (ih (i + 1) (by omega))
      have hle := trues_le l i
      rw [Bv.l0, if_pos (by omega), if_pos (by omega), rdb_nat, wr1 i (by omega)]
      by_cases c : l.getD i false = true
      · rw [if_pos c, if_pos (by rw [cN_len]; omega), trues_yes l i c, cN_snoc]
      · rw [if_neg c, trues_no l i (by simpa using c)]
  unfold Bv.f
  exact hl l.length 0 (by omega)
theorem away_same (a b : Int) (l : List Bool) (ways : Int) : ∃ b1 e1, Ct.f a b l ways = some (b1, e1) ∧ Ev (fun k => Cd.f k a b l ways) (b1, e1) ∧ b1.length ≤ 65536 := by
  rcases MCFY.grid_cases a b l ways with ⟨e, he, ⟨t, h1⟩, h2⟩ | ⟨h2, hw, w, h, rfl, rfl, H⟩
  · refine ⟨[], e, ?_, Ev.congr (f := fun _ => some ([], e)) (fun k => ?_) (Ev.now _), by simp⟩
    · unfold Ct.f
      rw [h1, Option.bind_some, if_neg he]
    · unfold Cd.f
      rw [h2, Option.bind_some, if_neg he]
  · have w1 := H.w1; have w2 := H.w2; have g1 := H.h1; have g2 := H.h2; have hl := H.len; have ha := H.a
    have hnb : ∀ i, i < w * h → ∀ k ∈ nbs w h ways i, k < w * h := fun i hi k hk => nbs_lt w1 hi k hk
    have hlt : ∀ k ∈ trues l l.length, k < w * h := fun k hk => by rw [← hl]; exact trues_lt l l.length k hk
    obtain ⟨m, em, m1, m2⟩ := all_val H
    obtain ⟨st, q, e, B⟩ := spread_BI hnb (w * h) (w * h + 1) 0 _ _ (BI_start (N := w * h) (nb := nbs w h ways) (may := fun _ => true) (trues_nodup l l.length) hlt) (by omega) (by omega)
    have e2 : spread (nbs w h ways) (fun k => m.getD k false) (w * h + 1) 0 (steps0 (w * h) (trues l l.length)) (trues l l.length) = some (st, q) := by
      rw [← e]
      exact WK.spread_congr hnb m2 (w * h + 1) 0 _ _ (Nat.zero_le _) hlt
    have hwk := walk_val (ways := ways) w1 w2 g2 ha m1 (trues l l.length) (trues_nodup l l.length) hlt st q e2
    refine ⟨st, 0, ?_, ?_, by rw [B.len]; exact ha⟩
    · unfold Ct.f
      rw [gridOf_ok H ways hw, Option.bind_some]
      dsimp only
      rw [if_pos rfl, if_pos ⟨by omega, by omega, by omega, by omega, by simp only [Int.toNat_natCast]; exact hl⟩]
      simp only [Int.toNat_natCast]
      rw [e, Option.bind_some]
    · have hF : ∀ k, Cd.f k w h l ways = (B9.f k w h).bind fun bt121 => ((Bv.f k w h l).bind fun t126 => ((Ap.f k bt121.1 bt121.2.1 bt121.2.2 t126 ways).bind fun bt129 => (some (bt129.2, 0)))) := fun k => by
        unfold Cd.f
        rw [h2, Option.bind_some, if_pos rfl]
      refine Ev.congr hF ?_
      have hp := places_val H
      refine Ev.bind (a := ((w : Int), (h : Int), m)) em ?_
      refine Ev.bind (a := cN (trues l l.length)) hp ?_
      refine Ev.bind (a := (cN q, st)) hwk ?_
      exact Ev.now _
theorem square_same (a b : Int) (l : List Bool) : ∃ s1 e2, Ev (fun k => Bf.f k a b l) (s1, e2) ∧ Ev (fun k => Ai.f k a b l) (s1, e2) ∧ s1.length ≤ 65536 := by
  rcases MCFY.mask_cases a b l with ⟨e, he, h1, h2⟩ | ⟨h1, h2, w, h, rfl, rfl, H⟩
  · refine ⟨[], e, Ev.congr (f := fun _ => some ([], e)) (fun k => ?_) (Ev.now _), Ev.congr (f := fun _ => some ([], e)) (fun k => ?_) (Ev.now _), by simp⟩
    · unfold Bf.f
      rw [h1, Option.bind_some, if_neg he]
    · unfold Ai.f
      rw [h2, Option.bind_some, if_neg he]
  · obtain ⟨r, p1, p2, p3⟩ := SQR.square_val H
    obtain ⟨r', q1, q2, q3⟩ := RS.square_val H h2
    have e : r = r' := FM.list_ext_getD r r' (by rw [p2, q2]) (fun k hk => LeastP.unique (p3 k (by omega)) (q3 k (by omega)))
    subst e
    exact ⟨r, 0, p1, q1, by rw [p2]; exact H.a⟩
theorem law (a b : Int) (l : List Bool) (ways : Int) (hz : l.length ≤ 140737488351232) : ∃ k b1 s1 e1 e2, AwaysOk k a b l ways b1 s1 e1 e2 := by
  obtain ⟨b1, e1, f1, ⟨k1, r1⟩, n1⟩ := away_same a b l ways
  obtain ⟨s1, e2, ⟨k2, f2⟩, ⟨k3, r2⟩, n2⟩ := square_same a b l
  obtain ⟨k4, i1⟩ := ints_self b1 n1
  obtain ⟨k5, i2⟩ := ints_self s1 n2
  obtain ⟨k6, i3⟩ := same_self a b l hz
  obtain ⟨k7, i4⟩ := known_true
  exact ⟨k1 + k2 + k3 + k4 + k5 + k6 + k7, b1, s1, e1, e2, hz, i4 _ (by omega), r1 _ (by omega), r2 _ (by omega), f1, f2 _ (by omega), i1 _ (by omega), i2 _ (by omega), i3 _ (by omega)⟩
theorem row (a b : Int) (l : List Bool) (ways : Int) (_ : (Lit.int .i64 a).wf = true) (_ : (Lit.int .i64 b).wf = true) (hz : l.length ≤ 140737488351232) (_ : (Lit.int .i64 ways).wf = true) : ∃ k, true = true ∧ ∃ b1 s1 e1 e2, AwaysOk k a b l ways b1 s1 e1 e2 := by
  obtain ⟨k, h⟩ := law a b l ways hz
  exact ⟨k, rfl, h⟩
end LY
theorem FillAways_calls (k : Nat) (a0 a1 : Int) (A : Option Addr) (c : Nat) (l : List Bool) (ways : Int) (r : Bool) (w : World) (hC : Kd.C Kd.bool w A l.length l) (hc : l.length ≤ c) (h : r = true ∧ ∃ b1 s1 e1 e2, AwaysOk k a0 a1 l ways b1 s1 e1 e2) :
    Calls Try.prog 5 #[.agg #[.int .i64 a0, .int .i64 a1, .slice A l.length c], .int .i64 ways] w fun e w' => e = .returned (.bool r) ∧ Below w.heap.size w w' := by
  obtain ⟨rfl, b1, s1, e1, e2, H⟩ := h
  exact FillAways_walk k a0 a1 A c l ways b1 s1 e1 e2 w hC hc H
end Go.Proofs.Yteamphcehoaleaa

