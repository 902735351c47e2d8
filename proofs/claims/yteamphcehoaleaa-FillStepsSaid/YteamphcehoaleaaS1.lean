import Derived.Test.YteamphcehoaleaaM6
import Derived.Test.YteamphcehoaleaaMK
import Derived.Test.YteamphcehoaleaaRTFS
import Derived.Test.YteamphcehoaleaaPFSx2
set_option linter.unusedVariables false
set_option linter.unusedSimpArgs false
open Go Go.RowKit Go.Proofs.YteamphcehoaleaaW.PrintWords
namespace Go.Proofs.Yteamphcehoaleaa
open PFA PFK PFS FM NR
namespace ST
theorem in_l0 (l g : List Bool) (N : Nat) (hN : N ≤ 65536) (hl : l.length = N) (hg : g.length = N) (hin : ∀ k, k < N → l.getD k false = true → g.getD k false = true) (a b c d' : Int) : ∀ d i, i + d = N → Ev (fun k => Aq.l0 k (i : Nat) a b l c d' g) true := by
  intro d
  induction d with
  | zero =>
    intro i hi
    refine ⟨1, fun k hk => ?_⟩
    obtain ⟨k, rfl⟩ : ∃ q, k = q + 1 := ⟨k - 1, by omega⟩
    show Aq.l0 (k + 1) _ _ _ _ _ _ _ = _
    rw [Aq.l0, if_neg (by omega)]
  | succ d ih =>
    intro i hi
    refine Ev.step (fun k => ?_) (ih (i + 1) (by omega))
    rw [Aq.l0, if_pos (by omega), if_pos (by omega), rdb_nat, rdb_nat, wr1 i (by omega)]
    by_cases c1 : l.getD i false = true
    · rw [if_pos c1, if_pos (by omega), if_pos (hin i (by omega) c1)]
    · rw [if_neg c1]
theorem in_val {w h : Nat} {l g : List Bool} (H : OKm w h l) (G : OKm w h g) (hin : ∀ k, k < w * h → l.getD k false = true → g.getD k false = true) : Ev (fun k => Aq.f k w h l w h g) true := by
  unfold Aq.f
  refine Ev.congr (f := fun k => Aq.l0 k 0 w h l w h g) (fun k => if_pos (by rw [H.len, G.len])) ?_
  exact in_l0 l g (w * h) H.a H.len G.len hin w h w h (w * h) 0 (by omega)
theorem grow_val {w h : Nat} {l : List Bool} (H : OKm w h l) (ways : Int) (hw : ways = 4 ∨ ways = 8) (a : Nat) :
    ∃ g, Ev (fun k => Cd.f k w h l a ways) ((w : Int), (h : Int), g, 0) ∧ OKm w h g ∧ ∀ k, k < w * h → (g.getD k false = true ↔ within (nbs w h ways) (inM l) a k) := by
  obtain ⟨g, g1, g2, g3⟩ := near_val H ways hw a
  refine ⟨g, ?_, g2, g3⟩
  unfold Cd.f
  exact Ev.bind (f := fun k (bt107 : Int × Int × List Bool × Int) => (some (bt107.1, bt107.2.1, bt107.2.2.1, bt107.2.2.2))) g1 (Ev.now _)
theorem w00 : wrap64 (0 + 0) = 0 := by unfold wrap64; omega
theorem law (a0 b0 : Int) (l : List Bool) (a b ways : Int) : ∃ k, Aw.f k a0 b0 l a b ways = some true := by
  refine Ev.rounds ?_
  have hj : ∀ x1 x2 x3 a0 b0, Ev (fun k => Aw.j0 k x1 x2 x3 true a0 b0 l) true := fun x1 x2 x3 a0 b0 => by
    refine Ev.step (fun k => ?_) (Ev.now true)
    rw [Aw.j0, if_pos rfl]
  unfold Aw.f
  refine Ev.bind known_true ?_
  simp only [if_true]
  rcases RTFS.right_cases a0 b0 l ways with h0 | ⟨h0, w, h, rfl, rfl, H, hw⟩
  · rw [h0]
    exact hj _ _ _ _ _
  rw [h0]
  simp only [Option.bind_some, if_true]
  by_cases c1 : a < 0
  · exact Ev.congr (fun k => if_pos c1) (hj _ _ _ _ _)
  refine Ev.congr (fun k => if_neg c1) ?_
  by_cases c2 : b < 0
  · exact Ev.congr (fun k => if_pos c2) (hj _ _ _ _ _)
  refine Ev.congr (fun k => if_neg c2) ?_
  by_cases c3 : a > 1099511627776
  · exact Ev.congr (fun k => if_pos c3) (hj _ _ _ _ _)
  refine Ev.congr (fun k => if_neg c3) ?_
  by_cases c4 : b > 1099511627776
  · rw [decide_eq_true c4]; exact hj _ _ _ _ _
  rw [decide_eq_false c4]
  obtain ⟨a, rfl⟩ := Int.eq_ofNat_of_zero_le (show 0 ≤ a by omega)
  obtain ⟨b, rfl⟩ := Int.eq_ofNat_of_zero_le (show 0 ≤ b by omega)
  have hab : wrap64 ((a : Int) + b) = ((a + b : Nat) : Int) := by rw [wr (by omega) (by omega)]; rfl
  have h1 := H.w1
  have hnb : ∀ i, i < w * h → ∀ k ∈ nbs w h ways i, k < w * h := fun i hi k hk => nbs_lt h1 hi k hk
  have hsym := nbs_sym (w := w) (h := h) (ways := ways) h1
  have hin : ∀ {m : List Bool}, OKm w h m → ∀ x, inM m x → x < w * h := fun M x hx => by rw [← M.len]; exact hx.1
  obtain ⟨g, g1, G, g3⟩ := grow_val H ways hw a
  obtain ⟨s, s1, S, s3⟩ := shrink_val H ways hw a
  obtain ⟨gg, gg1, GG, gg3⟩ := grow_val G ways hw b
  obtain ⟨ss, ss1, SS, ss3⟩ := shrink_val S ways hw b
  obtain ⟨one, one1, ONE, one3⟩ := grow_val H ways hw (a + b)
  obtain ⟨two, two1, TWO, two3⟩ := shrink_val H ways hw (a + b)
  obtain ⟨gs, gs1, GS, gs3⟩ := grow_val S ways hw a
  obtain ⟨sg, sg1, SG, sg3⟩ := shrink_val G ways hw a
  have hmem : ∀ {m : List Bool}, OKm w h m → ∀ k, k < w * h → (inM m k ↔ m.getD k false = true) := fun M k hk => ⟨fun hx => hx.2, fun hx => ⟨by rw [M.len]; exact hk, hx⟩⟩
  have f1 : gg = one := list_ext_getD _ _ (by rw [GG.len, ONE.len]) fun k hk => by
    rw [GG.len] at hk
    have hw1 : within (nbs w h ways) (inM g) b k ↔ within (nbs w h ways) (within (nbs w h ways) (inM l) a) b k :=
      ⟨within_sub (fun x hx => (g3 x (hin G x hx)).mp hx.2) b k, within_sub (fun x hx => (hmem G x (within_lt hnb (hin H) a x hx)).mpr ((g3 x (within_lt hnb (hin H) a x hx)).mpr hx)) b k⟩
    have hw2 := (gg3 k hk).trans (hw1.trans ((within_add a b k).trans (one3 k hk).symm))
    exact Bool.eq_iff_iff.mpr hw2
  have hsn : ∀ x, x < w * h → (¬ s.getD x false = true ↔ within (nbs w h ways) (fun j => j < w * h ∧ ¬ l.getD j false = true) a x) := fun x hx => by
    rw [s3 x hx]
    exact Classical.not_not
  have hcl : ∀ n x, within (nbs w h ways) (fun j => j < w * h ∧ ¬ l.getD j false = true) n x → x < w * h := fun n x hx => within_lt hnb (fun y hy => hy.1) n x hx
  have f2 : ss = two := list_ext_getD _ _ (by rw [SS.len, TWO.len]) fun k hk => by
    rw [SS.len] at hk
    have hw1 : within (nbs w h ways) (fun j => j < w * h ∧ ¬ s.getD j false = true) b k ↔ within (nbs w h ways) (within (nbs w h ways) (fun j => j < w * h ∧ ¬ l.getD j false = true) a) b k :=
      ⟨within_sub (fun x hx => (hsn x hx.1).mp hx.2) b k, within_sub (fun x hx => ⟨hcl a x hx, (hsn x (hcl a x hx)).mpr hx⟩) b k⟩
    have hw2 := (ss3 k hk).trans ((not_congr (hw1.trans (within_add a b k))).trans (two3 k hk).symm)
    exact Bool.eq_iff_iff.mpr hw2
  have i1 : ∀ k, k < w * h → l.getD k false = true → g.getD k false = true := fun k hk hl => by
    rw [g3 k hk]
    have := within_le (nb := nbs w h ways) (S := inM l) 0 a ((hmem H k hk).mpr hl)
    rw [Nat.zero_add] at this
    exact this
  have i2 : ∀ k, k < w * h → s.getD k false = true → l.getD k false = true := fun k hk hs => by
    refine Classical.byContradiction fun hn => (s3 k hk).mp hs ?_
    have := within_le (nb := nbs w h ways) (S := fun j => j < w * h ∧ ¬ l.getD j false = true) 0 a ⟨hk, hn⟩
    rw [Nat.zero_add] at this
    exact this
  have i3 : ∀ k, k < w * h → gs.getD k false = true → l.getD k false = true := fun k hk hs => by
    refine within_back (S := fun j => l.getD j false = true) (T := inM s) hnb hsym a (fun x hx => ⟨hin S x hx, (s3 x (hin S x hx)).mp hx.2⟩) ((gs3 k hk).mp hs)
  have i4 : ∀ k, k < w * h → l.getD k false = true → sg.getD k false = true := fun k hk hl => by
    rw [sg3 k hk]
    intro hw1
    have h9 : ¬ (l.getD k false = true) := by
      refine within_back (S := fun j => ¬ l.getD j false = true) (T := fun j => j < w * h ∧ ¬ g.getD j false = true) hnb hsym a (fun x hx => ⟨hx.1, fun hx2 => hx.2 ((g3 x hx.1).mpr ?_)⟩) hw1
      exact within_sub (fun y hy => (hmem H y hy.1).mpr (Classical.not_not.mp hy.2)) a x hx2
    exact h9 hl
  subst f1
  subst f2
  refine Ev.step (f := fun k => _) (fun k => by rw [Aw.j0, if_neg (by decide), hab]) ?_
  refine Ev.bind g1 ?_
  refine Ev.bind s1 ?_
  refine Ev.bind gg1 ?_
  refine Ev.bind ss1 ?_
  refine Ev.bind one1 ?_
  refine Ev.bind two1 ?_
  refine Ev.bind gs1 ?_
  refine Ev.bind sg1 ?_
  simp only [Bw.f, Option.bind_some]
  refine Ev.congr (fun k => if_pos w00) ?_
  refine Ev.bind (in_val H G i1) ?_
  simp only [if_true]
  refine Ev.bind (in_val S H i2) ?_
  simp only [if_true]
  refine Ev.bind (same_val GG) ?_
  simp only [if_true]
  refine Ev.bind (same_val SS) ?_
  simp only [if_true]
  refine Ev.bind (in_val GS H i3) ?_
  simp only [if_true]
  exact Ev.bind (in_val H SG i4) (Ev.now true)
end ST
end Go.Proofs.Yteamphcehoaleaa

