import Derived.Test.YtobdfiglgdbecaaYV5
set_option linter.unusedVariables false
set_option linter.unusedSimpArgs false
open Go Go.RowKit Go.Proofs.YtobdfiglgdbecaaW.PrintWords Go.Proofs.YtobdfiglgdbecaaW.PrintMore
namespace Go.Proofs.Ytobdfiglgdbecaa
open PGA PGB PGH PGK
namespace RG
theorem two_eq {a b a' b' : List Rc} {keep keep' : Bool → Bool → Bool} (ha : rightP a = 0) (hb : rightP b = 0) (ha' : rightP a' = 0) (hb' : rightP b' = 0) (hk : keep false false = false) (hk' : keep' false false = false)
    (h : ∀ x y, keep (cov a x y) (cov b x y) = keep' (cov a' x y) (cov b' x y)) : twoP a b keep = twoP a' b' keep' := by
  rw [two_val ha hb, two_val ha' hb', sweep_eq hk hk' h]
theorem two_len (a b : List Rc) (keep : Bool → Bool → Bool) : (twoP a b keep).1.length ≤ 4096 := by
  unfold twoP toldP
  split
  · split
    · split
      · split
        · simp
        · simp only []; omega
      · simp
    · simp
  · simp
end RG
namespace VR
open RG (cov rightP twoP flat sweepP)
structure Good (F : List RG.Rc) (c : Int → Int → Bool) : Prop where
  right : RG.rightP F = 0
  cov : ∀ x y, RG.cov F x y = c x y
theorem good_few {a : List S58} (h : fewB a = true) : Good (a.map rc) (RG.cov (a.map rc)) := ⟨(few_of h).2, fun _ _ => rfl⟩
theorem good_two {A B : List RG.Rc} {c d : Int → Int → Bool} {keep : Bool → Bool → Bool} (hk : keep false false = false) (ha : Good A c) (hb : Good B d) (hl : (flat (sweepP A B keep)).length ≤ 4096) :
    twoP A B keep = (flat (sweepP A B keep), 0) ∧ Good (flat (sweepP A B keep)) (fun x y => keep (c x y) (d x y)) :=
  ⟨RG.two_good ha.right hb.right hl, RG.right_form ha.right hb.right hl, fun x y => by rw [RG.cov_sweep _ _ hk, ha.cov, hb.cov]⟩
theorem two_same {A B A' B' : List RG.Rc} {c d c' d' : Int → Int → Bool} {keep keep' : Bool → Bool → Bool} (ha : Good A c) (hb : Good B d) (ha' : Good A' c') (hb' : Good B' d') (hk : keep false false = false) (hk' : keep' false false = false)
    (h : ∀ x y, keep (c x y) (d x y) = keep' (c' x y) (d' x y)) : twoP A B keep = twoP A' B' keep' :=
  RG.two_eq ha.right hb.right ha'.right hb'.right hk hk' fun x y => by rw [ha.cov, hb.cov, ha'.cov, hb'.cov]; exact h x y
theorem eqP (P Q : List RG.Rc × Int) (h : P = Q) (hl : P.1.length ≤ 4096) : Ev (fun k => Ae.f k (outP P).1 (outP Q).1) true := by
  subst h
  exact eqR_true _ _ (by unfold outP; rw [List.length_map]; omega) rfl
theorem union_of (F G : List RG.Rc) : Ev (fun k => B2.f k (F.map cr) (G.map cr)) (outP (twoP F G RG.eitherB)) := by
  have h := union_val (F.map cr) (G.map cr); rwa [map_rc_cr, map_rc_cr] at h
end VR
end Go.Proofs.Ytobdfiglgdbecaa

