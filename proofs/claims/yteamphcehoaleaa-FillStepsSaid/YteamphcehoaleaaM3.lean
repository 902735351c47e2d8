import Derived.Test.YteamphcehoaleaaM2
import Derived.Test.YteamphcehoaleaaPT
import Derived.Test.YteamphcehoaleaaFL
set_option linter.unusedVariables false
set_option linter.unusedSimpArgs false
open Go Go.RowKit Go.Proofs.YteamphcehoaleaaW.PrintWords
namespace Go.Proofs.Yteamphcehoaleaa
open PFA FM
namespace FM
end FM
theorem i64_small (p : Nat) (h : p ≤ 65536) : wrap64 (p : Int) = (p : Int) := by unfold wrap64; omega
structure OKm (w h : Nat) (l : List Bool) : Prop where
  w1 : 1 ≤ w
  w2 : w ≤ 1024
  h1 : 1 ≤ h
  h2 : h ≤ 1024
  a : w * h ≤ 65536
  len : l.length = w * h
theorem new_ok {w h : Nat} {l : List Bool} (H : OKm w h l) : C6.f w h 0 = some ((w : Int), (h : Int), List.replicate ((w : Int) * h).toNat 0, 0) := by
  have h1 := H.w1; have h2 := H.w2; have h3 := H.h1; have h4 := H.h2; have h5 := H.a
  have h7 : (w : Int) * h ≤ 65536 := by
    rw [← Int.natCast_mul]
    generalize w * h = p at *
    omega
  unfold C6.f
  exact if_pos ⟨by omega, by omega, by omega, by omega, h7⟩
theorem area_w {w h : Nat} {l : List Bool} (H : OKm w h l) : wrap64 ((w : Int) * h) = ((w * h : Nat) : Int) := by
  have h5 := H.a
  rw [← Int.natCast_mul]
  exact i64_small _ h5
theorem sized_ok {w h : Nat} {l : List Bool} (H : OKm w h l) : Cy.f w h = some true := by
  unfold Cy.f
  rw [new_ok H, Option.bind_some]
  rfl
theorem fcheck_ok {w h : Nat} {l : List Bool} (H : OKm w h l) : Ce.f w h l = some 0 := by
  unfold Ce.f
  rw [sized_ok H, Option.bind_some, if_pos rfl, area_w H, if_pos (by rw [H.len])]
theorem gridOf_ok {w h : Nat} {l : List Bool} (H : OKm w h l) (ways : Int) (hw : ways = 4 ∨ ways = 8) : Cr.f w h l ways = some ((w : Int), (h : Int), ways, 0) := by
  unfold Cr.f
  rw [fcheck_ok H, Option.bind_some, if_pos rfl]
  rcases hw with e | e
  · rw [if_pos e]
  · rw [if_neg (by omega), if_pos e]
end Go.Proofs.Yteamphcehoaleaa

