import Derived.Test.YteamphcehoaleaaM3
import Derived.Test.YteamphcehoaleaaPFSx1
set_option linter.unusedVariables false
set_option linter.unusedSimpArgs false
open Go Go.RowKit Go.Proofs.YteamphcehoaleaaW.PrintWords
namespace Go.Proofs.Yteamphcehoaleaa
open PFA PFS
namespace RTFS
theorem right_cases (a b : Int) (l : List Bool) (ways : Int) : Cb.f a b l ways = some false ∨ (Cb.f a b l ways = some true ∧ ∃ w h : Nat, a = w ∧ b = h ∧ OKm w h l ∧ (ways = 4 ∨ ways = 8)) := by
  unfold Cb.f Cj.f Co.f
  by_cases c1 : a ≥ 1
  · by_cases c2 : a ≤ 1024
    · by_cases c3 : b ≥ 1
      · by_cases c4 : b ≤ 1024
        · rw [if_pos c1, if_pos c2, if_pos c3, if_pos c4]
          obtain ⟨w, rfl⟩ := Int.eq_ofNat_of_zero_le (show 0 ≤ a by omega)
          obtain ⟨h, rfl⟩ := Int.eq_ofNat_of_zero_le (show 0 ≤ b by omega)
          have hwh : w * h ≤ 1024 * 1024 := Nat.mul_le_mul (by omega) (by omega)
          have e : wrap64 ((w : Int) * h) = ((w * h : Nat) : Int) := by
            rw [← Int.natCast_mul]
            generalize w * h = p at *
            unfold wrap64; omega
          rw [e]
          simp only [Option.bind_some]
          by_cases c5 : ((w * h : Nat) : Int) ≤ 65536
          · rw [if_pos (decide_eq_true c5)]
            by_cases c6 : (l.length : Int) = ((w * h : Nat) : Int)
            · rw [if_pos c6, Option.bind_some, if_pos rfl]
              by_cases c7 : ways = 4
              · rw [if_pos c7]
                exact .inr ⟨rfl, w, h, rfl, rfl, ⟨by omega, by omega, by omega, by omega, by omega, by omega⟩, .inl c7⟩
              · rw [if_neg c7]
                by_cases c8 : ways = 8
                · exact .inr ⟨by simp [c8], w, h, rfl, rfl, ⟨by omega, by omega, by omega, by omega, by omega, by omega⟩, .inr c8⟩
                · exact .inl (by simp [c8])
            · rw [if_neg c6]
              exact .inl (by simp)
          · rw [if_neg (by rw [decide_eq_false c5]; decide)]
            exact .inl (by simp)
        · rw [if_pos c1, if_pos c2, if_pos c3, if_neg c4]; exact .inl (by simp)
      · rw [if_pos c1, if_pos c2, if_neg c3]; exact .inl (by simp)
    · rw [if_pos c1, if_neg c2]; exact .inl (by simp)
  · rw [if_neg c1]; exact .inl (by simp)
end RTFS
end Go.Proofs.Yteamphcehoaleaa

