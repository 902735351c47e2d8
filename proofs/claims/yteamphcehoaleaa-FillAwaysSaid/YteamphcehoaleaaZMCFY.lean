import Derived.Test.YteamphcehoaleaaZM6
import Derived.Test.YteamphcehoaleaaZPFYx1
set_option linter.unusedVariables false
set_option linter.unusedSimpArgs false
open Go Go.RowKit Go.Proofs.YteamphcehoaleaaW.PrintWords
namespace Go.Proofs.Yteamphcehoaleaa
open PFA PFY NR
namespace MCFY
theorem size_same (a b : Int) : (Cz.f a b = some false ∧ Co.f a b = some false) ∨ (Cz.f a b = some true ∧ Co.f a b = some true ∧ ∃ w h : Nat, a = w ∧ b = h ∧ 1 ≤ w ∧ w ≤ 1024 ∧ 1 ≤ h ∧ h ≤ 1024 ∧ w * h ≤ 65536) := by
  unfold Cz.f Do.f Co.f
  by_cases c1 : a ≥ 1
  · by_cases c2 : a ≤ 1024
    · by_cases c3 : b ≥ 1
      · by_cases c4 : b ≤ 1024
        · rw [if_pos c1, if_pos c2, if_pos c3, if_pos c4]
          obtain ⟨w, rfl⟩ := Int.eq_ofNat_of_zero_le (show 0 ≤ a by omega)
          obtain ⟨h, rfl⟩ := Int.eq_ofNat_of_zero_le (show 0 ≤ b by omega)
          have hwh : w * h ≤ 1024 * 1024 := Nat.mul_le_mul (by omega) (by omega)
          have e : wrap64 ((w : Int) * h) = ((w * h : Nat) : Int) := by
            rw [← Int.natCast_mul]
            generalize w * h = p at *
            unfold wrap64; omega
          rw [e, ← Int.natCast_mul]
          by_cases c5 : ((w * h : Nat) : Int) ≤ 65536
          · rw [if_pos ⟨by omega, by omega, by omega, by omega, c5⟩]
            exact .inr ⟨rfl, by rw [decide_eq_true c5], w, h, rfl, rfl, by omega, by omega, by omega, by omega, by omega⟩
          · rw [if_neg (fun q => c5 q.2.2.2.2)]
            exact .inl ⟨rfl, by rw [decide_eq_false c5]⟩
        · rw [if_neg (fun q => by omega), if_pos c1, if_pos c2, if_pos c3, if_neg c4]; exact .inl ⟨rfl, rfl⟩
      · rw [if_neg (fun q => by omega), if_pos c1, if_pos c2, if_neg c3]; exact .inl ⟨rfl, rfl⟩
    · rw [if_neg (fun q => by omega), if_pos c1, if_neg c2]; exact .inl ⟨rfl, rfl⟩
  · rw [if_neg (fun q => by omega), if_neg c1]; exact .inl ⟨rfl, rfl⟩
theorem check_no {a b : Int} {l : List Bool} (h1 : Cz.f a b = some false) (h2 : Co.f a b = some false) : Cn.f a b l = some 300 ∧ Ca.f a b l = some 300 := by
  unfold Cn.f Ca.f
  rw [h1, h2]
  rw [Option.bind_some]
  exact ⟨if_neg (by decide), if_neg (by decide)⟩
theorem check_yes {a b : Int} {l : List Bool} (h1 : Cz.f a b = some true) (h2 : Co.f a b = some true) : Cn.f a b l = (if (l.length : Int) = wrap64 (a * b) then some 0 else some 301) ∧ Ca.f a b l = (if (l.length : Int) = wrap64 (a * b) then some 0 else some 301) := by
  unfold Cn.f Ca.f
  rw [h1, h2]
  rw [Option.bind_some]
  exact ⟨if_pos rfl, if_pos rfl⟩
theorem mask_cases (a b : Int) (l : List Bool) : (∃ e, e ≠ 0 ∧ Cn.f a b l = some e ∧ Ca.f a b l = some e) ∨ (Cn.f a b l = some 0 ∧ Ca.f a b l = some 0 ∧ ∃ w h : Nat, a = w ∧ b = h ∧ OKm w h l) := by
  rcases size_same a b with ⟨h1, h2⟩ | ⟨h1, h2, w, h, rfl, rfl, w1, w2, g1, g2, ha⟩
  · obtain ⟨k1, k2⟩ := check_no (l := l) h1 h2
    exact .inl ⟨300, by decide, k1, k2⟩
  · obtain ⟨k1, k2⟩ := check_yes (l := l) h1 h2
    have e : wrap64 ((w : Int) * h) = ((w * h : Nat) : Int) := by
      rw [← Int.natCast_mul]
      exact i64_small _ ha
    rw [e] at k1 k2
    clear e h1 h2
    by_cases c : (l.length : Int) = ((w * h : Nat) : Int)
    · rw [if_pos c] at k1 k2
      exact .inr ⟨k1, k2, w, h, rfl, rfl, ⟨w1, w2, g1, g2, ha, Int.ofNat.inj c⟩⟩
    · rw [if_neg c] at k1 k2
      exact .inl ⟨301, by decide, k1, k2⟩
theorem grid_cases (a b : Int) (l : List Bool) (ways : Int) : (∃ e, e ≠ 0 ∧ (∃ t : Int × Int × Int, C0.f a b l ways = some (t.1, t.2.1, t.2.2, e)) ∧ Cr.f a b l ways = some e) ∨ (Cr.f a b l ways = some 0 ∧ (ways = 4 ∨ ways = 8) ∧ ∃ w h : Nat, a = w ∧ b = h ∧ OKm w h l) := by
  unfold C0.f Cr.f Cs.f
  rcases mask_cases a b l with ⟨e, he, h1, h2⟩ | ⟨h1, h2, w, h, rfl, rfl, H⟩
  · rw [h1, h2]
    exact .inl ⟨e, he, ⟨(0, 0, 0), by rw [Option.bind_some, if_neg he]⟩, by rw [Option.bind_some, if_neg he]⟩
  · rw [h1, h2]
    simp only [Option.bind_some, if_true]
    by_cases c4 : ways = 4
    · exact .inr ⟨by rw [if_pos c4]; rfl, .inl c4, w, h, rfl, rfl, H⟩
    · by_cases c8 : ways = 8
      · rw [if_neg c4]
        exact .inr ⟨by simp [c8], .inr c8, w, h, rfl, rfl, H⟩
      · rw [if_neg c4, if_neg c4, if_neg c8]
        exact .inl ⟨302, by decide, ⟨(0, 0, 0), rfl⟩, by simp [c8]⟩
end MCFY
end Go.Proofs.Yteamphcehoaleaa

