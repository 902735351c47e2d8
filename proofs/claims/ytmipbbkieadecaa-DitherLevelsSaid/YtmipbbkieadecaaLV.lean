/- DitherLevels: the plain law. -/
import Derived.Test.YtmipbbkieadecaaK
import Derived.Test.YtmipbbkieadecaaM2
open Go Go.RowKit Go.Proofs.YtmipbbkieadecaaW.PrintWords Go.Proofs.YtmipbbkieadecaaW.PrintLast Go.Proofs.YtmipbbkieadecaaW.PrintMore
set_option linter.unusedVariables false
set_option linter.unusedSimpArgs false
namespace Go.Proofs.Ytmipbbkieadecaa
open PDA PDB
namespace LV

theorem unit_all (n j : Int) : ∃ a b, dither_Unit.f n j = some (a, b) ∧ halideref13_Unit.f n j = some (a, b) := by
  by_cases h : 2 ≤ n ∧ n ≤ 256 ∧ 0 ≤ j ∧ j < n
  · obtain ⟨n, rfl⟩ := Int.eq_ofNat_of_zero_le (show 0 ≤ n by omega)
    obtain ⟨j, rfl⟩ := Int.eq_ofNat_of_zero_le (show 0 ≤ j by omega)
    refine ⟨_, _, ?_, refUnit_eq n j (by omega) (by omega) (by omega)⟩
    unfold dither_Unit.f
    rw [level_yes _ _ h, Option.bind_some, if_pos rfl, unit_eq n j (by omega) (by omega) (by omega)]
    rfl
  · refine ⟨0, 130, ?_, ?_⟩
    · unfold dither_Unit.f
      rw [level_no _ _ h, Option.bind_some, if_neg (by decide)]
    · unfold halideref13_Unit.f halideref13_Is.f
      by_cases h1 : n ≥ 2
      · rw [if_pos h1]
        by_cases h2 : n ≤ 256
        · rw [Option.bind_some, if_pos (by simp [h2])]
          by_cases h3 : j < 0
          · rw [if_pos h3]
          · rw [if_neg h3, if_pos (by omega)]
        · rw [Option.bind_some, if_neg (by simp; omega)]
      · rw [if_neg h1]; rfl

theorem nearest_all (n v : Int) : ∃ a b, dither_Nearest.f 320 n v = some (a, b) ∧ halideref13_Nearest.f 320 n v = some (a, b) := by
  by_cases h : 2 ≤ n ∧ n ≤ 256
  · obtain ⟨n, rfl⟩ := Int.eq_ofNat_of_zero_le (show 0 ≤ n by omega)
    refine ⟨_, _, ?_, refNearest_eq n v (by omega) (by omega) 320 (by omega)⟩
    unfold dither_Nearest.f dither_levels.f
    rw [if_pos (by omega), Option.bind_some, if_pos (by simp; omega), nearest_eq n v (by omega) (by omega) 320 (by omega)]
    rfl
  · refine ⟨0, 130, ?_, ?_⟩
    · unfold dither_Nearest.f dither_levels.f
      by_cases h1 : n ≥ 2
      · rw [if_pos h1, Option.bind_some, if_neg (by simp; omega)]
      · rw [if_neg h1]; rfl
    · unfold halideref13_Nearest.f halideref13_Is.f
      by_cases h1 : n ≥ 2
      · rw [if_pos h1, Option.bind_some, if_neg (by simp; omega)]
      · rw [if_neg h1]; rfl

theorem law (n j v s : Int) (w0 : (Lit.int .i64 n).wf = true) (w1 : (Lit.int .i64 j).wf = true) (w2 : (Lit.int .i64 v).wf = true) (w3 : (Lit.int .u32 s).wf = true) : ∃ k, PDL.halidelaw13_DitherLevels.f k n j v s = some true := by
  refine ⟨320, ?_⟩
  have hs : 0 ≤ s ∧ s < 4294967296 := by
    have h : IntKind.u32.min ≤ s ∧ s ≤ IntKind.u32.max := by simpa [Lit.wf] using w3
    rw [show IntKind.u32.min = 0 from rfl, show IntKind.u32.max = 4294967295 from rfl] at h
    omega
  obtain ⟨a, b, u1, u2⟩ := unit_all n j
  obtain ⟨c, d, n1, n2⟩ := nearest_all n v
  obtain ⟨p, q, l1⟩ : ∃ p q, dither_Level.f n j = some (p, q) := by
    unfold dither_Level.f; split
    · exact ⟨_, _, rfl⟩
    · exact ⟨_, _, rfl⟩
  have l2 : halideref13_Level.f n j = some (p, q) := l1
  unfold PDL.halidelaw13_DitherLevels.f
  rw [known_true, Option.bind_some, if_pos rfl, l1, Option.bind_some, u1, Option.bind_some, n1, Option.bind_some, l2, Option.bind_some, u2, Option.bind_some, n2, Option.bind_some]
  simp only [if_true]
  obtain ⟨s, rfl⟩ := Int.eq_ofNat_of_zero_le hs.1
  rw [refUnits_eq s (by omega) 320 (by omega)]
  unfold dither_Units.f
  rw [if_pos hs, Option.bind_some, Option.bind_some, Int.toNat_natCast]
  simp
end LV
end Go.Proofs.Ytmipbbkieadecaa
