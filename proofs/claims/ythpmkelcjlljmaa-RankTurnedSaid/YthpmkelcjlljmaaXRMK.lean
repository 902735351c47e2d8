import Derived.Test.YthpmkelcjlljmaaXPRKx1
open Go Go.RowKit Go.Proofs.YthpmkelcjlljmaaW.PrintWords Go.Proofs.YthpmkelcjlljmaaW.PrintLast Go.Proofs.YthpmkelcjlljmaaW.PrintMore
set_option linter.unusedVariables false
set_option linter.unusedSimpArgs false
namespace Go.Proofs.Ythpmkelcjlljmaa
open PRA PRB PRK
set_option maxRecDepth 100000 in
theorem known_true : Au.f 100 = some true := by decide +kernel
theorem w64 (x : Int) (h1 : -9223372036854775808 ≤ x) (h2 : x ≤ 9223372036854775807) : wrap64 x = x := by unfold wrap64; omega
theorem w_succ (n : Nat) (h : n ≤ 100000000) : wrap64 ((n : Int) + 1) = ((n + 1 : Nat) : Int) := by rw [w64 _ (by omega) (by omega)]; omega
theorem u32_all {l : List Int} (hw : ∀ x ∈ l, (Lit.int .u32 x).wf = true) : ∀ x ∈ l, 0 ≤ x ∧ x < 4294967296 := by
  intro x hx
  have h := hw x hx
  have h : IntKind.u32.min ≤ x ∧ x ≤ IntKind.u32.max := by simpa [Lit.wf] using h
  rw [show IntKind.u32.min = 0 from rfl, show IntKind.u32.max = 4294967295 from rfl] at h
  omega
end Go.Proofs.Ythpmkelcjlljmaa

