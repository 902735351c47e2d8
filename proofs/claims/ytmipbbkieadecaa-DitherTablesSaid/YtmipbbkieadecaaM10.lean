/- DitherTables: the plain law: at each of the five sides by evaluation; elsewhere there are no tables. -/
import Derived.Test.YtmipbbkieadecaaPDTx1
import Derived.Test.YtmipbbkieadecaaK
open Go Go.RowKit Go.Proofs.YtmipbbkieadecaaW.PrintWords Go.Proofs.YtmipbbkieadecaaW.PrintLast Go.Proofs.YtmipbbkieadecaaW.PrintMore
set_option linter.unusedVariables false
set_option linter.unusedSimpArgs false
namespace Go.Proofs.Ytmipbbkieadecaa
open PDA PDB PDC PDK PDT

def PDT.halidelaw13_DitherTables.f2 (k : Nat) (a0 : Int) : Option Bool :=
  (halidelaw13_known.f k).bind fun b => if b = true then (halideref13_Table.f k a0).bind fun q => halidelaw13_DitherTables.f k a0 q.1 q.2 else some false
theorem PDT.halidelaw13_DitherTables.calls2 (k : Nat) (a0 : Int) (r : Bool) (w : World) (h : halidelaw13_DitherTables.f2 k a0 = some r) (HT0 : r = true := by decide) :
    Calls Try.prog 3 #[.int .i64 a0] w fun e w' => e = .returned (.bool r) ∧ Below w.heap.size w w' := by
  subst HT0
  unfold halidelaw13_DitherTables.f2 at h
  obtain ⟨b, hb, h⟩ := Option.bind_eq_some_iff.mp h
  cases b with
  | false => simp at h
  | true =>
    rw [if_pos rfl] at h
    obtain ⟨⟨l, f⟩, hq, h⟩ := Option.bind_eq_some_iff.mp h
    exact halidelaw13_DitherTables.calls k a0 l f true w hb hq h rfl

def chkTab (side : Int) : Bool := match halideref13_Table.f 700 side with
  | some (l, f) => halidelaw13_DitherTables.f 700 side l f == some true
  | none => false
set_option maxRecDepth 100000 in
theorem tab1 : chkTab 1 = true := by decide +kernel
set_option maxRecDepth 100000 in
theorem tab2 : chkTab 2 = true := by decide +kernel
set_option maxRecDepth 100000 in
theorem tab4 : chkTab 4 = true := by decide +kernel
set_option maxRecDepth 100000 in
theorem tab8 : chkTab 8 = true := by decide +kernel
set_option maxRecDepth 100000 in
theorem tab16 : chkTab 16 = true := by decide +kernel

theorem known_700 : halidelaw13_known.f 700 = some true := by
  have up : ∀ d, halidelaw13_known.f (320 + d) = some true := by
    intro d
    induction d with
    | zero => exact known_true
    | succ d ih => exact halidelaw13_known.mono _ _ ih
  exact up 380

namespace TA
theorem of_chk (side : Int) (h : chkTab side = true) : halidelaw13_DitherTables.f2 700 side = some true := by
  unfold halidelaw13_DitherTables.f2
  rw [known_700, Option.bind_some, if_pos rfl]
  unfold chkTab at h
  cases hq : halideref13_Table.f 700 side with
  | none => rw [hq] at h; simp at h
  | some q =>
    obtain ⟨l, f⟩ := q
    rw [hq] at h
    rw [Option.bind_some]
    exact eq_of_beq h
theorem law (side : Int) (w0 : (Lit.int .i64 side).wf = true) : ∃ k, halidelaw13_DitherTables.f2 k side = some true := by
  refine ⟨700, ?_⟩
  clear w0
  by_cases h1 : side = 1
  · subst h1; exact of_chk 1 tab1
  by_cases h2 : side = 2
  · subst h2; exact of_chk 2 tab2
  by_cases h3 : side = 4
  · subst h3; exact of_chk 4 tab4
  by_cases h4 : side = 8
  · subst h4; exact of_chk 8 tab8
  by_cases h5 : side = 16
  · subst h5; exact of_chk 16 tab16
  have hs : sideE side = none := by unfold sideE; rw [if_neg h1, if_neg h2, if_neg h3, if_neg h4, if_neg h5]
  have hi : halideref13_IsSide.f side = some false := by
    unfold halideref13_IsSide.f
    rw [if_neg h1, if_neg h2, if_neg h3, if_neg h4]
    simp [h5]
  have ht : dither_Table.f side = some ([], 131) := by
    unfold dither_Table.f
    rw [hs]
  have hr : halideref13_Table.f 700 side = some ([], 131) := by
    unfold halideref13_Table.f
    rw [hi, Option.bind_some, if_neg (by decide)]
  unfold halidelaw13_DitherTables.f2
  rw [known_700, Option.bind_some, if_pos rfl, hr, Option.bind_some]
  unfold halidelaw13_DitherTables.f
  rw [ht, Option.bind_some, if_pos rfl]
  show halidelaw13_DitherTables.j0 (699 + 1) side [] [] false = _
  rw [halidelaw13_DitherTables.j0, if_neg (by decide)]
  have e0 : wrap64 ((wrap64 (side * side)) * (mn (([] : List (List Int)).length : Int) 1)) = 0 := by
    have : mn (([] : List (List Int)).length : Int) 1 = 0 := by decide
    rw [this, Int.mul_zero, w64 0 (by omega) (by omega)]
  rw [e0, if_pos (by decide), if_pos (by decide)]
  show halidelaw13_DitherTables.l0 (698 + 1) side [] [] [] 0 = _
  rw [halidelaw13_DitherTables.l0, if_neg (by decide), ht, Option.bind_some]
  show halidelaw13_DitherTables.l2 (697 + 1) [] [] 0 = _
  rw [halidelaw13_DitherTables.l2, if_neg (by decide)]
end TA
end Go.Proofs.Ytmipbbkieadecaa
