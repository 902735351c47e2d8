import Derived.Test.YtobdfiglgdbecaaRows
import Derived.Test.YtobdfiglgdbecaaYOR
import Derived.Deep.SlicePairs
open Go Go.RowKit Go.WideShapes Go.ChangeShapes Go.Deep
set_option linter.unusedVariables false
namespace Go.Proofs.Ytobdfiglgdbecaa.OP
section
variable {H : Type} {enc : TypeId × Value → H} {P : Program} {w : World} {base : Nat} {spare : Nat → Bool} {held : Bool}
theorem bulk_pos (d : DataW H) : 0 < Rows.uptoBulk d := by
  cases d with
  | lit l => cases l <;> exact Nat.succ_pos _
  | nil => exact Nat.succ_pos _
  | ptr d => exact Nat.succ_pos _
  | slice elems spare => exact Nat.succ_pos _
  | agg parts => exact Nat.succ_pos _
  | iface t d => exact Nat.succ_pos _
  | map entries => exact Nat.succ_pos _
  | held h => exact Nat.succ_pos _
theorem bulk_len : ∀ l : List (DataW H), l.length ≤ Rows.uptoBulkAll l
  | [] => Nat.zero_le _
  | d :: t => by
    have h1 := bulk_len t
    have h2 := bulk_pos d
    simp only [Rows.uptoBulkAll, List.length_cons]
    omega
theorem slice_bulk {t e : TypeId} {A : Option Addr} {len cap : Nat} {d : DataW H} {p : List MemPlace} (hs : P.underlying t = some (.slice e)) (h : DataW.Trod enc P w base spare held t (.slice A len cap) d p) : len ≤ Rows.uptoBulk d := by
  obtain ⟨fuel, hf⟩ := h
  rcases Go.Deep.open_slice hs hf with ⟨hcs, hx⟩ | ⟨x, l, c, m, n, D, Pl, hcs, _, hl, hm, hmm, hx, _⟩
  · simp [Value.cells] at hcs
    omega
  · simp [Value.cells] at hcs
    obtain ⟨rfl, rfl, rfl⟩ := hcs
    obtain ⟨rfl, _⟩ := Prod.mk.inj hx
    have h1 := bulk_len ((List.range len).map D)
    rw [List.length_map, List.length_range] at h1
    simp only [Rows.uptoBulk]
    omega
end
end Go.Proofs.Ytobdfiglgdbecaa.OP

