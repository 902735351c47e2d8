import Derived.Test.YtobdfiglgdbecaaYNR
import Derived.Shelf.SlicesQ.IndexFunc
namespace Go.Proofs
open Go.Shelf
shelf_lay_g SlLaysH0.n8 Slgf 8 at Try 95 as Try.lCS
end Go.Proofs
namespace Go.Proofs.Ytobdfiglgdbecaa
open Go Go.RowKit Go.Shelf Go.Lib Go.Proofs.YtobdfiglgdbecaaW.PrintWords Go.Proofs.YtobdfiglgdbecaaW.PrintLast Go.Proofs.YtobdfiglgdbecaaW.PrintMore
open PGB
set_option linter.unusedVariables false
set_option linter.unusedSimpArgs false
instance : Inhabited S93 := ⟨z93⟩
def encSp (x : S93) : List Value := [.int .i64 x.f0, .int .i64 x.f1]
theorem cell_lt {w : World} {a : Addr} {v : Value} (h : w.cell? a = some v) : a.block < w.heap.size := by
  unfold World.cell? at h
  cases e : w.heap[a.block]? with
  | none => rw [e] at h; cases h
  | some o => exact Cj e
theorem spans_cells {w : World} {A : Option Addr} {l : List S93} (h : Kd.C k93 w A l.length l) : l = [] ∨ ∃ b o, A = some ⟨b, o, none⟩ ∧ b < w.heap.size ∧ ∀ j, j < l.length → ∀ i v, (encSp l[j]!)[i]? = some v → w.cell? ⟨b, o + j * 2 + i, none⟩ = some v := by
  obtain ⟨_, _, hh⟩ := h
  by_cases hl : 0 < l.length
  · obtain ⟨ad, e, hc⟩ := hh hl
    have hcc : ∀ j, j < l.length → ∀ i v, (encSp l[j]!)[i]? = some v → w.cell? (ad.add (j * 2 + i)) = some v := fun j hj i v hv => by
      obtain ⟨c, _, hK, hc2⟩ := hc j l[j] (List.getElem?_eq_getElem hj)
      have hK := k93_open hK
      subst hK
      rw [getElem!_pos l j hj] at hv
      exact hc2 i v hv
    have h0 := hcc 0 hl 0 (.int .i64 (l[0]!).f0) rfl
    have h0' : w.cell? ad = some (.int .i64 (l[0]!).f0) := h0
    have hp := addr_plain h0'
    refine .inr ⟨ad.block, ad.off, by rw [e, ← hp], cell_lt h0', fun j hj i v hv => ?_⟩
    have := hcc j hj i v hv
    rw [hp, add_none] at this
    rw [Nat.add_assoc]
    exact this
  · exact .inl (List.length_eq_zero_iff.mp (by omega))
def inSp (x : Int) (s : S93) : Bool := decide (s.f0 ≤ x) && decide (x < s.f1)
theorem pred_in (x : Int) (B : Nat) (w : World) (hB : B < w.heap.size) (hcell : w.cell? ⟨B, 0, none⟩ = some (.int .i64 x)) :
    PredBelow Try.prog 96 #[.pointer (some ⟨B, 0, none⟩)] (fun s => .agg (encSp s).toArray) (inSp x) w := fun W s hb => by
  have hc : W.cell? ⟨B, 0, none⟩ = some (.int .i64 x) := (hb.cell (p := ⟨B, 0, none⟩) hB).trans hcell
  have hBW : B < W.heap.size := Nat.lt_of_lt_of_le hB hb.size
  have hne : B ≠ W.heap.size := by omega
  have HB := Aa.mk hb
  clear hb hcell
  show Calls Try.prog 96 #[.agg #[.int .i64 s.f0, .int .i64 s.f1], .pointer (some ⟨B, 0, none⟩)] W fun e w' => e = .returned (.bool (decide (s.f0 ≤ x) && decide (x < s.f1))) ∧ _
  generalize s.f0 = a
  generalize s.f1 = b
  by_cases h1 : a ≤ x
  · have hb1 : decide (a ≤ x) = true := decide_eq_true h1
    rw [hb1, Bool.true_and]
    by_cases h2 : x < b
    · have hb2 : decide (x < b) = true := decide_eq_true h2
      rw [hb2]
      go_enter Try.func96, Try.ntmps96
      go_wp2
      go_ret
      exact ⟨rfl, HB.out.alloc HB.out.size _⟩
    · have hb2 : decide (x < b) = false := decide_eq_false h2
      rw [hb2]
      go_enter Try.func96, Try.ntmps96
      go_wp2
      go_ret
      exact ⟨rfl, HB.out.alloc HB.out.size _⟩
  · have hb1 : decide (a ≤ x) = false := decide_eq_false h1
    rw [hb1, Bool.false_and]
    go_enter Try.func96, Try.ntmps96
    go_wp2
    go_ret
    exact ⟨rfl, HB.out.alloc HB.out.size _⟩
theorem idxS_none (A : Option Addr) (c : Nat) (fv : Value) (w : World) : Calls Try.prog 110 #[.slice A 0 c, fv] w fun e w' => e = .returned (.int .i64 (-1)) ∧ w' = w := by
  go_enter Try.func110, Try.ntmps110
  go_wp2
  go_loop [8] (fun s => s = .int .i64 0) (fun _ => 0)
  case atStart => rfl
  case round =>
    obtain rfl := hrel
    go_wp2
    go_ret
    exact ⟨rfl, rfl⟩
theorem conS_none (A : Option Addr) (c : Nat) (fv : Value) (w : World) : Calls Try.prog 95 #[.slice A 0 c, fv] w fun e w' => e = .returned (.bool false) ∧ w' = w := by
  go_enter Try.func95, Try.ntmps95
  go_wp2_with (go_at_call 110; refine (idxS_none A c fv _).mono ?_; rintro e w' ⟨rfl, rfl⟩)
  go_ret
  exact ⟨rfl, rfl⟩
def Cp.f (l0 : List S93) (a1 : Int) : Option Bool := some (l0.any (inSp a1))
theorem Cp.calls (A0 : Option Addr) (c0 : Nat) (l0 : List S93) (a1 : Int) (r : Bool) (w : World) (hr0 : Kd.C k93 w A0 l0.length l0) (hc0 : l0.length ≤ c0) (h : Cp.f l0 a1 = some r) :
    Calls Try.prog 86 #[.slice A0 l0.length c0, .int .i64 a1] w fun e w' => e = .returned (.bool r) ∧ Below w.heap.size w w' := by
  obtain rfl := Option.some.inj h
  have hlen := hr0.2.1
  have hcall : ∀ W, W = w.alloc (.cells #[.int .i64 a1] 3) → Calls Try.prog 95 #[.slice A0 l0.length c0, .func (.func 96) #[] #[.pointer (some ⟨w.heap.size, 0, none⟩)]] W fun e w' => e = .returned (.bool (l0.any (inSp a1))) ∧ Below w.heap.size w w' := fun W hW => by
    subst hW
    have hb := (Ad (Below.refl _ w) (.cells #[.int .i64 a1] 3) : Below w.heap.size w _)
    rcases spans_cells hr0 with rfl | ⟨b, o, rfl, hlt, hc⟩
    · exact (conS_none A0 c0 _ _).mono fun e w' ⟨h1, h2⟩ => ⟨h1, by rw [h2]; exact hb⟩
    · have eg : ∀ args w, (callFunc 96 args).run Try.prog w = .ok (.enter 96 args) w := fun args w => enters_ Try.func96 (by kernel_rfl) rfl args w
      have hS := AnyQ.slices_ContainsFunc Try.lCS 2 Try.isAgg93 Try.sizeOf93 encSp (fun _ => rfl) (inSp a1) 96 #[.pointer (some ⟨w.heap.size, 0, none⟩)] eg b o l0.length c0 l0 (w.alloc (.cells #[.int .i64 a1] 3))
        (pred_in a1 w.heap.size _ (by simp) (by simp)) (Nat.le_refl _) hlen (by simp; omega) (fun j hj i v hv => Lib.cell?_alloc_some _ (hc j hj i v hv))
      change Calls Try.prog 95 _ _ _ at hS
      rw [List.take_length] at hS
      exact hS.mono fun e w' ⟨h1, h2⟩ => ⟨h1, hb.trans (h2.mono (by simp))⟩
  generalize l0.any (inSp a1) = b at hcall ⊢
  have HC := Aa.mk hcall
  clear hcall hr0
  go_enter Try.func86, Try.ntmps86
  go_wp2_with (go_at_call 95; refine (HC.out _ rfl).mono ?_; rintro e w' ⟨rfl, hb⟩; have HB := Aa.mk hb; clear hb)
  go_ret
  exact ⟨rfl, HB.out⟩
end Go.Proofs.Ytobdfiglgdbecaa

