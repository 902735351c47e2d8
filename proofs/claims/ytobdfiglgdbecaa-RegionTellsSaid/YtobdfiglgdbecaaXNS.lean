import Derived.Test.YtobdfiglgdbecaaXNR
open Go Go.RowKit Go.Shelf Go.Lib Go.Proofs.YtobdfiglgdbecaaW.PrintWords Go.Proofs.YtobdfiglgdbecaaW.PrintLast Go.Proofs.YtobdfiglgdbecaaW.PrintMore
set_option linter.unusedVariables false
set_option linter.unusedSimpArgs false
namespace Go.Proofs.Ytobdfiglgdbecaa
def farB (n : Int) : Bool := decide (32768 < n) || decide (n < -32768)
theorem pred_far (w : World) : PredAt Try.prog 45 #[] (Value.int .i64) farB w := fun W n _ => by
  unfold FnGives; show Calls Try.prog 45 #[.int .i64 n] W fun e w' => e = .returned (.bool (decide (32768 < n) || decide (n < -32768))) ∧ ∃ q, w' = W.drewN q
  by_cases h1 : 32768 < n
  · have hb : decide (32768 < n) = true := decide_eq_true h1
    rw [hb]; go_enter Try.func45, Try.ntmps45
    go_wp2
    go_ret
    exact ⟨rfl, 0, rfl⟩
  · have hb : decide (32768 < n) = false := decide_eq_false h1
    rw [hb, Bool.false_or]
    by_cases h2 : n < -32768
    · have hb2 : decide (n < -32768) = true := decide_eq_true h2
      rw [hb2]; go_enter Try.func45, Try.ntmps45
      go_wp2
      go_ret
      exact ⟨rfl, 0, rfl⟩
    · have hb2 : decide (n < -32768) = false := decide_eq_false h2
      rw [hb2]; go_enter Try.func45, Try.ntmps45
      go_wp2
      go_ret
      exact ⟨rfl, 0, rfl⟩
def Db.f (l0 : List Int) : Option Bool := some (l0.any farB)
theorem Db.calls (A0 : Option Addr) (c0 : Nat) (l0 : List Int) (r : Bool) (w : World) (hr0 : Kd.C (Kd.int .i64) w A0 l0.length l0) (hc0 : l0.length ≤ c0) (h : Db.f l0 = some r) :
    Calls Try.prog 44 #[.slice A0 l0.length c0, .func (.func 45) #[] #[]] w fun e w' => e = .returned (.bool r) ∧ Drawn0 w w' := by
  obtain rfl := Option.some.inj h; have hlen := (Kd.reads_of_C (d := (0 : Int)) hr0).2.1
  rcases ints_cells hr0 with rfl | ⟨b, o, rfl, hc⟩
  · have h0 := AnyE.slices_ContainsFunc_empty (P := Try.prog) (ρ := Try.lCI_ren) { Try.lCI with } A0 c0 (.func (.func 45) #[] #[]) w
    change Calls Try.prog 44 _ _ _ at h0
    exact h0.mono fun e w' ⟨h1, h2⟩ => ⟨h1, ⟨0, h2⟩⟩
  · have eg : ∀ args w, (callFunc 45 args).run Try.prog w = .ok (.enter 45 args) w := fun args w => enters_ Try.func45 (by kernel_rfl) rfl args w
    have hS := AnyE.slices_ContainsFunc Try.lCI (Value.int .i64) farB 45 #[] eg b o l0.length c0 l0 w (pred_far w) (Nat.le_refl _) hlen hc
    change Calls Try.prog 44 _ _ _ at hS
    rw [List.take_length] at hS; exact hS.mono fun e w' ⟨h1, h2⟩ => ⟨h1, ⟨h2⟩⟩
end Go.Proofs.Ytobdfiglgdbecaa

