import Derived.Test.YtobdfiglgdbecaaYPGBx0
import Derived.Test.YtobdfiglgdbecaaYM4
import Derived.Shelf.SlicesE.IndexFunc
import Derived.Shelf.Lay
import Derived.Ground.SlgfProg
import Derived.WalkKit
namespace Go.Proofs
open Go.Shelf
shelf_lay_g SlLaysH.n8 Slgf 8 at Try 44 as Try.lCI
end Go.Proofs
namespace Go.Proofs.Ytobdfiglgdbecaa
open Go Go.RowKit Go.Shelf Go.Lib Go.Proofs.YtobdfiglgdbecaaW.PrintWords Go.Proofs.YtobdfiglgdbecaaW.PrintLast Go.Proofs.YtobdfiglgdbecaaW.PrintMore
set_option linter.unusedVariables false
set_option linter.unusedSimpArgs false
theorem addr_plain {w : World} {ad : Addr} {v : Value} (h : w.cell? ad = some v) : ad = ⟨ad.block, ad.off, none⟩ := by
  obtain ⟨b, o, s⟩ := ad
  cases s with
  | none => rfl
  | some x =>
    unfold World.cell? at h
    split at h
    · simp at h
    · cases h
theorem add_none (b o j : Nat) : (⟨b, o, none⟩ : Addr).add j = ⟨b, o + j, none⟩ := by
  unfold Addr.add
  split
  · rename_i h; rw [h]; rfl
  · rfl
theorem ints_cells {w : World} {A : Option Addr} {l : List Int} (h : Kd.C (Kd.int .i64) w A l.length l) : l = [] ∨ ∃ b o, A = some ⟨b, o, none⟩ ∧ ∀ j, j < l.length → w.cell? ⟨b, o + j, none⟩ = some (.int .i64 l[j]!) := by
  have hr := Kd.reads_of_C (d := (0 : Int)) h
  by_cases hl : 0 < l.length
  · obtain ⟨ad, e, hc⟩ := hr.2.2 hl
    have h0 := hc 0 hl
    have hp := addr_plain (ad := ad) (by
      have : ad.add 0 = ad := rfl
      rw [← this]; exact h0)
    refine .inr ⟨ad.block, ad.off, by rw [e, ← hp], fun j hj => ?_⟩
    have := hc j hj
    rw [hp, add_none] at this
    rw [this, getElem!_pos l j hj, List.getD_eq_getElem?_getD, List.getElem?_eq_getElem hj]
    rfl
  · exact .inl (List.length_eq_zero_iff.mp (by omega))
theorem pred_near (w : World) : PredAt Try.prog 82 #[] (Value.int .i64) (fun n => !RG.nearB n) w := fun W n _ => by
  unfold FnGives
  have e : (!RG.nearB n) = (decide (n < -8192) || decide (8192 < n)) := by
    unfold RG.nearB
    rw [Bool.eq_iff_iff]
    simp only [Bool.not_eq_true', Bool.and_eq_false_iff, Bool.or_eq_true, decide_eq_true_eq, decide_eq_false_iff_not]
    omega
  show Calls Try.prog 82 #[.int .i64 n] W fun e w' => e = .returned (.bool (!RG.nearB n)) ∧ ∃ q, w' = W.drewN q
  rw [e]
  by_cases h1 : n < -8192
  · have hb : decide (n < -8192) = true := decide_eq_true h1
    rw [hb]
    go_enter Try.func82, Try.ntmps82
    go_wp2
    go_ret
    exact ⟨rfl, 0, rfl⟩
  · have hb : decide (n < -8192) = false := decide_eq_false h1
    rw [hb, Bool.false_or]
    by_cases h2 : 8192 < n
    · have hb2 : decide (8192 < n) = true := decide_eq_true h2
      rw [hb2]
      go_enter Try.func82, Try.ntmps82
      go_wp2
      go_ret
      exact ⟨rfl, 0, rfl⟩
    · have hb2 : decide (8192 < n) = false := decide_eq_false h2
      rw [hb2]
      go_enter Try.func82, Try.ntmps82
      go_wp2
      go_ret
      exact ⟨rfl, 0, rfl⟩
theorem any_near (l : List Int) : l.any (fun n => !RG.nearB n) = !l.all RG.nearB := by rw [List.not_all_eq_any_not]
def Ce.f (l0 : List Int) : Option Bool := some (l0.all RG.nearB)
theorem Ce.calls (A0 : Option Addr) (c0 : Nat) (l0 : List Int) (r : Bool) (w : World) (hr0 : Kd.C (Kd.int .i64) w A0 l0.length l0) (hc0 : l0.length ≤ c0) (h : Ce.f l0 = some r) :
    Calls Try.prog 70 #[.slice A0 l0.length c0] w fun e w' => e = .returned (.bool r) ∧ Drawn0 w w' := by
  obtain rfl := Option.some.inj h
  have hlen := (Kd.reads_of_C (d := (0 : Int)) hr0).2.1
  have hcall : ∀ W, W = w → Calls Try.prog 44 #[.slice A0 l0.length c0, .func (.func 82) #[] #[]] W fun e w' => e = .returned (.bool (!l0.all RG.nearB)) ∧ ∃ q, w' = W.drewN q := fun W hW => by
    subst hW
    rcases ints_cells hr0 with rfl | ⟨b, o, rfl, hc⟩
    · have h0 := AnyE.slices_ContainsFunc_empty (P := Try.prog) (ρ := Try.lCI_ren) { Try.lCI with } A0 c0 (.func (.func 82) #[] #[]) W
      change Calls Try.prog 44 _ _ _ at h0
      exact h0.mono fun e w' ⟨h1, h2⟩ => ⟨h1, 0, h2⟩
    · have eg : ∀ args w, (callFunc 82 args).run Try.prog w = .ok (.enter 82 args) w := fun args w => enters_ Try.func82 (by kernel_rfl) rfl args w
      have hS := AnyE.slices_ContainsFunc Try.lCI (Value.int .i64) (fun n => !RG.nearB n) 82 #[] eg b o l0.length c0 l0 W (pred_near W) (Nat.le_refl _) hlen hc
      change Calls Try.prog 44 _ _ _ at hS
      rw [List.take_length, any_near] at hS
      exact hS
  generalize l0.all RG.nearB = b at hcall ⊢
  have HC := Aa.mk hcall
  clear hcall hr0
  cases b with
  | true =>
    go_enter Try.func70, Try.ntmps70
    go_wp2_with (go_at_call 44; refine (HC.out _ rfl).mono ?_; rintro e w' ⟨rfl, ⟨q, rfl⟩⟩)
    go_ret
    exact ⟨rfl, ⟨q, rfl⟩⟩
  | false =>
    go_enter Try.func70, Try.ntmps70
    go_wp2_with (go_at_call 44; refine (HC.out _ rfl).mono ?_; rintro e w' ⟨rfl, ⟨q, rfl⟩⟩)
    go_ret
    exact ⟨rfl, ⟨q, rfl⟩⟩
end Go.Proofs.Ytobdfiglgdbecaa

