import Derived.Test.YtobdfiglgdbecaaXPGAx0
import Derived.Test.YtobdfiglgdbecaaXNR
open Go Go.RowKit Go.Proofs.YtobdfiglgdbecaaW.PrintWords Go.Proofs.YtobdfiglgdbecaaW.PrintLast Go.Proofs.YtobdfiglgdbecaaW.PrintMore
set_option linter.unusedVariables false
set_option linter.unusedSimpArgs false
namespace Go.Proofs.Ytobdfiglgdbecaa
def keepB (a : Int) (x y : Bool) : Bool := if a = 49 then x else if a = 57 then x || y else if a = 58 then x && y else if a = 59 then x && !y else x != y
def IsKeep (a : Int) : Prop := a = 49 ∨ a = 57 ∨ a = 58 ∨ a = 59 ∨ a = 61
instance (a : Int) : Decidable (IsKeep a) := by unfold IsKeep; infer_instance
def C5.f (a : Int) (x y : Bool) : Option Bool := some (keepB a x y)
theorem eg_ {a : Int} (h : Aa (IsKeep a)) : ∀ args w, (callFunc a.toNat args).run Try.prog w = .ok (.enter a.toNat args) w := by
  rcases h.out with rfl | rfl | rfl | rfl | rfl
  · exact fun args w => enters_ Try.func49 (by kernel_rfl) rfl args w
  · exact fun args w => enters_ Try.func57 (by kernel_rfl) rfl args w
  · exact fun args w => enters_ Try.func58 (by kernel_rfl) rfl args w
  · exact fun args w => enters_ Try.func59 (by kernel_rfl) rfl args w
  · exact fun args w => enters_ Try.func61 (by kernel_rfl) rfl args w
theorem keep1 (x y : Bool) (w : World) : Calls Try.prog 49 #[.bool x, .bool y] w fun e w' => e = .returned (.bool x) ∧ Drawn0 w w' := by
  go_enter Try.func49, Try.ntmps49
  go_wp2
  go_ret
  exact ⟨rfl, ⟨0, rfl⟩⟩
theorem keep2 (x y : Bool) (w : World) : Calls Try.prog 57 #[.bool x, .bool y] w fun e w' => e = .returned (.bool (x || y)) ∧ Drawn0 w w' := by
  cases x <;> cases y <;>
  · go_enter Try.func57, Try.ntmps57
    go_wp2
    go_ret
    exact ⟨rfl, ⟨0, rfl⟩⟩
theorem keep3 (x y : Bool) (w : World) : Calls Try.prog 58 #[.bool x, .bool y] w fun e w' => e = .returned (.bool (x && y)) ∧ Drawn0 w w' := by
  cases x <;> cases y <;>
  · go_enter Try.func58, Try.ntmps58
    go_wp2
    go_ret
    exact ⟨rfl, ⟨0, rfl⟩⟩
theorem keep4 (x y : Bool) (w : World) : Calls Try.prog 59 #[.bool x, .bool y] w fun e w' => e = .returned (.bool (x && !y)) ∧ Drawn0 w w' := by
  cases x <;> cases y <;>
  · go_enter Try.func59, Try.ntmps59
    go_wp2
    go_ret
    exact ⟨rfl, ⟨0, rfl⟩⟩
theorem keep5 (x y : Bool) (w : World) : Calls Try.prog 61 #[.bool x, .bool y] w fun e w' => e = .returned (.bool (x != y)) ∧ Drawn0 w w' := by
  cases x <;> cases y <;>
  · go_enter Try.func61, Try.ntmps61
    go_wp2
    go_ret
    exact ⟨rfl, ⟨0, rfl⟩⟩
theorem C5.calls (a0 : Int) (a1 a2 : Bool) (r : Bool) (w : World) (h : C5.f a0 a1 a2 = some r) (hk : Aa (IsKeep a0) := by first | assumption | exact ⟨by decide⟩) :
    Calls Try.prog a0.toNat #[.bool a1, .bool a2] w fun e w' => e = .returned (.bool r) ∧ Drawn0 w w' := by
  obtain rfl := Option.some.inj h
  rcases hk.out with rfl | rfl | rfl | rfl | rfl
  · exact keep1 a1 a2 w
  · exact keep2 a1 a2 w
  · exact keep3 a1 a2 w
  · exact keep4 a1 a2 w
  · exact keep5 a1 a2 w
section
variable {P : Program} {ops : Array Oper} {Q : Exit → Act → World → Prop}
theorem goesF_ {rest : List Oper} {oi : Oper} {a : Act} {w : World} (N : Option Tmp) (hd : oi.dst = N) (hg : oi.guard = none) (f : FuncId) (e : Operand) {xs : Array Operand} {ts : Array TypeId} (he : ∀ args w, (callFunc f args).run P w = .ok (.enter f args) w) (args : Array Value)
    (hop : oi.op = .call { callee := .value e, args := xs, argTypes := ts }) (hv : a.eval e = .func (.func f) #[] #[]) (hargs : xs.map a.eval = args)
    (h : Calls P f args w fun e w' => ∃ v, e = .returned v ∧ wpList P ops Q rest (a.put N v) w') : wpList P ops Q (oi :: rest) a w := by
  refine wpList_plain hg fun K hK => ?_
  have hrun : (execOp a.eval oi).run P w = .ok (.enter f args) w := by
    unfold execOp
    simp [hop, resolve, Deferred.ofValue, invoke, hv, hargs, he]
  unfold Oper.wp; rw [hrun, Oper.upon_enter]; refine h.mono fun e w'' hh => ?_
  obtain ⟨v, rfl, hk⟩ := hh; subst hd; exact hK _ _ hk
end
end Go.Proofs.Ytobdfiglgdbecaa

