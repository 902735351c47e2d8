import Derived.Test.YtbfimplajocmmaaXPFAx2
import Derived.Test.YtbfimplajocmmaaXMP
import Derived.RangeFuncNested
import Derived.RangeFuncBound
import Derived.RangeFuncCalls
import Derived.RangeFuncLeaves
import Derived.Shelf.Abstract
import Derived.Shelf.RegionOpen
import Derived.WalkKit
import Derived.OwnWalkIn
import Derived.TacticsInMore
import Derived.LoopNIn
import Derived.LoopIn
open Go Go.RowKit Go.Shelf Go.Proofs.YtbfimplajocmmaaW.PrintWords Go.Proofs.YtbfimplajocmmaaW.PrintLast Go.Proofs.YtbfimplajocmmaaW.PrintMore
attribute [local go_sem] Oper.semAt_some
set_option linter.unusedVariables false
set_option linter.unusedSimpArgs false
namespace Go.Proofs.Ytbfimplajocmmaa
open PFA
def trues (ms : List Bool) (k : Nat) : List Nat := (List.range k).filter (fun i => ms.getD i false)
theorem trues_yes (ms : List Bool) (k : Nat) (h : ms.getD k false = true) : trues ms (k + 1) = trues ms k ++ [k] := by
  unfold trues; rw [List.range_succ, List.filter_append, List.filter_cons, h]; simp
theorem trues_no (ms : List Bool) (k : Nat) (h : ms.getD k false = false) : trues ms (k + 1) = trues ms k := by
  unfold trues; rw [List.range_succ, List.filter_append, List.filter_cons, h]; simp
theorem trues_le (ms : List Bool) (k : Nat) : (trues ms k).length ≤ k := by
  unfold trues; exact Nat.le_trans (List.length_filter_le _ _) (by simp)
abbrev Pl (N : Nat) := { i : Nat // i < N }
abbrev encP {N : Nat} (x : Pl N) : Array Value := #[.int .i64 (x.1 : Int)]
def KpM (A : Option Addr) (ms : List Bool) (W W' : World) : Prop := Kd.C Kd.bool W A ms.length ms → Kd.C Kd.bool W' A ms.length ms
set_option maxRecDepth 100000 in
set_option maxHeartbeats 4000000 in
theorem in1 (n : Nat) (hn : 1 ≤ n) (l Bm : Nat) (A : Option Addr) (c : Nat) (ms : List Bool) (hc : ms.length ≤ c) (J Jx : List (Pl ms.length) → World → Prop)
    (hY : ∀ pre (x : Pl ms.length) W, J pre W → pre.length < ms.length → YieldAt Fence.wide (n - 1) Try.prog l (encP x) W fun e W' =>
      (e = .returned (.bool true) ∧ J (pre ++ [x]) W' ∧ KpM A ms W W') ∨ (e = .returned (.bool false) ∧ Jx (pre ++ [x]) W'))
    (W : World) (hB : W.cell? ⟨Bm, 2, none⟩ = some (.slice A ms.length c)) (hC : Kd.C Kd.bool W A ms.length ms) (h0 : J [] W) :
    CallsIn Fence.wide n Try.prog 80 #[.func (.yield l) #[] #[], .pointer (some ⟨Bm, 0, none⟩)] W fun e W' => (∃ v, e = .returned v) ∧
      ((∃ ys, ys.map (·.1) = trues ms ms.length ∧ J ys W') ∨ (∃ pre, True ∧ Jx pre W')) := by
  have hm := Kd.C_max hC; have HC := Ae.mk hC; have H0 := Ae.mk h0; have HY := Ae.mk hY; clear hC h0 hY; refine callsIn_of_wp Try.func80 rfl trivial ?_ rfl
  simp only [Try.ntmps80, List.size_toArray, List.length_cons, List.length_nil, Nat.reduceAdd, Nat.reduceSub, Array.replicate_succ, Array.replicate_zero, List.push_toArray, List.append_toArray, List.nil_append, List.cons_append]
  gi_wp2
  clear hB
  gi_loopw [8] (fun i wr => ∃ k : Nat, k ≤ ms.length ∧ i = .int .i64 k ∧ Ae (∃ pre : List (Pl ms.length), pre.map (·.1) = trues ms k ∧ J pre wr) ∧ Ae (Kd.C Kd.bool wr A ms.length ms))
    (fun i _ => ms.length - (intOf i).toNat)
  case atStart => exact ⟨0, Nat.zero_le _, rfl, ⟨[], rfl, H0.out⟩, HC⟩
  case round =>
    obtain ⟨k, hk, rfl, HJ, HR⟩ := hrel; clear HC H0
    by_cases hlt : k < ms.length
    · obtain ⟨ad, hA, hcell⟩ := (Kd.C0 (enc := Value.bool) (d := false) (h1 := fun _ => rfl) HR.out).at_ (k : Int) (by omega) (by omega)
      subst hA; rw [Int.toNat_natCast] at hcell; obtain ⟨pre, hpre, hj⟩ := HJ.out
      have hplen : pre.length < ms.length := by
        have h1 := congrArg List.length hpre; rw [List.length_map] at h1; have h2 := trues_le ms k
        omega
      obtain ⟨b, hb⟩ : ∃ b, b = ms.getD k false := ⟨_, rfl⟩; have hrd : rdOf false ms (k : Int) = b := by rw [hb]; unfold rdOf; rw [Int.toNat_natCast]
      rw [hrd] at hcell; clear hrd; have HB := Ae.mk hb; have HP := Ae.mk hpre; have HJ0 := Ae.mk hj; clear hb hpre hj HJ; cases b with
      | false =>
        gi_wp2
        refine ⟨fun _ h => (by cases h), ?_⟩
        gi_wp2
        go_roundw
        case rel => exact ⟨k + 1, by omega, by go_num, ⟨pre, by rw [trues_no ms k HB.out.symm]; exact HP.out, HJ0.out⟩, HR⟩
        case measure => simp [intOf]; omega
      | true =>
        obtain ⟨fn, tmps, assign, body, hy, hR⟩ := HY.out pre ⟨k, hlt⟩ wr HJ0.out hplen; have HRD := Ae.mk hR; clear hR
        gi_wp2
        refine HRD.out.mono ?_; rintro e W3 (⟨rfl, hJ3, hk3⟩ | ⟨rfl, hJx3⟩)
        · have HJ3 := Ae.mk hJ3
          have HR3 := Ae.mk (hk3 HR.out); clear hJ3 hk3
          gi_wp2
          go_roundw
          case rel => exact ⟨k + 1, by omega, by go_num, ⟨_, by rw [trues_yes ms k HB.out.symm, List.map_append, HP.out]; rfl, HJ3.out⟩, HR3⟩
          case measure => simp [intOf]; omega
        · have HJ3 := Ae.mk hJx3
          clear hJx3
          gi_wp2
          refine bodyPost_ret (results_none rfl _ _ _) rfl ?_; exact ⟨⟨_, rfl⟩, .inr ⟨_, trivial, HJ3.out⟩⟩
    · obtain rfl : k = ms.length := by omega
      gi_wp2
      go_end0
      obtain ⟨pre, h1, h2⟩ := HJ.out; exact ⟨⟨_, rfl⟩, .inl ⟨pre, h1, h2⟩⟩
theorem in_made (A : Option Addr) (c : Nat) (ms : List Bool) (a0 a1 : Int) (w : World) :
    Calls Try.prog 50 #[.agg #[.int .i64 a0, .int .i64 a1, .slice A ms.length c]] w fun e w' => e = .returned (.func (.func 80) #[] #[.pointer (some ⟨w.heap.size, 0, none⟩)]) ∧ w' = w.alloc (.cells #[.int .i64 a0, .int .i64 a1, .slice A ms.length c] 27) := by
  go_enter Try.func50, Try.ntmps50
  go_wp2
  go_ret
  exact ⟨rfl, rfl⟩
theorem in_stops (n : Nat) (hn : 1 ≤ n) (Bm : Nat) (A : Option Addr) (c : Nat) (ms : List Bool) (hc : ms.length ≤ c) (w : World) (hBm : Bm < w.heap.size) (hB : w.cell? ⟨Bm, 2, none⟩ = some (.slice A ms.length c)) (hC : Kd.C Kd.bool w A ms.length ms) :
    SeqStopsK Fence.wide n Try.prog 80 #[.pointer (some ⟨Bm, 0, none⟩)] encP (KpM A ms) (fun ys : List (Pl ms.length) => ys.map (·.1) = trues ms ms.length) (fun _ => True) ms.length w := fun l J Jx W hW _ _ hY h0 =>
  in1 n hn l Bm A c ms hc J Jx hY W ((hW.cell (p := ⟨Bm, 2, none⟩) hBm).trans hB) (Kd.Bw hC hW) h0
theorem C_kept {α : Type} {enc : α → Value} {d : α} {h1 : ∀ x, (enc x).oneCell' = true} {W W' : World} {row : Option Nat} {A : Option Addr} {n : Nat} {xs : List α} (h : (Kd.scalar enc h1).C W A n xs) (hg : W.grownBy W' row) (hr : ∀ r, row = some r → ∃ o : Obj, W.heap[r]? = some o ∧ o.isCells = false) : (Kd.scalar enc h1).C W' A n xs := by
  have hc := Kd.C0 (d := d) h; refine Kd.C_of_reads (d := d) ⟨hc.1, hc.2.1, fun hn => ?_⟩; obtain ⟨x, hA, hx⟩ := hc.2.2 hn; exact ⟨x, hA, fun j hj => cell_kept (hx j hj) hg hr⟩
theorem R_kept {α : Type} {d : Kd α} {e base : Nat} {ok : Nat → Prop} {W W' : World} {row : Option Nat} {v : Value} {xs : List α} (h : d.R e W base ok v xs) (hg : W.grownBy W' row) (hr : ∀ r, row = some r → ∃ o : Obj, W.heap[r]? = some o ∧ o.isCells = false) : d.R e W' base ok v xs := by
  refine Kd.Bt (Kd.Dw (Kd.Cu h) hg (fun k hk => ?_)) (fun k hk => hk.1); obtain ⟨_, _, _, q, _, cells, hb⟩ := hk; intro e; obtain ⟨o, ho, hc⟩ := hr k e.symm; rw [hb] at ho; cases ho; cases hc
theorem Cs {W W' : World} {row : Option Nat} {g t : Nat} {cells : Array Value} {m : Nat × Nat} (h : W.heap[g]? = some (.cells cells t m)) (hg : W.grownBy W' row) (hr : ∀ r, row = some r → ∃ o : Obj, W.heap[r]? = some o ∧ o.isCells = false) : W'.heap[g]? = some (.cells cells t m) := by
  refine (hg.block g (Array.getElem?_eq_some_iff.1 h).1 (fun e => ?_)).trans h; obtain ⟨o, ho, hc⟩ := hr g e.symm; rw [h] at ho; cases ho; cases hc
theorem KpM_t {A : Option Addr} {ms : List Bool} {X Y Z : World} (h : KpM A ms X Y) (k : KpM A ms Y Z) : KpM A ms X Z := fun hc => k (h hc)
theorem KpM_b {A : Option Addr} {ms : List Bool} (W : World) (l : Nat) (o o' : Obj) (hl : W.heap[l]? = some o) (ho : o.isCells = false) : KpM A ms W (W.putObj l o') := fun hc =>
  C_kept (d := false) hc (grownBy_putObj' W l o') (fun r e => by cases e; exact ⟨o, hl, ho⟩)
end Go.Proofs.Ytbfimplajocmmaa

