import Derived.Test.YthpmkelcjlljmaaXPRAx1
import Derived.Shelf.SlSortCmp.NoneTotal
import Derived.Shelf.Lay
import Derived.Ground.SlsfProg
import Derived.Lib.RowBridge
import Derived.Lib.SortBridge
import Derived.WalkKit
namespace Go.Proofs
open Go.Shelf
shelf_lay_g SlLaysF.n6 Slsf 6 at Try 47 as Try.sortL
end Go.Proofs
namespace Go.Proofs.Ythpmkelcjlljmaa
open Go Go.RowKit Go.Shelf Go.Lib Go.Sort Go.Proofs.YthpmkelcjlljmaaW.PrintWords Go.Proofs.YthpmkelcjlljmaaW.PrintLast Go.Proofs.YthpmkelcjlljmaaW.PrintMore
open PRA
set_option linter.unusedVariables false
set_option linter.unusedSimpArgs false

abbrev Smp := Fin 4294967296
def encS (x : Smp) : Value := .int .u32 (x.val : Int)
def keyN (s : Nat) : Nat := if s < 2147483648 then s + 2147483648 else 4294967295 - s
def cfS (x y : Smp) : Int := if keyN x.val < keyN y.val then -1 else if keyN y.val < keyN x.val then 1 else 0
theorem ltS (x y : Smp) : ltOf cfS x y = decide (keyN x.val < keyN y.val) := by
  unfold ltOf cfS
  by_cases h1 : keyN x.val < keyN y.val
  · simp [h1]
  · by_cases h2 : keyN y.val < keyN x.val <;> simp [h1, h2]
theorem keyN_inj (s t : Nat) (hs : s < 4294967296) (ht : t < 4294967296) (h : keyN s = keyN t) : s = t := by
  unfold keyN at h
  split at h <;> split at h <;> omega
theorem swoS : SWO (ltOf cfS) where
  irrefl x := by rw [ltS]; simp
  trans x y z h1 h2 := by rw [ltS] at *; simp at *; omega
  ntrans x y z h1 h2 := by rw [ltS] at *; simp at *; omega
theorem totS (x y : Smp) (h1 : ltOf cfS x y = false) (h2 : ltOf cfS y x = false) : x = y := by
  rw [ltS] at *
  simp at *
  exact Fin.ext (keyN_inj _ _ x.isLt y.isLt (by omega))
theorem geS : (fun x y : Smp => !ltOf cfS y x) = fun x y => decide (keyN x.val ≤ keyN y.val) := by
  funext x y
  rw [ltS]
  by_cases h : keyN x.val ≤ keyN y.val
  · have h' : ¬ keyN y.val < keyN x.val := by omega
    simp [h, h']
  · have h' : keyN y.val < keyN x.val := by omega
    simp [h, h']

theorem key_eq (s : Nat) (h : s < 4294967296) : bits_Key.f s = some (keyN s : Int) := by
  unfold bits_Key.f keyN
  by_cases h1 : s < 2147483648
  · rw [if_pos (by omega), if_pos h1, show ((s : Int) + 2147483648) % 4294967296 = ((s + 2147483648 : Nat) : Int) by omega]
  · rw [if_neg (by omega), if_neg h1, show ((4294967295 : Int) - (s : Int)) % 4294967296 = ((4294967295 - s : Nat) : Int) by omega]
theorem cmp_eq (s t : Nat) : cmp_Compare_uint32.f s t = some (if s < t then -1 else if t < s then 1 else 0) := by
  unfold cmp_Compare_uint32.f cmp_isNaN_uint32.f
  simp
  by_cases h1 : s < t
  · simp [h1]
  · by_cases h2 : t < s <;> simp [h1, h2]

set_option maxHeartbeats 1000000 in
theorem closure48 (x y : Smp) (W : World) : Calls Try.prog 48 #[encS x, encS y] W fun e w' => e = .returned (.int .i64 (cfS x y)) ∧ ∃ q, w' = W.drewN q := by
  unfold encS
  have hc : cmp_Compare_uint32.f (keyN x.val) (keyN y.val) = some (cfS x y) := cmp_eq _ _
  have hx := key_eq x.val x.isLt
  have hy := key_eq y.val y.isLt
  generalize (keyN x.val : Int) = kx at *
  generalize (keyN y.val : Int) = ky at *
  generalize cfS x y = r at *
  generalize (x.val : Int) = a at *
  generalize (y.val : Int) = b at *
  go_enter Try.func48, Try.ntmps48
  go_wp2_with (first | (go_at_call 50; (first | refine (bits_Key.calls a kx _ hx).mono ?_ | refine (bits_Key.calls b ky _ hy).mono ?_); rintro e w' ⟨rfl, ⟨nd, rfl⟩⟩) | (go_at_call 49; refine (cmp_Compare_uint32.calls kx ky r _ hc).mono ?_; rintro e w' ⟨rfl, ⟨nd, rfl⟩⟩))
  go_ret
  exact ⟨rfl, _, rfl⟩

theorem cmpReads48 (blk off size : Nat) (w : World) : CmpReads Try.prog 48 #[] encS cfS blk off size w := fun _ _ _ _ x y => closure48 x y _

def srt (l : List Smp) : List Smp := l.mergeSort fun x y => decide (keyN x.val ≤ keyN y.val)

set_option maxHeartbeats 1000000 in
theorem sort_calls (blk off c : Nat) (d : Array Smp) (h12 : d.size < 4611686018427387904) (w : World) (hH : Holds encS w blk off d) (hblk : blk < w.heap.size) :
    Calls Try.prog 40 #[.slice (some ⟨blk, off, none⟩) d.size c] w fun e w' =>
      e = .returned (.tuple #[]) ∧ ∃ n os, w' = sortWorld encS w blk off n (srt d.toList).toArray os := by
  have eg : ∀ args w, (callFunc 48 args).run Try.prog w = .ok (.enter 48 args) w := enters_of Try.func48 (by kernel_rfl) rfl
  have hS := Any.slices_SortFunc_total Try.sortL encS (fun _ => rfl) cfS swoS 48 #[] blk off c d w eg (cmpReads48 blk off d.size w).lays hH hblk h12 totS
  rw [geS] at hS
  change Calls Try.prog 47 _ _ _ at hS
  clear hH
  unfold srt
  go_enter Try.func40, Try.ntmps40
  go_wp2_with (go_at_call 47; refine hS.mono ?_; rintro e w' ⟨rfl, n, os, rfl⟩)
  go_end0
  exact ⟨rfl, n, os, rfl⟩

set_option maxHeartbeats 1000000 in
theorem sort_none (p : Option Addr) (c : Nat) (w : World) : Calls Try.prog 40 #[.slice p 0 c] w fun e w' => e = .returned (.tuple #[]) ∧ w' = w := by
  have hS := fun W => AnyF.slices_SortFunc_none (P := Try.prog) (ρ := Try.sortL_ren) { Try.sortL with } p c (.func (.func 48) #[] #[]) W
  change ∀ W, Calls Try.prog 47 _ _ _ at hS
  go_enter Try.func40, Try.ntmps40
  go_wp2_with (go_at_call 47; refine (hS _).mono ?_; rintro e w' ⟨rfl, rfl⟩)
  go_end0
  exact ⟨rfl, rfl⟩
end Go.Proofs.Ythpmkelcjlljmaa

