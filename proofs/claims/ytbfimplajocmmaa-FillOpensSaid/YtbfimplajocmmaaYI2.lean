import Derived.Test.YtbfimplajocmmaaYI1
import Derived.Deep.QuietTactic
import Derived.BigQuiet
import Derived.Sort.CutIn
open Go Go.RowKit Go.Shelf Go.Proofs.YtbfimplajocmmaaW.PrintWords Go.Proofs.YtbfimplajocmmaaW.PrintLast Go.Proofs.YtbfimplajocmmaaW.PrintMore
attribute [local go_sem] Oper.semAt_some
set_option linter.unusedVariables false
set_option linter.unusedSimpArgs false
namespace Go.Proofs.Ytbfimplajocmmaa
open PFA
def nbSkip (w h : Nat) (ways : Int) (i : Nat) (dx dy : Int) : Prop :=
 (dx = 0 ∧ dy = 0) ∨ (ways = 4 ∧ dx ≠ 0 ∧ dy ≠ 0) ∨ ((i % w : Nat) : Int) + dx < 0 ∨ ((i / w : Nat) : Int) + dy < 0 ∨ ((i % w : Nat) : Int) + dx ≥ w ∨ ((i / w : Nat) : Int) + dy ≥ h
instance (w h : Nat) (ways : Int) (i : Nat) (dx dy : Int) : Decidable (nbSkip w h ways i dx dy) := by unfold nbSkip; infer_instance
def nbSkipB (w h : Nat) (ways : Int) (i : Nat) (dx dy : Int) : Bool := decide (nbSkip w h ways i dx dy)
theorem nbSkipB_yes {w h : Nat} {ways : Int} {i : Nat} {dx dy : Int} (hs : nbSkip w h ways i dx dy) : nbSkipB w h ways i dx dy = true := decide_eq_true hs
theorem nbSkipB_no {w h : Nat} {ways : Int} {i : Nat} {dx dy : Int} (hs : ¬nbSkip w h ways i dx dy) : nbSkipB w h ways i dx dy = false := decide_eq_false hs
def nbAt (w h : Nat) (ways : Int) (i t : Nat) : Option Nat :=
 if nbSkip w h ways i ((t % 3 : Nat) - 1) ((t / 3 : Nat) - 1) then none else some ((i : Int) + ((t / 3 : Nat) - 1) * w + ((t % 3 : Nat) - 1)).toNat
def nbTo (w h : Nat) (ways : Int) (i k : Nat) : List Nat := (List.range k).filterMap (nbAt w h ways i)
def nbs (w h : Nat) (ways : Int) (i : Nat) : List Nat := nbTo w h ways i 9
theorem nbTo_none {w h : Nat} {ways : Int} {i k : Nat} (e : nbAt w h ways i k = none) : nbTo w h ways i (k + 1) = nbTo w h ways i k := by
 unfold nbTo; rw [List.range_succ, List.filterMap_append, List.filterMap_cons, e]; simp
theorem nbTo_some {w h : Nat} {ways : Int} {i k q : Nat} (e : nbAt w h ways i k = some q) : nbTo w h ways i (k + 1) = nbTo w h ways i k ++ [q] := by
 unfold nbTo; rw [List.range_succ, List.filterMap_append, List.filterMap_cons, e]; simp
theorem nbTo_sub (w h : Nat) (ways : Int) (i k : Nat) (hk : k ≤ 9) : ∀ q ∈ nbTo w h ways i k, q ∈ nbs w h ways i := by
 intro q hq; unfold nbs nbTo at *; obtain ⟨t, ht, e⟩ := List.mem_filterMap.mp hq; have := List.mem_range.mp ht; exact List.mem_filterMap.mpr ⟨t, List.mem_range.mpr (by omega), e⟩
theorem nbTo_le (w h : Nat) (ways : Int) (i k : Nat) : (nbTo w h ways i k).length ≤ k := by
 unfold nbTo; exact Nat.le_trans (List.length_filterMap_le _ _) (by simp)
theorem nb_num {w h i : Nat} {dx dy : Int} (hw : 1 ≤ w) (hi : i < w * h) (h1 : 0 ≤ ((i % w : Nat) : Int) + dx) (h2 : 0 ≤ ((i / w : Nat) : Int) + dy) (h3 : ((i % w : Nat) : Int) + dx < w) (h4 : ((i / w : Nat) : Int) + dy < h) :
  0 ≤ (i : Int) + dy * w + dx ∧ (i : Int) + dy * w + dx < ((w * h : Nat) : Int) := by
 have e : (i : Int) = (w : Int) * ((i / w : Nat) : Int) + ((i % w : Nat) : Int) := by exact_mod_cast (Nat.div_add_mod i w).symm
 have e2 : (i : Int) + dy * w + dx = (((i / w : Nat) : Int) + dy) * w + (((i % w : Nat) : Int) + dx) := by
  rw [Int.add_mul, Int.mul_comm (((i / w : Nat) : Int)) (w : Int)]; omega
 rw [e2]; generalize ((i / w : Nat) : Int) + dy = Y at *; generalize ((i % w : Nat) : Int) + dx = X at *; have h5 : 0 ≤ Y * w := Int.mul_nonneg h2 (by omega); have h6 : (Y + 1) * w ≤ h * w := Int.mul_le_mul_of_nonneg_right (by omega) (by omega); have h7 : ((w * h : Nat) : Int) = h * w := by push_cast; rw [Int.mul_comm]
 rw [h7]; rw [Int.add_mul, Int.one_mul] at h6
 omega
def KpG (Bi Bg : Nat) (W W' : World) : Prop := W'.heap[Bi]? = W.heap[Bi]? ∧ W'.heap[Bg]? = W.heap[Bg]?
def GB (Bi Bg : Nat) (i w h : Nat) (ways : Int) (W : World) : Prop :=
 W.heap[Bi]? = some (.cells #[.int .i64 (i : Int)] 3 (0, 0)) ∧ W.heap[Bg]? = some (.cells #[.int .i64 (w : Int), .int .i64 (h : Int), .int .i64 ways] 103 (0, 0))
theorem GB_keep {Bi Bg i w h : Nat} {ways : Int} {W W' : World} (H : GB Bi Bg i w h ways W) (k : KpG Bi Bg W W') : GB Bi Bg i w h ways W' := ⟨k.1.trans H.1, k.2.trans H.2⟩
set_option maxRecDepth 100000 in
set_option maxHeartbeats 8000000 in
theorem beside1 (n : Nat) (hn : 1 ≤ n) (l Bi Bg : Nat) (i w h : Nat) (ways : Int) (hw : 1 ≤ w) (hw2 : w ≤ 1024) (hh2 : h ≤ 1024) (hi : i < w * h) (J Jx : List (Pl (w * h)) → World → Prop)
  (hY : ∀ pre (x : Pl (w * h)) W, J pre W → pre.length < 9 → YieldAt Fence.wide (n - 1) Try.prog l (encP x) W fun e W' =>
   (e = .returned (.bool true) ∧ J (pre ++ [x]) W' ∧ KpG Bi Bg W W') ∨ (e = .returned (.bool false) ∧ Jx (pre ++ [x]) W'))
  (W : World) (hJa : AbidesFrom W.heap.size J) (hB : GB Bi Bg i w h ways W) (h0 : J [] W) :
  CallsIn Fence.wide n Try.prog 87 #[.func (.yield l) #[] #[], .pointer (some ⟨Bi, 0, none⟩), .pointer (some ⟨Bg, 0, none⟩)] W fun e W' => (∃ v, e = .returned v) ∧
   ((∃ ys, ys.map (·.1) = nbs w h ways i ∧ J ys W') ∨ (∃ pre, (∀ q ∈ pre.map (·.1), q ∈ nbs w h ways i) ∧ Jx pre W')) := by
 have hwh : w * h ≤ 1024 * 1024 := Nat.mul_le_mul hw2 hh2; have hi2 : i ≤ 1048576 := by omega
 have x1 : W.cell? ⟨Bi, 0, none⟩ = some (.int .i64 (i : Int)) := (Ad hB.1 0).trans rfl; have x2 : W.cell? ⟨Bg, 0, none⟩ = some (.int .i64 (w : Int)) := (Ad hB.2 0).trans rfl; have hq1 : Int.tdiv (i : Int) (w : Int) = ((i / w : Nat) : Int) := (Int.ofNat_tdiv i w).symm; have hq2 : Int.tmod (i : Int) (w : Int) = ((i % w : Nat) : Int) := (Int.ofNat_tmod i w).symm; have hwi : (w : Int) ≠ 0 := by omega
 have hdi : i / w ≤ 1048576 := Nat.le_trans (Nat.div_le_self _ _) hi2; have hmi : i % w < w := Nat.mod_lt _ hw; have HB : ∀ q, Ac (GB Bi Bg i w h ways (W.drewN q)) := fun q => ⟨hB.1, hB.2⟩
 have H0 : ∀ q, Ac (J [] (W.drewN q)) := fun q => ⟨hJa [] W _ none h0 ⟨rfl, rfl, rfl, Nat.le_refl _, fun _ _ _ => rfl⟩ (fun r e => by cases e)⟩
 have HB := Ac.mk HB; have H0 := Ac.mk H0; have HY := Ac.mk hY; have HI := Ac.mk hi; have HW := Ac.mk hw
 have e1 : wrap64 ((i : Int) / (w : Int)) = ((i / w : Nat) : Int) := by
  rw [← Int.natCast_ediv]; unfold wrap64; generalize i / w = y at *; omega
 have e2 : (i : Int) % (w : Int) = ((i % w : Nat) : Int) := (Int.natCast_emod i w).symm; have E1 := Ac.mk e1; have E2 := Ac.mk e2; clear hB h0 hY hi hwh hJa e1 e2; refine callsIn_of_wp Try.func87 rfl trivial ?_ rfl
 simp only [Try.ntmps87, List.size_toArray, List.length_cons, List.length_nil, Nat.reduceAdd, Nat.reduceSub, Array.replicate_succ, Array.replicate_zero, List.push_toArray, List.append_toArray, List.nil_append, List.cons_append]
 gi_wp2
 gi_quiet (fail)
 rw [E1.out, E2.out]; obtain ⟨x, hx⟩ : ∃ x, x = i % w := ⟨_, rfl⟩; obtain ⟨y, hy⟩ : ∃ y, y = i / w := ⟨_, rfl⟩; rw [← hx] at hmi; rw [← hy] at hdi; rw [← hx, ← hy]; have HX := Ac.mk hx; have HYY := Ac.mk hy; have HQ := HB.out nq; have H1 := H0.out nq; clear hx hy hq1 hq2 x1 x2 hwi HB H0 E1 E2; generalize W.drewN nq = W1 at HQ H1 ⊢
 gi_wp2
 gi_loopw [6] (fun v6 wr => ∃ j : Nat, j ≤ 3 ∧ v6 = .int .i64 ((j : Int) - 1) ∧ Ac (∃ pre : List (Pl (w * h)), pre.map (·.1) = nbTo w h ways i (3 * j) ∧ J pre wr) ∧ Ac (GB Bi Bg i w h ways wr)) (fun v6 _ => 3 - (intOf v6 + 1).toNat)
 case atStart => exact ⟨0, by omega, rfl, ⟨[], rfl, H1.out⟩, HQ⟩
 case round =>
  obtain ⟨j, hj, rfl, HJ, HG⟩ := hrel; clear HQ H1
  by_cases hlt : j < 3
  ·have hb17 : decide ((j : Int) - 1 ≤ 1) = true := decide_eq_true (by omega)
   gi_wp2
   clear hb17; obtain ⟨wo, hwo⟩ : ∃ wo : World, wo = wr := ⟨_, rfl⟩; subst hwo
   gi_loopw [7] (fun v7 wr => ∃ d : Nat, d ≤ 3 ∧ v7 = .int .i64 ((d : Int) - 1) ∧ Ac (∃ pre : List (Pl (w * h)), pre.map (·.1) = nbTo w h ways i (3 * j + d) ∧ J pre wr) ∧ Ac (GB Bi Bg i w h ways wr)) (fun v7 _ => 3 - (intOf v7 + 1).toNat)
   case atStart => exact ⟨0, by omega, rfl, HJ, HG⟩
   case round =>
    obtain ⟨d, hd, rfl, HJ2, HG2⟩ := hrel; clear HJ HG
    by_cases hld : d < 3
    ·have g1 : wr.cell? ⟨Bi, 0, none⟩ = some (.int .i64 (i : Int)) := (Ad HG2.out.1 0).trans rfl
     have g2 : wr.cell? ⟨Bg, 0, none⟩ = some (.int .i64 (w : Int)) := (Ad HG2.out.2 0).trans rfl; have g3 : wr.cell? ⟨Bg, 1, none⟩ = some (.int .i64 (h : Int)) := (Ad HG2.out.2 1).trans rfl; have g4 : wr.cell? ⟨Bg, 2, none⟩ = some (.int .i64 ways) := (Ad HG2.out.2 2).trans rfl; obtain ⟨dx, hdx⟩ : ∃ dx, (d : Int) - 1 = dx := ⟨_, rfl⟩; obtain ⟨dy, hdy⟩ : ∃ dy, (j : Int) - 1 = dy := ⟨_, rfl⟩; rw [hdx, hdy]; have HDX := Ac.mk hdx; have HDY := Ac.mk hdy; have dx0 : -1 ≤ dx := by omega
     have dx1 : dx ≤ 1 := by omega
     have dy0 : -1 ≤ dy := by omega
     have dy1 : dy ≤ 1 := by omega
     clear hdx hdy
     gi_upto_region 7 with (fail)
     gi_cut [70] from 24 (fun v70 wx => v70 = .bool (nbSkipB w h ways i dx dy) ∧ wx = wr)
     case first =>
      clear HJ2 HY HI HW HDX HDY hlt hld hj hd
      by_cases q1 : dx = 0
      ·by_cases q2 : dy = 0
       ·have hs : nbSkipB w h ways i dx dy = true := nbSkipB_yes (by unfold nbSkip; rw [← HX.out, ← HYY.out]; omega)
        have HS := Ac.mk hs; have a1 : (dx == 0) = true := by simp [q1]
        have a2 : (dx != 0) = false := by simp [q1]
        have a3 : (dy == 0) = true := by simp [q2]
        have a4 : (dy != 0) = false := by simp [q2]
        clear hs HX HYY q1 q2
        gi_wp2_with fail
        gi_meet
        case rel => exact ⟨by rw [HS.out], rfl⟩
       ·by_cases q3 : ways = 4
        ·by_cases q4 : (x : Int) + dx < 0
         ·have hs : nbSkipB w h ways i dx dy = true := nbSkipB_yes (by unfold nbSkip; rw [← HX.out, ← HYY.out]; omega)
          have HS := Ac.mk hs; have a1 : (dx == 0) = true := by simp [q1]
          have a2 : (dx != 0) = false := by simp [q1]
          have a3 : (dy == 0) = false := by simp [q2]
          have a4 : (dy != 0) = true := by simp [q2]
          have a5 : (ways == 4) = true := by simp [q3]
          have a6 : decide ((x : Int) + dx < 0) = true := decide_eq_true q4; clear hs HX HYY q1 q2 q3 q4
          gi_wp2_with fail
          gi_meet
          case rel => exact ⟨by rw [HS.out], rfl⟩
         ·by_cases q5 : (y : Int) + dy < 0
          ·have hs : nbSkipB w h ways i dx dy = true := nbSkipB_yes (by unfold nbSkip; rw [← HX.out, ← HYY.out]; omega)
           have HS := Ac.mk hs; have a1 : (dx == 0) = true := by simp [q1]
           have a2 : (dx != 0) = false := by simp [q1]
           have a3 : (dy == 0) = false := by simp [q2]
           have a4 : (dy != 0) = true := by simp [q2]
           have a5 : (ways == 4) = true := by simp [q3]
           have a6 : decide ((x : Int) + dx < 0) = false := decide_eq_false q4; have a7 : decide ((y : Int) + dy < 0) = true := decide_eq_true q5; clear hs HX HYY q1 q2 q3 q4 q5
           gi_wp2_with fail
           gi_meet
           case rel => exact ⟨by rw [HS.out], rfl⟩
          ·by_cases q6 : (w : Int) ≤ (x : Int) + dx
           ·have hs : nbSkipB w h ways i dx dy = true := nbSkipB_yes (by unfold nbSkip; rw [← HX.out, ← HYY.out]; omega)
            have HS := Ac.mk hs; have a1 : (dx == 0) = true := by simp [q1]
            have a2 : (dx != 0) = false := by simp [q1]
            have a3 : (dy == 0) = false := by simp [q2]
            have a4 : (dy != 0) = true := by simp [q2]
            have a5 : (ways == 4) = true := by simp [q3]
            have a6 : decide ((x : Int) + dx < 0) = false := decide_eq_false q4; have a7 : decide ((y : Int) + dy < 0) = false := decide_eq_false q5; have a8 : decide ((w : Int) ≤ (x : Int) + dx) = true := decide_eq_true q6; clear hs HX HYY q1 q2 q3 q4 q5 q6
            gi_wp2_with fail
            gi_meet
            case rel => exact ⟨by rw [HS.out], rfl⟩
           ·by_cases q7 : (h : Int) ≤ (y : Int) + dy
            ·have hs : nbSkipB w h ways i dx dy = true := nbSkipB_yes (by unfold nbSkip; rw [← HX.out, ← HYY.out]; omega)
             have HS := Ac.mk hs; have a1 : (dx == 0) = true := by simp [q1]
             have a2 : (dx != 0) = false := by simp [q1]
             have a3 : (dy == 0) = false := by simp [q2]
             have a4 : (dy != 0) = true := by simp [q2]
             have a5 : (ways == 4) = true := by simp [q3]
             have a6 : decide ((x : Int) + dx < 0) = false := decide_eq_false q4; have a7 : decide ((y : Int) + dy < 0) = false := decide_eq_false q5; have a8 : decide ((w : Int) ≤ (x : Int) + dx) = false := decide_eq_false q6; have a9 : decide ((h : Int) ≤ (y : Int) + dy) = true := decide_eq_true q7; clear hs HX HYY q1 q2 q3 q4 q5 q6 q7
             gi_wp2_with fail
             gi_meet
             case rel => exact ⟨by rw [HS.out], rfl⟩
            ·have hs : nbSkipB w h ways i dx dy = false := nbSkipB_no (by unfold nbSkip; rw [← HX.out, ← HYY.out]; omega)
             have HS := Ac.mk hs; have a1 : (dx == 0) = true := by simp [q1]
             have a2 : (dx != 0) = false := by simp [q1]
             have a3 : (dy == 0) = false := by simp [q2]
             have a4 : (dy != 0) = true := by simp [q2]
             have a5 : (ways == 4) = true := by simp [q3]
             have a6 : decide ((x : Int) + dx < 0) = false := decide_eq_false q4; have a7 : decide ((y : Int) + dy < 0) = false := decide_eq_false q5; have a8 : decide ((w : Int) ≤ (x : Int) + dx) = false := decide_eq_false q6; have a9 : decide ((h : Int) ≤ (y : Int) + dy) = false := decide_eq_false q7; clear hs HX HYY q1 q2 q3 q4 q5 q6 q7
             gi_wp2_with fail
             gi_meet
             case rel => exact ⟨by rw [HS.out], rfl⟩
        ·by_cases q4 : (x : Int) + dx < 0
         ·have hs : nbSkipB w h ways i dx dy = true := nbSkipB_yes (by unfold nbSkip; rw [← HX.out, ← HYY.out]; omega)
          have HS := Ac.mk hs; have a1 : (dx == 0) = true := by simp [q1]
          have a2 : (dx != 0) = false := by simp [q1]
          have a3 : (dy == 0) = false := by simp [q2]
          have a4 : (dy != 0) = true := by simp [q2]
          have a5 : (ways == 4) = false := by simp [q3]
          have a6 : decide ((x : Int) + dx < 0) = true := decide_eq_true q4; clear hs HX HYY q1 q2 q3 q4
          gi_wp2_with fail
          gi_meet
          case rel => exact ⟨by rw [HS.out], rfl⟩
         ·by_cases q5 : (y : Int) + dy < 0
          ·have hs : nbSkipB w h ways i dx dy = true := nbSkipB_yes (by unfold nbSkip; rw [← HX.out, ← HYY.out]; omega)
           have HS := Ac.mk hs; have a1 : (dx == 0) = true := by simp [q1]
           have a2 : (dx != 0) = false := by simp [q1]
           have a3 : (dy == 0) = false := by simp [q2]
           have a4 : (dy != 0) = true := by simp [q2]
           have a5 : (ways == 4) = false := by simp [q3]
           have a6 : decide ((x : Int) + dx < 0) = false := decide_eq_false q4; have a7 : decide ((y : Int) + dy < 0) = true := decide_eq_true q5; clear hs HX HYY q1 q2 q3 q4 q5
           gi_wp2_with fail
           gi_meet
           case rel => exact ⟨by rw [HS.out], rfl⟩
          ·by_cases q6 : (w : Int) ≤ (x : Int) + dx
           ·have hs : nbSkipB w h ways i dx dy = true := nbSkipB_yes (by unfold nbSkip; rw [← HX.out, ← HYY.out]; omega)
            have HS := Ac.mk hs; have a1 : (dx == 0) = true := by simp [q1]
            have a2 : (dx != 0) = false := by simp [q1]
            have a3 : (dy == 0) = false := by simp [q2]
            have a4 : (dy != 0) = true := by simp [q2]
            have a5 : (ways == 4) = false := by simp [q3]
            have a6 : decide ((x : Int) + dx < 0) = false := decide_eq_false q4; have a7 : decide ((y : Int) + dy < 0) = false := decide_eq_false q5; have a8 : decide ((w : Int) ≤ (x : Int) + dx) = true := decide_eq_true q6; clear hs HX HYY q1 q2 q3 q4 q5 q6
            gi_wp2_with fail
            gi_meet
            case rel => exact ⟨by rw [HS.out], rfl⟩
           ·by_cases q7 : (h : Int) ≤ (y : Int) + dy
            ·have hs : nbSkipB w h ways i dx dy = true := nbSkipB_yes (by unfold nbSkip; rw [← HX.out, ← HYY.out]; omega)
             have HS := Ac.mk hs; have a1 : (dx == 0) = true := by simp [q1]
             have a2 : (dx != 0) = false := by simp [q1]
             have a3 : (dy == 0) = false := by simp [q2]
             have a4 : (dy != 0) = true := by simp [q2]
             have a5 : (ways == 4) = false := by simp [q3]
             have a6 : decide ((x : Int) + dx < 0) = false := decide_eq_false q4; have a7 : decide ((y : Int) + dy < 0) = false := decide_eq_false q5; have a8 : decide ((w : Int) ≤ (x : Int) + dx) = false := decide_eq_false q6; have a9 : decide ((h : Int) ≤ (y : Int) + dy) = true := decide_eq_true q7; clear hs HX HYY q1 q2 q3 q4 q5 q6 q7
             gi_wp2_with fail
             gi_meet
             case rel => exact ⟨by rw [HS.out], rfl⟩
            ·have hs : nbSkipB w h ways i dx dy = false := nbSkipB_no (by unfold nbSkip; rw [← HX.out, ← HYY.out]; omega)
             have HS := Ac.mk hs; have a1 : (dx == 0) = true := by simp [q1]
             have a2 : (dx != 0) = false := by simp [q1]
             have a3 : (dy == 0) = false := by simp [q2]
             have a4 : (dy != 0) = true := by simp [q2]
             have a5 : (ways == 4) = false := by simp [q3]
             have a6 : decide ((x : Int) + dx < 0) = false := decide_eq_false q4; have a7 : decide ((y : Int) + dy < 0) = false := decide_eq_false q5; have a8 : decide ((w : Int) ≤ (x : Int) + dx) = false := decide_eq_false q6; have a9 : decide ((h : Int) ≤ (y : Int) + dy) = false := decide_eq_false q7; clear hs HX HYY q1 q2 q3 q4 q5 q6 q7
             gi_wp2_with fail
             gi_meet
             case rel => exact ⟨by rw [HS.out], rfl⟩
      ·by_cases q2 : dy = 0
       ·by_cases q3 : ways = 4
        ·by_cases q4 : (x : Int) + dx < 0
         ·have hs : nbSkipB w h ways i dx dy = true := nbSkipB_yes (by unfold nbSkip; rw [← HX.out, ← HYY.out]; omega)
          have HS := Ac.mk hs; have a1 : (dx == 0) = false := by simp [q1]
          have a2 : (dx != 0) = true := by simp [q1]
          have a3 : (dy == 0) = true := by simp [q2]
          have a4 : (dy != 0) = false := by simp [q2]
          have a5 : (ways == 4) = true := by simp [q3]
          have a6 : decide ((x : Int) + dx < 0) = true := decide_eq_true q4; clear hs HX HYY q1 q2 q3 q4
          gi_wp2_with fail
          gi_meet
          case rel => exact ⟨by rw [HS.out], rfl⟩
         ·by_cases q5 : (y : Int) + dy < 0
          ·have hs : nbSkipB w h ways i dx dy = true := nbSkipB_yes (by unfold nbSkip; rw [← HX.out, ← HYY.out]; omega)
           have HS := Ac.mk hs; have a1 : (dx == 0) = false := by simp [q1]
           have a2 : (dx != 0) = true := by simp [q1]
           have a3 : (dy == 0) = true := by simp [q2]
           have a4 : (dy != 0) = false := by simp [q2]
           have a5 : (ways == 4) = true := by simp [q3]
           have a6 : decide ((x : Int) + dx < 0) = false := decide_eq_false q4; have a7 : decide ((y : Int) + dy < 0) = true := decide_eq_true q5; clear hs HX HYY q1 q2 q3 q4 q5
           gi_wp2_with fail
           gi_meet
           case rel => exact ⟨by rw [HS.out], rfl⟩
          ·by_cases q6 : (w : Int) ≤ (x : Int) + dx
           ·have hs : nbSkipB w h ways i dx dy = true := nbSkipB_yes (by unfold nbSkip; rw [← HX.out, ← HYY.out]; omega)
            have HS := Ac.mk hs; have a1 : (dx == 0) = false := by simp [q1]
            have a2 : (dx != 0) = true := by simp [q1]
            have a3 : (dy == 0) = true := by simp [q2]
            have a4 : (dy != 0) = false := by simp [q2]
            have a5 : (ways == 4) = true := by simp [q3]
            have a6 : decide ((x : Int) + dx < 0) = false := decide_eq_false q4; have a7 : decide ((y : Int) + dy < 0) = false := decide_eq_false q5; have a8 : decide ((w : Int) ≤ (x : Int) + dx) = true := decide_eq_true q6; clear hs HX HYY q1 q2 q3 q4 q5 q6
            gi_wp2_with fail
            gi_meet
            case rel => exact ⟨by rw [HS.out], rfl⟩
           ·by_cases q7 : (h : Int) ≤ (y : Int) + dy
            ·have hs : nbSkipB w h ways i dx dy = true := nbSkipB_yes (by unfold nbSkip; rw [← HX.out, ← HYY.out]; omega)
             have HS := Ac.mk hs; have a1 : (dx == 0) = false := by simp [q1]
             have a2 : (dx != 0) = true := by simp [q1]
             have a3 : (dy == 0) = true := by simp [q2]
             have a4 : (dy != 0) = false := by simp [q2]
             have a5 : (ways == 4) = true := by simp [q3]
             have a6 : decide ((x : Int) + dx < 0) = false := decide_eq_false q4; have a7 : decide ((y : Int) + dy < 0) = false := decide_eq_false q5; have a8 : decide ((w : Int) ≤ (x : Int) + dx) = false := decide_eq_false q6; have a9 : decide ((h : Int) ≤ (y : Int) + dy) = true := decide_eq_true q7; clear hs HX HYY q1 q2 q3 q4 q5 q6 q7
             gi_wp2_with fail
             gi_meet
             case rel => exact ⟨by rw [HS.out], rfl⟩
            ·have hs : nbSkipB w h ways i dx dy = false := nbSkipB_no (by unfold nbSkip; rw [← HX.out, ← HYY.out]; omega)
             have HS := Ac.mk hs; have a1 : (dx == 0) = false := by simp [q1]
             have a2 : (dx != 0) = true := by simp [q1]
             have a3 : (dy == 0) = true := by simp [q2]
             have a4 : (dy != 0) = false := by simp [q2]
             have a5 : (ways == 4) = true := by simp [q3]
             have a6 : decide ((x : Int) + dx < 0) = false := decide_eq_false q4; have a7 : decide ((y : Int) + dy < 0) = false := decide_eq_false q5; have a8 : decide ((w : Int) ≤ (x : Int) + dx) = false := decide_eq_false q6; have a9 : decide ((h : Int) ≤ (y : Int) + dy) = false := decide_eq_false q7; clear hs HX HYY q1 q2 q3 q4 q5 q6 q7
             gi_wp2_with fail
             gi_meet
             case rel => exact ⟨by rw [HS.out], rfl⟩
        ·by_cases q4 : (x : Int) + dx < 0
         ·have hs : nbSkipB w h ways i dx dy = true := nbSkipB_yes (by unfold nbSkip; rw [← HX.out, ← HYY.out]; omega)
          have HS := Ac.mk hs; have a1 : (dx == 0) = false := by simp [q1]
          have a2 : (dx != 0) = true := by simp [q1]
          have a3 : (dy == 0) = true := by simp [q2]
          have a4 : (dy != 0) = false := by simp [q2]
          have a5 : (ways == 4) = false := by simp [q3]
          have a6 : decide ((x : Int) + dx < 0) = true := decide_eq_true q4; clear hs HX HYY q1 q2 q3 q4
          gi_wp2_with fail
          gi_meet
          case rel => exact ⟨by rw [HS.out], rfl⟩
         ·by_cases q5 : (y : Int) + dy < 0
          ·have hs : nbSkipB w h ways i dx dy = true := nbSkipB_yes (by unfold nbSkip; rw [← HX.out, ← HYY.out]; omega)
           have HS := Ac.mk hs; have a1 : (dx == 0) = false := by simp [q1]
           have a2 : (dx != 0) = true := by simp [q1]
           have a3 : (dy == 0) = true := by simp [q2]
           have a4 : (dy != 0) = false := by simp [q2]
           have a5 : (ways == 4) = false := by simp [q3]
           have a6 : decide ((x : Int) + dx < 0) = false := decide_eq_false q4; have a7 : decide ((y : Int) + dy < 0) = true := decide_eq_true q5; clear hs HX HYY q1 q2 q3 q4 q5
           gi_wp2_with fail
           gi_meet
           case rel => exact ⟨by rw [HS.out], rfl⟩
          ·by_cases q6 : (w : Int) ≤ (x : Int) + dx
           ·have hs : nbSkipB w h ways i dx dy = true := nbSkipB_yes (by unfold nbSkip; rw [← HX.out, ← HYY.out]; omega)
            have HS := Ac.mk hs; have a1 : (dx == 0) = false := by simp [q1]
            have a2 : (dx != 0) = true := by simp [q1]
            have a3 : (dy == 0) = true := by simp [q2]
            have a4 : (dy != 0) = false := by simp [q2]
            have a5 : (ways == 4) = false := by simp [q3]
            have a6 : decide ((x : Int) + dx < 0) = false := decide_eq_false q4; have a7 : decide ((y : Int) + dy < 0) = false := decide_eq_false q5; have a8 : decide ((w : Int) ≤ (x : Int) + dx) = true := decide_eq_true q6; clear hs HX HYY q1 q2 q3 q4 q5 q6
            gi_wp2_with fail
            gi_meet
            case rel => exact ⟨by rw [HS.out], rfl⟩
           ·by_cases q7 : (h : Int) ≤ (y : Int) + dy
            ·have hs : nbSkipB w h ways i dx dy = true := nbSkipB_yes (by unfold nbSkip; rw [← HX.out, ← HYY.out]; omega)
             have HS := Ac.mk hs; have a1 : (dx == 0) = false := by simp [q1]
             have a2 : (dx != 0) = true := by simp [q1]
             have a3 : (dy == 0) = true := by simp [q2]
             have a4 : (dy != 0) = false := by simp [q2]
             have a5 : (ways == 4) = false := by simp [q3]
             have a6 : decide ((x : Int) + dx < 0) = false := decide_eq_false q4; have a7 : decide ((y : Int) + dy < 0) = false := decide_eq_false q5; have a8 : decide ((w : Int) ≤ (x : Int) + dx) = false := decide_eq_false q6; have a9 : decide ((h : Int) ≤ (y : Int) + dy) = true := decide_eq_true q7; clear hs HX HYY q1 q2 q3 q4 q5 q6 q7
             gi_wp2_with fail
             gi_meet
             case rel => exact ⟨by rw [HS.out], rfl⟩
            ·have hs : nbSkipB w h ways i dx dy = false := nbSkipB_no (by unfold nbSkip; rw [← HX.out, ← HYY.out]; omega)
             have HS := Ac.mk hs; have a1 : (dx == 0) = false := by simp [q1]
             have a2 : (dx != 0) = true := by simp [q1]
             have a3 : (dy == 0) = true := by simp [q2]
             have a4 : (dy != 0) = false := by simp [q2]
             have a5 : (ways == 4) = false := by simp [q3]
             have a6 : decide ((x : Int) + dx < 0) = false := decide_eq_false q4; have a7 : decide ((y : Int) + dy < 0) = false := decide_eq_false q5; have a8 : decide ((w : Int) ≤ (x : Int) + dx) = false := decide_eq_false q6; have a9 : decide ((h : Int) ≤ (y : Int) + dy) = false := decide_eq_false q7; clear hs HX HYY q1 q2 q3 q4 q5 q6 q7
             gi_wp2_with fail
             gi_meet
             case rel => exact ⟨by rw [HS.out], rfl⟩
       ·by_cases q3 : ways = 4
        ·have hs : nbSkipB w h ways i dx dy = true := nbSkipB_yes (by unfold nbSkip; rw [← HX.out, ← HYY.out]; omega)
         have HS := Ac.mk hs; have a1 : (dx == 0) = false := by simp [q1]
         have a2 : (dx != 0) = true := by simp [q1]
         have a3 : (dy == 0) = false := by simp [q2]
         have a4 : (dy != 0) = true := by simp [q2]
         have a5 : (ways == 4) = true := by simp [q3]
         clear hs HX HYY q1 q2 q3
         gi_wp2_with fail
         gi_meet
         case rel => exact ⟨by rw [HS.out], rfl⟩
        ·by_cases q4 : (x : Int) + dx < 0
         ·have hs : nbSkipB w h ways i dx dy = true := nbSkipB_yes (by unfold nbSkip; rw [← HX.out, ← HYY.out]; omega)
          have HS := Ac.mk hs; have a1 : (dx == 0) = false := by simp [q1]
          have a2 : (dx != 0) = true := by simp [q1]
          have a3 : (dy == 0) = false := by simp [q2]
          have a4 : (dy != 0) = true := by simp [q2]
          have a5 : (ways == 4) = false := by simp [q3]
          have a6 : decide ((x : Int) + dx < 0) = true := decide_eq_true q4; clear hs HX HYY q1 q2 q3 q4
          gi_wp2_with fail
          gi_meet
          case rel => exact ⟨by rw [HS.out], rfl⟩
         ·by_cases q5 : (y : Int) + dy < 0
          ·have hs : nbSkipB w h ways i dx dy = true := nbSkipB_yes (by unfold nbSkip; rw [← HX.out, ← HYY.out]; omega)
           have HS := Ac.mk hs; have a1 : (dx == 0) = false := by simp [q1]
           have a2 : (dx != 0) = true := by simp [q1]
           have a3 : (dy == 0) = false := by simp [q2]
           have a4 : (dy != 0) = true := by simp [q2]
           have a5 : (ways == 4) = false := by simp [q3]
           have a6 : decide ((x : Int) + dx < 0) = false := decide_eq_false q4; have a7 : decide ((y : Int) + dy < 0) = true := decide_eq_true q5; clear hs HX HYY q1 q2 q3 q4 q5
           gi_wp2_with fail
           gi_meet
           case rel => exact ⟨by rw [HS.out], rfl⟩
          ·by_cases q6 : (w : Int) ≤ (x : Int) + dx
           ·have hs : nbSkipB w h ways i dx dy = true := nbSkipB_yes (by unfold nbSkip; rw [← HX.out, ← HYY.out]; omega)
            have HS := Ac.mk hs; have a1 : (dx == 0) = false := by simp [q1]
            have a2 : (dx != 0) = true := by simp [q1]
            have a3 : (dy == 0) = false := by simp [q2]
            have a4 : (dy != 0) = true := by simp [q2]
            have a5 : (ways == 4) = false := by simp [q3]
            have a6 : decide ((x : Int) + dx < 0) = false := decide_eq_false q4; have a7 : decide ((y : Int) + dy < 0) = false := decide_eq_false q5; have a8 : decide ((w : Int) ≤ (x : Int) + dx) = true := decide_eq_true q6; clear hs HX HYY q1 q2 q3 q4 q5 q6
            gi_wp2_with fail
            gi_meet
            case rel => exact ⟨by rw [HS.out], rfl⟩
           ·by_cases q7 : (h : Int) ≤ (y : Int) + dy
            ·have hs : nbSkipB w h ways i dx dy = true := nbSkipB_yes (by unfold nbSkip; rw [← HX.out, ← HYY.out]; omega)
             have HS := Ac.mk hs; have a1 : (dx == 0) = false := by simp [q1]
             have a2 : (dx != 0) = true := by simp [q1]
             have a3 : (dy == 0) = false := by simp [q2]
             have a4 : (dy != 0) = true := by simp [q2]
             have a5 : (ways == 4) = false := by simp [q3]
             have a6 : decide ((x : Int) + dx < 0) = false := decide_eq_false q4; have a7 : decide ((y : Int) + dy < 0) = false := decide_eq_false q5; have a8 : decide ((w : Int) ≤ (x : Int) + dx) = false := decide_eq_false q6; have a9 : decide ((h : Int) ≤ (y : Int) + dy) = true := decide_eq_true q7; clear hs HX HYY q1 q2 q3 q4 q5 q6 q7
             gi_wp2_with fail
             gi_meet
             case rel => exact ⟨by rw [HS.out], rfl⟩
            ·have hs : nbSkipB w h ways i dx dy = false := nbSkipB_no (by unfold nbSkip; rw [← HX.out, ← HYY.out]; omega)
             have HS := Ac.mk hs; have a1 : (dx == 0) = false := by simp [q1]
             have a2 : (dx != 0) = true := by simp [q1]
             have a3 : (dy == 0) = false := by simp [q2]
             have a4 : (dy != 0) = true := by simp [q2]
             have a5 : (ways == 4) = false := by simp [q3]
             have a6 : decide ((x : Int) + dx < 0) = false := decide_eq_false q4; have a7 : decide ((y : Int) + dy < 0) = false := decide_eq_false q5; have a8 : decide ((w : Int) ≤ (x : Int) + dx) = false := decide_eq_false q6; have a9 : decide ((h : Int) ≤ (y : Int) + dy) = false := decide_eq_false q7; clear hs HX HYY q1 q2 q3 q4 q5 q6 q7
             gi_wp2_with fail
             gi_meet
             case rel => exact ⟨by rw [HS.out], rfl⟩
     case rest =>
      obtain ⟨rfl, rfl⟩ := hcut; have ht1 : (3 * j + d) % 3 = d := by omega
      have ht2 : (3 * j + d) / 3 = j := by omega
      by_cases hs : nbSkip w h ways i dx dy
      ·rw [nbSkipB_yes hs]
       have hat : nbAt w h ways i (3 * j + d) = none := by unfold nbAt; rw [ht1, ht2, HDX.out, HDY.out, if_pos hs]
       have HAT := Ac.mk hat; clear hat hs ht1 ht2 HY
       gi_wp2
       go_roundw
       case rel =>
        refine ⟨d + 1, by omega, by have h9 := HDX.out; congr 1; omega, ⟨?_⟩, HG2⟩; obtain ⟨pre, p1, p2⟩ := HJ2.out; exact ⟨pre, by rw [← Nat.add_assoc, nbTo_none HAT.out]; exact p1, p2⟩
       case measure => simp [intOf]; omega
      ·rw [nbSkipB_no hs]
       have hn1 := hs; unfold nbSkip at hn1; rw [← HX.out, ← HYY.out] at hn1; have hnum := nb_num (dx := dx) (dy := dy) HW.out HI.out (by rw [← HX.out]; omega) (by rw [← HYY.out]; omega) (by rw [← HX.out]; omega) (by rw [← HYY.out]; omega); obtain ⟨P, hP⟩ : ∃ P, P = dy * (w : Int) := ⟨_, rfl⟩
       have hP1 : -1024 ≤ P ∧ P ≤ 1024 := by
        rcases (show dy = -1 ∨ dy = 0 ∨ dy = 1 by omega) with e | e | e <;> rw [hP, e] <;> omega
       obtain ⟨hP0, hP2⟩ := hP1; rw [← hP] at hnum; obtain ⟨q, hq⟩ := Int.eq_ofNat_of_zero_le hnum.1; have hqN : q < w * h := by have := hnum.2; rw [hq] at this; exact Int.ofNat_lt.mp this
       have hat : nbAt w h ways i (3 * j + d) = some q := by unfold nbAt; rw [ht1, ht2, HDX.out, HDY.out, if_neg hs, ← hP, hq]; rfl
       have HAT := Ac.mk hat; have hPw : IntKind.i64.wrap (dy * (w : Int)) = P := by rw [← hP, IntKind.wrap_i64]; omega
       obtain ⟨pre, p1, p2⟩ := HJ2.out
       have hplen : pre.length < 9 := by
        have z1 := congrArg List.length p1; rw [List.length_map] at z1; have z2 := nbTo_le w h ways i (3 * j + d)
        omega
       have z1 : wc.cell? ⟨Bi, 0, none⟩ = some (.int .i64 (i : Int)) := (Ad HG2.out.1 0).trans rfl; obtain ⟨fn, tmps, assign, body, hy, hR⟩ := HY.out pre ⟨q, hqN⟩ wc p2 hplen; have HRD := Ac.mk hR; have HP1 := Ac.mk p1; clear hR hat hs hn1 hnum hP p1 p2 ht1 ht2 hplen
       gi_wp2
       refine HRD.out.mono ?_; rintro e W3 (⟨rfl, hJ3, hk3⟩ | ⟨rfl, hJx3⟩)
       ·have HJ3 := Ac.mk hJ3
        have HG3 := Ac.mk (GB_keep HG2.out hk3); clear hJ3 hk3 hy
        gi_wp2
        go_roundw
        case rel =>
         refine ⟨d + 1, by omega, by have h9 := HDX.out; congr 1; omega, ⟨⟨_, ?_, HJ3.out⟩⟩, HG3⟩; rw [← Nat.add_assoc, nbTo_some HAT.out, List.map_append, HP1.out]; rfl
        case measure => simp [intOf]; omega
       ·have HJ3 := Ac.mk hJx3
        clear hJx3 hy
        gi_wp2
        refine bodyPost_ret (results_none rfl _ _ _) rfl ?_; refine ⟨⟨_, rfl⟩, .inr ⟨_, ?_, HJ3.out⟩⟩; rw [List.map_append, HP1.out]; refine fun r hr => nbTo_sub w h ways i (3 * j + d + 1) (by omega) r ?_
        rw [nbTo_some HAT.out]; exact hr
    ·obtain rfl : d = 3 := by omega
     gi_wp2
     go_roundw
     case rel => exact ⟨j + 1, by omega, by go_num, HJ2, HG2⟩
     case measure => simp [intOf]; omega
  ·obtain rfl : j = 3 := by omega
   gi_wp2
   go_end0
   obtain ⟨pre, h1, h2⟩ := HJ.out; exact ⟨⟨_, rfl⟩, .inl ⟨pre, h1, h2⟩⟩
end Go.Proofs.Ytbfimplajocmmaa


