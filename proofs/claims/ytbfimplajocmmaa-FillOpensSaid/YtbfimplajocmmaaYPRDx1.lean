import Derived.Test.YtbfimplajocmmaaProg
import Derived.Below
import Derived.Deep.Draws
import Derived.Deep.AppendLies
import Derived.Maps.AppendAt
import Derived.OwnWalk
import Derived.Laws.BytesArg
import Derived.Laws.MakeOwn
import Derived.Laws.OwnMore
import Derived.Deep.OwnRows
import Derived.Tactics
import Derived.Lib.ConvBytes
import Derived.Laws.Slices
import Derived.WalkKit
import Derived.KernelRfl
import Derived.RowKit3
import Derived.Deep.LoopGhost
import Derived.Deep.QuietTactic
import Derived.BigQuiet
import Derived.WideLaws
import Derived.Deep.DeepCutAuto
import Derived.Deep.CutBlock
import Derived.Deep.RegionHeld3
import Derived.Laws.Rows
import Derived.Lib.AppendStr
import Derived.ArgAppend
import Derived.Laws.IdiomCopy
import Derived.OrdersHeld
import Derived.Laws.BitsLemmas
import Derived.RowKit
import Derived.Test.YtbfimplajocmmaaYPRAx0
import Derived.Test.YtbfimplajocmmaaYUP
import Derived.Test.YtbfimplajocmmaaYWWords
import Derived.Test.YtbfimplajocmmaaYWQPut
import Derived.Test.YtbfimplajocmmaaYUQ
import Derived.Test.YtbfimplajocmmaaYWApart
import Derived.Test.YtbfimplajocmmaaYWZeros
import Derived.Test.YtbfimplajocmmaaYWEqStruct
import Derived.Test.YtbfimplajocmmaaYWRepsOne
import Derived.Test.YtbfimplajocmmaaYPRAx2
import Derived.Test.YtbfimplajocmmaaYRH4
section
namespace Go.Proofs.Ytbfimplajocmmaa.PRD
open Go.Proofs.Ytbfimplajocmmaa.PFA Go.Proofs.Ytbfimplajocmmaa.PFC Go.Proofs.Ytbfimplajocmmaa.PFK Go.Proofs.Ytbfimplajocmmaa.PRA
open Go.RowKit Go.Proofs.YtbfimplajocmmaaW.PrintWords Go.Proofs.YtbfimplajocmmaaW.PrintLast Go.Proofs.YtbfimplajocmmaaW.PrintMore
attribute [local go_sem] max2_int min2_int max_two min_two max_three min_three max_four min_four
set_option linter.unusedVariables false
set_option linter.unusedSimpArgs false




end Go.Proofs.Ytbfimplajocmmaa.PRD
end
section
namespace Go.Proofs.Ytbfimplajocmmaa.PRD
open Go.Proofs.Ytbfimplajocmmaa.PFA Go.Proofs.Ytbfimplajocmmaa.PFC Go.Proofs.Ytbfimplajocmmaa.PFK Go.Proofs.Ytbfimplajocmmaa.PRA
open Go.RowKit Go.Proofs.YtbfimplajocmmaaW.PrintWords Go.Proofs.YtbfimplajocmmaaW.PrintLast Go.Proofs.YtbfimplajocmmaaW.PrintMore
attribute [local go_sem] max2_int min2_int max_two min_two max_three min_three max_four min_four
set_option linter.unusedVariables false
set_option linter.unusedSimpArgs false

mutual
def Bk.l0 : Nat → Int → Int → Int → Int → Int → Int → List Int → Int → Int → Int → List Int → Option (Int)
 | 0, _, _, _, _, _, _, _, _, _, _, _ => none
 | k + 1, x1, x2, x3, x4, x5, x6, x15, x16, ai, ap, an => if x16 < x3 then ((Ay.f k x1 ap (wrap64 ((wrap64 (x6 - (wrap64 (Int.tdiv x3 2)))) + x16))).bind fun aY => (Bk.l1 k x1 x2 x3 x4 x5 x6 x15 x16 aY.1 0 ai ap an)) else ((C3.f x15).bind fun ay => (if 0 ≤ x4 then (if x4 < (ay.length : Int) then (some (rd ay x4)) else (none)) else (none)))
def Bk.l1 : Nat → Int → Int → Int → Int → Int → Int → List Int → Int → Int → Int → Int → Int → List Int → Option (Int)
 | 0, _, _, _, _, _, _, _, _, _, _, _, _, _ => none
 | k + 1, x1, x2, x3, x4, x5, x6, x15, x16, x17, x19, ai, ap, an => if x19 < x2 then ((Ay.f k x1 ai (wrap64 ((wrap64 (x5 - (wrap64 (Int.tdiv x2 2)))) + x19))).bind fun aA => (if 0 ≤ (wrap64 ((wrap64 (x17 * ai)) + aA.1)) then (if (wrap64 ((wrap64 (x17 * ai)) + aA.1)) < (an.length : Int) then (if x15.length < 35184372088832 then (Bk.l1 k x1 x2 x3 x4 x5 x6 (x15 ++ [rd an (wrap64 ((wrap64 (x17 * ai)) + aA.1))]) x16 x17 (wrap64 (x19 + 1)) ai ap an) else (none)) else (none)) else (none))) else (Bk.l0 k x1 x2 x3 x4 x5 x6 x15 (wrap64 (x16 + 1)) ai ap an)
end
def Bk.f (k : Nat) (ah : Int) (aj : Int) (ac : List Int) (a1 : Int) (a2 : Int) (a3 : Int) (a4 : Int) (a5 : Int) (a6 : Int) : Option (Int) := Bk.l0 k a1 a2 a3 a4 a5 a6 ([] : List Int) 0 ah aj ac
theorem Bk.mono_l : ∀ k, (∀ y0 y1 y2 y3 y4 y5 y6 y7 y8 y9 y10, LeO (Bk.l0 k y0 y1 y2 y3 y4 y5 y6 y7 y8 y9 y10) (Bk.l0 (k + 1) y0 y1 y2 y3 y4 y5 y6 y7 y8 y9 y10)) ∧ (∀ y0 y1 y2 y3 y4 y5 y6 y7 y8 y9 y10 y11 y12, LeO (Bk.l1 k y0 y1 y2 y3 y4 y5 y6 y7 y8 y9 y10 y11 y12) (Bk.l1 (k + 1) y0 y1 y2 y3 y4 y5 y6 y7 y8 y9 y10 y11 y12))
 | 0 => ⟨fun _ _ _ _ _ _ _ _ _ _ _ r h => by simp [Bk.l0] at h, fun _ _ _ _ _ _ _ _ _ _ _ _ _ r h => by simp [Bk.l1] at h⟩
 | k + 1 => by
  obtain ⟨ih0, ih1⟩ := Bk.mono_l k; refine ⟨?_, ?_⟩
  ·intro y0 y1 y2 y3 y4 y5 y6 y7 y8 y9 y10
   unfold Bk.l0
   repeat' first
   | (with_reducible exact ih0 _ _ _ _ _ _ _ _ _ _ _)
   | (with_reducible exact ih1 _ _ _ _ _ _ _ _ _ _ _ _ _)
   | (with_reducible exact Ay.mono _ _ _ _)
   | (with_reducible exact LeO.refl _)
   | (with_reducible exact LeO.none _)
   | (with_reducible refine LeO.ite ?_ ?_)
   | (with_reducible refine LeO.bind ?_ (fun _ => ?_))
   | exact ih0 _ _ _ _ _ _ _ _ _ _ _
   | exact ih1 _ _ _ _ _ _ _ _ _ _ _ _ _
   | exact Ay.mono _ _ _ _
   | exact LeO.none _
   | refine LeO.ite ?_ ?_
   | refine LeO.bind ?_ (fun _ => ?_)
  ·intro y0 y1 y2 y3 y4 y5 y6 y7 y8 y9 y10 y11 y12
   unfold Bk.l1
   repeat' first
   | (with_reducible exact ih0 _ _ _ _ _ _ _ _ _ _ _)
   | (with_reducible exact ih1 _ _ _ _ _ _ _ _ _ _ _ _ _)
   | (with_reducible exact Ay.mono _ _ _ _)
   | (with_reducible exact LeO.refl _)
   | (with_reducible exact LeO.none _)
   | (with_reducible refine LeO.ite ?_ ?_)
   | (with_reducible refine LeO.bind ?_ (fun _ => ?_))
   | exact ih0 _ _ _ _ _ _ _ _ _ _ _
   | exact ih1 _ _ _ _ _ _ _ _ _ _ _ _ _
   | exact Ay.mono _ _ _ _
   | exact LeO.none _
   | refine LeO.ite ?_ ?_
   | refine LeO.bind ?_ (fun _ => ?_)
theorem Bk.mono : ∀ a0 a1 a2 a3 a4 a5 a6 a7 a8 k, LeO (Bk.f k a0 a1 a2 a3 a4 a5 a6 a7 a8) (Bk.f (k + 1) a0 a1 a2 a3 a4 a5 a6 a7 a8) := by
 intro a0 a1 a2 a3 a4 a5 a6 a7 a8 k; obtain ⟨ih0, ih1⟩ := Bk.mono_l k; unfold Bk.f
 repeat' first
   | (with_reducible exact ih0 _ _ _ _ _ _ _ _ _ _ _)
   | (with_reducible exact ih1 _ _ _ _ _ _ _ _ _ _ _ _ _)
   | (with_reducible exact Ay.mono _ _ _ _)
   | (with_reducible exact LeO.refl _)
   | (with_reducible exact LeO.none _)
   | (with_reducible refine LeO.ite ?_ ?_)
   | (with_reducible refine LeO.bind ?_ (fun _ => ?_))
   | exact ih0 _ _ _ _ _ _ _ _ _ _ _
   | exact ih1 _ _ _ _ _ _ _ _ _ _ _ _ _
   | exact Ay.mono _ _ _ _
   | exact LeO.none _
   | refine LeO.ite ?_ ?_
   | refine LeO.bind ?_ (fun _ => ?_)
set_option maxHeartbeats 8000000 in
set_option maxRecDepth 100000 in
theorem Bk.calls (k : Nat) (ah : Int) (aj : Int) (av : Option Addr) (au : Nat) (ac : List Int) (a1 : Int) (a2 : Int) (a3 : Int) (a4 : Int) (a5 : Int) (a6 : Int) (r : Int) (w : World) (aM : Kd.C (Kd.int .u32) w av ac.length ac) (aN : ac.length ≤ au) (h : Bk.f k ah aj ac a1 a2 a3 a4 a5 a6 = some r) :
  Calls Try.prog 95 #[.agg #[.int .i64 ah, .int .i64 aj, .slice av ac.length au], .int .i64 a1, .int .i64 a2, .int .i64 a3, .int .i64 a4, .int .i64 a5, .int .i64 a6] w fun e w' => e = .returned (.int .u32 r) ∧ Below w.heap.size w w' := by
 have hu24 := Try.underlying24; have aZ := Ac.mk aM; have bF := Ac.mk aN; clear aM aN; have HB := Ac.mk (Below.refl w.heap.size w); have H : (Bk.l0 k a1 a2 a3 a4 a5 a6 ([] : List Int) 0 ah aj ac) = some r := h; clear h; have H' := Ac.mk H; clear H; go_enter Try.func95, Try.ntmps95
 go_wp2_with (first | ((with_reducible refine Bf (N := 7) rfl ?_); refine Bc ?hg (N := 7) ?hd (cs := #[.int .i64 ah, .int .i64 aj, .slice av ac.length au]) (t := 24) ?hr ?_; (case hd => rfl); (case hg => rfl); (case hr => first | (go_simp; done) | (go_simp; rfl)); intro af hg w8 hbox hb; have aa := Ac.mk (hbox); have bG := Ac.mk ((by rw [hg]; exact (Ak (lU HB.out)) : w.heap.size ≤ af)); have ak := Ac.mk ((by rw [hg]; exact (Ak (lU HB.out)) : w.heap.size ≤ af)); replace HB := Ac.mk (Aq (lU HB.out) hb); clear hb hbox hg))
 go_loopg [15, 16] k (fun kq v15 v16 w' => ∃ (aw : List Int) (am : Int), v16 = .int .i64 am ∧ Ac (Bk.l0 kq a1 a2 a3 a4 a5 a6 aw am ah aj ac = some r) ∧ Ac (kq ≤ k) ∧ Ac (Kd.R (Kd.int .u32) 28 w' w.heap.size (fun _ => True) v15 aw) ∧ Ac (w'.heap[af]? = some (.cells #[.int .i64 ah, .int .i64 aj, (.slice av ac.length au)] 24 (0, 0))) ∧ Ac (Below w.heap.size w w'))
 case atStart => exact ⟨(([] : List Int)), (0), (by first | rfl | (simp; done) | (simp [*]; done)), H', ⟨Nat.le_refl _⟩, ⟨by first | exact Kd.Ct _ _ _ _ _ | exact Kd.N_nil _ _ _ _ _ | exact Kd.V_nil _ _ _ _ _ | exact Kd.Q_nil _ _ _ _ _ | exact Kd.S_nil _ _ _ _ _⟩, ⟨by exact bU <| aa.out⟩, ⟨by repeat (first | (with_reducible first | exact HB.out | apply Ah | apply Ae | apply Ai | refine Ag ?_ ak.out) | exact HB.out)⟩⟩
 case round =>
  clear H'; (try clear p2); obtain ⟨aw, am, rfl, HA, HK1, ag, aa, HB⟩ := hrel; cases gk with
  | zero => exact absurd HA.out (by simp [Bk.l0])
  | succ k1 =>
   have H := HA.out; clear HA
   simp only [Bk.l0] at H
   by_cases c9 : am < a3
   ·rw [if_pos c9] at H
    have ba : decide (am < a3) = true := decide_eq_true c9; clear c9; replace H := Option.bind_eq_some_iff.mp H; obtain ⟨⟨aC, bv⟩, A100, H⟩ := H
    try dsimp only at H
    have A10 := Ac.mk A100; clear A100; have H' := Ac.mk H; clear H; have aE : wr.cell? ⟨af, 0, none⟩ = some (.int .i64 ah) := (Ad aa.out 0).trans rfl; have aG : wr.cell? ⟨af, 1, none⟩ = some (.int .i64 aj) := (Ad aa.out 1).trans rfl; have aH : wr.cell? ⟨af, 2, none⟩ = some (.slice av ac.length au) := (Ad aa.out 2).trans rfl; have aI := Af aa.out 0; have aJ := Af aa.out 1; have aK := Af aa.out 2
    go_wp2_with (first | ((with_reducible refine Be (f := 94) rfl ?_); refine gL (some 37) Try.func94 #[.int .i64 a1, .int .i64 aj, .int .i64 (wrap64 ((wrap64 (a6 - (wrap64 (Int.tdiv a3 2)))) + am))] ?_; (with_reducible refine (Ay.calls k1 a1 aj (wrap64 ((wrap64 (a6 - (wrap64 (Int.tdiv a3 2)))) + am)) aC bv _ A10.out).mono ?_); rintro e w12 ⟨rfl, hb⟩; refine ⟨_, rfl, ?_⟩; replace ag := Ac.mk (Kd.Az (by exact rU <| ag.out) hb); replace aa := Ac.mk (An (g := af) (o := .cells #[.int .i64 ah, .int .i64 aj, .slice av ac.length au] 24 (0, 0)) (by exact bU <| aa.out) hb); replace HB := Ac.mk (Aq (by repeat (first | (with_reducible first | exact HB.out | apply Ah | apply Ae | apply Ai | refine Ag ?_ ak.out) | exact HB.out)) hb); (try clear hb); (try clear hb2); (try clear hk); (try clear hi)))
    go_loopg [15, 19] k1 (fun kq v15 v19 w' => ∃ (aq : List Int) (ao : Int), v19 = .int .i64 ao ∧ Ac (Bk.l1 kq a1 a2 a3 a4 a5 a6 aq am aC ao ah aj ac = some r) ∧ Ac (kq ≤ k1) ∧ Ac (Kd.R (Kd.int .u32) 28 w' w.heap.size (fun _ => True) v15 aq) ∧ Ac (w'.heap[af]? = some (.cells #[.int .i64 ah, .int .i64 aj, (.slice av ac.length au)] 24 (0, 0))) ∧ Ac (Below w.heap.size w w'))
    case atStart => exact ⟨(aw), (0), (by first | rfl | (simp; done) | (simp [*]; done)), H', ⟨Nat.le_refl _⟩, ⟨by exact rU <| ag.out⟩, ⟨by exact bU <| aa.out⟩, ⟨by repeat (first | (with_reducible first | exact HB.out | apply Ah | apply Ae | apply Ai | refine Ag ?_ ak.out) | exact HB.out)⟩⟩
    case round =>
     clear H'; (try clear p2); (try clear p6); (try clear c9); (try clear ba); (try clear aE); (try clear aG); (try clear aH); (try clear aI); (try clear aJ); (try clear aK); (try clear p2); obtain ⟨aq, ao, rfl, HA, HK2, ag, aa, HB⟩ := hrel; cases gk with
     | zero => exact absurd HA.out (by simp [Bk.l1])
     | succ k2 =>
      have H := HA.out; clear HA
      simp only [Bk.l1] at H
      by_cases c13 : ao < a2
      ·rw [if_pos c13] at H
       have bb : decide (ao < a2) = true := decide_eq_true c13; clear c13; replace H := Option.bind_eq_some_iff.mp H; obtain ⟨⟨aT, bw⟩, A140, H⟩ := H
       try dsimp only at H
       have A14 := Ac.mk A140; clear A140; obtain ⟨ar, az⟩ : ∃ j_ : Int, (wrap64 ((wrap64 (aC * ah)) + aT)) = j_ := ⟨_, rfl⟩; replace H : (if 0 ≤ (ar) then (if (ar) < (ac.length : Int) then (if aq.length < 35184372088832 then (Bk.l1 k2 a1 a2 a3 a4 a5 a6 (aq ++ [rd ac (ar)]) am aC (wrap64 (ao + 1)) ah aj ac) else (none)) else (none)) else (none)) = some r := by first | (rw [az] at H; exact H) | (simp only [az] at H ⊢; exact H)
       (try rw [az] at A14); have hji15w : (IntKind.i64.wrap ((wrap64 (aC * ah)) + aT)) = ar := (i64_w _).trans az
       by_cases c16 : 0 ≤ (ar)
       ·rw [if_pos c16] at H
        have bH : decide (0 ≤ (ar)) = true := decide_eq_true c16; clear c16
        by_cases c17 : (ar) < (ac.length : Int)
        ·rw [if_pos c17] at H
         have bI : decide ((ar) < (ac.length : Int)) = true := decide_eq_true c17; clear c17
         by_cases c18 : aq.length < 35184372088832
         ·rw [if_pos c18] at H
          have LMc18 := Ac.mk c18; clear c18; obtain ⟨bz, aD⟩ : ∃ y_ : List Int, y_ = (aq ++ [rd ac (ar)]) := ⟨_, rfl⟩; (try rw [Option.bind_some] at H); try rw [← aD] at H; have bc := Ac.mk aD; clear aD; have H' := Ac.mk H; clear H; have bf : wr.cell? ⟨af, 0, none⟩ = some (.int .i64 ah) := (Ad aa.out 0).trans rfl; have bg : wr.cell? ⟨af, 1, none⟩ = some (.int .i64 aj) := (Ad aa.out 1).trans rfl; have bh : wr.cell? ⟨af, 2, none⟩ = some (.slice av ac.length au) := (Ad aa.out 2).trans rfl; have bj := Af aa.out 0; have bl := Af aa.out 1; have bm := Af aa.out 2
          go_wp2_with (first | ((with_reducible refine Be (f := 94) rfl ?_); refine gL (some 55) Try.func94 #[.int .i64 a1, .int .i64 ah, .int .i64 (wrap64 ((wrap64 (a5 - (wrap64 (Int.tdiv a2 2)))) + ao))] ?_; (with_reducible refine (Ay.calls k2 a1 ah (wrap64 ((wrap64 (a5 - (wrap64 (Int.tdiv a2 2)))) + ao)) aT bw _ A14.out).mono ?_); rintro e w20 ⟨rfl, hb⟩; refine ⟨_, rfl, ?_⟩; replace ag := Ac.mk (Kd.Az (by exact rU <| ag.out) hb); replace aa := Ac.mk (An (g := af) (o := .cells #[.int .i64 ah, .int .i64 aj, .slice av ac.length au] 24 (0, 0)) (by exact bU <| aa.out) hb); replace HB := Ac.mk (Aq (by repeat (first | (with_reducible first | exact HB.out | apply Ah | apply Ae | apply Ai | refine Ag ?_ ak.out) | exact HB.out)) hb); (try clear hb); (try clear hb2); (try clear hk); (try clear hi); have bo : w20.cell? ⟨af, 0, none⟩ = some (.int .i64 ah) := (Ad aa.out 0).trans rfl; have bp : w20.cell? ⟨af, 1, none⟩ = some (.int .i64 aj) := (Ad aa.out 1).trans rfl; have bq : w20.cell? ⟨af, 2, none⟩ = some (.slice av ac.length au) := (Ad aa.out 2).trans rfl; have br := Af aa.out 0; have bs := Af aa.out 1; have bt := Af aa.out 2; have aU : 0 ≤ ((ar) : Int) := of_decide_eq_true (by with_reducible assumption); have aV : (ar) < (ac.length : Int) := of_decide_eq_true (by with_reducible assumption); obtain ⟨bd, e110, ax⟩ := Kd.at_int aZ.out (ar) aU aV; cases e110; replace ax := (HB.out.cell (World.block_lt_of_cell? w _ ax)).trans ax; replace aU := eq_true aU; replace aV := eq_true aV) | ((with_reducible refine C5 (b := .append) (xs := #[.tmp 58, .tmp 69]) rfl ?_); at_builtin; refine Kd.Ds (Kd.int .u32) (w0 := w) w.heap.size rfl (.tmp 58) (.tmp 69) 22 28 (.int .u32 0) 4 rfl Try.underlying22 info28 rfl (by decide) (by omega) u15 aq (rd ac (ar)) [.int .u32 (rd ac (ar))] (fun _ => True) (fun _ => False) rfl rfl ?aP (fun _ hk => hk.elim) ?aF ?aO ?aB ?aS ?aL ?_; (case aP => exact rfl); (case aB => exact (by repeat (first | (with_reducible first | exact HB.out | apply Ah | apply Ae | apply Ai | refine Ag ?_ ak.out) | exact HB.out))); (case aF => exact (fun _ _ => trivial)); (case aO => exact (by exact rU <| ag.out)); (case aS => exact (Ak (by repeat (first | (with_reducible first | exact HB.out | apply Ah | apply Ae | apply Ai | refine Ag ?_ ak.out) | exact HB.out)))); (case aL => have := LMc18.out; omega); intro v112 w22 ho hb hg hat; rw [← bc.out] at ho; replace aa := Ac.mk (B3 (g := af) (o := .cells #[.int .i64 ah, .int .i64 aj, .slice (some bd) ac.length au] 24 (0, 0)) (by exact bU <| aa.out) hg (Kd.Dr ag.out aa.out (by decide))); replace HB := Ac.mk (hb); have be := Ac.mk (ho); clear ag; clear ho hb hg hat))
          go_roundg k2
          case measure => have := HK1.out; have := HK2.out; omega
          case rel => exact ⟨(bz), (wrap64 (ao + 1)), (by first | rfl | (simp; done) | (simp [*]; done)), H', ⟨by have := HK1.out; have := HK2.out; omega⟩, ⟨by exact rU <| be.out⟩, ⟨by exact bU <| aa.out⟩, ⟨by repeat (first | (with_reducible first | exact HB.out | apply Ah | apply Ae | apply Ai | refine Ag ?_ ak.out) | exact HB.out)⟩⟩
         ·rw [if_neg c18] at H
          exact absurd H (by simp)
        ·rw [if_neg c17] at H
         exact absurd H (by simp)
       ·rw [if_neg c16] at H
        exact absurd H (by simp)
      ·rw [if_neg c13] at H
       have bb : decide (ao < a2) = false := decide_eq_false c13; clear c13; have H' := Ac.mk H; clear H
       go_wp2
       go_roundg k2
       case measure => have := HK1.out; have := HK2.out; omega
       case rel => exact ⟨(aq), (wrap64 (am + 1)), (by first | rfl | (simp; done) | (simp [*]; done)), H', ⟨by have := HK1.out; have := HK2.out; omega⟩, ⟨by exact rU <| ag.out⟩, ⟨by exact bU <| aa.out⟩, ⟨by repeat (first | (with_reducible first | exact HB.out | apply Ah | apply Ae | apply Ai | refine Ag ?_ ak.out) | exact HB.out)⟩⟩
   ·rw [if_neg c9] at H
    have ba : decide (am < a3) = false := decide_eq_false c9; clear c9; replace H := Option.bind_eq_some_iff.mp H; obtain ⟨ay, A230, H⟩ := H
    try dsimp only at H
    have A23 := Ac.mk A230; clear A230
    by_cases c24 : 0 ≤ a4
    ·rw [if_pos c24] at H
     have bJ : decide (0 ≤ a4) = true := decide_eq_true c24; clear c24
     by_cases c25 : a4 < (ay.length : Int)
     ·rw [if_pos c25] at H
      have bK : decide (a4 < (ay.length : Int)) = true := decide_eq_true c25; clear c25; obtain rfl := Option.some.inj H; obtain ⟨bB, bC, bD⟩ := Kd.B0 ag.out; subst bD
      go_wp2_with (first | ((with_reducible refine Be (f := 98) rfl ?_); refine gL (some 72) Try.func98 #[.slice bB aw.length bC] ?_; (with_reducible refine (C3.calls _ _ aw ay _ ?side1 ?side2 A23.out).mono ?_); (case side1 => repeat (first | exact (Kd.Bn ag.out).2.2 | (with_reducible refine Kd.Bw ?_ _) | (with_reducible refine Kd.B6 ?_ _) | (with_reducible refine Kd.C_drew ?_))); (case side2 => exact (Kd.Bn ag.out).2.1); rintro e w27 ⟨v103, rfl, ho0, hb⟩; refine ⟨_, rfl, ?_⟩; have aQ := Ac.mk (Kd.B9 (Kd.Cn ho0 (Kd.C7 (by exact rU <| ag.out))) (Ak (by repeat (first | (with_reducible first | exact HB.out | apply Ah | apply Ae | apply Ai | refine Ag ?_ ak.out) | exact HB.out)))); replace ag := Ac.mk (Kd.Cb (by exact rU <| ag.out) (Kd.Cm ho0) hb); replace aa := Ac.mk (An (g := af) (o := .cells #[.int .i64 ah, .int .i64 aj, .slice av ac.length au] 24 (0, 0)) (by exact bU <| aa.out) hb); replace HB := Ac.mk (Aq (by repeat (first | (with_reducible first | exact HB.out | apply Ah | apply Ae | apply Ai | refine Ag ?_ ak.out) | exact HB.out)) hb); (try clear hb); (try clear hb2); (try clear hk); (try clear hi); (try clear ho0); obtain ⟨bM, bN, bE⟩ := Kd.B0 aQ.out; subst bE; have aW : 0 ≤ (a4 : Int) := of_decide_eq_true (by with_reducible assumption); have aX : a4 < (ay.length : Int) := of_decide_eq_true (by with_reducible assumption); obtain ⟨bL, e105, bu⟩ := Kd.at_int (Kd.Bn aQ.out).2.2 a4 aW aX; cases e105; replace aW := eq_true aW; replace aX := eq_true aX))
      go_ret
      exact ⟨by first | rfl | (simp [At, As] <;> rfl) | (simp [*, At, As] <;> rfl), by repeat (first | (with_reducible first | exact HB.out | apply Ah | apply Ae | apply Ai | refine Ag ?_ ak.out) | exact HB.out)⟩
     ·rw [if_neg c25] at H
      exact absurd H (by simp)
    ·rw [if_neg c24] at H
     exact absurd H (by simp)

end Go.Proofs.Ytbfimplajocmmaa.PRD
end
