import Derived.Test.YtbfimplajocmmaaXUQ
import Derived.Test.YtbfimplajocmmaaXPFAx0
namespace Go.Proofs.Ytbfimplajocmmaa.PFA
open Go.RowKit Go.Proofs.YtbfimplajocmmaaW.PrintWords Go.Proofs.YtbfimplajocmmaaW.PrintLast Go.Proofs.YtbfimplajocmmaaW.PrintMore
attribute [local go_sem] max2_int min2_int max_two min_two max_three min_three max_four min_four
set_option linter.unusedVariables false
set_option linter.unusedSimpArgs false

mutual
def Ay.j0 : Nat → Bool → Int → Int → List Bool → Int → Int → List Bool → Option (Bool)
 | 0, _, _, _, _, _, _, _ => none
 | k + 1, x26, bf, bg, aM, bh, bj, aN => if x26 = true then (some false) else (Ay.l0 k 0 bf bg aM bh bj aN)
def Ay.l0 : Nat → Int → Int → Int → List Bool → Int → Int → List Bool → Option (Bool)
 | 0, _, _, _, _, _, _, _ => none
 | k + 1, x5, bf, bg, aM, bh, bj, aN => if x5 < (aM.length : Int) then (if 0 ≤ x5 then (if x5 < (aN.length : Int) then (if ((rdOf false aM x5) != (rdOf false aN x5)) = true then (some false) else (Ay.l0 k (wrap64 (x5 + 1)) bf bg aM bh bj aN)) else (none)) else (none)) else (some true)
end
def Ay.f (k : Nat) (af : Int) (ag : Int) (aa : List Bool) (aw : Int) (ax : Int) (am : List Bool) : Option (Bool) := if af = aw then (if ag = ax then (Ay.j0 k ((aa.length : Int) != (am.length : Int)) af ag aa aw ax am) else (Ay.j0 k true af ag aa aw ax am)) else (Ay.j0 k true af ag aa aw ax am)
theorem Ay.mono_l : ∀ k, (∀ y0 y1 y2 y3 y4 y5 y6, LeO (Ay.j0 k y0 y1 y2 y3 y4 y5 y6) (Ay.j0 (k + 1) y0 y1 y2 y3 y4 y5 y6)) ∧ (∀ y0 y1 y2 y3 y4 y5 y6, LeO (Ay.l0 k y0 y1 y2 y3 y4 y5 y6) (Ay.l0 (k + 1) y0 y1 y2 y3 y4 y5 y6))
 | 0 => ⟨fun _ _ _ _ _ _ _ r h => by simp [Ay.j0] at h, fun _ _ _ _ _ _ _ r h => by simp [Ay.l0] at h⟩
 | k + 1 => by
  obtain ⟨ih0, ih1⟩ := Ay.mono_l k; refine ⟨?_, ?_⟩
  ·intro y0 y1 y2 y3 y4 y5 y6
   unfold Ay.j0
   repeat' first
   | (with_reducible exact ih0 _ _ _ _ _ _ _)
   | (with_reducible exact ih1 _ _ _ _ _ _ _)
   | (with_reducible exact LeO.refl _)
   | (with_reducible exact LeO.none _)
   | (with_reducible refine LeO.ite ?_ ?_)
   | (with_reducible refine LeO.bind ?_ (fun _ => ?_))
   | exact ih0 _ _ _ _ _ _ _
   | exact ih1 _ _ _ _ _ _ _
   | exact LeO.none _
   | refine LeO.ite ?_ ?_
   | refine LeO.bind ?_ (fun _ => ?_)
  ·intro y0 y1 y2 y3 y4 y5 y6
   unfold Ay.l0
   repeat' first
   | (with_reducible exact ih0 _ _ _ _ _ _ _)
   | (with_reducible exact ih1 _ _ _ _ _ _ _)
   | (with_reducible exact LeO.refl _)
   | (with_reducible exact LeO.none _)
   | (with_reducible refine LeO.ite ?_ ?_)
   | (with_reducible refine LeO.bind ?_ (fun _ => ?_))
   | exact ih0 _ _ _ _ _ _ _
   | exact ih1 _ _ _ _ _ _ _
   | exact LeO.none _
   | refine LeO.ite ?_ ?_
   | refine LeO.bind ?_ (fun _ => ?_)
theorem Ay.mono : ∀ a0 a1 a2 a3 a4 a5 k, LeO (Ay.f k a0 a1 a2 a3 a4 a5) (Ay.f (k + 1) a0 a1 a2 a3 a4 a5) := by
 intro a0 a1 a2 a3 a4 a5 k; obtain ⟨ih0, ih1⟩ := Ay.mono_l k; unfold Ay.f
 repeat' first
   | (with_reducible exact ih0 _ _ _ _ _ _ _)
   | (with_reducible exact ih1 _ _ _ _ _ _ _)
   | (with_reducible exact LeO.refl _)
   | (with_reducible exact LeO.none _)
   | (with_reducible refine LeO.ite ?_ ?_)
   | (with_reducible refine LeO.bind ?_ (fun _ => ?_))
   | exact ih0 _ _ _ _ _ _ _
   | exact ih1 _ _ _ _ _ _ _
   | exact LeO.none _
   | refine LeO.ite ?_ ?_
   | refine LeO.bind ?_ (fun _ => ?_)
set_option maxHeartbeats 8000000 in
set_option maxRecDepth 100000 in
theorem Ay.calls (k : Nat) (af : Int) (ag : Int) (ar : Option Addr) (aq : Nat) (aa : List Bool) (aw : Int) (ax : Int) (ba : Option Addr) (bb : Nat) (am : List Bool) (r : Bool) (w : World) (bw : Kd.C Kd.bool w ar aa.length aa) (bz : aa.length ≤ aq) (dp : Kd.C Kd.bool w ba am.length am) (dq : am.length ≤ bb) (h : Ay.f k af ag aa aw ax am = some r) :
  Calls Try.prog 41 #[.agg #[.int .i64 af, .int .i64 ag, .slice ar aa.length aq], .agg #[.int .i64 aw, .int .i64 ax, .slice ba am.length bb]] w fun e w' => e = .returned (.bool r) ∧ Below w.heap.size w w' := by
 have hu27 := Try.underlying27; have bG := Ae.mk bw; have dM := Ae.mk bz; clear bw bz; have dr := Ae.mk dp; have eK := Ae.mk dq; clear dp dq; have HB := Ae.mk (Below.refl w.heap.size w); have H : (if af = aw then (if ag = ax then (Ay.j0 k ((aa.length : Int) != (am.length : Int)) af ag aa aw ax am) else (Ay.j0 k true af ag aa aw ax am)) else (Ay.j0 k true af ag aa aw ax am)) = some r := h; clear h; have HC3 := Ae.mk H; clear H; go_enter Try.func41, Try.ntmps41
 go_upto_region 1 with (first | ((with_reducible refine Bq (N := 2) rfl ?_); (try (refine C8 (by rfl) ?_; dsimp only)); refine Bo ?hg (N := 2) ?hd (cs := #[.int .i64 af, .int .i64 ag, .slice ar aa.length aq]) (t := 27) ?hr ?_; (case hd => rfl); (case hg => rfl); (case hr => first | (go_simp; done) | (go_simp; rfl)); intro ah hg w4 hbox hb; have ab := Ae.mk (hbox); have eL := Ae.mk ((by rw [hg]; exact (Aq (lU HB.out)) : w.heap.size ≤ ah)); have aH := Ae.mk ((by rw [hg]; exact (Aq (lU HB.out)) : w.heap.size ≤ ah)); replace HB := Ae.mk (At (lU HB.out) hb); clear hb hbox hg) | ((with_reducible refine Bq (N := 3) rfl ?_); (try (refine C8 (by rfl) ?_; dsimp only)); refine Bo ?hg (N := 3) ?hd (cs := #[.int .i64 aw, .int .i64 ax, .slice ba am.length bb]) (t := 27) ?hr ?_; (case hd => rfl); (case hg => rfl); (case hr => first | (go_simp; done) | (go_simp; rfl)); intro ao hg w5 hbox hb; have ae := Ae.mk (hbox); have eM := Ae.mk ((by rw [hg]; exact (Aq (by repeat (first | (with_reducible first | exact HB.out | apply Ah | apply Aj | apply Ak | refine Ai ?_ aH.out) | exact HB.out))) : w.heap.size ≤ ao)); have aW := Ae.mk ((by rw [hg]; exact (Aq (by repeat (first | (with_reducible first | exact HB.out | apply Ah | apply Aj | apply Ak | refine Ai ?_ aH.out) | exact HB.out))) : w.heap.size ≤ ao)); replace HB := Ae.mk (At (by repeat (first | (with_reducible first | exact HB.out | apply Ah | apply Aj | apply Ak | refine Ai ?_ aH.out) | exact HB.out)) hb); have ay := Ae.mk ((by rw [hg]; exact Nat.ne_of_lt (Ba (g := ah) (o := .cells #[.int .i64 af, .int .i64 ag, .slice ar aa.length aq] 27 (0, 0)) (by exact bU <| ab.out)) : ah ≠ ao)); have az := Ae.mk ((by rw [hg]; exact Nat.ne_of_gt (Ba (g := ah) (o := .cells #[.int .i64 af, .int .i64 ag, .slice ar aa.length aq] 27 (0, 0)) (by exact bU <| ab.out)) : ao ≠ ah)); replace ab := Ae.mk (Ao (g := ah) (o := .cells #[.int .i64 af, .int .i64 ag, .slice ar aa.length aq] 27 (0, 0)) (by exact bU <| ab.out) hb); clear hb hbox hg))
 repeat (go_quiet (fail); go_upto_region 1 with (fail))
 (try simp only [Act.put, sA, sB, sC])
 go_cut [26] (fun v26 wc => ∃ (kq : Nat) (bH : Bool), v26 = .bool bH ∧ Ae (Ay.j0 kq bH af ag aa aw ax am = some r) ∧ Ae (kq ≤ k) ∧ Ae (wc.heap[ah]? = some (.cells #[.int .i64 af, .int .i64 ag, (.slice ar aa.length aq)] 27 (0, 0))) ∧ Ae (wc.heap[ao]? = some (.cells #[.int .i64 aw, .int .i64 ax, (.slice ba am.length bb)] 27 (0, 0))) ∧ Ae (Below w.heap.size w wc))
 case first =>
  have H := HC3.out; clear HC3
  by_cases c6 : af = aw
  ·rw [if_pos c6] at H
   have bB : (af == aw) = true := beq_iff_eq.mpr c6; have dw : (af != aw) = false := bne_eq_false_iff_eq.mpr c6; clear c6; (first | rw [bB] | (simp only [i64_w, i32_w]; rw [bB]) | skip)
   by_cases c7 : ag = ax
   ·rw [if_pos c7] at H
    have dz : (ag == ax) = true := beq_iff_eq.mpr c7; have dA : (ag != ax) = false := bne_eq_false_iff_eq.mpr c7; clear c7; have H' := Ae.mk H; clear H; have fi := ay.out; have fj := az.out; have cy : w5.cell? ⟨ah, 0, none⟩ = some (.int .i64 af) := (Af ab.out 0).trans rfl; have cz : w5.cell? ⟨ah, 1, none⟩ = some (.int .i64 ag) := (Af ab.out 1).trans rfl; have cA : w5.cell? ⟨ah, 2, none⟩ = some (.slice ar aa.length aq) := (Af ab.out 2).trans rfl; have cB := Ag ab.out 0; have cC := Ag ab.out 1; have cD := Ag ab.out 2; have bm : w5.cell? ⟨ao, 0, none⟩ = some (.int .i64 aw) := (Af ae.out 0).trans rfl; have bo : w5.cell? ⟨ao, 1, none⟩ = some (.int .i64 ax) := (Af ae.out 1).trans rfl; have bp : w5.cell? ⟨ao, 2, none⟩ = some (.slice ba am.length bb) := (Af ae.out 2).trans rfl; have bq := Ag ae.out 0; have br := Ag ae.out 1; have bs := Ag ae.out 2
    go_wp2
    repeat (go_quiet (fail); try go_wp2)
    go_meet
    case rel => exact ⟨_, (((aa.length : Int) != (am.length : Int))), (by first | rfl | (simp; done) | (simp [*]; done)), H', ⟨by first | omega | exact Nat.le_refl _⟩, ⟨by exact bU <| ab.out⟩, ⟨by exact bU <| ae.out⟩, ⟨by repeat (first | (with_reducible first | exact HB.out | apply Ah | apply Aj | apply Ak | refine Ai ?_ aH.out | refine Ai ?_ aW.out) | exact HB.out)⟩⟩
   ·rw [if_neg c7] at H
    have dz : (ag == ax) = false := beq_eq_false_iff_ne.mpr c7; have dA : (ag != ax) = true := bne_iff_ne.mpr c7; have H' := Ae.mk H; clear H; have eN := ay.out; have eO := az.out; have bI : w5.cell? ⟨ah, 0, none⟩ = some (.int .i64 af) := (Af ab.out 0).trans rfl; have bJ : w5.cell? ⟨ah, 1, none⟩ = some (.int .i64 ag) := (Af ab.out 1).trans rfl; have bK : w5.cell? ⟨ah, 2, none⟩ = some (.slice ar aa.length aq) := (Af ab.out 2).trans rfl; have bL := Ag ab.out 0; have bM := Ag ab.out 1; have bN := Ag ab.out 2; have bO : w5.cell? ⟨ao, 0, none⟩ = some (.int .i64 aw) := (Af ae.out 0).trans rfl; have bP : w5.cell? ⟨ao, 1, none⟩ = some (.int .i64 ax) := (Af ae.out 1).trans rfl; have bQ : w5.cell? ⟨ao, 2, none⟩ = some (.slice ba am.length bb) := (Af ae.out 2).trans rfl; have bR := Ag ae.out 0; have bS := Ag ae.out 1; have bT := Ag ae.out 2
    go_wp2
    repeat (go_quiet (fail); try go_wp2)
    go_meet
    case rel => exact ⟨_, (true), (by first | rfl | (simp; done) | (simp [*]; done)), H', ⟨by first | omega | exact Nat.le_refl _⟩, ⟨by exact bU <| ab.out⟩, ⟨by exact bU <| ae.out⟩, ⟨by repeat (first | (with_reducible first | exact HB.out | apply Ah | apply Aj | apply Ak | refine Ai ?_ aH.out | refine Ai ?_ aW.out) | exact HB.out)⟩⟩
  ·rw [if_neg c6] at H
   have bB : (af == aw) = false := beq_eq_false_iff_ne.mpr c6; have dw : (af != aw) = true := bne_iff_ne.mpr c6; (first | rw [bB] | (simp only [i64_w, i32_w]; rw [bB]) | skip); have H' := Ae.mk H; clear H; have eP := ay.out; have eQ := az.out; have bV : w5.cell? ⟨ah, 0, none⟩ = some (.int .i64 af) := (Af ab.out 0).trans rfl; have bW : w5.cell? ⟨ah, 1, none⟩ = some (.int .i64 ag) := (Af ab.out 1).trans rfl; have bX : w5.cell? ⟨ah, 2, none⟩ = some (.slice ar aa.length aq) := (Af ab.out 2).trans rfl; have bY := Ag ab.out 0; have bZ := Ag ab.out 1; have b4 := Ag ab.out 2; have b5 : w5.cell? ⟨ao, 0, none⟩ = some (.int .i64 aw) := (Af ae.out 0).trans rfl; have b6 : w5.cell? ⟨ao, 1, none⟩ = some (.int .i64 ax) := (Af ae.out 1).trans rfl; have b7 : w5.cell? ⟨ao, 2, none⟩ = some (.slice ba am.length bb) := (Af ae.out 2).trans rfl; have b8 := Ag ae.out 0; have b9 := Ag ae.out 1; have cg := Ag ae.out 2
   go_wp2
   repeat (go_quiet (fail); try go_wp2)
   go_meet
   case rel => exact ⟨_, (true), (by first | rfl | (simp; done) | (simp [*]; done)), H', ⟨by first | omega | exact Nat.le_refl _⟩, ⟨by exact bU <| ab.out⟩, ⟨by exact bU <| ae.out⟩, ⟨by repeat (first | (with_reducible first | exact HB.out | apply Ah | apply Aj | apply Ak | refine Ai ?_ aH.out | refine Ai ?_ aW.out) | exact HB.out)⟩⟩
 case rest =>
  clear HC3; (try clear c1); (try clear p2); (try clear c4); (try clear c6); (try clear bB); (try clear dw); (try clear c7); (try clear dz); (try clear dA); (try clear c8); (try clear c11); (try clear c14); (try clear bm); (try clear bo); (try clear bp); (try clear bI); (try clear bJ); (try clear bK); (try clear bO); (try clear bP); (try clear bQ); (try clear bV); (try clear bW); (try clear bX); (try clear b5); (try clear b6); (try clear b7); (try clear cy); (try clear cz); (try clear cA); (try clear bq); (try clear br); (try clear bs); (try clear bL); (try clear bM); (try clear bN); (try clear bR); (try clear bS); (try clear bT); (try clear bY); (try clear bZ); (try clear b4); (try clear b8); (try clear b9); (try clear cg); (try clear cB); (try clear cC); (try clear cD); obtain ⟨kq, bH, rfl, HA, HJ2, ab, ae, HB⟩ := hcut; cases kq with
  | zero => exact absurd HA.out (by simp [Ay.j0])
  | succ kj2 =>
   have H := HA.out; clear HA
   simp only [Ay.j0] at H
   by_cases c17 : bH = true
   ·subst c17
    have H1 := H; rw [if_pos rfl] at H1; clear H; have H := H1; clear H1; obtain rfl := Option.some.inj H
    go_wp2
    repeat (go_quiet (fail); try go_wp2)
    go_ret
    exact ⟨by first | rfl | (simp [Bc, Bb] <;> rfl) | (simp [*, Bc, Bb] <;> rfl), by repeat (first | (with_reducible first | exact HB.out | apply Ah | apply Aj | apply Ak | refine Ai ?_ aH.out | refine Ai ?_ aW.out) | exact HB.out)⟩
   ·replace c17 := Bool.eq_false_iff.mpr c17
    subst c17; have H1 := H; rw [if_neg (show ¬ (false = true) by decide)] at H1; clear H; have H := H1; clear H1; have H' := Ae.mk H; clear H
    go_wp2
    repeat (go_quiet (fail); try go_wp2)
    go_loopg [5] kj2 (fun kq v5 w' => ∃ (al : Int), v5 = .int .i64 al ∧ Ae (Ay.l0 kq al af ag aa aw ax am = some r) ∧ Ae (kq ≤ kj2) ∧ Ae (w'.heap[ah]? = some (.cells #[.int .i64 af, .int .i64 ag, (.slice ar aa.length aq)] 27 (0, 0))) ∧ Ae (w'.heap[ao]? = some (.cells #[.int .i64 aw, .int .i64 ax, (.slice ba am.length bb)] 27 (0, 0))) ∧ Ae (Below w.heap.size w w'))
    case atStart => exact ⟨(0), (by first | rfl | (simp; done) | (simp [*]; done)), H', ⟨Nat.le_refl _⟩, ⟨by exact bU <| ab.out⟩, ⟨by exact bU <| ae.out⟩, ⟨by repeat (first | (with_reducible first | exact HB.out | apply Ah | apply Aj | apply Ak | refine Ai ?_ aH.out | refine Ai ?_ aW.out) | exact HB.out)⟩⟩
    case round =>
     clear H'; (try clear c1); (try clear p2); (try clear c4); (try clear c6); (try clear bB); (try clear dw); (try clear c7); (try clear dz); (try clear dA); (try clear c8); (try clear c11); (try clear c14); (try clear c17); (try clear bm); (try clear bo); (try clear bp); (try clear bI); (try clear bJ); (try clear bK); (try clear bO); (try clear bP); (try clear bQ); (try clear bV); (try clear bW); (try clear bX); (try clear b5); (try clear b6); (try clear b7); (try clear cy); (try clear cz); (try clear cA); (try clear bq); (try clear br); (try clear bs); (try clear bL); (try clear bM); (try clear bN); (try clear bR); (try clear bS); (try clear bT); (try clear bY); (try clear bZ); (try clear b4); (try clear b8); (try clear b9); (try clear cg); (try clear cB); (try clear cC); (try clear cD); (try clear p2); obtain ⟨al, rfl, HA, HK2, ab, ae, HB⟩ := hrel; cases gk with
     | zero => exact absurd HA.out (by simp [Ay.l0])
     | succ k2 =>
      have H := HA.out; clear HA
      simp only [Ay.l0] at H
      by_cases c18 : al < (aa.length : Int)
      ·rw [if_pos c18] at H
       have dN : decide (al < (aa.length : Int)) = true := decide_eq_true c18; clear c18
       by_cases c19 : 0 ≤ al
       ·rw [if_pos c19] at H
        have eR : decide (0 ≤ al) = true := decide_eq_true c19; clear c19
        by_cases c20 : al < (am.length : Int)
        ·rw [if_pos c20] at H
         have eS : decide (al < (am.length : Int)) = true := decide_eq_true c20; clear c20
         by_cases c21 : ((rdOf false aa al) != (rdOf false am al)) = true
         ·rw [if_pos c21] at H
          have dO : ((rdOf false aa al) != (rdOf false am al)) = true := c21; (try (have dP : decide ((rdOf false aa al) = (rdOf false am al)) = false := by simpa using c21)); (try (have dQ : ((rdOf false aa al) == (rdOf false am al)) = false := by simpa using c21)); (try (have eT : ¬ ((rdOf false aa al) = (rdOf false am al)) := by simpa using c21)); clear c21; obtain rfl := Option.some.inj H; have dR := ay.out; have dS := az.out; have ei : wr.cell? ⟨ah, 0, none⟩ = some (.int .i64 af) := (Af ab.out 0).trans rfl; have ej : wr.cell? ⟨ah, 1, none⟩ = some (.int .i64 ag) := (Af ab.out 1).trans rfl; have ek : wr.cell? ⟨ah, 2, none⟩ = some (.slice ar aa.length aq) := (Af ab.out 2).trans rfl; have el := Ag ab.out 0; have eo := Ag ab.out 1; have ep := Ag ab.out 2; have bC : 0 ≤ (al : Int) := of_decide_eq_true (by with_reducible assumption); have bD : al < (aa.length : Int) := of_decide_eq_true (by with_reducible assumption); obtain ⟨dT, e191, aE⟩ := Kd.at_bool bG.out al bC bD; cases e191; replace aE := (HB.out.cell (World.block_lt_of_cell? w _ aE)).trans aE; replace bC := eq_true bC; replace bD := eq_true bD; have cI : wr.cell? ⟨ao, 0, none⟩ = some (.int .i64 aw) := (Af ae.out 0).trans rfl; have cJ : wr.cell? ⟨ao, 1, none⟩ = some (.int .i64 ax) := (Af ae.out 1).trans rfl; have cK : wr.cell? ⟨ao, 2, none⟩ = some (.slice ba am.length bb) := (Af ae.out 2).trans rfl; have cL := Ag ae.out 0; have cM := Ag ae.out 1; have cN := Ag ae.out 2; have bE : 0 ≤ (al : Int) := of_decide_eq_true (by with_reducible assumption); have bF : al < (am.length : Int) := of_decide_eq_true (by with_reducible assumption); obtain ⟨dU, e192, aG⟩ := Kd.at_bool dr.out al bE bF; cases e192; replace aG := (HB.out.cell (World.block_lt_of_cell? w _ aG)).trans aG; replace bE := eq_true bE; replace bF := eq_true bF
          go_wp2
          repeat (go_quiet (fail); try go_wp2)
          go_ret
          exact ⟨by first | rfl | (simp [Bc, Bb] <;> rfl) | (simp [*, Bc, Bb] <;> rfl), by repeat (first | (with_reducible first | exact HB.out | apply Ah | apply Aj | apply Ak | refine Ai ?_ aH.out | refine Ai ?_ aW.out) | exact HB.out)⟩
         ·rw [if_neg c21] at H
          have dO : ((rdOf false aa al) != (rdOf false am al)) = false := by simpa using c21
          (try (have dP : decide ((rdOf false aa al) = (rdOf false am al)) = true := by simpa using c21)); (try (have dQ : ((rdOf false aa al) == (rdOf false am al)) = true := by simpa using c21)); clear c21; have H' := Ae.mk H; clear H; have dV := ay.out; have dW := az.out; have cO : wr.cell? ⟨ah, 0, none⟩ = some (.int .i64 af) := (Af ab.out 0).trans rfl; have cP : wr.cell? ⟨ah, 1, none⟩ = some (.int .i64 ag) := (Af ab.out 1).trans rfl; have cQ : wr.cell? ⟨ah, 2, none⟩ = some (.slice ar aa.length aq) := (Af ab.out 2).trans rfl; have cR := Ag ab.out 0; have cS := Ag ab.out 1; have cU := Ag ab.out 2; have bC : 0 ≤ (al : Int) := of_decide_eq_true (by with_reducible assumption); have bD : al < (aa.length : Int) := of_decide_eq_true (by with_reducible assumption); obtain ⟨dT, e191, aE⟩ := Kd.at_bool bG.out al bC bD; cases e191; replace aE := (HB.out.cell (World.block_lt_of_cell? w _ aE)).trans aE; replace bC := eq_true bC; replace bD := eq_true bD; have cV : wr.cell? ⟨ao, 0, none⟩ = some (.int .i64 aw) := (Af ae.out 0).trans rfl; have cW : wr.cell? ⟨ao, 1, none⟩ = some (.int .i64 ax) := (Af ae.out 1).trans rfl; have cX : wr.cell? ⟨ao, 2, none⟩ = some (.slice ba am.length bb) := (Af ae.out 2).trans rfl; have cY := Ag ae.out 0; have cZ := Ag ae.out 1; have da := Ag ae.out 2; have bE : 0 ≤ (al : Int) := of_decide_eq_true (by with_reducible assumption); have bF : al < (am.length : Int) := of_decide_eq_true (by with_reducible assumption); obtain ⟨dU, e192, aG⟩ := Kd.at_bool dr.out al bE bF; cases e192; replace aG := (HB.out.cell (World.block_lt_of_cell? w _ aG)).trans aG; replace bE := eq_true bE; replace bF := eq_true bF
          go_wp2
          repeat (go_quiet (fail); try go_wp2)
          go_roundg k2
          case measure => have := HJ2.out; have := HK2.out; omega
          case rel => exact ⟨(wrap64 (al + 1)), (by first | rfl | (simp; done) | (simp [*]; done)), H', ⟨by have := HJ2.out; have := HK2.out; omega⟩, ⟨by exact bU <| ab.out⟩, ⟨by exact bU <| ae.out⟩, ⟨by repeat (first | (with_reducible first | exact HB.out | apply Ah | apply Aj | apply Ak | refine Ai ?_ aH.out | refine Ai ?_ aW.out) | exact HB.out)⟩⟩
        ·rw [if_neg c20] at H
         exact absurd H (by simp)
       ·rw [if_neg c19] at H
        exact absurd H (by simp)
      ·rw [if_neg c18] at H
       have dN : decide (al < (aa.length : Int)) = false := decide_eq_false c18; clear c18; obtain rfl := Option.some.inj H; have eU := ay.out; have eV := az.out; have er : wr.cell? ⟨ah, 0, none⟩ = some (.int .i64 af) := (Af ab.out 0).trans rfl; have et : wr.cell? ⟨ah, 1, none⟩ = some (.int .i64 ag) := (Af ab.out 1).trans rfl; have eu : wr.cell? ⟨ah, 2, none⟩ = some (.slice ar aa.length aq) := (Af ab.out 2).trans rfl; have ew := Ag ab.out 0; have ex := Ag ab.out 1; have ey := Ag ab.out 2
       go_wp2
       repeat (go_quiet (fail); try go_wp2)
       go_ret
       exact ⟨by first | rfl | (simp [Bc, Bb] <;> rfl) | (simp [*, Bc, Bb] <;> rfl), by repeat (first | (with_reducible first | exact HB.out | apply Ah | apply Aj | apply Ak | refine Ai ?_ aH.out | refine Ai ?_ aW.out) | exact HB.out)⟩

def Ca.f (a0 : Int) (a1 : Int) : Option (Int × Int × List Bool) := if 0 ≤ (wrap64 (a0 * a1)) then (if (wrap64 (a0 * a1) : Int).toNat ≤ 281474976710656 then (some (a0, a1, (List.replicate (wrap64 (a0 * a1) : Int).toNat false))) else (none)) else (none)
set_option maxHeartbeats 8000000 in
set_option maxRecDepth 100000 in
theorem Ca.calls (a0 : Int) (a1 : Int) (r1 : Int) (r2 : Int) (r3 : List Bool) (w : World) (h : Ca.f a0 a1 = some (r1, r2, r3)) :
  Calls Try.prog 37 #[.int .i64 a0, .int .i64 a1] w fun e w' => ∃ v2_ : Value, e = .returned (.agg #[.int .i64 r1, .int .i64 r2, v2_]) ∧ Kd.R Kd.bool 4 w' w.heap.size (fun _ => True) v2_ r3 ∧ Below w.heap.size w w' := by
 have hu27 := Try.underlying27; have HB := Ae.mk (Below.refl w.heap.size w); have H : (if 0 ≤ (wrap64 (a0 * a1)) then (if (wrap64 (a0 * a1) : Int).toNat ≤ 281474976710656 then (some (a0, a1, (List.replicate (wrap64 (a0 * a1) : Int).toNat false))) else (none)) else (none)) = some (r1, r2, r3) := h; clear h; obtain ⟨ji3, db⟩ : ∃ j_ : Int, (wrap64 (a0 * a1)) = j_ := ⟨_, rfl⟩; replace H : (if 0 ≤ (ji3) then (if (ji3 : Int).toNat ≤ 281474976710656 then (some (a0, a1, (List.replicate (ji3 : Int).toNat false))) else (none)) else (none)) = some (r1, r2, r3) := by first | (rw [db] at H; exact H) | (simp only [db] at H ⊢; exact H)
 have hji3w : (IntKind.i64.wrap (a0 * a1)) = ji3 := (i64_w _).trans db
 by_cases c4 : 0 ≤ (ji3)
 ·rw [if_pos c4] at H
  have fl := eq_true c4; have fm : decide (0 ≤ (ji3)) = true := decide_eq_true c4; clear c4
  by_cases c5 : (ji3 : Int).toNat ≤ 281474976710656
  ·rw [if_pos c5] at H
   have fo := eq_true c5; have fq : decide ((ji3 : Int).toNat ≤ 281474976710656) = true := decide_eq_true c5; clear c5; obtain ⟨dX, cE⟩ : ∃ y_ : List Bool, y_ = (List.replicate (ji3 : Int).toNat false) := ⟨_, rfl⟩; (try rw [Option.bind_some] at H); try rw [← cE] at H; have dt := Ae.mk cE; clear cE
   simp only [Option.some.injEq, Prod.mk.injEq] at H
   obtain ⟨rfl, rfl, rfl⟩ := H; go_enter Try.func37, Try.ntmps37
   go_wp2_with (first | ((with_reducible refine Bq (N := 4) rfl ?_); refine Bo ?hg (N := 4) ?hd (cs := #[.int .i64 0, .int .i64 0, .slice none 0 0]) (t := 27) ?hr ?_; (case hd => rfl); (case hg => rfl); (case hr => first | (go_simp; done) | (go_simp; rfl)); intro aJ hg w6 hbox hb; have aK := Ae.mk (hbox); have eW := Ae.mk ((by rw [hg]; exact (Aq (lU HB.out)) : w.heap.size ≤ aJ)); have cF := Ae.mk ((by rw [hg]; exact (Aq (lU HB.out)) : w.heap.size ≤ aJ)); replace HB := Ae.mk (At (lU HB.out) hb); clear hb hbox hg) | ((with_reducible refine Bq (N := 10) rfl ?_); refine Kd.R_make Kd.bool _ 4 rfl (N := 10) rfl 25 _ _ rfl ji3 rfl rfl Try.underlying25 (.bool false) 1 info4 rfl (by decide) (by omega) false (ok := fun _ => True) (okp := fun _ => True) rfl (fun _ hk => hk) trivial (of_decide_eq_true (by with_reducible assumption)) (Nat.le_trans (Nat.mul_le_mul_right _ (of_decide_eq_true (by with_reducible assumption) : ji3.toNat ≤ 281474976710656)) (by omega)) (Below.refl _ _) (Nat.le_refl _) ?_; intro v195 w7 ho8 hb hg_ hnew_; clear hg_ hnew_; (first | rw [← dt.out] at ho8 | (simp only [Int.reduceToNat] at ho8; rw [← dt.out] at ho8)); have du := Ae.mk (Kd.B9 ho8 (Aq (by repeat (first | (with_reducible first | exact HB.out | apply Ah | apply Aj | apply Ak | refine Ai ?_ cF.out) | exact HB.out)))); replace aK := Ae.mk (Ao (g := aJ) (o := .cells #[.int .i64 0, .int .i64 0, .slice none 0 0] 27 (0, 0)) (by exact bU <| aK.out) hb); replace HB := Ae.mk (At (by repeat (first | (with_reducible first | exact HB.out | apply Ah | apply Aj | apply Ak | refine Ai ?_ cF.out) | exact HB.out)) hb); clear hb ho8; obtain ⟨Ao9, co9, eo9⟩ := Kd.B6 du.out; subst eo9; have bm : w7.cell? ⟨aJ, 0, none⟩ = some (.int .i64 0) := (Af aK.out 0).trans rfl; have bo : w7.cell? ⟨aJ, 1, none⟩ = some (.int .i64 0) := (Af aK.out 1).trans rfl; have bp : w7.cell? ⟨aJ, 2, none⟩ = some (.slice none 0 0) := (Af aK.out 2).trans rfl; have bq := Ag aK.out 0; have br := Ag aK.out 1; have bs := Ag aK.out 2))
   refine bodyPost_ret (results_cell_row rfl _ _ aJ 27 #[.int .i64 a0, .int .i64 a1, .slice Ao9 dX.length co9] (0, 0) _ rfl (by (with_reducible repeat (first | refine As ?_ _ | refine Ar ?_ | refine An ?_ _)); refine Az (cs := #[.int .i64 a0, .int .i64 a1, .slice none 0 0]) ?_ 2 _ rfl; (with_reducible repeat (first | refine As ?_ _ | refine Ar ?_ | refine An ?_ _)); refine Az (cs := #[.int .i64 a0, .int .i64 0, .slice none 0 0]) ?_ 1 _ rfl; (with_reducible repeat (first | refine As ?_ _ | refine Ar ?_ | refine An ?_ _)); refine Az (cs := #[.int .i64 0, .int .i64 0, .slice none 0 0]) ?_ 0 _ rfl; exact bU <| aK.out) Try.underlying27 rfl (by kernel_rfl)) rfl ?_; exact ⟨_, by first | rfl | (simp [Bc, Bb] <;> rfl) | (simp only [← db]; first | rfl | (simp [Bc, Bb] <;> rfl)) | (simp [*, Bc, Bb] <;> rfl), by exact rU <| Kd.Bt (Kd.Bn (p := ⟨aJ, 2, none⟩) (Kd.Bn (p := ⟨aJ, 1, none⟩) (Kd.Bn (p := ⟨aJ, 0, none⟩) (Kd.Ce du.out aK.out (by decide)) (fun _ hk => hk.2) (.int .i64 a0)) (fun _ hk => hk.2) (.int .i64 a1)) (fun _ hk => hk.2) (.slice Ao9 dX.length co9)) (fun _ hk => trivial), by repeat (first | (with_reducible first | exact HB.out | apply Ah | apply Aj | apply Ak | refine Ai ?_ cF.out) | exact HB.out)⟩
  ·rw [if_neg c5] at H
   exact absurd H (by simp)
 ·rw [if_neg c4] at H
  exact absurd H (by simp)

def Bk.l0 : Nat → Int → Int → Int → List Bool → Int → Int → List Bool → Option (Int × Int × List Bool)
 | 0, _, _, _, _, _, _, _ => none
 | k + 1, x4, dc, dd, bu, cp, cr, bv => if x4 < (bu.length : Int) then (if 0 ≤ x4 then (if x4 < (bv.length : Int) then (Bk.l0 k (wrap64 (x4 + 1)) dc dd bu cp cr (bv.set (x4 : Int).toNat (!(rdOf false bu x4)))) else (none)) else (none)) else (some (cp, cr, bv))
def Bk.f (k : Nat) (af : Int) (ag : Int) (aa : List Bool) : Option (Int × Int × List Bool) := (Ca.f af ag).bind fun aZ => (Bk.l0 k 0 af ag aa aZ.1 aZ.2.1 aZ.2.2)
theorem Bk.mono_l : ∀ k, (∀ y0 y1 y2 y3 y4 y5 y6, LeO (Bk.l0 k y0 y1 y2 y3 y4 y5 y6) (Bk.l0 (k + 1) y0 y1 y2 y3 y4 y5 y6))
 | 0 => fun _ _ _ _ _ _ _ r h => by simp [Bk.l0] at h
 | k + 1 => by
  have ih0 := Bk.mono_l k
  ·intro y0 y1 y2 y3 y4 y5 y6
   unfold Bk.l0
   repeat' first
   | (with_reducible exact ih0 _ _ _ _ _ _ _)
   | (with_reducible exact LeO.refl _)
   | (with_reducible exact LeO.none _)
   | (with_reducible refine LeO.ite ?_ ?_)
   | (with_reducible refine LeO.bind ?_ (fun _ => ?_))
   | exact ih0 _ _ _ _ _ _ _
   | exact LeO.none _
   | refine LeO.ite ?_ ?_
   | refine LeO.bind ?_ (fun _ => ?_)
theorem Bk.mono : ∀ a0 a1 a2 k, LeO (Bk.f k a0 a1 a2) (Bk.f (k + 1) a0 a1 a2) := by
 intro a0 a1 a2 k; have ih0 := Bk.mono_l k; unfold Bk.f
 repeat' first
   | (with_reducible exact ih0 _ _ _ _ _ _ _)
   | (with_reducible exact LeO.refl _)
   | (with_reducible exact LeO.none _)
   | (with_reducible refine LeO.ite ?_ ?_)
   | (with_reducible refine LeO.bind ?_ (fun _ => ?_))
   | exact ih0 _ _ _ _ _ _ _
   | exact LeO.none _
   | refine LeO.ite ?_ ?_
   | refine LeO.bind ?_ (fun _ => ?_)
def Bk.T5 : Bool × List (List Nat × List Nat) := (true, [([], []), ([0], [0]), ([], []), ([], []), ([3], [3]), ([], []), ([4, 5], [4, 5]), ([6], [6]), ([7], [7]), ([1, 2, 0, 1, 2, 3, 4, 5, 6, 7, 8], [1, 2]), ([9, 8, 0, 1, 2, 3, 4, 5, 6, 7, 8], [8, 9])])
def Bk.B5 : List Nat := [0, 1, 0, 0, 8, 0, 56, 120, 248, 511, 1023]
theorem Bk.tab5 : rtab .any (opsOf Try.f36 5) = Bk.T5 := by kernel_rfl
theorem Bk.bits5 : waitsOk Bk.T5.2 Bk.B5 = true := by kernel_rfl
set_option maxHeartbeats 8000000 in
set_option maxRecDepth 100000 in
theorem Bk.calls (k : Nat) (af : Int) (ag : Int) (ar : Option Addr) (aq : Nat) (aa : List Bool) (r1 : Int) (r2 : Int) (r3 : List Bool) (w : World) (bw : Kd.C Kd.bool w ar aa.length aa) (bz : aa.length ≤ aq) (h : Bk.f k af ag aa = some (r1, r2, r3)) :
  Calls Try.prog 36 #[.agg #[.int .i64 af, .int .i64 ag, .slice ar aa.length aq]] w fun e w' => ∃ v2_ : Value, e = .returned (.agg #[.int .i64 r1, .int .i64 r2, v2_]) ∧ Kd.R Kd.bool 4 w' w.heap.size (fun _ => True) v2_ r3 ∧ Below w.heap.size w w' := by
 have hu27 := Try.underlying27; have bG := Ae.mk bw; have dM := Ae.mk bz; clear bw bz; have HB := Ae.mk (Below.refl w.heap.size w); have H : ((Ca.f af ag).bind fun aZ => (Bk.l0 k 0 af ag aa aZ.1 aZ.2.1 aZ.2.2)) = some (r1, r2, r3) := h; clear h; replace H := Option.bind_eq_some_iff.mp H; obtain ⟨⟨aY, bc, df⟩, A20, H⟩ := H
 try dsimp only at H
 have A2 := Ae.mk A20; clear A20; have H' := Ae.mk H; clear H; go_enter Try.func36, Try.ntmps36
 go_wp2_with (first | ((with_reducible refine Bq (N := 1) rfl ?_); refine Bo ?hg (N := 1) ?hd (cs := #[.int .i64 af, .int .i64 ag, .slice ar aa.length aq]) (t := 27) ?hr ?_; (case hd => rfl); (case hg => rfl); (case hr => first | (go_simp; done) | (go_simp; rfl)); intro ak hg w3 hbox hb; have ac := Ae.mk (hbox); have eX := Ae.mk ((by rw [hg]; exact (Aq (lU HB.out)) : w.heap.size ≤ ak)); have aI := Ae.mk ((by rw [hg]; exact (Aq (lU HB.out)) : w.heap.size ≤ ak)); replace HB := Ae.mk (At (lU HB.out) hb); clear hb hbox hg) | ((with_reducible refine Bq (N := 2) rfl ?_); refine Bo ?hg (N := 2) ?hd (cs := #[.int .i64 0, .int .i64 0, .slice none 0 0]) (t := 27) ?hr ?_; (case hd => rfl); (case hg => rfl); (case hr => first | (go_simp; done) | (go_simp; rfl)); intro av hg w4 hbox hb; have ap := Ae.mk (hbox); have eY := Ae.mk ((by rw [hg]; exact (Aq (by repeat (first | (with_reducible first | exact HB.out | apply Ah | apply Aj | apply Ak | refine Ai ?_ aI.out) | exact HB.out))) : w.heap.size ≤ av)); have aX := Ae.mk ((by rw [hg]; exact (Aq (by repeat (first | (with_reducible first | exact HB.out | apply Ah | apply Aj | apply Ak | refine Ai ?_ aI.out) | exact HB.out))) : w.heap.size ≤ av)); replace HB := Ae.mk (At (by repeat (first | (with_reducible first | exact HB.out | apply Ah | apply Aj | apply Ak | refine Ai ?_ aI.out) | exact HB.out)) hb); have aT := Ae.mk ((by rw [hg]; exact Nat.ne_of_lt (Ba (g := ak) (o := .cells #[.int .i64 af, .int .i64 ag, .slice ar aa.length aq] 27 (0, 0)) (by exact bU <| ac.out)) : ak ≠ av)); have aU := Ae.mk ((by rw [hg]; exact Nat.ne_of_gt (Ba (g := ak) (o := .cells #[.int .i64 af, .int .i64 ag, .slice ar aa.length aq] 27 (0, 0)) (by exact bU <| ac.out)) : av ≠ ak)); replace ac := Ae.mk (Ao (g := ak) (o := .cells #[.int .i64 af, .int .i64 ag, .slice ar aa.length aq] 27 (0, 0)) (by exact bU <| ac.out) hb); clear hb hbox hg; have ft := aT.out; have fu := aU.out; have dB : w4.cell? ⟨ak, 0, none⟩ = some (.int .i64 af) := (Af ac.out 0).trans rfl; have dC : w4.cell? ⟨ak, 1, none⟩ = some (.int .i64 ag) := (Af ac.out 1).trans rfl; have dD : w4.cell? ⟨ak, 2, none⟩ = some (.slice ar aa.length aq) := (Af ac.out 2).trans rfl; have dE := Ag ac.out 0; have dF := Ag ac.out 1; have dG := Ag ac.out 2) | ((with_reducible refine Bp (f := 37) rfl ?_); refine gL (some 9) Try.func37 #[.int .i64 af, .int .i64 ag] ?_; (with_reducible refine (Ca.calls af ag aY bc df _ A2.out).mono ?_); rintro e w7 ⟨v202, rfl, ho0, hb⟩; refine ⟨_, rfl, ?_⟩; have cu := Ae.mk (Kd.B9 ho0 (Aq (by repeat (first | (with_reducible first | exact HB.out | apply Ah | apply Aj | apply Ak | refine Ai ?_ aI.out | refine Ai ?_ aX.out) | exact HB.out)))); replace ac := Ae.mk (Ao (g := ak) (o := .cells #[.int .i64 af, .int .i64 ag, .slice ar aa.length aq] 27 (0, 0)) (by exact bU <| ac.out) hb); replace ap := Ae.mk (Ao (g := av) (o := .cells #[.int .i64 0, .int .i64 0, .slice none 0 0] 27 (0, 0)) (by exact bU <| ap.out) hb); replace HB := Ae.mk (At (by repeat (first | (with_reducible first | exact HB.out | apply Ah | apply Aj | apply Ak | refine Ai ?_ aI.out | refine Ai ?_ aX.out) | exact HB.out)) hb); (try clear hb); (try clear hb2); (try clear hk); (try clear hi); (try clear ho0)) | ((with_reducible refine Bq (N := 3) rfl ?_); refine Bo ?hg (N := 3) ?hd (cs := #[.int .i64 0, .int .i64 0, .slice none 0 0]) (t := 27) ?hr ?_; (case hd => rfl); (case hg => rfl); (case hr => first | (go_simp; done) | (go_simp; rfl)); intro au hg w8 hbox hb; replace cu := Ae.mk (Kd.Ax (by exact rU <| cu.out) hb); have an := Ae.mk (hbox); have eZ := Ae.mk ((by rw [hg]; exact (Aq (by repeat (first | (with_reducible first | exact HB.out | apply Ah | apply Aj | apply Ak | refine Ai ?_ aI.out | refine Ai ?_ aX.out) | exact HB.out))) : w.heap.size ≤ au)); have cG := Ae.mk ((by rw [hg]; exact (Aq (by repeat (first | (with_reducible first | exact HB.out | apply Ah | apply Aj | apply Ak | refine Ai ?_ aI.out | refine Ai ?_ aX.out) | exact HB.out))) : w.heap.size ≤ au)); replace HB := Ae.mk (At (by repeat (first | (with_reducible first | exact HB.out | apply Ah | apply Aj | apply Ak | refine Ai ?_ aI.out | refine Ai ?_ aX.out) | exact HB.out)) hb); have aA := Ae.mk ((by rw [hg]; exact Nat.ne_of_lt (Ba (g := ak) (o := .cells #[.int .i64 af, .int .i64 ag, .slice ar aa.length aq] 27 (0, 0)) (by exact bU <| ac.out)) : ak ≠ au)); have aV := Ae.mk ((by rw [hg]; exact Nat.ne_of_gt (Ba (g := ak) (o := .cells #[.int .i64 af, .int .i64 ag, .slice ar aa.length aq] 27 (0, 0)) (by exact bU <| ac.out)) : au ≠ ak)); replace ac := Ae.mk (Ao (g := ak) (o := .cells #[.int .i64 af, .int .i64 ag, .slice ar aa.length aq] 27 (0, 0)) (by exact bU <| ac.out) hb); have aD := Ae.mk ((by rw [hg]; exact Nat.ne_of_lt (Ba (g := av) (o := .cells #[.int .i64 0, .int .i64 0, .slice none 0 0] 27 (0, 0)) (by exact bU <| ap.out)) : av ≠ au)); have bd := Ae.mk ((by rw [hg]; exact Nat.ne_of_gt (Ba (g := av) (o := .cells #[.int .i64 0, .int .i64 0, .slice none 0 0] 27 (0, 0)) (by exact bU <| ap.out)) : au ≠ av)); replace ap := Ae.mk (Ao (g := av) (o := .cells #[.int .i64 0, .int .i64 0, .slice none 0 0] 27 (0, 0)) (by exact bU <| ap.out) hb); clear hb hbox hg; have fw := aV.out; have fx := aA.out; have e0 := bd.out; have e7 := aD.out; have dg : w8.cell? ⟨au, 0, none⟩ = some (.int .i64 0) := (Af an.out 0).trans rfl; have dh : w8.cell? ⟨au, 1, none⟩ = some (.int .i64 0) := (Af an.out 1).trans rfl; have di : w8.cell? ⟨au, 2, none⟩ = some (.slice none 0 0) := (Af an.out 2).trans rfl; have dj := Ag an.out 0; have dk := Ag an.out 1; have dn := Ag an.out 2; obtain ⟨dY, dZ, eH⟩ := Kd.B6 cu.out; subst eH))
 go_loopg [4] k (fun kq v4 w' => ∃ (aC : Int) (ai : List Bool) (u205002 : Value), v4 = .int .i64 aC ∧ Ae (Bk.l0 kq aC af ag aa aY bc ai = some (r1, r2, r3)) ∧ Ae (kq ≤ k) ∧ Ae (Kd.R Kd.bool 4 w' w.heap.size (fun _ => True) u205002 ai) ∧ Ae (w'.heap[ak]? = some (.cells #[.int .i64 af, .int .i64 ag, (.slice ar aa.length aq)] 27 (0, 0))) ∧ Ae (w'.heap[av]? = some (.cells #[.int .i64 0, .int .i64 0, (.slice none 0 0)] 27 (0, 0))) ∧ Ae (w'.heap[au]? = some (.cells #[.int .i64 aY, .int .i64 bc, u205002] 27 (0, 0))) ∧ Ae (Below w.heap.size w w'))
 case atStart => exact ⟨(0), (df), (.slice dY df.length dZ), (by first | rfl | (simp; done) | (simp [*]; done)), H', ⟨Nat.le_refl _⟩, ⟨by exact rU <| Kd.Bt (Kd.Bn (p := ⟨au, 2, none⟩) (Kd.Bn (p := ⟨au, 1, none⟩) (Kd.Bn (p := ⟨au, 0, none⟩) (Kd.Ce cu.out an.out (by decide)) (fun _ hk => hk.2) (.int .i64 aY)) (fun _ hk => hk.2) (.int .i64 bc)) (fun _ hk => hk.2) (.slice dY df.length dZ)) (fun _ hk => trivial)⟩, ⟨by (with_reducible repeat (first | refine As ?_ _ | refine Ar ?_ | refine An ?_ _)); refine Be ?_ aA.out _; (with_reducible repeat (first | refine As ?_ _ | refine Ar ?_ | refine An ?_ _)); refine Be ?_ aA.out _; (with_reducible repeat (first | refine As ?_ _ | refine Ar ?_ | refine An ?_ _)); refine Be ?_ aA.out _; exact bU <| ac.out⟩, ⟨by (with_reducible repeat (first | refine As ?_ _ | refine Ar ?_ | refine An ?_ _)); refine Be ?_ aD.out _; (with_reducible repeat (first | refine As ?_ _ | refine Ar ?_ | refine An ?_ _)); refine Be ?_ aD.out _; (with_reducible repeat (first | refine As ?_ _ | refine Ar ?_ | refine An ?_ _)); refine Be ?_ aD.out _; exact bU <| ap.out⟩, ⟨by (with_reducible repeat (first | refine As ?_ _ | refine Ar ?_ | refine An ?_ _)); refine Az (cs := #[.int .i64 aY, .int .i64 bc, .slice none 0 0]) ?_ 2 _ rfl; (with_reducible repeat (first | refine As ?_ _ | refine Ar ?_ | refine An ?_ _)); refine Az (cs := #[.int .i64 aY, .int .i64 0, .slice none 0 0]) ?_ 1 _ rfl; (with_reducible repeat (first | refine As ?_ _ | refine Ar ?_ | refine An ?_ _)); refine Az (cs := #[.int .i64 0, .int .i64 0, .slice none 0 0]) ?_ 0 _ rfl; exact bU <| an.out⟩, ⟨by repeat (first | (with_reducible first | exact HB.out | apply Ah | apply Aj | apply Ak | refine Ai ?_ aI.out | refine Ai ?_ aX.out | refine Ai ?_ cG.out) | exact HB.out)⟩⟩
 case round =>
  clear H'; (try clear c1); (try clear p2); (try clear c3); (try clear c5); (try clear c9); (try clear c10); (try clear dg); (try clear dh); (try clear di); (try clear dB); (try clear dC); (try clear dD); (try clear dj); (try clear dk); (try clear dn); (try clear dE); (try clear dF); (try clear dG); obtain ⟨aC, ai, u205002, rfl, HA, HK1, aj, ac, ap, an, HB⟩ := hrel; cases gk with
  | zero => exact absurd HA.out (by simp [Bk.l0])
  | succ k1 =>
   have H := HA.out; clear HA
   simp only [Bk.l0] at H
   by_cases c13 : aC < (aa.length : Int)
   ·rw [if_pos c13] at H
    have d6 : decide (aC < (aa.length : Int)) = true := decide_eq_true c13; clear c13
    by_cases c14 : 0 ≤ aC
    ·rw [if_pos c14] at H
     have e8 : decide (0 ≤ aC) = true := decide_eq_true c14; clear c14
     by_cases c15 : aC < (ai.length : Int)
     ·rw [if_pos c15] at H
      have fa : decide (aC < (ai.length : Int)) = true := decide_eq_true c15; clear c15; obtain ⟨eI, cH⟩ : ∃ y_ : List Bool, y_ = (ai.set (aC : Int).toNat (!(rdOf false aa aC))) := ⟨_, rfl⟩; (try rw [Option.bind_some] at H); try rw [← cH] at H; have d7 := Ae.mk cH; clear cH; have H' := Ae.mk H; clear H; have fb := aT.out; have fd := aU.out; have fe := aA.out; have ff := aV.out; have ez : wr.cell? ⟨ak, 0, none⟩ = some (.int .i64 af) := (Af ac.out 0).trans rfl; have eC : wr.cell? ⟨ak, 1, none⟩ = some (.int .i64 ag) := (Af ac.out 1).trans rfl; have eD : wr.cell? ⟨ak, 2, none⟩ = some (.slice ar aa.length aq) := (Af ac.out 2).trans rfl; have eE := Ag ac.out 0; have eF := Ag ac.out 1; have eG := Ag ac.out 2; (try go_wp2); replace aj := Ae.mk (Kd.R_drew aj.out); replace ac := Ae.mk (Ar ac.out); replace ap := Ae.mk (Ar ap.out); replace an := Ae.mk (Ar an.out); replace HB := Ae.mk (Ak HB.out); have dH : 0 ≤ (aC : Int) := of_decide_eq_true (by with_reducible assumption); have dI : aC < (aa.length : Int) := of_decide_eq_true (by with_reducible assumption); obtain ⟨dv, e205, aQ⟩ := Kd.at_bool bG.out aC dH dI; have cx := aQ; cases e205; replace aQ := (HB.out.cell (World.block_lt_of_cell? w _ aQ)).trans aQ; replace dH := eq_true dH; replace dI := eq_true dI; have p16 : 0 ≤ (aC : Int) := of_decide_eq_true (by with_reducible assumption); have q16 : (aC : Int) < ((ai.length : Int) : Int) := of_decide_eq_true (by with_reducible assumption); obtain ⟨go16, d8, d9, ee, gl16, cl16, HG16⟩ := Kd.Dx aj.out (by omega); (first | cases d9 | (injection d9 with ea_ en_ ec_; (first | subst ea_ | (injection ea_ with ea_; subst ea_)); subst ec_; clear en_)); have GB16 := Ae.mk ee; have GG16 := Ae.mk HG16; clear ee gl16 HG16; obtain ⟨dJ, dK⟩ := Kd.Dp false aj.out (aC : Int) p16 q16; replace p16 := eq_true p16; replace q16 := eq_true q16; have dL := Kd.R_putn aj.out (aC : Int) (!(rdOf false aa aC)); rw [← d7.out] at dL; have HQ21 := Ae.mk dL; clear dL; refine start_ (n := 11) (S := fun w' => w'.cell? ⟨au, 0, none⟩ = some (.int .i64 aY) ∧ w'.cell? ⟨au, 1, none⟩ = some (.int .i64 bc) ∧ w'.cell? ⟨au, 2, none⟩ = some (.slice (some ⟨go16, 0, none⟩) ai.length d8) ∧ w'.cell? ⟨ak, 0, none⟩ = some (.int .i64 af) ∧ w'.cell? ⟨ak, 1, none⟩ = some (.int .i64 ag) ∧ w'.cell? ⟨ak, 2, none⟩ = some (.slice (some dv) aa.length aq) ∧ w'.cell? (dv.add (aC).toNat) = some (.bool (rdOf false aa aC))) (ds := [10]) #[false, false, false, false, false, false, false, false, false, false, false] (by kernel_rfl) rfl rfl ⟨(Af an.out 0).trans rfl, (Af an.out 1).trans rfl, (Af an.out 2).trans rfl, (Af ac.out 0).trans rfl, (Af ac.out 1).trans rfl, (Af ac.out 2).trans rfl, ((HB.out.cell (World.block_lt_of_cell? w _ cx)).trans cx)⟩ (fun hHeld => ?_); refine with_tabW Bk.tab5 Bk.bits5 (fun HT_ HW_ => ?_); generalize wr.drew = w20 at aj ac ap an HB GG16 HQ21 dK dJ aQ hHeld ⊢; refine pA 0 17 (bA 11 1) HT_ ?_; refine pA 2 19 (bA 11 5) HT_ ?_; refine pA 3 20 (bA 11 13) HT_ ?_; refine pA 5 22 (bA 11 45) HT_ ?_; refine tA 1 18 (bA 11 47) HT_ HW_ hHeld ?_; refine tA 4 21 (bA 11 63) HT_ HW_ hHeld ?_; refine pA 6 23 (bA 11 127) HT_ ?_; refine tA 7 24 (bA 11 255) HT_ HW_ hHeld ?_; refine pA 8 25 (bA 11 511) HT_ ?_; refine pA 9 26 (bA 11 1023) HT_ ?_; refine last_ (i := 10) (N := none) (bA 11 2047) rfl rfl (one_of HT_.out (by kernel_rfl)) (by decide) (fun K hK => ?_); refine skip_ (w1 := ?_) (by rfl) rfl ?_ ?_; rotate_left
      ·go_simp
       rfl
      refine hK.out _ _ ?_; clear hK K; refine done_ (done_of HT_.out (by kernel_rfl)) ?_; (try go_wp2)
      go_roundg k1
      case measure => have := HK1.out; omega
      case rel => exact ⟨(wrap64 (aC + 1)), (eI), (.slice (some ⟨go16, 0, none⟩) ai.length d8), (by first | rfl | (simp; done) | (simp [*]; done)), H', ⟨by have := HK1.out; omega⟩, ⟨by exact rU <| HQ21.out⟩, ⟨by (with_reducible repeat (first | refine As ?_ _ | refine Ar ?_ | refine An ?_ _)); refine Be ?_ (by have h_ := Kd.Do aj.out ac.out (by decide); intro e_; exact h_ (by rw [e_]; rfl)) _; exact bU <| ac.out⟩, ⟨by (with_reducible repeat (first | refine As ?_ _ | refine Ar ?_ | refine An ?_ _)); refine Be ?_ (by have h_ := Kd.Do aj.out ap.out (by decide); intro e_; exact h_ (by rw [e_]; rfl)) _; exact bU <| ap.out⟩, ⟨by (with_reducible repeat (first | refine As ?_ _ | refine Ar ?_ | refine An ?_ _)); refine Be ?_ (by have h_ := Kd.Do aj.out an.out (by decide); intro e_; exact h_ (by rw [e_]; rfl)) _; exact bU <| an.out⟩, ⟨by repeat (first | (with_reducible first | exact HB.out | apply Ah | apply Aj | apply Ak | refine Ai ?_ GB16.out | refine Ai ?_ aI.out | refine Ai ?_ aX.out | refine Ai ?_ cG.out) | exact HB.out)⟩⟩
     ·rw [if_neg c15] at H
      exact absurd H (by simp)
    ·rw [if_neg c14] at H
     exact absurd H (by simp)
   ·rw [if_neg c13] at H
    have d6 : decide (aC < (aa.length : Int)) = false := decide_eq_false c13; clear c13
    simp only [Option.some.injEq, Prod.mk.injEq] at H
    obtain ⟨rfl, rfl, rfl⟩ := H; have dR := aT.out; have dS := aU.out; have fg := aA.out; have fh := aV.out; have cI : wr.cell? ⟨ak, 0, none⟩ = some (.int .i64 af) := (Af ac.out 0).trans rfl; have cJ : wr.cell? ⟨ak, 1, none⟩ = some (.int .i64 ag) := (Af ac.out 1).trans rfl; have cK : wr.cell? ⟨ak, 2, none⟩ = some (.slice ar aa.length aq) := (Af ac.out 2).trans rfl; have cL := Ag ac.out 0; have cM := Ag ac.out 1; have cN := Ag ac.out 2; have dV := bd.out; have dW := aD.out; have cO : wr.cell? ⟨au, 0, none⟩ = some (.int .i64 aY) := (Af an.out 0).trans rfl; have cP : wr.cell? ⟨au, 1, none⟩ = some (.int .i64 bc) := (Af an.out 1).trans rfl; have cQ : wr.cell? ⟨au, 2, none⟩ = some (u205002) := (Af an.out 2).trans rfl; have cR := Ag an.out 0; have cS := Ag an.out 1; have cU := Ag an.out 2; have cV : wr.cell? ⟨av, 0, none⟩ = some (.int .i64 0) := (Af ap.out 0).trans rfl; have cW : wr.cell? ⟨av, 1, none⟩ = some (.int .i64 0) := (Af ap.out 1).trans rfl; have cX : wr.cell? ⟨av, 2, none⟩ = some (.slice none 0 0) := (Af ap.out 2).trans rfl; have cY := Ag ap.out 0; have cZ := Ag ap.out 1; have da := Ag ap.out 2; obtain ⟨ef, eh, eJ⟩ := Kd.B6 aj.out; subst eJ
    go_wp2
    refine bodyPost_ret (results_cell_row rfl _ _ av 27 #[.int .i64 aY, .int .i64 bc, .slice ef ai.length eh] (0, 0) _ rfl (by (with_reducible repeat (first | refine As ?_ _ | refine Ar ?_ | refine An ?_ _)); refine Az (cs := #[.int .i64 aY, .int .i64 bc, .slice none 0 0]) ?_ 2 _ rfl; (with_reducible repeat (first | refine As ?_ _ | refine Ar ?_ | refine An ?_ _)); refine Az (cs := #[.int .i64 aY, .int .i64 0, .slice none 0 0]) ?_ 1 _ rfl; (with_reducible repeat (first | refine As ?_ _ | refine Ar ?_ | refine An ?_ _)); refine Az (cs := #[.int .i64 0, .int .i64 0, .slice none 0 0]) ?_ 0 _ rfl; exact bU <| ap.out) Try.underlying27 rfl (by kernel_rfl)) rfl ?_; exact ⟨_, by first | rfl | (simp [Bc, Bb] <;> rfl) | (simp [*, Bc, Bb] <;> rfl), by exact rU <| Kd.Bt (Kd.Bn (p := ⟨av, 2, none⟩) (Kd.Bn (p := ⟨av, 1, none⟩) (Kd.Bn (p := ⟨av, 0, none⟩) (Kd.Ce aj.out ap.out (by decide)) (fun _ hk => hk.2) (.int .i64 aY)) (fun _ hk => hk.2) (.int .i64 bc)) (fun _ hk => hk.2) (.slice ef ai.length eh)) (fun _ hk => trivial), by repeat (first | (with_reducible first | exact HB.out | apply Ah | apply Aj | apply Ak | refine Ai ?_ aI.out | refine Ai ?_ aX.out | refine Ai ?_ cG.out) | exact HB.out)⟩

def halidelaw30_num.f (a0 : Int) : Option (Int) := some a0
set_option maxHeartbeats 8000000 in
set_option maxRecDepth 100000 in
theorem halidelaw30_num.calls (a0 : Int) (r : Int) (w : World) (h : halidelaw30_num.f a0 = some r) :
  Calls Try.prog 14 #[.int .i64 a0] w fun e w' => e = .returned (.int .i64 r) ∧ Drawn0 w w' := by
 have H : (some a0) = some r := h; clear h; obtain rfl := Option.some.inj H; go_enter Try.func14, Try.ntmps14
 go_wp2
 go_ret
 exact ⟨by first | rfl | (simp; done) | (simp [*]; done), by repeat (first | exact Drawn0.refl _ | apply Drawn0.step)⟩

end Go.Proofs.Ytbfimplajocmmaa.PFA

