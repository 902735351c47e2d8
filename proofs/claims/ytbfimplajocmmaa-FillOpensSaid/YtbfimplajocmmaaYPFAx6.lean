import Derived.Test.YtbfimplajocmmaaYUQ
import Derived.Test.YtbfimplajocmmaaYPRAx0
namespace Go.Proofs.Ytbfimplajocmmaa.PFA
open Go.RowKit Go.Proofs.YtbfimplajocmmaaW.PrintWords Go.Proofs.YtbfimplajocmmaaW.PrintLast Go.Proofs.YtbfimplajocmmaaW.PrintMore
attribute [local go_sem] max2_int min2_int max_two min_two max_three min_three max_four min_four
set_option linter.unusedVariables false
set_option linter.unusedSimpArgs false

mutual
def Bj.j0 : Nat → Bool → Int → Int → List Bool → Int → Int → List Bool → Option (Bool)
 | 0, _, _, _, _, _, _, _ => none
 | k + 1, x26, bh, bj, aT, bl, bm, aU => if x26 = true then (some false) else (Bj.l0 k 0 bh bj aT bl bm aU)
def Bj.l0 : Nat → Int → Int → Int → List Bool → Int → Int → List Bool → Option (Bool)
 | 0, _, _, _, _, _, _, _ => none
 | k + 1, x5, bh, bj, aT, bl, bm, aU => if x5 < (aT.length : Int) then (if 0 ≤ x5 then (if x5 < (aU.length : Int) then (if ((rdOf false aT x5) != (rdOf false aU x5)) = true then (some false) else (Bj.l0 k (wrap64 (x5 + 1)) bh bj aT bl bm aU)) else (none)) else (none)) else (some true)
end
def Bj.f (k : Nat) (ah : Int) (ai : Int) (aa : List Bool) (az : Int) (aA : Int) (ap : List Bool) : Option (Bool) := if ah = az then (if ai = aA then (Bj.j0 k ((aa.length : Int) != (ap.length : Int)) ah ai aa az aA ap) else (Bj.j0 k true ah ai aa az aA ap)) else (Bj.j0 k true ah ai aa az aA ap)
theorem Bj.mono_l : ∀ k, (∀ y0 y1 y2 y3 y4 y5 y6, LeO (Bj.j0 k y0 y1 y2 y3 y4 y5 y6) (Bj.j0 (k + 1) y0 y1 y2 y3 y4 y5 y6)) ∧ (∀ y0 y1 y2 y3 y4 y5 y6, LeO (Bj.l0 k y0 y1 y2 y3 y4 y5 y6) (Bj.l0 (k + 1) y0 y1 y2 y3 y4 y5 y6))
 | 0 => ⟨fun _ _ _ _ _ _ _ r h => by simp [Bj.j0] at h, fun _ _ _ _ _ _ _ r h => by simp [Bj.l0] at h⟩
 | k + 1 => by
  obtain ⟨ih0, ih1⟩ := Bj.mono_l k; refine ⟨?_, ?_⟩
  ·intro y0 y1 y2 y3 y4 y5 y6
   unfold Bj.j0
   repeat' first
   | (with_reducible exact ih0 _ _ _ _ _ _ _)
   | (with_reducible exact ih1 _ _ _ _ _ _ _)
   | (with_reducible exact LeO.refl _)
   | (with_reducible exact LeO.none _)
   | (with_reducible refine LeO.ite ?_ ?_)
   | (with_reducible refine LeO.bind ?_ (fun _ => ?_))
   | exact ih0 _ _ _ _ _ _ _
   | exact ih1 _ _ _ _ _ _ _
   | exact LeO.none _
   | refine LeO.ite ?_ ?_
   | refine LeO.bind ?_ (fun _ => ?_)
  ·intro y0 y1 y2 y3 y4 y5 y6
   unfold Bj.l0
   repeat' first
   | (with_reducible exact ih0 _ _ _ _ _ _ _)
   | (with_reducible exact ih1 _ _ _ _ _ _ _)
   | (with_reducible exact LeO.refl _)
   | (with_reducible exact LeO.none _)
   | (with_reducible refine LeO.ite ?_ ?_)
   | (with_reducible refine LeO.bind ?_ (fun _ => ?_))
   | exact ih0 _ _ _ _ _ _ _
   | exact ih1 _ _ _ _ _ _ _
   | exact LeO.none _
   | refine LeO.ite ?_ ?_
   | refine LeO.bind ?_ (fun _ => ?_)
theorem Bj.mono : ∀ a0 a1 a2 a3 a4 a5 k, LeO (Bj.f k a0 a1 a2 a3 a4 a5) (Bj.f (k + 1) a0 a1 a2 a3 a4 a5) := by
 intro a0 a1 a2 a3 a4 a5 k; obtain ⟨ih0, ih1⟩ := Bj.mono_l k; unfold Bj.f
 repeat' first
   | (with_reducible exact ih0 _ _ _ _ _ _ _)
   | (with_reducible exact ih1 _ _ _ _ _ _ _)
   | (with_reducible exact LeO.refl _)
   | (with_reducible exact LeO.none _)
   | (with_reducible refine LeO.ite ?_ ?_)
   | (with_reducible refine LeO.bind ?_ (fun _ => ?_))
   | exact ih0 _ _ _ _ _ _ _
   | exact ih1 _ _ _ _ _ _ _
   | exact LeO.none _
   | refine LeO.ite ?_ ?_
   | refine LeO.bind ?_ (fun _ => ?_)
set_option maxHeartbeats 8000000 in
set_option maxRecDepth 100000 in
theorem Bj.calls (k : Nat) (ah : Int) (ai : Int) (aw : Option Addr) (av : Nat) (aa : List Bool) (az : Int) (aA : Int) (bd : Option Addr) (be : Nat) (ap : List Bool) (r : Bool) (w : World) (bw : Kd.C Kd.bool w aw aa.length aa) (bz : aa.length ≤ av) (df : Kd.C Kd.bool w bd ap.length ap) (dg : ap.length ≤ be) (h : Bj.f k ah ai aa az aA ap = some r) :
  Calls Try.prog 41 #[.agg #[.int .i64 ah, .int .i64 ai, .slice aw aa.length av], .agg #[.int .i64 az, .int .i64 aA, .slice bd ap.length be]] w fun e w' => e = .returned (.bool r) ∧ Below w.heap.size w w' := by
 have hu27 := Try.underlying27; have bG := Ac.mk bw; have dE := Ac.mk bz; clear bw bz; have dh := Ac.mk df; have ew := Ac.mk dg; clear df dg; have HB := Ac.mk (Below.refl w.heap.size w); have H : (if ah = az then (if ai = aA then (Bj.j0 k ((aa.length : Int) != (ap.length : Int)) ah ai aa az aA ap) else (Bj.j0 k true ah ai aa az aA ap)) else (Bj.j0 k true ah ai aa az aA ap)) = some r := h; clear h; have HC3 := Ac.mk H; clear H; go_enter Try.func41, Try.ntmps41
 go_upto_region 1 with (first | ((with_reducible refine Bf (N := 2) rfl ?_); (try (refine Ch (by rfl) ?_; dsimp only)); refine Bc ?hg (N := 2) ?hd (cs := #[.int .i64 ah, .int .i64 ai, .slice aw aa.length av]) (t := 27) ?hr ?_; (case hd => rfl); (case hg => rfl); (case hr => first | (go_simp; done) | (go_simp; rfl)); intro aj hg w4 hbox hb; have ac := Ac.mk (hbox); have ex := Ac.mk ((by rw [hg]; exact (Ak (lU HB.out)) : w.heap.size ≤ aj)); have aK := Ac.mk ((by rw [hg]; exact (Ak (lU HB.out)) : w.heap.size ≤ aj)); replace HB := Ac.mk (Aq (lU HB.out) hb); clear hb hbox hg) | ((with_reducible refine Bf (N := 3) rfl ?_); (try (refine Ch (by rfl) ?_; dsimp only)); refine Bc ?hg (N := 3) ?hd (cs := #[.int .i64 az, .int .i64 aA, .slice bd ap.length be]) (t := 27) ?hr ?_; (case hd => rfl); (case hg => rfl); (case hr => first | (go_simp; done) | (go_simp; rfl)); intro ar hg w5 hbox hb; have ag := Ac.mk (hbox); have ey := Ac.mk ((by rw [hg]; exact (Ak (by repeat (first | (with_reducible first | exact HB.out | apply Ah | apply Ae | apply Ai | refine Ag ?_ aK.out) | exact HB.out))) : w.heap.size ≤ ar)); have aZ := Ac.mk ((by rw [hg]; exact (Ak (by repeat (first | (with_reducible first | exact HB.out | apply Ah | apply Ae | apply Ai | refine Ag ?_ aK.out) | exact HB.out))) : w.heap.size ≤ ar)); replace HB := Ac.mk (Aq (by repeat (first | (with_reducible first | exact HB.out | apply Ah | apply Ae | apply Ai | refine Ag ?_ aK.out) | exact HB.out)) hb); have aC := Ac.mk ((by rw [hg]; exact Nat.ne_of_lt (Bh (g := aj) (o := .cells #[.int .i64 ah, .int .i64 ai, .slice aw aa.length av] 27 (0, 0)) (by exact bU <| ac.out)) : aj ≠ ar)); have aD := Ac.mk ((by rw [hg]; exact Nat.ne_of_gt (Bh (g := aj) (o := .cells #[.int .i64 ah, .int .i64 ai, .slice aw aa.length av] 27 (0, 0)) (by exact bU <| ac.out)) : ar ≠ aj)); replace ac := Ac.mk (An (g := aj) (o := .cells #[.int .i64 ah, .int .i64 ai, .slice aw aa.length av] 27 (0, 0)) (by exact bU <| ac.out) hb); clear hb hbox hg))
 repeat (go_quiet (fail); go_upto_region 1 with (fail))
 (try simp only [Act.put, sA, sB, sC])
 go_cut [26] (fun v26 wc => ∃ (kq : Nat) (bH : Bool), v26 = .bool bH ∧ Ac (Bj.j0 kq bH ah ai aa az aA ap = some r) ∧ Ac (kq ≤ k) ∧ Ac (wc.heap[aj]? = some (.cells #[.int .i64 ah, .int .i64 ai, (.slice aw aa.length av)] 27 (0, 0))) ∧ Ac (wc.heap[ar]? = some (.cells #[.int .i64 az, .int .i64 aA, (.slice bd ap.length be)] 27 (0, 0))) ∧ Ac (Below w.heap.size w wc))
 case first =>
  have H := HC3.out; clear HC3
  by_cases c6 : ah = az
  ·rw [if_pos c6] at H
   have bB : (ah == az) = true := beq_iff_eq.mpr c6; have dl : (ah != az) = false := bne_eq_false_iff_eq.mpr c6; clear c6; (first | rw [bB] | (simp only [i64_w, i32_w]; rw [bB]) | skip)
   by_cases c7 : ai = aA
   ·rw [if_pos c7] at H
    have dn : (ai == aA) = true := beq_iff_eq.mpr c7; have dp : (ai != aA) = false := bne_eq_false_iff_eq.mpr c7; clear c7; have H' := Ac.mk H; clear H; have eY := aC.out; have eZ := aD.out; have cp : w5.cell? ⟨aj, 0, none⟩ = some (.int .i64 ah) := (Ad ac.out 0).trans rfl; have cr : w5.cell? ⟨aj, 1, none⟩ = some (.int .i64 ai) := (Ad ac.out 1).trans rfl; have ct : w5.cell? ⟨aj, 2, none⟩ = some (.slice aw aa.length av) := (Ad ac.out 2).trans rfl; have cu := Af ac.out 0; have cw := Af ac.out 1; have cx := Af ac.out 2; have bo : w5.cell? ⟨ar, 0, none⟩ = some (.int .i64 az) := (Ad ag.out 0).trans rfl; have bp : w5.cell? ⟨ar, 1, none⟩ = some (.int .i64 aA) := (Ad ag.out 1).trans rfl; have bq : w5.cell? ⟨ar, 2, none⟩ = some (.slice bd ap.length be) := (Ad ag.out 2).trans rfl; have br := Af ag.out 0; have bs := Af ag.out 1; have bt := Af ag.out 2
    go_wp2
    repeat (go_quiet (fail); try go_wp2)
    go_meet
    case rel => exact ⟨_, (((aa.length : Int) != (ap.length : Int))), (by first | rfl | (simp; done) | (simp [*]; done)), H', ⟨by first | omega | exact Nat.le_refl _⟩, ⟨by exact bU <| ac.out⟩, ⟨by exact bU <| ag.out⟩, ⟨by repeat (first | (with_reducible first | exact HB.out | apply Ah | apply Ae | apply Ai | refine Ag ?_ aK.out | refine Ag ?_ aZ.out) | exact HB.out)⟩⟩
   ·rw [if_neg c7] at H
    have dn : (ai == aA) = false := beq_eq_false_iff_ne.mpr c7; have dp : (ai != aA) = true := bne_iff_ne.mpr c7; have H' := Ac.mk H; clear H; have ez := aC.out; have eC := aD.out; have bI : w5.cell? ⟨aj, 0, none⟩ = some (.int .i64 ah) := (Ad ac.out 0).trans rfl; have bJ : w5.cell? ⟨aj, 1, none⟩ = some (.int .i64 ai) := (Ad ac.out 1).trans rfl; have bK : w5.cell? ⟨aj, 2, none⟩ = some (.slice aw aa.length av) := (Ad ac.out 2).trans rfl; have bL := Af ac.out 0; have bM := Af ac.out 1; have bN := Af ac.out 2; have bO : w5.cell? ⟨ar, 0, none⟩ = some (.int .i64 az) := (Ad ag.out 0).trans rfl; have bP : w5.cell? ⟨ar, 1, none⟩ = some (.int .i64 aA) := (Ad ag.out 1).trans rfl; have bQ : w5.cell? ⟨ar, 2, none⟩ = some (.slice bd ap.length be) := (Ad ag.out 2).trans rfl; have bR := Af ag.out 0; have bS := Af ag.out 1; have bT := Af ag.out 2
    go_wp2
    repeat (go_quiet (fail); try go_wp2)
    go_meet
    case rel => exact ⟨_, (true), (by first | rfl | (simp; done) | (simp [*]; done)), H', ⟨by first | omega | exact Nat.le_refl _⟩, ⟨by exact bU <| ac.out⟩, ⟨by exact bU <| ag.out⟩, ⟨by repeat (first | (with_reducible first | exact HB.out | apply Ah | apply Ae | apply Ai | refine Ag ?_ aK.out | refine Ag ?_ aZ.out) | exact HB.out)⟩⟩
  ·rw [if_neg c6] at H
   have bB : (ah == az) = false := beq_eq_false_iff_ne.mpr c6; have dl : (ah != az) = true := bne_iff_ne.mpr c6; (first | rw [bB] | (simp only [i64_w, i32_w]; rw [bB]) | skip); have H' := Ac.mk H; clear H; have eD := aC.out; have eE := aD.out; have bV : w5.cell? ⟨aj, 0, none⟩ = some (.int .i64 ah) := (Ad ac.out 0).trans rfl; have bW : w5.cell? ⟨aj, 1, none⟩ = some (.int .i64 ai) := (Ad ac.out 1).trans rfl; have bX : w5.cell? ⟨aj, 2, none⟩ = some (.slice aw aa.length av) := (Ad ac.out 2).trans rfl; have bY := Af ac.out 0; have bZ := Af ac.out 1; have b3 := Af ac.out 2; have b4 : w5.cell? ⟨ar, 0, none⟩ = some (.int .i64 az) := (Ad ag.out 0).trans rfl; have b5 : w5.cell? ⟨ar, 1, none⟩ = some (.int .i64 aA) := (Ad ag.out 1).trans rfl; have b6 : w5.cell? ⟨ar, 2, none⟩ = some (.slice bd ap.length be) := (Ad ag.out 2).trans rfl; have b7 := Af ag.out 0; have b8 := Af ag.out 1; have b9 := Af ag.out 2
   go_wp2
   repeat (go_quiet (fail); try go_wp2)
   go_meet
   case rel => exact ⟨_, (true), (by first | rfl | (simp; done) | (simp [*]; done)), H', ⟨by first | omega | exact Nat.le_refl _⟩, ⟨by exact bU <| ac.out⟩, ⟨by exact bU <| ag.out⟩, ⟨by repeat (first | (with_reducible first | exact HB.out | apply Ah | apply Ae | apply Ai | refine Ag ?_ aK.out | refine Ag ?_ aZ.out) | exact HB.out)⟩⟩
 case rest =>
  clear HC3; (try clear c1); (try clear p2); (try clear c4); (try clear c6); (try clear bB); (try clear dl); (try clear c7); (try clear dn); (try clear dp); (try clear c8); (try clear c11); (try clear c14); (try clear bo); (try clear bp); (try clear bq); (try clear bI); (try clear bJ); (try clear bK); (try clear bO); (try clear bP); (try clear bQ); (try clear bV); (try clear bW); (try clear bX); (try clear b4); (try clear b5); (try clear b6); (try clear cp); (try clear cr); (try clear ct); (try clear br); (try clear bs); (try clear bt); (try clear bL); (try clear bM); (try clear bN); (try clear bR); (try clear bS); (try clear bT); (try clear bY); (try clear bZ); (try clear b3); (try clear b7); (try clear b8); (try clear b9); (try clear cu); (try clear cw); (try clear cx); obtain ⟨kq, bH, rfl, HA, HJ2, ac, ag, HB⟩ := hcut; cases kq with
  | zero => exact absurd HA.out (by simp [Bj.j0])
  | succ kj2 =>
   have H := HA.out; clear HA
   simp only [Bj.j0] at H
   by_cases c17 : bH = true
   ·subst c17
    have H1 := H; rw [if_pos rfl] at H1; clear H; have H := H1; clear H1; obtain rfl := Option.some.inj H
    go_wp2
    repeat (go_quiet (fail); try go_wp2)
    go_ret
    exact ⟨by first | rfl | (simp [At, As] <;> rfl) | (simp [*, At, As] <;> rfl), by repeat (first | (with_reducible first | exact HB.out | apply Ah | apply Ae | apply Ai | refine Ag ?_ aK.out | refine Ag ?_ aZ.out) | exact HB.out)⟩
   ·replace c17 := Bool.eq_false_iff.mpr c17
    subst c17; have H1 := H; rw [if_neg (show ¬ (false = true) by decide)] at H1; clear H; have H := H1; clear H1; have H' := Ac.mk H; clear H
    go_wp2
    repeat (go_quiet (fail); try go_wp2)
    go_loopg [5] kj2 (fun kq v5 w' => ∃ (ao : Int), v5 = .int .i64 ao ∧ Ac (Bj.l0 kq ao ah ai aa az aA ap = some r) ∧ Ac (kq ≤ kj2) ∧ Ac (w'.heap[aj]? = some (.cells #[.int .i64 ah, .int .i64 ai, (.slice aw aa.length av)] 27 (0, 0))) ∧ Ac (w'.heap[ar]? = some (.cells #[.int .i64 az, .int .i64 aA, (.slice bd ap.length be)] 27 (0, 0))) ∧ Ac (Below w.heap.size w w'))
    case atStart => exact ⟨(0), (by first | rfl | (simp; done) | (simp [*]; done)), H', ⟨Nat.le_refl _⟩, ⟨by exact bU <| ac.out⟩, ⟨by exact bU <| ag.out⟩, ⟨by repeat (first | (with_reducible first | exact HB.out | apply Ah | apply Ae | apply Ai | refine Ag ?_ aK.out | refine Ag ?_ aZ.out) | exact HB.out)⟩⟩
    case round =>
     clear H'; (try clear c1); (try clear p2); (try clear c4); (try clear c6); (try clear bB); (try clear dl); (try clear c7); (try clear dn); (try clear dp); (try clear c8); (try clear c11); (try clear c14); (try clear c17); (try clear bo); (try clear bp); (try clear bq); (try clear bI); (try clear bJ); (try clear bK); (try clear bO); (try clear bP); (try clear bQ); (try clear bV); (try clear bW); (try clear bX); (try clear b4); (try clear b5); (try clear b6); (try clear cp); (try clear cr); (try clear ct); (try clear br); (try clear bs); (try clear bt); (try clear bL); (try clear bM); (try clear bN); (try clear bR); (try clear bS); (try clear bT); (try clear bY); (try clear bZ); (try clear b3); (try clear b7); (try clear b8); (try clear b9); (try clear cu); (try clear cw); (try clear cx); (try clear p2); obtain ⟨ao, rfl, HA, HK2, ac, ag, HB⟩ := hrel; cases gk with
     | zero => exact absurd HA.out (by simp [Bj.l0])
     | succ k2 =>
      have H := HA.out; clear HA
      simp only [Bj.l0] at H
      by_cases c18 : ao < (aa.length : Int)
      ·rw [if_pos c18] at H
       have dF : decide (ao < (aa.length : Int)) = true := decide_eq_true c18; clear c18
       by_cases c19 : 0 ≤ ao
       ·rw [if_pos c19] at H
        have eF : decide (0 ≤ ao) = true := decide_eq_true c19; clear c19
        by_cases c20 : ao < (ap.length : Int)
        ·rw [if_pos c20] at H
         have eG : decide (ao < (ap.length : Int)) = true := decide_eq_true c20; clear c20
         by_cases c21 : ((rdOf false aa ao) != (rdOf false ap ao)) = true
         ·rw [if_pos c21] at H
          have dG : ((rdOf false aa ao) != (rdOf false ap ao)) = true := c21; (try (have dH : decide ((rdOf false aa ao) = (rdOf false ap ao)) = false := by simpa using c21)); (try (have dI : ((rdOf false aa ao) == (rdOf false ap ao)) = false := by simpa using c21)); (try (have eH : ¬ ((rdOf false aa ao) = (rdOf false ap ao)) := by simpa using c21)); clear c21; obtain rfl := Option.some.inj H; have dJ := aC.out; have dK := aD.out; have dZ : wr.cell? ⟨aj, 0, none⟩ = some (.int .i64 ah) := (Ad ac.out 0).trans rfl; have d5 : wr.cell? ⟨aj, 1, none⟩ = some (.int .i64 ai) := (Ad ac.out 1).trans rfl; have d6 : wr.cell? ⟨aj, 2, none⟩ = some (.slice aw aa.length av) := (Ad ac.out 2).trans rfl; have d7 := Af ac.out 0; have d8 := Af ac.out 1; have d9 := Af ac.out 2; have bC : 0 ≤ (ao : Int) := of_decide_eq_true (by with_reducible assumption); have bD : ao < (aa.length : Int) := of_decide_eq_true (by with_reducible assumption); obtain ⟨dL, e191, aI⟩ := Kd.at_bool bG.out ao bC bD; cases e191; replace aI := (HB.out.cell (World.block_lt_of_cell? w _ aI)).trans aI; replace bC := eq_true bC; replace bD := eq_true bD; have cC : wr.cell? ⟨ar, 0, none⟩ = some (.int .i64 az) := (Ad ag.out 0).trans rfl; have cD : wr.cell? ⟨ar, 1, none⟩ = some (.int .i64 aA) := (Ad ag.out 1).trans rfl; have cE : wr.cell? ⟨ar, 2, none⟩ = some (.slice bd ap.length be) := (Ad ag.out 2).trans rfl; have cF := Af ag.out 0; have cG := Af ag.out 1; have cH := Af ag.out 2; have bE : 0 ≤ (ao : Int) := of_decide_eq_true (by with_reducible assumption); have bF : ao < (ap.length : Int) := of_decide_eq_true (by with_reducible assumption); obtain ⟨dM, e192, aJ⟩ := Kd.at_bool dh.out ao bE bF; cases e192; replace aJ := (HB.out.cell (World.block_lt_of_cell? w _ aJ)).trans aJ; replace bE := eq_true bE; replace bF := eq_true bF
          go_wp2
          repeat (go_quiet (fail); try go_wp2)
          go_ret
          exact ⟨by first | rfl | (simp [At, As] <;> rfl) | (simp [*, At, As] <;> rfl), by repeat (first | (with_reducible first | exact HB.out | apply Ah | apply Ae | apply Ai | refine Ag ?_ aK.out | refine Ag ?_ aZ.out) | exact HB.out)⟩
         ·rw [if_neg c21] at H
          have dG : ((rdOf false aa ao) != (rdOf false ap ao)) = false := by simpa using c21
          (try (have dH : decide ((rdOf false aa ao) = (rdOf false ap ao)) = true := by simpa using c21)); (try (have dI : ((rdOf false aa ao) == (rdOf false ap ao)) = true := by simpa using c21)); clear c21; have H' := Ac.mk H; clear H; have dN := aC.out; have dO := aD.out; have cI : wr.cell? ⟨aj, 0, none⟩ = some (.int .i64 ah) := (Ad ac.out 0).trans rfl; have cJ : wr.cell? ⟨aj, 1, none⟩ = some (.int .i64 ai) := (Ad ac.out 1).trans rfl; have cK : wr.cell? ⟨aj, 2, none⟩ = some (.slice aw aa.length av) := (Ad ac.out 2).trans rfl; have cL := Af ac.out 0; have cM := Af ac.out 1; have cN := Af ac.out 2; have bC : 0 ≤ (ao : Int) := of_decide_eq_true (by with_reducible assumption); have bD : ao < (aa.length : Int) := of_decide_eq_true (by with_reducible assumption); obtain ⟨dL, e191, aI⟩ := Kd.at_bool bG.out ao bC bD; cases e191; replace aI := (HB.out.cell (World.block_lt_of_cell? w _ aI)).trans aI; replace bC := eq_true bC; replace bD := eq_true bD; have cO : wr.cell? ⟨ar, 0, none⟩ = some (.int .i64 az) := (Ad ag.out 0).trans rfl; have cP : wr.cell? ⟨ar, 1, none⟩ = some (.int .i64 aA) := (Ad ag.out 1).trans rfl; have cQ : wr.cell? ⟨ar, 2, none⟩ = some (.slice bd ap.length be) := (Ad ag.out 2).trans rfl; have cR := Af ag.out 0; have cS := Af ag.out 1; have cU := Af ag.out 2; have bE : 0 ≤ (ao : Int) := of_decide_eq_true (by with_reducible assumption); have bF : ao < (ap.length : Int) := of_decide_eq_true (by with_reducible assumption); obtain ⟨dM, e192, aJ⟩ := Kd.at_bool dh.out ao bE bF; cases e192; replace aJ := (HB.out.cell (World.block_lt_of_cell? w _ aJ)).trans aJ; replace bE := eq_true bE; replace bF := eq_true bF
          go_wp2
          repeat (go_quiet (fail); try go_wp2)
          go_roundg k2
          case measure => have := HJ2.out; have := HK2.out; omega
          case rel => exact ⟨(wrap64 (ao + 1)), (by first | rfl | (simp; done) | (simp [*]; done)), H', ⟨by have := HJ2.out; have := HK2.out; omega⟩, ⟨by exact bU <| ac.out⟩, ⟨by exact bU <| ag.out⟩, ⟨by repeat (first | (with_reducible first | exact HB.out | apply Ah | apply Ae | apply Ai | refine Ag ?_ aK.out | refine Ag ?_ aZ.out) | exact HB.out)⟩⟩
        ·rw [if_neg c20] at H
         exact absurd H (by simp)
       ·rw [if_neg c19] at H
        exact absurd H (by simp)
      ·rw [if_neg c18] at H
       have dF : decide (ao < (aa.length : Int)) = false := decide_eq_false c18; clear c18; obtain rfl := Option.some.inj H; have eI := aC.out; have eJ := aD.out; have ec : wr.cell? ⟨aj, 0, none⟩ = some (.int .i64 ah) := (Ad ac.out 0).trans rfl; have ed : wr.cell? ⟨aj, 1, none⟩ = some (.int .i64 ai) := (Ad ac.out 1).trans rfl; have ee : wr.cell? ⟨aj, 2, none⟩ = some (.slice aw aa.length av) := (Ad ac.out 2).trans rfl; have ef := Af ac.out 0; have eh := Af ac.out 1; have ei := Af ac.out 2
       go_wp2
       repeat (go_quiet (fail); try go_wp2)
       go_ret
       exact ⟨by first | rfl | (simp [At, As] <;> rfl) | (simp [*, At, As] <;> rfl), by repeat (first | (with_reducible first | exact HB.out | apply Ah | apply Ae | apply Ai | refine Ag ?_ aK.out | refine Ag ?_ aZ.out) | exact HB.out)⟩

def Cg.f (a0 : Int) (a1 : Int) : Option (Int × Int × List Bool) := if 0 ≤ (wrap64 (a0 * a1)) then (if (wrap64 (a0 * a1) : Int).toNat ≤ 281474976710656 then (some (a0, a1, (List.replicate (wrap64 (a0 * a1) : Int).toNat false))) else (none)) else (none)
set_option maxHeartbeats 8000000 in
set_option maxRecDepth 100000 in
theorem Cg.calls (a0 : Int) (a1 : Int) (r1 : Int) (r2 : Int) (r3 : List Bool) (w : World) (h : Cg.f a0 a1 = some (r1, r2, r3)) :
  Calls Try.prog 37 #[.int .i64 a0, .int .i64 a1] w fun e w' => ∃ v2_ : Value, e = .returned (.agg #[.int .i64 r1, .int .i64 r2, v2_]) ∧ Kd.R Kd.bool 4 w' w.heap.size (fun _ => True) v2_ r3 ∧ Below w.heap.size w w' := by
 have hu27 := Try.underlying27; have HB := Ac.mk (Below.refl w.heap.size w); have H : (if 0 ≤ (wrap64 (a0 * a1)) then (if (wrap64 (a0 * a1) : Int).toNat ≤ 281474976710656 then (some (a0, a1, (List.replicate (wrap64 (a0 * a1) : Int).toNat false))) else (none)) else (none)) = some (r1, r2, r3) := h; clear h; obtain ⟨ji3, cV⟩ : ∃ j_ : Int, (wrap64 (a0 * a1)) = j_ := ⟨_, rfl⟩; replace H : (if 0 ≤ (ji3) then (if (ji3 : Int).toNat ≤ 281474976710656 then (some (a0, a1, (List.replicate (ji3 : Int).toNat false))) else (none)) else (none)) = some (r1, r2, r3) := by first | (rw [cV] at H; exact H) | (simp only [cV] at H ⊢; exact H)
 have hji3w : (IntKind.i64.wrap (a0 * a1)) = ji3 := (i64_w _).trans cV
 by_cases c4 : 0 ≤ (ji3)
 ·rw [if_pos c4] at H
  have e7 := eq_true c4; have e8 : decide (0 ≤ (ji3)) = true := decide_eq_true c4; clear c4
  by_cases c5 : (ji3 : Int).toNat ≤ 281474976710656
  ·rw [if_pos c5] at H
   have fa := eq_true c5; have fb : decide ((ji3 : Int).toNat ≤ 281474976710656) = true := decide_eq_true c5; clear c5; obtain ⟨dP, cy⟩ : ∃ y_ : List Bool, y_ = (List.replicate (ji3 : Int).toNat false) := ⟨_, rfl⟩; (try rw [Option.bind_some] at H); try rw [← cy] at H; have di := Ac.mk cy; clear cy
   simp only [Option.some.injEq, Prod.mk.injEq] at H
   obtain ⟨rfl, rfl, rfl⟩ := H; go_enter Try.func37, Try.ntmps37
   go_wp2_with (first | ((with_reducible refine Bf (N := 4) rfl ?_); refine Bc ?hg (N := 4) ?hd (cs := #[.int .i64 0, .int .i64 0, .slice none 0 0]) (t := 27) ?hr ?_; (case hd => rfl); (case hg => rfl); (case hr => first | (go_simp; done) | (go_simp; rfl)); intro aN hg w6 hbox hb; have aQ := Ac.mk (hbox); have eK := Ac.mk ((by rw [hg]; exact (Ak (lU HB.out)) : w.heap.size ≤ aN)); have cz := Ac.mk ((by rw [hg]; exact (Ak (lU HB.out)) : w.heap.size ≤ aN)); replace HB := Ac.mk (Aq (lU HB.out) hb); clear hb hbox hg) | ((with_reducible refine Bf (N := 10) rfl ?_); refine Kd.R_make Kd.bool _ 4 rfl (N := 10) rfl 25 _ _ rfl ji3 rfl rfl Try.underlying25 (.bool false) 1 info4 rfl (by decide) (by omega) false (ok := fun _ => True) (okp := fun _ => True) rfl (fun _ hk => hk) trivial (of_decide_eq_true (by with_reducible assumption)) (Nat.le_trans (Nat.mul_le_mul_right _ (of_decide_eq_true (by with_reducible assumption) : ji3.toNat ≤ 281474976710656)) (by omega)) (Below.refl _ _) (Nat.le_refl _) ?_; intro v195 w7 ho8 hb hg_ hnew_; clear hg_ hnew_; (first | rw [← di.out] at ho8 | (simp only [Int.reduceToNat] at ho8; rw [← di.out] at ho8)); have dj := Ac.mk (Kd.B9 ho8 (Ak (by repeat (first | (with_reducible first | exact HB.out | apply Ah | apply Ae | apply Ai | refine Ag ?_ cz.out) | exact HB.out)))); replace aQ := Ac.mk (An (g := aN) (o := .cells #[.int .i64 0, .int .i64 0, .slice none 0 0] 27 (0, 0)) (by exact bU <| aQ.out) hb); replace HB := Ac.mk (Aq (by repeat (first | (with_reducible first | exact HB.out | apply Ah | apply Ae | apply Ai | refine Ag ?_ cz.out) | exact HB.out)) hb); clear hb ho8; obtain ⟨Ao9, co9, eo9⟩ := Kd.B0 dj.out; subst eo9; have bo : w7.cell? ⟨aN, 0, none⟩ = some (.int .i64 0) := (Ad aQ.out 0).trans rfl; have bp : w7.cell? ⟨aN, 1, none⟩ = some (.int .i64 0) := (Ad aQ.out 1).trans rfl; have bq : w7.cell? ⟨aN, 2, none⟩ = some (.slice none 0 0) := (Ad aQ.out 2).trans rfl; have br := Af aQ.out 0; have bs := Af aQ.out 1; have bt := Af aQ.out 2))
   refine bodyPost_ret (results_cell_row rfl _ _ aN 27 #[.int .i64 a0, .int .i64 a1, .slice Ao9 dP.length co9] (0, 0) _ rfl (by (with_reducible repeat (first | refine Ap ?_ _ | refine Ar ?_ | refine Aj ?_ _)); refine Ax (cs := #[.int .i64 a0, .int .i64 a1, .slice none 0 0]) ?_ 2 _ rfl; (with_reducible repeat (first | refine Ap ?_ _ | refine Ar ?_ | refine Aj ?_ _)); refine Ax (cs := #[.int .i64 a0, .int .i64 0, .slice none 0 0]) ?_ 1 _ rfl; (with_reducible repeat (first | refine Ap ?_ _ | refine Ar ?_ | refine Aj ?_ _)); refine Ax (cs := #[.int .i64 0, .int .i64 0, .slice none 0 0]) ?_ 0 _ rfl; exact bU <| aQ.out) Try.underlying27 rfl (by kernel_rfl)) rfl ?_; exact ⟨_, by first | rfl | (simp [At, As] <;> rfl) | (simp only [← cV]; first | rfl | (simp [At, As] <;> rfl)) | (simp [*, At, As] <;> rfl), by exact rU <| Kd.Bu (Kd.Bq (p := ⟨aN, 2, none⟩) (Kd.Bq (p := ⟨aN, 1, none⟩) (Kd.Bq (p := ⟨aN, 0, none⟩) (Kd.Ca dj.out aQ.out (by decide)) (fun _ hk => hk.2) (.int .i64 a0)) (fun _ hk => hk.2) (.int .i64 a1)) (fun _ hk => hk.2) (.slice Ao9 dP.length co9)) (fun _ hk => trivial), by repeat (first | (with_reducible first | exact HB.out | apply Ah | apply Ae | apply Ai | refine Ag ?_ cz.out) | exact HB.out)⟩
  ·rw [if_neg c5] at H
   exact absurd H (by simp)
 ·rw [if_neg c4] at H
  exact absurd H (by simp)

def Bp.l0 : Nat → Int → Int → Int → List Bool → Int → Int → List Bool → Option (Int × Int × List Bool)
 | 0, _, _, _, _, _, _, _ => none
 | k + 1, x4, cW, cX, bu, cd, ce, bv => if x4 < (bu.length : Int) then (if 0 ≤ x4 then (if x4 < (bv.length : Int) then (Bp.l0 k (wrap64 (x4 + 1)) cW cX bu cd ce (bv.set (x4 : Int).toNat (!(rdOf false bu x4)))) else (none)) else (none)) else (some (cd, ce, bv))
def Bp.f (k : Nat) (ah : Int) (ai : Int) (aa : List Bool) : Option (Int × Int × List Bool) := (Cg.f ah ai).bind fun bc => (Bp.l0 k 0 ah ai aa bc.1 bc.2.1 bc.2.2)
theorem Bp.mono_l : ∀ k, (∀ y0 y1 y2 y3 y4 y5 y6, LeO (Bp.l0 k y0 y1 y2 y3 y4 y5 y6) (Bp.l0 (k + 1) y0 y1 y2 y3 y4 y5 y6))
 | 0 => fun _ _ _ _ _ _ _ r h => by simp [Bp.l0] at h
 | k + 1 => by
  have ih0 := Bp.mono_l k
  ·intro y0 y1 y2 y3 y4 y5 y6
   unfold Bp.l0
   repeat' first
   | (with_reducible exact ih0 _ _ _ _ _ _ _)
   | (with_reducible exact LeO.refl _)
   | (with_reducible exact LeO.none _)
   | (with_reducible refine LeO.ite ?_ ?_)
   | (with_reducible refine LeO.bind ?_ (fun _ => ?_))
   | exact ih0 _ _ _ _ _ _ _
   | exact LeO.none _
   | refine LeO.ite ?_ ?_
   | refine LeO.bind ?_ (fun _ => ?_)
theorem Bp.mono : ∀ a0 a1 a2 k, LeO (Bp.f k a0 a1 a2) (Bp.f (k + 1) a0 a1 a2) := by
 intro a0 a1 a2 k; have ih0 := Bp.mono_l k; unfold Bp.f
 repeat' first
   | (with_reducible exact ih0 _ _ _ _ _ _ _)
   | (with_reducible exact LeO.refl _)
   | (with_reducible exact LeO.none _)
   | (with_reducible refine LeO.ite ?_ ?_)
   | (with_reducible refine LeO.bind ?_ (fun _ => ?_))
   | exact ih0 _ _ _ _ _ _ _
   | exact LeO.none _
   | refine LeO.ite ?_ ?_
   | refine LeO.bind ?_ (fun _ => ?_)
def Bp.T5 : Bool × List (List Nat × List Nat) := (true, [([], []), ([0], [0]), ([], []), ([], []), ([3], [3]), ([], []), ([4, 5], [4, 5]), ([6], [6]), ([7], [7]), ([1, 2, 0, 1, 2, 3, 4, 5, 6, 7, 8], [1, 2]), ([9, 8, 0, 1, 2, 3, 4, 5, 6, 7, 8], [8, 9])])
def Bp.B5 : List Nat := [0, 1, 0, 0, 8, 0, 56, 120, 248, 511, 1023]
theorem Bp.tab5 : rtab .any (opsOf Try.f36 5) = Bp.T5 := by kernel_rfl
theorem Bp.bits5 : waitsOk Bp.T5.2 Bp.B5 = true := by kernel_rfl
set_option maxHeartbeats 8000000 in
set_option maxRecDepth 100000 in
theorem Bp.calls (k : Nat) (ah : Int) (ai : Int) (aw : Option Addr) (av : Nat) (aa : List Bool) (r1 : Int) (r2 : Int) (r3 : List Bool) (w : World) (bw : Kd.C Kd.bool w aw aa.length aa) (bz : aa.length ≤ av) (h : Bp.f k ah ai aa = some (r1, r2, r3)) :
  Calls Try.prog 36 #[.agg #[.int .i64 ah, .int .i64 ai, .slice aw aa.length av]] w fun e w' => ∃ v2_ : Value, e = .returned (.agg #[.int .i64 r1, .int .i64 r2, v2_]) ∧ Kd.R Kd.bool 4 w' w.heap.size (fun _ => True) v2_ r3 ∧ Below w.heap.size w w' := by
 have hu27 := Try.underlying27; have bG := Ac.mk bw; have dE := Ac.mk bz; clear bw bz; have HB := Ac.mk (Below.refl w.heap.size w); have H : ((Cg.f ah ai).bind fun bc => (Bp.l0 k 0 ah ai aa bc.1 bc.2.1 bc.2.2)) = some (r1, r2, r3) := h; clear h; replace H := Option.bind_eq_some_iff.mp H; obtain ⟨⟨bb, bf, cY⟩, A20, H⟩ := H
 try dsimp only at H
 have A2 := Ac.mk A20; clear A20; have H' := Ac.mk H; clear H; go_enter Try.func36, Try.ntmps36
 go_wp2_with (first | ((with_reducible refine Bf (N := 1) rfl ?_); refine Bc ?hg (N := 1) ?hd (cs := #[.int .i64 ah, .int .i64 ai, .slice aw aa.length av]) (t := 27) ?hr ?_; (case hd => rfl); (case hg => rfl); (case hr => first | (go_simp; done) | (go_simp; rfl)); intro an hg w3 hbox hb; have af := Ac.mk (hbox); have eL := Ac.mk ((by rw [hg]; exact (Ak (lU HB.out)) : w.heap.size ≤ an)); have aM := Ac.mk ((by rw [hg]; exact (Ak (lU HB.out)) : w.heap.size ≤ an)); replace HB := Ac.mk (Aq (lU HB.out) hb); clear hb hbox hg) | ((with_reducible refine Bf (N := 2) rfl ?_); refine Bc ?hg (N := 2) ?hd (cs := #[.int .i64 0, .int .i64 0, .slice none 0 0]) (t := 27) ?hr ?_; (case hd => rfl); (case hg => rfl); (case hr => first | (go_simp; done) | (go_simp; rfl)); intro ay hg w4 hbox hb; have au := Ac.mk (hbox); have eM := Ac.mk ((by rw [hg]; exact (Ak (by repeat (first | (with_reducible first | exact HB.out | apply Ah | apply Ae | apply Ai | refine Ag ?_ aM.out) | exact HB.out))) : w.heap.size ≤ ay)); have ba := Ac.mk ((by rw [hg]; exact (Ak (by repeat (first | (with_reducible first | exact HB.out | apply Ah | apply Ae | apply Ai | refine Ag ?_ aM.out) | exact HB.out))) : w.heap.size ≤ ay)); replace HB := Ac.mk (Aq (by repeat (first | (with_reducible first | exact HB.out | apply Ah | apply Ae | apply Ai | refine Ag ?_ aM.out) | exact HB.out)) hb); have aW := Ac.mk ((by rw [hg]; exact Nat.ne_of_lt (Bh (g := an) (o := .cells #[.int .i64 ah, .int .i64 ai, .slice aw aa.length av] 27 (0, 0)) (by exact bU <| af.out)) : an ≠ ay)); have aX := Ac.mk ((by rw [hg]; exact Nat.ne_of_gt (Bh (g := an) (o := .cells #[.int .i64 ah, .int .i64 ai, .slice aw aa.length av] 27 (0, 0)) (by exact bU <| af.out)) : ay ≠ an)); replace af := Ac.mk (An (g := an) (o := .cells #[.int .i64 ah, .int .i64 ai, .slice aw aa.length av] 27 (0, 0)) (by exact bU <| af.out) hb); clear hb hbox hg; have fd := aW.out; have fe := aX.out; have dq : w4.cell? ⟨an, 0, none⟩ = some (.int .i64 ah) := (Ad af.out 0).trans rfl; have dr : w4.cell? ⟨an, 1, none⟩ = some (.int .i64 ai) := (Ad af.out 1).trans rfl; have dt : w4.cell? ⟨an, 2, none⟩ = some (.slice aw aa.length av) := (Ad af.out 2).trans rfl; have du := Af af.out 0; have dv := Af af.out 1; have dw := Af af.out 2) | ((with_reducible refine Be (f := 37) rfl ?_); refine gL (some 9) Try.func37 #[.int .i64 ah, .int .i64 ai] ?_; (with_reducible refine (Cg.calls ah ai bb bf cY _ A2.out).mono ?_); rintro e w7 ⟨v202, rfl, ho0, hb⟩; refine ⟨_, rfl, ?_⟩; have cg := Ac.mk (Kd.B9 ho0 (Ak (by repeat (first | (with_reducible first | exact HB.out | apply Ah | apply Ae | apply Ai | refine Ag ?_ aM.out | refine Ag ?_ ba.out) | exact HB.out)))); replace af := Ac.mk (An (g := an) (o := .cells #[.int .i64 ah, .int .i64 ai, .slice aw aa.length av] 27 (0, 0)) (by exact bU <| af.out) hb); replace au := Ac.mk (An (g := ay) (o := .cells #[.int .i64 0, .int .i64 0, .slice none 0 0] 27 (0, 0)) (by exact bU <| au.out) hb); replace HB := Ac.mk (Aq (by repeat (first | (with_reducible first | exact HB.out | apply Ah | apply Ae | apply Ai | refine Ag ?_ aM.out | refine Ag ?_ ba.out) | exact HB.out)) hb); (try clear hb); (try clear hb2); (try clear hk); (try clear hi); (try clear ho0)) | ((with_reducible refine Bf (N := 3) rfl ?_); refine Bc ?hg (N := 3) ?hd (cs := #[.int .i64 0, .int .i64 0, .slice none 0 0]) (t := 27) ?hr ?_; (case hd => rfl); (case hg => rfl); (case hr => first | (go_simp; done) | (go_simp; rfl)); intro ax hg w8 hbox hb; replace cg := Ac.mk (Kd.Az (by exact rU <| cg.out) hb); have aq := Ac.mk (hbox); have eN := Ac.mk ((by rw [hg]; exact (Ak (by repeat (first | (with_reducible first | exact HB.out | apply Ah | apply Ae | apply Ai | refine Ag ?_ aM.out | refine Ag ?_ ba.out) | exact HB.out))) : w.heap.size ≤ ax)); have cA := Ac.mk ((by rw [hg]; exact (Ak (by repeat (first | (with_reducible first | exact HB.out | apply Ah | apply Ae | apply Ai | refine Ag ?_ aM.out | refine Ag ?_ ba.out) | exact HB.out))) : w.heap.size ≤ ax)); replace HB := Ac.mk (Aq (by repeat (first | (with_reducible first | exact HB.out | apply Ah | apply Ae | apply Ai | refine Ag ?_ aM.out | refine Ag ?_ ba.out) | exact HB.out)) hb); have aE := Ac.mk ((by rw [hg]; exact Nat.ne_of_lt (Bh (g := an) (o := .cells #[.int .i64 ah, .int .i64 ai, .slice aw aa.length av] 27 (0, 0)) (by exact bU <| af.out)) : an ≠ ax)); have aY := Ac.mk ((by rw [hg]; exact Nat.ne_of_gt (Bh (g := an) (o := .cells #[.int .i64 ah, .int .i64 ai, .slice aw aa.length av] 27 (0, 0)) (by exact bU <| af.out)) : ax ≠ an)); replace af := Ac.mk (An (g := an) (o := .cells #[.int .i64 ah, .int .i64 ai, .slice aw aa.length av] 27 (0, 0)) (by exact bU <| af.out) hb); have aH := Ac.mk ((by rw [hg]; exact Nat.ne_of_lt (Bh (g := ay) (o := .cells #[.int .i64 0, .int .i64 0, .slice none 0 0] 27 (0, 0)) (by exact bU <| au.out)) : ay ≠ ax)); have bg := Ac.mk ((by rw [hg]; exact Nat.ne_of_gt (Bh (g := ay) (o := .cells #[.int .i64 0, .int .i64 0, .slice none 0 0] 27 (0, 0)) (by exact bU <| au.out)) : ax ≠ ay)); replace au := Ac.mk (An (g := ay) (o := .cells #[.int .i64 0, .int .i64 0, .slice none 0 0] 27 (0, 0)) (by exact bU <| au.out) hb); clear hb hbox hg; have ff := aY.out; have fg := aE.out; have eO := bg.out; have eP := aH.out; have cZ : w8.cell? ⟨ax, 0, none⟩ = some (.int .i64 0) := (Ad aq.out 0).trans rfl; have da : w8.cell? ⟨ax, 1, none⟩ = some (.int .i64 0) := (Ad aq.out 1).trans rfl; have db : w8.cell? ⟨ax, 2, none⟩ = some (.slice none 0 0) := (Ad aq.out 2).trans rfl; have dc := Af aq.out 0; have dd := Af aq.out 1; have de := Af aq.out 2; obtain ⟨dQ, dR, es⟩ := Kd.B0 cg.out; subst es))
 go_loopg [4] k (fun kq v4 w' => ∃ (aG : Int) (ak : List Bool) (u205002 : Value), v4 = .int .i64 aG ∧ Ac (Bp.l0 kq aG ah ai aa bb bf ak = some (r1, r2, r3)) ∧ Ac (kq ≤ k) ∧ Ac (Kd.R Kd.bool 4 w' w.heap.size (fun _ => True) u205002 ak) ∧ Ac (w'.heap[an]? = some (.cells #[.int .i64 ah, .int .i64 ai, (.slice aw aa.length av)] 27 (0, 0))) ∧ Ac (w'.heap[ay]? = some (.cells #[.int .i64 0, .int .i64 0, (.slice none 0 0)] 27 (0, 0))) ∧ Ac (w'.heap[ax]? = some (.cells #[.int .i64 bb, .int .i64 bf, u205002] 27 (0, 0))) ∧ Ac (Below w.heap.size w w'))
 case atStart => exact ⟨(0), (cY), (.slice dQ cY.length dR), (by first | rfl | (simp; done) | (simp [*]; done)), H', ⟨Nat.le_refl _⟩, ⟨by exact rU <| Kd.Bu (Kd.Bq (p := ⟨ax, 2, none⟩) (Kd.Bq (p := ⟨ax, 1, none⟩) (Kd.Bq (p := ⟨ax, 0, none⟩) (Kd.Ca cg.out aq.out (by decide)) (fun _ hk => hk.2) (.int .i64 bb)) (fun _ hk => hk.2) (.int .i64 bf)) (fun _ hk => hk.2) (.slice dQ cY.length dR)) (fun _ hk => trivial)⟩, ⟨by (with_reducible repeat (first | refine Ap ?_ _ | refine Ar ?_ | refine Aj ?_ _)); refine Bd ?_ aE.out _; (with_reducible repeat (first | refine Ap ?_ _ | refine Ar ?_ | refine Aj ?_ _)); refine Bd ?_ aE.out _; (with_reducible repeat (first | refine Ap ?_ _ | refine Ar ?_ | refine Aj ?_ _)); refine Bd ?_ aE.out _; exact bU <| af.out⟩, ⟨by (with_reducible repeat (first | refine Ap ?_ _ | refine Ar ?_ | refine Aj ?_ _)); refine Bd ?_ aH.out _; (with_reducible repeat (first | refine Ap ?_ _ | refine Ar ?_ | refine Aj ?_ _)); refine Bd ?_ aH.out _; (with_reducible repeat (first | refine Ap ?_ _ | refine Ar ?_ | refine Aj ?_ _)); refine Bd ?_ aH.out _; exact bU <| au.out⟩, ⟨by (with_reducible repeat (first | refine Ap ?_ _ | refine Ar ?_ | refine Aj ?_ _)); refine Ax (cs := #[.int .i64 bb, .int .i64 bf, .slice none 0 0]) ?_ 2 _ rfl; (with_reducible repeat (first | refine Ap ?_ _ | refine Ar ?_ | refine Aj ?_ _)); refine Ax (cs := #[.int .i64 bb, .int .i64 0, .slice none 0 0]) ?_ 1 _ rfl; (with_reducible repeat (first | refine Ap ?_ _ | refine Ar ?_ | refine Aj ?_ _)); refine Ax (cs := #[.int .i64 0, .int .i64 0, .slice none 0 0]) ?_ 0 _ rfl; exact bU <| aq.out⟩, ⟨by repeat (first | (with_reducible first | exact HB.out | apply Ah | apply Ae | apply Ai | refine Ag ?_ aM.out | refine Ag ?_ ba.out | refine Ag ?_ cA.out) | exact HB.out)⟩⟩
 case round =>
  clear H'; (try clear c1); (try clear p2); (try clear c3); (try clear c5); (try clear c9); (try clear c10); (try clear cZ); (try clear da); (try clear db); (try clear dq); (try clear dr); (try clear dt); (try clear dc); (try clear dd); (try clear de); (try clear du); (try clear dv); (try clear dw); obtain ⟨aG, ak, u205002, rfl, HA, HK1, am, af, au, aq, HB⟩ := hrel; cases gk with
  | zero => exact absurd HA.out (by simp [Bp.l0])
  | succ k1 =>
   have H := HA.out; clear HA
   simp only [Bp.l0] at H
   by_cases c13 : aG < (aa.length : Int)
   ·rw [if_pos c13] at H
    have dS : decide (aG < (aa.length : Int)) = true := decide_eq_true c13; clear c13
    by_cases c14 : 0 ≤ aG
    ·rw [if_pos c14] at H
     have eQ : decide (0 ≤ aG) = true := decide_eq_true c14; clear c14
     by_cases c15 : aG < (ak.length : Int)
     ·rw [if_pos c15] at H
      have eR : decide (aG < (ak.length : Int)) = true := decide_eq_true c15; clear c15; obtain ⟨et, cB⟩ : ∃ y_ : List Bool, y_ = (ak.set (aG : Int).toNat (!(rdOf false aa aG))) := ⟨_, rfl⟩; (try rw [Option.bind_some] at H); try rw [← cB] at H; have dT := Ac.mk cB; clear cB; have H' := Ac.mk H; clear H; have eS := aW.out; have eT := aX.out; have eU := aE.out; have eV := aY.out; have ej : wr.cell? ⟨an, 0, none⟩ = some (.int .i64 ah) := (Ad af.out 0).trans rfl; have ek : wr.cell? ⟨an, 1, none⟩ = some (.int .i64 ai) := (Ad af.out 1).trans rfl; have el : wr.cell? ⟨an, 2, none⟩ = some (.slice aw aa.length av) := (Ad af.out 2).trans rfl; have eo := Af af.out 0; have ep := Af af.out 1; have er := Af af.out 2; (try go_wp2); replace am := Ac.mk (Kd.R_drew am.out); replace af := Ac.mk (Ar af.out); replace au := Ac.mk (Ar au.out); replace aq := Ac.mk (Ar aq.out); replace HB := Ac.mk (Ai HB.out); have dz : 0 ≤ (aG : Int) := of_decide_eq_true (by with_reducible assumption); have dA : aG < (aa.length : Int) := of_decide_eq_true (by with_reducible assumption); obtain ⟨dk, e205, aV⟩ := Kd.at_bool bG.out aG dz dA; have ck := aV; cases e205; replace aV := (HB.out.cell (World.block_lt_of_cell? w _ aV)).trans aV; replace dz := eq_true dz; replace dA := eq_true dA; have p16 : 0 ≤ (aG : Int) := of_decide_eq_true (by with_reducible assumption); have q16 : (aG : Int) < ((ak.length : Int) : Int) := of_decide_eq_true (by with_reducible assumption); obtain ⟨go16, dU, dV, dW, gl16, cl16, HG16⟩ := Kd.R_form am.out (by omega); (first | cases dV | (injection dV with ea_ en_ ec_; (first | subst ea_ | (injection ea_ with ea_; subst ea_)); subst ec_; clear en_)); have GB16 := Ac.mk dW; have GG16 := Ac.mk HG16; clear dW gl16 HG16; obtain ⟨dB, dC⟩ := Kd.R_celln false am.out (aG : Int) p16 q16; replace p16 := eq_true p16; replace q16 := eq_true q16; have dD := Kd.R_putn am.out (aG : Int) (!(rdOf false aa aG)); rw [← dT.out] at dD; have HQ21 := Ac.mk dD; clear dD; refine start_ (n := 11) (S := fun w' => w'.cell? ⟨ax, 0, none⟩ = some (.int .i64 bb) ∧ w'.cell? ⟨ax, 1, none⟩ = some (.int .i64 bf) ∧ w'.cell? ⟨ax, 2, none⟩ = some (.slice (some ⟨go16, 0, none⟩) ak.length dU) ∧ w'.cell? ⟨an, 0, none⟩ = some (.int .i64 ah) ∧ w'.cell? ⟨an, 1, none⟩ = some (.int .i64 ai) ∧ w'.cell? ⟨an, 2, none⟩ = some (.slice (some dk) aa.length av) ∧ w'.cell? (dk.add (aG).toNat) = some (.bool (rdOf false aa aG))) (ds := [10]) #[false, false, false, false, false, false, false, false, false, false, false] (by kernel_rfl) rfl rfl ⟨(Ad aq.out 0).trans rfl, (Ad aq.out 1).trans rfl, (Ad aq.out 2).trans rfl, (Ad af.out 0).trans rfl, (Ad af.out 1).trans rfl, (Ad af.out 2).trans rfl, ((HB.out.cell (World.block_lt_of_cell? w _ ck)).trans ck)⟩ (fun hHeld => ?_); refine with_tabW Bp.tab5 Bp.bits5 (fun HT_ HW_ => ?_); generalize wr.drew = w20 at am af au aq HB GG16 HQ21 dC dB aV hHeld ⊢; refine pA 0 17 (bA 11 1) HT_ ?_; refine pA 2 19 (bA 11 5) HT_ ?_; refine pA 3 20 (bA 11 13) HT_ ?_; refine pA 5 22 (bA 11 45) HT_ ?_; refine tA 1 18 (bA 11 47) HT_ HW_ hHeld ?_; refine tA 4 21 (bA 11 63) HT_ HW_ hHeld ?_; refine pA 6 23 (bA 11 127) HT_ ?_; refine tA 7 24 (bA 11 255) HT_ HW_ hHeld ?_; refine pA 8 25 (bA 11 511) HT_ ?_; refine pA 9 26 (bA 11 1023) HT_ ?_; refine last_ (i := 10) (N := none) (bA 11 2047) rfl rfl (one_of HT_.out (by kernel_rfl)) (by decide) (fun K hK => ?_); refine skip_ (w1 := ?_) (by rfl) rfl ?_ ?_; rotate_left
      ·go_simp
       rfl
      refine hK.out _ _ ?_; clear hK K; refine done_ (done_of HT_.out (by kernel_rfl)) ?_; (try go_wp2)
      go_roundg k1
      case measure => have := HK1.out; omega
      case rel => exact ⟨(wrap64 (aG + 1)), (et), (.slice (some ⟨go16, 0, none⟩) ak.length dU), (by first | rfl | (simp; done) | (simp [*]; done)), H', ⟨by have := HK1.out; omega⟩, ⟨by exact rU <| HQ21.out⟩, ⟨by (with_reducible repeat (first | refine Ap ?_ _ | refine Ar ?_ | refine Aj ?_ _)); refine Bd ?_ (by have h_ := Kd.Dr am.out af.out (by decide); intro e_; exact h_ (by rw [e_]; rfl)) _; exact bU <| af.out⟩, ⟨by (with_reducible repeat (first | refine Ap ?_ _ | refine Ar ?_ | refine Aj ?_ _)); refine Bd ?_ (by have h_ := Kd.Dr am.out au.out (by decide); intro e_; exact h_ (by rw [e_]; rfl)) _; exact bU <| au.out⟩, ⟨by (with_reducible repeat (first | refine Ap ?_ _ | refine Ar ?_ | refine Aj ?_ _)); refine Bd ?_ (by have h_ := Kd.Dr am.out aq.out (by decide); intro e_; exact h_ (by rw [e_]; rfl)) _; exact bU <| aq.out⟩, ⟨by repeat (first | (with_reducible first | exact HB.out | apply Ah | apply Ae | apply Ai | refine Ag ?_ GB16.out | refine Ag ?_ aM.out | refine Ag ?_ ba.out | refine Ag ?_ cA.out) | exact HB.out)⟩⟩
     ·rw [if_neg c15] at H
      exact absurd H (by simp)
    ·rw [if_neg c14] at H
     exact absurd H (by simp)
   ·rw [if_neg c13] at H
    have dS : decide (aG < (aa.length : Int)) = false := decide_eq_false c13; clear c13
    simp only [Option.some.injEq, Prod.mk.injEq] at H
    obtain ⟨rfl, rfl, rfl⟩ := H; have dJ := aW.out; have dK := aX.out; have eW := aE.out; have eX := aY.out; have cC : wr.cell? ⟨an, 0, none⟩ = some (.int .i64 ah) := (Ad af.out 0).trans rfl; have cD : wr.cell? ⟨an, 1, none⟩ = some (.int .i64 ai) := (Ad af.out 1).trans rfl; have cE : wr.cell? ⟨an, 2, none⟩ = some (.slice aw aa.length av) := (Ad af.out 2).trans rfl; have cF := Af af.out 0; have cG := Af af.out 1; have cH := Af af.out 2; have dN := bg.out; have dO := aH.out; have cI : wr.cell? ⟨ax, 0, none⟩ = some (.int .i64 bb) := (Ad aq.out 0).trans rfl; have cJ : wr.cell? ⟨ax, 1, none⟩ = some (.int .i64 bf) := (Ad aq.out 1).trans rfl; have cK : wr.cell? ⟨ax, 2, none⟩ = some (u205002) := (Ad aq.out 2).trans rfl; have cL := Af aq.out 0; have cM := Af aq.out 1; have cN := Af aq.out 2; have cO : wr.cell? ⟨ay, 0, none⟩ = some (.int .i64 0) := (Ad au.out 0).trans rfl; have cP : wr.cell? ⟨ay, 1, none⟩ = some (.int .i64 0) := (Ad au.out 1).trans rfl; have cQ : wr.cell? ⟨ay, 2, none⟩ = some (.slice none 0 0) := (Ad au.out 2).trans rfl; have cR := Af au.out 0; have cS := Af au.out 1; have cU := Af au.out 2; obtain ⟨dX, dY, eu⟩ := Kd.B0 am.out; subst eu
    go_wp2
    refine bodyPost_ret (results_cell_row rfl _ _ ay 27 #[.int .i64 bb, .int .i64 bf, .slice dX ak.length dY] (0, 0) _ rfl (by (with_reducible repeat (first | refine Ap ?_ _ | refine Ar ?_ | refine Aj ?_ _)); refine Ax (cs := #[.int .i64 bb, .int .i64 bf, .slice none 0 0]) ?_ 2 _ rfl; (with_reducible repeat (first | refine Ap ?_ _ | refine Ar ?_ | refine Aj ?_ _)); refine Ax (cs := #[.int .i64 bb, .int .i64 0, .slice none 0 0]) ?_ 1 _ rfl; (with_reducible repeat (first | refine Ap ?_ _ | refine Ar ?_ | refine Aj ?_ _)); refine Ax (cs := #[.int .i64 0, .int .i64 0, .slice none 0 0]) ?_ 0 _ rfl; exact bU <| au.out) Try.underlying27 rfl (by kernel_rfl)) rfl ?_; exact ⟨_, by first | rfl | (simp [At, As] <;> rfl) | (simp [*, At, As] <;> rfl), by exact rU <| Kd.Bu (Kd.Bq (p := ⟨ay, 2, none⟩) (Kd.Bq (p := ⟨ay, 1, none⟩) (Kd.Bq (p := ⟨ay, 0, none⟩) (Kd.Ca am.out au.out (by decide)) (fun _ hk => hk.2) (.int .i64 bb)) (fun _ hk => hk.2) (.int .i64 bf)) (fun _ hk => hk.2) (.slice dX ak.length dY)) (fun _ hk => trivial), by repeat (first | (with_reducible first | exact HB.out | apply Ah | apply Ae | apply Ai | refine Ag ?_ aM.out | refine Ag ?_ ba.out | refine Ag ?_ cA.out) | exact HB.out)⟩

def halidelaw30_num.f (a0 : Int) : Option (Int) := some a0
set_option maxHeartbeats 8000000 in
set_option maxRecDepth 100000 in
theorem halidelaw30_num.calls (a0 : Int) (r : Int) (w : World) (h : halidelaw30_num.f a0 = some r) :
  Calls Try.prog 14 #[.int .i64 a0] w fun e w' => e = .returned (.int .i64 r) ∧ Drawn0 w w' := by
 have H : (some a0) = some r := h; clear h; obtain rfl := Option.some.inj H; go_enter Try.func14, Try.ntmps14
 go_wp2
 go_ret
 exact ⟨by first | rfl | (simp; done) | (simp [*]; done), by repeat (first | exact Drawn0.refl _ | apply Drawn0.step)⟩

end Go.Proofs.Ytbfimplajocmmaa.PFA


