/- Diffuse of the program: walked by hand over trail. -/
import Derived.Test.YtmipbbkieadecaaH9
open Go Go.RowKit Go.Proofs.YtmipbbkieadecaaW.PrintWords Go.Proofs.YtmipbbkieadecaaW.PrintLast Go.Proofs.YtmipbbkieadecaaW.PrintMore
set_option linter.unusedVariables false
set_option linter.unusedSimpArgs false
namespace Go.Proofs.Ytmipbbkieadecaa
open PDA PDB

def dither_Diffuse.f (a0_0 a0_1 : Int) (l0_2 : List Int) (a1 : Int) : Option (Int × Int × List Int × Int × Int) :=
  (dither_levels.f a1).bind fun b => if b = true then
    (plane_Check.f a0_0 a0_1 l0_2).bind fun e => if e = 0 then
      (allT a1 l0_2 a0_0.toNat a0_1.toNat 0 (fun _ => 0) 0 []).bind fun q => some (a0_0, a0_1, q.2.2, lastT q.1 a0_0.toNat 0 q.2.1, 0)
    else some (0, 0, [], 0, e)
  else some (0, 0, [], 0, 130)

set_option maxHeartbeats 8000000 in
set_option maxRecDepth 100000 in
theorem dither_Diffuse.calls (a0_0 a0_1 : Int) (A0_2 : Option Addr) (c0_2 : Nat) (l0_2 : List Int) (a1 : Int) (r1 r2 : Int) (r3 : List Int) (r4 r5 : Int) (w : World) (hr0_2 : Kd.C (Kd.int .u32) w A0_2 l0_2.length l0_2) (hc0_2 : l0_2.length ≤ c0_2) (h : dither_Diffuse.f a0_0 a0_1 l0_2 a1 = some (r1, r2, r3, r4, r5)) :
    Calls Try.prog 23 #[.agg #[.int .i64 a0_0, .int .i64 a0_1, .slice A0_2 l0_2.length c0_2], .int .i64 a1] w fun e w' => ∃ v2_ : Value, e = .returned (.tuple #[.agg #[.int .i64 r1, .int .i64 r2, v2_], .int .i64 r4, .int .i64 r5]) ∧ Kd.R (Kd.int .u32) 48 w' w.heap.size (fun _ => True) v2_ r3 ∧ Below w.heap.size w w' := by
  unfold dither_Diffuse.f at h
  replace h := Option.bind_eq_some_iff.mp h
  obtain ⟨b1, hb1, h⟩ := h
  have hbx : (((w.alloc (.cells #[.int .i64 a0_0, .int .i64 a0_1, .slice A0_2 l0_2.length c0_2] 35)).alloc (.cells #[.int .i64 a1] 3)).alloc (.cells #[.int .i64 0, .int .i64 0, .slice none 0 0] 35)).heap[w.heap.size]? = some (.cells #[.int .i64 a0_0, .int .i64 a0_1, .slice A0_2 l0_2.length c0_2] 35 (0, 0)) := blk_alloc (blk_alloc (bnew' _) _) _
  have hbn : (((w.alloc (.cells #[.int .i64 a0_0, .int .i64 a0_1, .slice A0_2 l0_2.length c0_2] 35)).alloc (.cells #[.int .i64 a1] 3)).alloc (.cells #[.int .i64 0, .int .i64 0, .slice none 0 0] 35)).heap[w.heap.size + 1]? = some (.cells #[.int .i64 a1] 3 (0, 0)) := blk_alloc (bnew2 _ _) _
  have hzr : (((w.alloc (.cells #[.int .i64 a0_0, .int .i64 a0_1, .slice A0_2 l0_2.length c0_2] 35)).alloc (.cells #[.int .i64 a1] 3)).alloc (.cells #[.int .i64 0, .int .i64 0, .slice none 0 0] 35)).heap[w.heap.size + 2]? = some (.cells #[.int .i64 0, .int .i64 0, .slice none 0 0] 35 (0, 0)) := by
    have := bnew2 (w := w.alloc (.cells #[.int .i64 a0_0, .int .i64 a0_1, .slice A0_2 l0_2.length c0_2] 35)) (.cells #[.int .i64 a1] 3) (.cells #[.int .i64 0, .int .i64 0, .slice none 0 0] 35)
    simpa using this
  have hbw : Below w.heap.size w (((w.alloc (.cells #[.int .i64 a0_0, .int .i64 a0_1, .slice A0_2 l0_2.length c0_2] 35)).alloc (.cells #[.int .i64 a1] 3)).alloc (.cells #[.int .i64 0, .int .i64 0, .slice none 0 0] 35)) := below_alloc (below_alloc (below_alloc (Below.refl _ _) _) _) _
  have HBX := Aside0.mk hbx
  have HBN := Aside0.mk hbn
  have HZR := Aside0.mk hzr
  have HBW := Aside0.mk hbw
  clear hbx hbn hzr hbw
  cases b1 with
  | false =>
    simp only [Bool.false_eq_true, if_false, Option.some.injEq, Prod.mk.injEq] at h
    obtain ⟨rfl, rfl, rfl, rfl, rfl⟩ := h
    clear hr0_2 hc0_2
    go_enter Try.func23, Try.ntmps23
    go_wp2_with fail
    refine (dither_levels.calls _ false _ hb1).mono ?_
    rintro e w1 ⟨rfl, ⟨nd, rfl⟩⟩
    go_wp2
    refine bodyPost_ret (results_ctt rfl _ _ (w.heap.size + 2) 35 #[.int .i64 0, .int .i64 0, .slice none 0 0] (0, 0) _ rfl ?_ Try.underlying35 rfl (by kernel_rfl)) rfl ?_
    · exact put3 (blk_drewN HZR.out nd)
    · exact ⟨_, rfl, Kd.R_nil _ _ _ _ _, below3 (below_drewN HBW.out nd) (by omega)⟩
  | true =>
    rw [if_pos rfl] at h
    replace h := Option.bind_eq_some_iff.mp h
    obtain ⟨e, he, h⟩ := h
    by_cases he0 : e = 0
    · rw [if_pos he0] at h
      subst he0
      replace h := Option.bind_eq_some_iff.mp h
      obtain ⟨⟨F, fall, out⟩, hq, h⟩ := h
      simp only [Option.some.injEq, Prod.mk.injEq] at h
      obtain ⟨rfl, rfl, rfl, rfl, rfl⟩ := h
      obtain ⟨q1, q2, q3, q4, q5, q6⟩ := check_zero he
      obtain ⟨W, rfl⟩ := Int.eq_ofNat_of_zero_le (show 0 ≤ a0_0 by omega)
      obtain ⟨H, rfl⟩ := Int.eq_ofNat_of_zero_le (show 0 ≤ a0_1 by omega)
      rw [Int.toNat_natCast, Int.toNat_natCast] at hq
      rw [Int.toNat_natCast]
      have HQ := Aside0.mk hq
      have HE := Aside0.mk he
      obtain ⟨last, hlast⟩ : ∃ last, last = lastT F W 0 fall := ⟨_, rfl⟩
      rw [← hlast]
      have HLAST := Aside0.mk hlast
      clear q5 q6 hq he hlast
      have p0 : (((w.alloc (.cells #[.int .i64 W, .int .i64 H, .slice A0_2 l0_2.length c0_2] 35)).alloc (.cells #[.int .i64 a1] 3)).alloc (.cells #[.int .i64 0, .int .i64 0, .slice none 0 0] 35)).cell? ⟨w.heap.size + 1, 0, none⟩ = some (.int .i64 a1) := (blk_cell HBN.out 0).trans rfl
      go_enter Try.func23, Try.ntmps23
      go_wp2_with fail
      refine (dither_levels.calls _ true _ hb1).mono ?_
      rintro e w1 ⟨rfl, ⟨nd, rfl⟩⟩
      have x0 : (((w.alloc (.cells #[.int .i64 W, .int .i64 H, .slice A0_2 l0_2.length c0_2] 35)).alloc (.cells #[.int .i64 a1] 3)).alloc (.cells #[.int .i64 0, .int .i64 0, .slice none 0 0] 35)).cell? ⟨w.heap.size, 0, none⟩ = some (.int .i64 W) := (blk_cell HBX.out 0).trans rfl
      have x1 : (((w.alloc (.cells #[.int .i64 W, .int .i64 H, .slice A0_2 l0_2.length c0_2] 35)).alloc (.cells #[.int .i64 a1] 3)).alloc (.cells #[.int .i64 0, .int .i64 0, .slice none 0 0] 35)).cell? ⟨w.heap.size, 1, none⟩ = some (.int .i64 H) := (blk_cell HBX.out 1).trans rfl
      have x2 : (((w.alloc (.cells #[.int .i64 W, .int .i64 H, .slice A0_2 l0_2.length c0_2] 35)).alloc (.cells #[.int .i64 a1] 3)).alloc (.cells #[.int .i64 0, .int .i64 0, .slice none 0 0] 35)).cell? ⟨w.heap.size, 2, none⟩ = some (.slice A0_2 l0_2.length c0_2) := (blk_cell HBX.out 2).trans rfl
      go_wp2_with fail
      refine (plane_Check.calls _ _ A0_2 c0_2 l0_2 0 _ (Kd.C_drewN (Kd.C_below hr0_2 HBW.out) nd) hc0_2 HE.out).mono ?_
      rintro e w1 ⟨rfl, hb⟩
      have HB := Aside0.mk (below_step (below_drewN HBW.out nd) hb)
      have HZ := Aside0.mk (blk_below (blk_drewN HZR.out nd) hb)
      have HX := Aside0.mk (blk_below (blk_drewN HBX.out nd) hb)
      have HN := Aside0.mk (blk_below (blk_drewN HBN.out nd) hb)
      clear HBW HBX HZR HBN hb p0 x0 x1 x2
      have x0 : w1.cell? ⟨w.heap.size, 0, none⟩ = some (.int .i64 W) := (blk_cell HX.out 0).trans rfl
      have x1 : w1.cell? ⟨w.heap.size, 1, none⟩ = some (.int .i64 H) := (blk_cell HX.out 1).trans rfl
      have x2 : w1.cell? ⟨w.heap.size, 2, none⟩ = some (.slice A0_2 l0_2.length c0_2) := (blk_cell HX.out 2).trans rfl
      have y0 : ∀ o, (w1.alloc o).cell? ⟨w.heap.size, 0, none⟩ = some (.int .i64 W) := fun o => (blk_cell (blk_alloc HX.out o) 0).trans rfl
      have y1 : ∀ o, (w1.alloc o).cell? ⟨w.heap.size, 1, none⟩ = some (.int .i64 H) := fun o => (blk_cell (blk_alloc HX.out o) 1).trans rfl
      have y2 : ∀ o, (w1.alloc o).cell? ⟨w.heap.size, 2, none⟩ = some (.slice A0_2 l0_2.length c0_2) := fun o => (blk_cell (blk_alloc HX.out o) 2).trans rfl
      have y3 : ∀ o, (w1.alloc o).cell? ⟨w.heap.size + 1, 0, none⟩ = some (.int .i64 a1) := fun o => (blk_cell (blk_alloc HN.out o) 0).trans rfl
      have hlt := blk_lt HZ.out
      go_wp2_with fail
      refine (trail (w.heap.size + 1) (w.heap.size + 2) w1.heap.size w _ a1 W H A0_2 c0_2 l0_2 (.slice none 0 0) #[.int .i64 0, .int .i64 0, .slice none 0 0] F fall out hr0_2 hc0_2 hb1 HE.out HQ.out (blk_alloc HN.out _) (blk_alloc HZ.out _) (bnew' _) (Kd.R_nil _ _ _ _ _) (below_alloc HB.out _) (by omega) (by omega)).mono ?_
      rintro e w2 ⟨rfl, u', f1, f2, f3, f4⟩
      clear x0 x1 x2 y0 y1 y2 y3
      rw [← HLAST.out]
      obtain ⟨Ao, co, rfl⟩ := Kd.R_slice f3
      generalize w1.heap.size = gq at f1 hlt ⊢
      have k0 : w2.cell? ⟨gq, 0, none⟩ = some (.int .i64 W) := (blk_cell f1 0).trans rfl
      have k1 : w2.cell? ⟨gq, 1, none⟩ = some (.int .i64 H) := (blk_cell f1 1).trans rfl
      have k2 : w2.cell? ⟨gq, 2, none⟩ = some (.slice Ao out.length co) := (blk_cell f1 2).trans rfl
      have m0 : w2.cell? ⟨w.heap.size + 2, 0, none⟩ = some (.int .i64 0) := (blk_cell f2 0).trans rfl
      have m1 : w2.cell? ⟨w.heap.size + 2, 1, none⟩ = some (.int .i64 0) := (blk_cell f2 1).trans rfl
      have m2 : w2.cell? ⟨w.heap.size + 2, 2, none⟩ = some (.slice none 0 0) := (blk_cell f2 2).trans rfl
      have g0 := blk_frozen f2 0
      have g1 := blk_frozen f2 1
      have g2 := blk_frozen f2 2
      have O2 := Aside0.mk f2
      have O8 := Aside0.mk f3
      have O9 := Aside0.mk f4
      clear f1 f2 f3 f4
      go_wp2
      refine bodyPost_ret (results_ctt rfl _ _ (w.heap.size + 2) 35 #[.int .i64 W, .int .i64 H, .slice Ao out.length co] (0, 0) _ rfl ?_ Try.underlying35 rfl (by kernel_rfl)) rfl ?_
      · exact blk_put (blk_put (blk_put O2.out 0 _ rfl) 1 _ rfl) 2 _ rfl
      · refine ⟨_, rfl, ?_, below3 O9.out (by omega)⟩
        have h1 := Kd.R_set O8.out O2.out (by decide) 0 (.int .i64 W)
        have b1 := blk_put O2.out 0 (.int .i64 W) rfl
        have h2 := Kd.R_set h1 b1 (by decide) 1 (.int .i64 H)
        have b2 := blk_put b1 1 (.int .i64 H) rfl
        exact Kd.R_set h2 b2 (by decide) 2 (.slice Ao out.length co)
    · rw [if_neg he0] at h
      simp only [Option.some.injEq, Prod.mk.injEq] at h
      obtain ⟨rfl, rfl, rfl, rfl, rfl⟩ := h
      have he0b : (e == 0) = false := beq_eq_false_iff_ne.mpr he0
      have he0c : (e != 0) = true := bne_iff_ne.mpr he0
      have p0 : (((w.alloc (.cells #[.int .i64 a0_0, .int .i64 a0_1, .slice A0_2 l0_2.length c0_2] 35)).alloc (.cells #[.int .i64 a1] 3)).alloc (.cells #[.int .i64 0, .int .i64 0, .slice none 0 0] 35)).cell? ⟨w.heap.size + 1, 0, none⟩ = some (.int .i64 a1) := (blk_cell HBN.out 0).trans rfl
      go_enter Try.func23, Try.ntmps23
      go_wp2_with fail
      refine (dither_levels.calls _ true _ hb1).mono ?_
      rintro e w1 ⟨rfl, ⟨nd, rfl⟩⟩
      have x0 : (((w.alloc (.cells #[.int .i64 a0_0, .int .i64 a0_1, .slice A0_2 l0_2.length c0_2] 35)).alloc (.cells #[.int .i64 a1] 3)).alloc (.cells #[.int .i64 0, .int .i64 0, .slice none 0 0] 35)).cell? ⟨w.heap.size, 0, none⟩ = some (.int .i64 a0_0) := (blk_cell HBX.out 0).trans rfl
      have x1 : (((w.alloc (.cells #[.int .i64 a0_0, .int .i64 a0_1, .slice A0_2 l0_2.length c0_2] 35)).alloc (.cells #[.int .i64 a1] 3)).alloc (.cells #[.int .i64 0, .int .i64 0, .slice none 0 0] 35)).cell? ⟨w.heap.size, 1, none⟩ = some (.int .i64 a0_1) := (blk_cell HBX.out 1).trans rfl
      have x2 : (((w.alloc (.cells #[.int .i64 a0_0, .int .i64 a0_1, .slice A0_2 l0_2.length c0_2] 35)).alloc (.cells #[.int .i64 a1] 3)).alloc (.cells #[.int .i64 0, .int .i64 0, .slice none 0 0] 35)).cell? ⟨w.heap.size, 2, none⟩ = some (.slice A0_2 l0_2.length c0_2) := (blk_cell HBX.out 2).trans rfl
      go_wp2_with fail
      refine (plane_Check.calls _ _ A0_2 c0_2 l0_2 e _ (Kd.C_drewN (Kd.C_below hr0_2 HBW.out) nd) hc0_2 he).mono ?_
      rintro e w1 ⟨rfl, hb⟩
      have HB := Aside0.mk (below_step (below_drewN HBW.out nd) hb)
      have b1 := blk_below (blk_drewN HZR.out nd) hb
      clear HBW HBX HZR HBN hb p0 x0 x1 x2
      have B1 := Aside0.mk b1
      have m0 : w1.cell? ⟨w.heap.size + 2, 0, none⟩ = some (.int .i64 0) := (blk_cell b1 0).trans rfl
      have m1 : w1.cell? ⟨w.heap.size + 2, 1, none⟩ = some (.int .i64 0) := (blk_cell b1 1).trans rfl
      have m2 : w1.cell? ⟨w.heap.size + 2, 2, none⟩ = some (.slice none 0 0) := (blk_cell b1 2).trans rfl
      have g0 := blk_frozen b1 0
      have g1 := blk_frozen b1 1
      have g2 := blk_frozen b1 2
      clear b1
      go_wp2
      refine bodyPost_ret (results_ctt rfl _ _ (w.heap.size + 2) 35 #[.int .i64 0, .int .i64 0, .slice none 0 0] (0, 0) _ rfl ?_ Try.underlying35 rfl (by kernel_rfl)) rfl ?_
      · exact put3 B1.out
      · exact ⟨_, rfl, Kd.R_nil _ _ _ _ _, below3 HB.out (by omega)⟩
end Go.Proofs.Ytmipbbkieadecaa
