/- trail of the program, handed Diffuse's inner function: the walk. -/
import Derived.Test.YtmipbbkieadecaaH8
open Go Go.RowKit Go.Proofs.YtmipbbkieadecaaW.PrintWords Go.Proofs.YtmipbbkieadecaaW.PrintLast Go.Proofs.YtmipbbkieadecaaW.PrintMore
set_option linter.unusedVariables false
set_option linter.unusedSimpArgs false
namespace Go.Proofs.Ytmipbbkieadecaa
open PDA PDB

section
variable {w0 wx w1 : World} {bn br gq B gh gb m : Nat} {n : Int} {W H : Int} {V : Value} {cs : Array Value} {F G : Nat → Int} {out : List Int}
theorem TR_below (h : TR w0 bn br gq B gh gb n W H V cs m F G out wx) (hb : Below wx.heap.size wx w1) : TR w0 bn br gq B gh gb n W H V cs m F G out w1 := by
  obtain ⟨⟨u, e1, e2⟩, h2, h3, h4, h5, h6, h7⟩ := h
  exact ⟨⟨u, blk_below e1 hb, Kd.R_below e2 hb⟩, blk_below h2 hb, blk_below h3 hb, blk_below h4 hb, blk_below h5 hb, blk_below h6 hb, below_step h7 hb⟩
theorem TR_start {u : Value} (e1 : wx.heap[gq]? = some (.cells #[.int .i64 W, .int .i64 H, u] 35 (0, 0))) (e2 : Kd.R (Kd.int .u32) 48 wx w0.heap.size (fun _ => True) u out)
    (hB : wx.heap[B]? = some (.cells #[.int .i64 W, .int .i64 H, V] 35 (0, 0))) (hn : wx.heap[bn]? = some (.cells #[.int .i64 n] 3 (0, 0))) (hr : wx.heap[br]? = some (.cells cs 35 (0, 0))) (bl : Below w0.heap.size w0 wx) :
    TR w0 bn br gq B wx.heap.size (wx.heap.size + 1) n W H V cs m (fun _ => 0) (fun _ => 0) out ((wx.alloc (.cells (arrN m fun _ => 0) 3)).alloc (.cells (arrN m fun _ => 0) 3)).drew ∧
    TR w0 bn br gq B (wx.heap.size + 1) wx.heap.size n W H V cs m (fun _ => 0) (fun _ => 0) out ((wx.alloc (.cells (arrN m fun _ => 0) 3)).alloc (.cells (arrN m fun _ => 0) 3)).drew := by
  have hb : Below wx.heap.size wx ((wx.alloc (.cells (arrN m fun _ => 0) 3)).alloc (.cells (arrN m fun _ => 0) 3)).drew := below_drew (below_alloc (below_alloc (Below.refl _ _) _) _)
  have n1 : ((wx.alloc (.cells (arrN m fun _ => 0) 3)).alloc (.cells (arrN m fun _ => 0) 3)).drew.heap[wx.heap.size]? = some (.cells (arrN m fun _ => 0) 3 (0, 0)) := blk_drew (blk_alloc (bnew' _) _)
  have n2 : ((wx.alloc (.cells (arrN m fun _ => 0) 3)).alloc (.cells (arrN m fun _ => 0) 3)).drew.heap[wx.heap.size + 1]? = some (.cells (arrN m fun _ => 0) 3 (0, 0)) := blk_drew (bnew2 _ _)
  exact ⟨⟨⟨u, blk_below e1 hb, Kd.R_below e2 hb⟩, blk_below hB hb, blk_below hn hb, blk_below hr hb, n1, n2, below_step bl hb⟩, ⟨⟨u, blk_below e1 hb, Kd.R_below e2 hb⟩, blk_below hB hb, blk_below hn hb, blk_below hr hb, n2, n1, below_step bl hb⟩⟩
theorem TR_here (h : TR w0 bn br gq B gh gb n W H V cs m F G out wx) (h1 : gh ≠ gb) (h2 : gh ≠ bn) (hw : w0.heap.size ≤ gh) (j : Nat) (v : Int) :
    TR w0 bn br gq B gh gb n W H V cs m (upd F j v) G out (wx.setCell ⟨gh, j, none⟩ (.int .i64 v)) := by
  obtain ⟨⟨u, e1, e2⟩, k2, k3, k4, k5, k6, k7⟩ := h
  have a1 : gq ≠ gh := fun e => by subst e; rw [e1] at k5; injection k5 with k5; injection k5 with _ k5; cases k5
  have a2 : B ≠ gh := fun e => by subst e; rw [k2] at k5; injection k5 with k5; injection k5 with _ k5; cases k5
  have a4 : br ≠ gh := fun e => by subst e; rw [k4] at k5; injection k5 with k5; injection k5 with _ k5; cases k5
  exact ⟨⟨u, blk_far e1 a1 _, Kd.R_set e2 k5 (by decide) j _⟩, blk_far k2 a2 _, blk_far k3 (fun e => h2 e.symm) _, blk_far k4 a4 _, blk_put k5 j _ (arrN_set m F j v), blk_far k6 (fun e => h1 e.symm) _, k7.setCell hw _⟩
theorem TR_next (h : TR w0 bn br gq B gh gb n W H V cs m F G out wx) (h1 : gh ≠ gb) (h2 : gb ≠ bn) (hw : w0.heap.size ≤ gb) (j : Nat) (v : Int) :
    TR w0 bn br gq B gh gb n W H V cs m F (upd G j v) out (wx.setCell ⟨gb, j, none⟩ (.int .i64 v)) := by
  obtain ⟨⟨u, e1, e2⟩, k2, k3, k4, k5, k6, k7⟩ := h
  have a1 : gq ≠ gb := fun e => by subst e; rw [e1] at k6; injection k6 with k6; injection k6 with _ k6; cases k6
  have a2 : B ≠ gb := fun e => by subst e; rw [k2] at k6; injection k6 with k6; injection k6 with _ k6; cases k6
  have a4 : br ≠ gb := fun e => by subst e; rw [k4] at k6; injection k6 with k6; injection k6 with _ k6; cases k6
  exact ⟨⟨u, blk_far e1 a1 _, Kd.R_set e2 k6 (by decide) j _⟩, blk_far k2 a2 _, blk_far k3 (fun e => h2 e.symm) _, blk_far k4 a4 _, blk_far k5 h1 _, blk_put k6 j _ (arrN_set m G j v), k7.setCell hw _⟩
theorem TR_turn (h : TR w0 bn br gq B gh gb n W H V cs m F G out wx) :
    TR w0 bn br gq B gb wx.heap.size n W H V cs m G (fun _ => 0) out (wx.alloc (.cells (arrN m fun _ => 0) 3)) := by
  obtain ⟨⟨u, e1, e2⟩, k2, k3, k4, k5, k6, k7⟩ := h
  exact ⟨⟨u, blk_alloc e1 _, Kd.R_alloc e2 _⟩, blk_alloc k2 _, blk_alloc k3 _, blk_alloc k4 _, blk_alloc k6 _, bnew' _, below_then k7 k7.size (below_alloc (Below.refl _ _) _)⟩
theorem TR_drew (h : TR w0 bn br gq B gh gb n W H V cs m F G out wx) : TR w0 bn br gq B gh gb n W H V cs m F G out wx.drew := TR_below h (below_drew (Below.refl _ _))
theorem told_TR (h : TR w0 bn br gq B gh gb n W H V cs m F G out wx) (hgq : w0.heap.size ≤ gq) (hbr : br ≠ gq) (hlen : out.length ≤ 65536) (i v k e s e2 : Int) (hl : dither_Level.f n k = some (s, e2)) (hBq : B ≠ gq) :
    Calls Try.prog 49 #[.int .i64 i, .agg #[.int .i64 v, .int .i64 k, .int .i64 e], .pointer (some ⟨bn, 0, none⟩), .pointer (some ⟨gq, 0, none⟩)] wx fun en w' => en = .returned (.bool true) ∧ TR w0 bn br gq B gh gb n W H V cs m F G (out ++ [s]) w' := by
  obtain ⟨⟨u, e1, r1⟩, k2, k3, k4, k5, k6, k7⟩ := h
  refine (told w0.heap.size bn gq w0 wx n i v k e W H u out s e2 k3 e1 r1 k7 k7.size hgq hlen hl).mono ?_
  rintro en w' ⟨rfl, u', f1, f2, f3, f4, f5⟩
  have a3 : bn ≠ gq := fun e => by subst e; rw [e1] at k3; injection k3 with k3; injection k3 with _ k3; cases k3
  have a5 : gh ≠ gq := fun e => by subst e; rw [e1] at k5; injection k5 with k5; injection k5 with _ k5; cases k5
  have a6 : gb ≠ gq := fun e => by subst e; rw [e1] at k6; injection k6 with k6; injection k6 with _ k6; cases k6
  exact ⟨rfl, ⟨u', f1, f2⟩, (f5 B (blk_lt k2) hBq (Kd.R_ne r1 k2 (by decide))).trans k2, (f5 bn (blk_lt k3) a3 (Kd.R_ne r1 k3 (by decide))).trans k3, (f5 br (blk_lt k4) hbr (Kd.R_ne r1 k4 (by decide))).trans k4, (f5 gh (blk_lt k5) a5 (Kd.R_ne r1 k5 (by decide))).trans k5, (f5 gb (blk_lt k6) a6 (Kd.R_ne r1 k6 (by decide))).trans k6, f3⟩
end
theorem idx_lt' {W H y x : Nat} (hy : y < H) (hx : x < W) : y * W + x < H * W := by
  have h1 : (y + 1) * W ≤ H * W := Nat.mul_le_mul_right W hy
  have h2 : (y + 1) * W = y * W + W := Nat.succ_mul y W
  omega
theorem allT_step {n : Int} {l : List Int} {W H y : Nat} {F : Nat → Int} {fall : Int} {out : List Int} {R : (Nat → Int) × Int × List Int} (h : allT n l W (H - y) y F fall out = some R) (hy : y < H) :
    ∃ q, rowT n l (y * W) W 0 F (fun _ => 0) out = some q ∧ allT n l W (H - (y + 1)) (y + 1) (upd (upd q.2.1 0 0) (W + 1) 0) (wrap64 (wrap64 (fall + wrap64 (q.1 (W + 1) + q.2.1 0)) + upd q.2.1 0 0 (W + 1))) q.2.2 = some R := by
  rw [show H - y = (H - (y + 1)) + 1 by omega] at h
  unfold allT at h
  exact Option.bind_eq_some_iff.mp h
theorem rowT_step {n : Int} {l : List Int} {base W x : Nat} {F G : Nat → Int} {out : List Int} {R : (Nat → Int) × (Nat → Int) × List Int} (h : rowT n l base (W - x) x F G out = some R) (hx : x < W) :
    ∃ q, px n F G x (l.getD (base + x) 0) = some q ∧ rowT n l base (W - (x + 1)) (x + 1) q.1 q.2.1 (out ++ [q.2.2]) = some R := by
  rw [show W - x = (W - (x + 1)) + 1 by omega] at h
  unfold rowT at h
  exact Option.bind_eq_some_iff.mp h

set_option maxHeartbeats 8000000 in
set_option maxRecDepth 100000 in
theorem trail (bn br gq : Nat) (w0 w : World) (n : Int) (W H : Nat) (A : Option Addr) (c : Nat) (l : List Int) (u0 : Value) (cs : Array Value) (F : Nat → Int) (fall : Int) (out : List Int)
    (hC : Kd.C (Kd.int .u32) w0 A l.length l) (hc : l.length ≤ c) (hlev : dither_levels.f n = some true) (hchk : plane_Check.f W H l = some 0) (hall : allT n l W H 0 (fun _ => 0) 0 [] = some (F, fall, out))
    (hbn : w.heap[bn]? = some (.cells #[.int .i64 n] 3 (0, 0))) (hbr : w.heap[br]? = some (.cells cs 35 (0, 0))) (hgq : w.heap[gq]? = some (.cells #[.int .i64 W, .int .i64 H, u0] 35 (0, 0)))
    (hR : Kd.R (Kd.int .u32) 48 w w0.heap.size (fun _ => True) u0 []) (hB : Below w0.heap.size w0 w) (hbq : br ≠ gq) (hgb : w0.heap.size ≤ gq) :
    Calls Try.prog 48 #[.agg #[.int .i64 W, .int .i64 H, .slice A l.length c], .int .i64 n, .func (.func 49) #[] #[.pointer (some ⟨bn, 0, none⟩), .pointer (some ⟨gq, 0, none⟩)]] w fun en w' => en = .returned (.int .i64 (lastT F W 0 fall)) ∧
      ∃ u', w'.heap[gq]? = some (.cells #[.int .i64 W, .int .i64 H, u'] 35 (0, 0)) ∧ w'.heap[br]? = some (.cells cs 35 (0, 0)) ∧ Kd.R (Kd.int .u32) 48 w' w0.heap.size (fun _ => True) u' out ∧ Below w0.heap.size w0 w' := by
  obtain ⟨q1, q2, q3, q4, q5, q6⟩ := check_zero hchk
  have lenW : l.length = W * H := by rw [← Int.natCast_mul] at q6; omega
  have areaW : W * H ≤ 65536 := by rw [← Int.natCast_mul] at q5; omega
  have hmk : ∀ W0 : World, (Instr.makeSlice 31 (.int .i64 ((W : Int) + 2)) (.int .i64 ((W : Int) + 2))).run Try.prog W0 = .ok (.slice (some ⟨W0.heap.size, 0, none⟩) (W + 2) (W + 2)) (W0.alloc (.cells (arrN (W + 2) (fun _ => 0)) 3)) := by
    intro W0
    obtain ⟨i0, hi, hzz⟩ := Option.map_eq_some_iff.1 info3
    simp only [Prod.mk.injEq] at hzz
    obtain ⟨hz0, hz1, hz2⟩ := hzz
    have h := run_make (P := Try.prog) W0 31 3 i0 _ Try.underlying31 hi hz0 .i64 .i64 ((W : Int) + 2) ((W : Int) + 2) (by omega) (by omega) (by rw [hz2]; omega) (by omega)
    rw [hz1, Nat.mul_one, show ((W : Int) + 2).toNat = W + 2 by omega, made_arrN] at h
    exact h
  have hbx : (w.alloc (.cells #[.int .i64 W, .int .i64 H, .slice A l.length c] 35)).heap[w.heap.size]? = some (.cells #[.int .i64 W, .int .i64 H, .slice A l.length c] 35 (0, 0)) := bnew' _
  have hbw : Below w0.heap.size w0 (w.alloc (.cells #[.int .i64 W, .int .i64 H, .slice A l.length c] 35)) := below_then hB hB.size (below_alloc (Below.refl _ _) _)
  have hpl := plane_Check.calls (W : Int) H A c l 0
  have LEN := Aside0.mk lenW
  have AREA := Aside0.mk areaW
  have HALL := Aside0.mk hall
  have HBN := Aside0.mk (blk_alloc hbn (.cells #[.int .i64 W, .int .i64 H, .slice A l.length c] 35))
  have HBR := Aside0.mk (blk_alloc hbr (.cells #[.int .i64 W, .int .i64 H, .slice A l.length c] 35))
  have HGQ := Aside0.mk (blk_alloc hgq (.cells #[.int .i64 W, .int .i64 H, .slice A l.length c] 35))
  have HR0 := Aside0.mk (Kd.R_alloc hR (.cells #[.int .i64 W, .int .i64 H, .slice A l.length c] 35))
  have HCHK := Aside0.mk hchk
  have HBX := Aside0.mk hbx
  have HBW := Aside0.mk hbw
  have LT1 := blk_lt hbn
  have LT2 := blk_lt hbr
  have LT3 := blk_lt hgq
  have LT0 := hB.size
  clear q5 q6 lenW areaW hall hchk hbx hbw hbn hbr hgq hR hB
  go_enter Try.func48, Try.ntmps48
  go_wp2_with fail
  refine (dither_levels.calls _ true _ hlev).mono ?_
  rintro e w1 ⟨rfl, ⟨nd, rfl⟩⟩
  have p0 : (w.alloc (.cells #[.int .i64 W, .int .i64 H, .slice A l.length c] 35)).cell? ⟨w.heap.size, 0, none⟩ = some (.int .i64 W) := (blk_cell HBX.out 0).trans rfl
  have p1 : (w.alloc (.cells #[.int .i64 W, .int .i64 H, .slice A l.length c] 35)).cell? ⟨w.heap.size, 1, none⟩ = some (.int .i64 H) := (blk_cell HBX.out 1).trans rfl
  have p2 : (w.alloc (.cells #[.int .i64 W, .int .i64 H, .slice A l.length c] 35)).cell? ⟨w.heap.size, 2, none⟩ = some (.slice A l.length c) := (blk_cell HBX.out 2).trans rfl
  go_wp2_with fail
  refine (hpl _ (Kd.C_drewN (Kd.C_below hC HBW.out) nd) hc HCHK.out).mono ?_
  rintro e w1 ⟨rfl, hb⟩
  have n0_ := Aside0.mk (blk_below (blk_drewN HBN.out nd) hb)
  have n1_ := Aside0.mk (blk_below (blk_drewN HBR.out nd) hb)
  have n2_ := Aside0.mk (blk_below (blk_drewN HGQ.out nd) hb)
  have n3_ := Aside0.mk (Kd.R_below (Kd.R_drewN HR0.out nd) hb)
  have n4_ := Aside0.mk (blk_below (blk_drewN HBX.out nd) hb)
  have n5_ := Aside0.mk (below_then (below_drewN HBW.out nd) (by simp; omega) hb)
  clear HBN HBR HGQ HR0 HBX HBW hb p0 p1 p2 hpl
  have HBN := n0_
  have HBR := n1_
  have HGQ := n2_
  have HR0 := n3_
  have HBX := n4_
  have HBW := n5_
  clear n0_ n1_ n2_ n3_ n4_ n5_
  have p0 : w1.cell? ⟨w.heap.size, 0, none⟩ = some (.int .i64 W) := (blk_cell HBX.out 0).trans rfl
  have p1 : w1.cell? ⟨w.heap.size, 1, none⟩ = some (.int .i64 H) := (blk_cell HBX.out 1).trans rfl
  have hw2 : IntKind.i64.wrap ((W : Int) + 2) = (W : Int) + 2 := by rw [IntKind.wrap_i64]; omega
  have LTB := blk_lt HBX.out
  obtain ⟨B, hBB⟩ : ∃ B, B = w.heap.size := ⟨_, rfl⟩
  rw [← hBB] at LT1 LT2 LT3 LT0 p0 p1 HBX LTB ⊢
  clear hBB
  have T1 := Aside0.mk (TR_start HGQ.out HR0.out HBX.out HBN.out HBR.out HBW.out (m := W + 2)).1
  have T2 := Aside0.mk (TR_start HGQ.out HR0.out HBX.out HBN.out HBR.out HBW.out (m := W + 2)).2
  go_upto_region 3 with fail
  go_cut [7, 8, 9] (fun s7 s8 s9 wx => ∃ gh gb : Nat, s7 = .slice (some ⟨gh, 0, none⟩) (W + 2) (W + 2) ∧ s8 = .slice (some ⟨gb, 0, none⟩) (W + 2) (W + 2) ∧ s9 = .int .i64 0 ∧ gh ≠ gb ∧ B < gh ∧ B < gb ∧ TR w0 bn br gq B gh gb n W H (.slice A l.length c) cs (W + 2) (fun _ => 0) (fun _ => 0) [] wx)
  case first =>
    go_region_held3 (fun w' => w'.cell? ⟨B, 0, none⟩ = some (.int .i64 W) ∧ w'.cell? ⟨B, 1, none⟩ = some (.int .i64 H)) (go_keep) (fail)
    all_goals (go_wp2_with fail; go_meet)
    · exact ⟨_, _, rfl, rfl, rfl, by omega, LTB, by omega, T1.out⟩
    · exact ⟨_, _, rfl, rfl, rfl, by omega, by omega, LTB, T2.out⟩
  case rest =>
    obtain ⟨gh, gb, rfl, rfl, rfl, hne, ltg, ltb, hT⟩ := hcut
    clear T1 T2 HBN HBR HGQ HR0 HBX HBW p0 p1 LTB
    have p1 : wc.cell? ⟨B, 1, none⟩ = some (.int .i64 H) := (blk_cell hT.hB 1).trans rfl
    have HT := Aside0.mk hT
    clear hT
    go_wp2
    clear p1
    go_loopw [7, 8, 9, 38] (fun v7 v8 v9 v38 wr => ∃ (y gh gb : Nat) (F1 : Nat → Int) (fall1 : Int) (out1 : List Int), y ≤ H ∧ v38 = .int .i64 y ∧ v7 = .slice (some ⟨gh, 0, none⟩) (W + 2) (W + 2) ∧ v8 = .slice (some ⟨gb, 0, none⟩) (W + 2) (W + 2) ∧ v9 = .int .i64 fall1 ∧ gh ≠ gb ∧ B < gh ∧ B < gb ∧
      Aside0 (allT n l W (H - y) y F1 fall1 out1 = some (F, fall, out)) ∧ Aside0 (out1.length = y * W) ∧ Aside0 (TR w0 bn br gq B gh gb n W H (.slice A l.length c) cs (W + 2) F1 (fun _ => 0) out1 wr)) (fun _ _ _ v38 _ => H - (intOf v38).toNat)
    case atStart => exact ⟨0, gh, gb, _, 0, [], Nat.zero_le _, rfl, rfl, rfl, rfl, hne, ltg, ltb, HALL, ⟨by simp⟩, HT⟩
    case round =>
      obtain ⟨y, gh, gb, F1, fall1, out1, hy, rfl, rfl, rfl, rfl, hne, ltg, ltb, HA, HL, HT⟩ := hrel
      by_cases hly : y < H
      · have HA' := Aside0.mk (allT_step HA.out hly)
        clear HA
        obtain ⟨⟨F2, G2, out2⟩, hrow, hnext⟩ := HA'.out
        have HROW := Aside0.mk hrow
        have HNEXT := Aside0.mk hnext
        have HL2 := Aside0.mk (rowT_len _ _ _ _ _ _ _ _ _ hrow)
        clear HA' hrow hnext
        have p0 : wr.cell? ⟨B, 0, none⟩ = some (.int .i64 W) := (blk_cell HT.out.hB 0).trans rfl
        go_wp2
        clear p0
        obtain ⟨wo, hwo⟩ : ∃ wo : World, wo = wr := ⟨_, rfl⟩
        subst hwo
        go_loopw [43] (fun v43 wr => ∃ (x : Nat) (F3 G3 : Nat → Int) (out3 : List Int), x ≤ W ∧ v43 = .int .i64 x ∧ Aside0 (rowT n l (y * W) (W - x) x F3 G3 out3 = some (F2, G2, out2)) ∧ Aside0 (out3.length = y * W + x) ∧ Aside0 (TR w0 bn br gq B gh gb n W H (.slice A l.length c) cs (W + 2) F3 G3 out3 wr)) (fun v43 _ => W - (intOf v43).toNat)
        case atStart => exact ⟨0, _, _, _, Nat.zero_le _, rfl, HROW, ⟨by have := HL.out; omega⟩, HT⟩
        case round =>
          obtain ⟨x, F3, G3, out3, hx, rfl, HA, HL3, HT3⟩ := hrel
          clear HT
          by_cases hlx : x < W
          · have HA' := Aside0.mk (rowT_step HA.out hlx)
            clear HA
            obtain ⟨⟨F4, G4, s'⟩, hpx, hrest⟩ := HA'.out
            obtain ⟨u, v, k, un, e, e2, z1, z2, z3, z4, z5, z6, z7, z8⟩ := px_parts hpx
            have HREST := Aside0.mk hrest
            have Z7 := Aside0.mk z7
            have Z8 := Aside0.mk z8
            clear HA' hpx hrest z7 z8
            have hT3 := HT3.out
            have hjlt : y * W + x < l.length := by rw [LEN.out, Nat.mul_comm W H]; exact idx_lt' hly hlx
            obtain ⟨ad, hA, hcell⟩ := (Kd.reads_of_C (enc := Value.int .u32) (d := (0 : Int)) (h1 := fun _ => rfl) (Kd.C_below hC hT3.bl)).at_ ((y * W + x : Nat) : Int) (by omega) (by omega)
            subst hA
            obtain ⟨s, hs0⟩ : ∃ s, s = l.getD (y * W + x) 0 := ⟨_, rfl⟩
            rw [← hs0] at z1
            obtain ⟨j, hj⟩ : ∃ j, j = y * W + x := ⟨_, rfl⟩
            have hcell' : wr.cell? (ad.add j) = some (.int .u32 s) := by rw [hs0, hj]; exact hcell
            obtain ⟨yw, hyw⟩ : ∃ yw, yw = y * W := ⟨_, rfl⟩
            have hyb : y * W + x < 65536 := by have := AREA.out; have := LEN.out; omega
            have hw5 : IntKind.i64.wrap ((y : Int) * (W : Int)) = (yw : Int) := by rw [hyw, ← Int.natCast_mul, IntKind.wrap_i64]; omega
            have hw6 : IntKind.i64.wrap ((yw : Int) + (x : Int)) = (j : Int) := by rw [hj, ← hyw, ← Int.natCast_add, IntKind.wrap_i64]; omega
            have j0 : (0 : Int) ≤ (j : Int) := by omega
            have j1 : (j : Int) < (l.length : Int) := by omega
            have j2 : j < l.length := by omega
            have hw7 : IntKind.i64.wrap ((x : Int) + 1) = (x : Int) + 1 := by rw [IntKind.wrap_i64]; omega
            have hw8 : IntKind.i64.wrap ((x : Int) + 2) = (x : Int) + 2 := by rw [IntKind.wrap_i64]; omega
            have x0 : (0 : Int) ≤ (x : Int) + 1 := by omega
            have x1 : (x : Int) + 1 < (W : Int) + 2 := by omega
            have x2 : ((x : Int) + 1).toNat = x + 1 := by omega
            have hvw : IntKind.i64.wrap (u + F3 (x + 1)) = v := by rw [z2, i64_w]
            have hew : IntKind.i64.wrap (v - un) = e := by rw [z6, i64_w]
            have c0 : wr.cell? ⟨B, 0, none⟩ = some (.int .i64 W) := (blk_cell hT3.hB 0).trans rfl
            have c2 : wr.cell? ⟨B, 2, none⟩ = some (.slice (some ad) l.length c) := (blk_cell hT3.hB 2).trans rfl
            have ch : wr.cell? ⟨gh, x + 1, none⟩ = some (.int .i64 (F3 (x + 1))) := (blk_cell hT3.hh (x + 1)).trans (arrN_get _ _ _ (by omega))
            have HS0 := Aside0.mk hs0
            have HJ := Aside0.mk hj
            have HYW := Aside0.mk hyw
            have HV := Aside0.mk z2
            have HE := Aside0.mk z6
            have HYB := Aside0.mk hyb
            clear hT3 hcell hs0 hj hyw z2 z6 hyb hjlt
            go_upto_region 10 with fail
            refine start_ (n := 18) (S := fun w' => w'.cell? ⟨B, 0, none⟩ = some (.int .i64 W) ∧ w'.cell? ⟨B, 2, none⟩ = some (.slice (some ad) l.length c) ∧ w'.cell? ⟨gh, x + 1, none⟩ = some (.int .i64 (F3 (x + 1))) ∧ w'.cell? (ad.add j) = some (.int .u32 s)) (ds := []) #[false, false, false, false, false, false, false, false, false, false, false, false, false, false, false, false, false, false] (by kernel_rfl) rfl rfl ⟨c0, c2, ch, hcell'⟩ (fun hHeld => ?_)
            have HT4 := Aside0.mk (TR_below HT3.out (below_drew (Below.refl _ _)))
            clear HT3 c0 c2 ch hcell'
            generalize wr.drew = w1 at HT4 hHeld ⊢
            refine pure_ (i := 0) (N := (some 46)) (v := ?_) (a' := ?_) #[true, false, false, false, false, false, false, false, false, false, false, false, false, false, false, false, false, false] rfl rfl (by kernel_rfl) (fun _ _ _ h => h) (Or.inl ⟨by rfl, ?_⟩) ?_ ?_
            rotate_left
            · intro w'
              go_simp
              with_reducible rfl
            rotate_left
            · simp only [Act.put, List.setIfInBounds_toArray, List.set_cons_zero, List.set_cons_succ, i64_w, i32_w]
              rfl
            refine pure_ (i := 2) (N := (some 48)) (v := ?_) (a' := ?_) #[true, false, true, false, false, false, false, false, false, false, false, false, false, false, false, false, false, false] rfl rfl (by kernel_rfl) (fun _ _ _ h => h) (Or.inl ⟨by rfl, ?_⟩) ?_ ?_
            rotate_left
            · intro w'
              go_simp
              with_reducible rfl
            rotate_left
            · simp only [Act.put, List.setIfInBounds_toArray, List.set_cons_zero, List.set_cons_succ, i64_w, i32_w]
              rfl
            refine pure_ (i := 3) (N := (some 49)) (v := ?_) (a' := ?_) #[true, false, true, true, false, false, false, false, false, false, false, false, false, false, false, false, false, false] rfl rfl (by kernel_rfl) (fun _ _ _ h => h) (Or.inl ⟨by rfl, ?_⟩) ?_ ?_
            rotate_left
            · intro w'
              go_simp
              with_reducible rfl
            rotate_left
            · simp only [Act.put, List.setIfInBounds_toArray, List.set_cons_zero, List.set_cons_succ, i64_w, i32_w]
              rfl
            refine pure_ (i := 6) (N := (some 52)) (v := ?_) (a' := ?_) #[true, false, true, true, false, false, true, false, false, false, false, false, false, false, false, false, false, false] rfl rfl (by kernel_rfl) (fun _ _ _ h => h) (Or.inl ⟨by rfl, ?_⟩) ?_ ?_
            rotate_left
            · intro w'
              go_simp
              with_reducible rfl
            rotate_left
            · simp only [Act.put, List.setIfInBounds_toArray, List.set_cons_zero, List.set_cons_succ, i64_w, i32_w]
              rfl
            refine pure_ (i := 11) (N := (some 57)) (v := ?_) (a' := ?_) #[true, false, true, true, false, false, true, false, false, false, false, true, false, false, false, false, false, false] rfl rfl (by kernel_rfl) (fun _ _ _ h => h) (Or.inl ⟨by rfl, ?_⟩) ?_ ?_
            rotate_left
            · intro w'
              go_simp
              with_reducible rfl
            rotate_left
            · simp only [Act.put, List.setIfInBounds_toArray, List.set_cons_zero, List.set_cons_succ, i64_w, i32_w]
              rfl
            refine pure_ (i := 12) (N := (some 58)) (v := ?_) (a' := ?_) #[true, false, true, true, false, false, true, false, false, false, false, true, true, false, false, false, false, false] rfl rfl (by kernel_rfl) (fun _ _ _ h => h) (Or.inl ⟨by rfl, ?_⟩) ?_ ?_
            rotate_left
            · intro w'
              go_simp
              with_reducible rfl
            rotate_left
            · simp only [Act.put, List.setIfInBounds_toArray, List.set_cons_zero, List.set_cons_succ, i64_w, i32_w]
              rfl
            refine pure_ (i := 13) (N := (some 59)) (v := ?_) (a' := ?_) #[true, false, true, true, false, false, true, false, false, false, false, true, true, true, false, false, false, false] rfl rfl (by kernel_rfl) (fun _ _ _ h => h) (Or.inl ⟨by rfl, ?_⟩) ?_ ?_
            rotate_left
            · intro w'
              go_simp
              with_reducible rfl
            rotate_left
            · simp only [Act.put, List.setIfInBounds_toArray, List.set_cons_zero, List.set_cons_succ, i64_w, i32_w]
              rfl
            refine pure_ (i := 14) (N := (some 60)) (v := ?_) (a' := ?_) #[true, false, true, true, false, false, true, false, false, false, false, true, true, true, true, false, false, false] rfl rfl (by kernel_rfl) (fun _ _ _ h => h) (Or.inl ⟨by rfl, ?_⟩) ?_ ?_
            rotate_left
            · intro w'
              go_simp
              with_reducible rfl
            rotate_left
            · simp only [Act.put, List.setIfInBounds_toArray, List.set_cons_zero, List.set_cons_succ, i64_w, i32_w]
              rfl
            refine take_ (i := 1) (N := (some 47)) (v := ?_) (a' := ?_) #[true, true, true, true, false, false, true, false, false, false, false, true, true, true, true, false, false, false] rfl rfl (by kernel_rfl) (fun _ _ _ h => h) (Or.inl ⟨by rfl, ?_⟩) hHeld ?_ ?_
            rotate_left
            · rintro w' ⟨s0, s1, s2, s3⟩
              go_simp
              with_reducible rfl
            rotate_left
            · simp only [Act.put, List.setIfInBounds_toArray, List.set_cons_zero, List.set_cons_succ, i64_w, i32_w]
              rfl
            refine take_ (i := 4) (N := (some 50)) (v := ?_) (a' := ?_) #[true, true, true, true, true, false, true, false, false, false, false, true, true, true, true, false, false, false] rfl rfl (by kernel_rfl) (fun _ _ _ h => h) (Or.inl ⟨by rfl, ?_⟩) hHeld ?_ ?_
            rotate_left
            · rintro w' ⟨s0, s1, s2, s3⟩
              go_simp
              with_reducible rfl
            rotate_left
            · simp only [Act.put, List.setIfInBounds_toArray, List.set_cons_zero, List.set_cons_succ, i64_w, i32_w]
              rfl
            refine pure_ (i := 5) (N := (some 51)) (v := ?_) (a' := ?_) #[true, true, true, true, true, true, true, false, false, false, false, true, true, true, true, false, false, false] rfl rfl (by kernel_rfl) (fun _ _ _ h => h) (Or.inl ⟨by rfl, ?_⟩) ?_ ?_
            rotate_left
            · intro w'
              go_simp
              with_reducible rfl
            rotate_left
            · simp only [Act.put, List.setIfInBounds_toArray, List.set_cons_zero, List.set_cons_succ, i64_w, i32_w]
              rfl
            refine pure_ (i := 7) (N := (some 53)) (v := ?_) (a' := ?_) #[true, true, true, true, true, true, true, true, false, false, false, true, true, true, true, false, false, false] rfl rfl (by kernel_rfl) (fun _ _ _ h => h) (Or.inl ⟨by rfl, ?_⟩) ?_ ?_
            rotate_left
            · intro w'
              go_simp
              with_reducible rfl
            rotate_left
            · simp only [Act.put, List.setIfInBounds_toArray, List.set_cons_zero, List.set_cons_succ, i64_w, i32_w]
              rfl
            refine pure_ (i := 8) (N := (some 54)) (v := ?_) (a' := ?_) #[true, true, true, true, true, true, true, true, true, false, false, true, true, true, true, false, false, false] rfl rfl (by kernel_rfl) (fun _ _ _ h => h) (Or.inl ⟨by rfl, ?_⟩) ?_ ?_
            rotate_left
            · intro w'
              go_simp
              with_reducible rfl
            rotate_left
            · simp only [Act.put, List.setIfInBounds_toArray, List.set_cons_zero, List.set_cons_succ, i64_w, i32_w]
              rfl
            refine take_ (i := 9) (N := (some 55)) (v := ?_) (a' := ?_) #[true, true, true, true, true, true, true, true, true, true, false, true, true, true, true, false, false, false] rfl rfl (by kernel_rfl) (fun _ _ _ h => h) (Or.inl ⟨by rfl, ?_⟩) hHeld ?_ ?_
            rotate_left
            · rintro w' ⟨s0, s1, s2, s3⟩
              go_simp
              with_reducible rfl
            rotate_left
            · simp only [Act.put, List.setIfInBounds_toArray, List.set_cons_zero, List.set_cons_succ, i64_w, i32_w]
              rfl
            refine take_ (i := 15) (N := (some 61)) (v := ?_) (a' := ?_) #[true, true, true, true, true, true, true, true, true, true, false, true, true, true, true, true, false, false] rfl rfl (by kernel_rfl) (fun _ _ _ h => h) (Or.inl ⟨by rfl, ?_⟩) hHeld ?_ ?_
            rotate_left
            · rintro w' ⟨s0, s1, s2, s3⟩
              go_simp
              with_reducible rfl
            rotate_left
            · simp only [Act.put, List.setIfInBounds_toArray, List.set_cons_zero, List.set_cons_succ, i64_w, i32_w]
              rfl
            refine one_ (i := 10) (N := (some 56)) #[true, true, true, true, true, true, true, true, true, true, true, true, true, true, true, true, false, false] rfl rfl (by kernel_rfl) (by decide) (fun K hK => ?_)
            -- EFFECT 10 Op.call
            refine call_ 26 #[.int .u32 s] (by rfl) rfl (by go_simp) ?_
            refine (dither_Units.calls s u _ z1).mono ?_
            rintro en w' ⟨rfl, hb'⟩
            refine ⟨_, rfl, ?_⟩
            have n0_ := Aside0.mk (TR_below HT4.out hb')
            clear HT4
            have HT4 := n0_
            clear n0_
            obtain ⟨s0, s1, s2, s3⟩ := hHeld
            refine hK.out _ _ ⟨pw_cell_below hb' s0, pw_cell_below hb' s1, pw_cell_below hb' s2, pw_cell_below hb' s3⟩ (fun hHeld => ?_)
            clear hK K s0 s1 s2 s3 hb'
            refine norm_ (a' := ?_) ?_ ?_
            rotate_left
            · simp only [Act.put, List.setIfInBounds_toArray, List.set_cons_zero, List.set_cons_succ]
              rfl
            refine pure_ (i := 16) (N := (some 62)) (v := ?_) (a' := ?_) #[true, true, true, true, true, true, true, true, true, true, true, true, true, true, true, true, true, false] rfl rfl (by kernel_rfl) (fun _ _ _ h => h) (Or.inl ⟨by rfl, ?_⟩) ?_ ?_
            rotate_left
            · intro w'
              go_simp
              with_reducible rfl
            rotate_left
            · simp only [Act.put, List.setIfInBounds_toArray, List.set_cons_zero, List.set_cons_succ, i64_w, i32_w]
              rfl
            refine pure_ (i := 17) (N := (some 12)) (v := ?_) (a' := ?_) #[true, true, true, true, true, true, true, true, true, true, true, true, true, true, true, true, true, true] rfl rfl (by kernel_rfl) (fun _ _ _ h => h) (Or.inl ⟨by rfl, ?_⟩) ?_ ?_
            rotate_left
            · intro w'
              go_simp
              with_reducible rfl
            rotate_left
            · simp only [Act.put, List.setIfInBounds_toArray, List.set_cons_zero, List.set_cons_succ, i64_w, i32_w]
              rfl
            refine done_ (by kernel_rfl) ?_
            clear hHeld
            go_wp2_with fail
            refine (dither_nearest.calls 1024 n v k _ z3).mono ?_
            rintro en w5 ⟨rfl, hb5⟩
            have HT5 := Aside0.mk (TR_below HT4.out hb5)
            clear HT4 hb5
            go_wp2_with fail
            refine (dither_unit.calls n k un _ z4).mono ?_
            rintro en w6 ⟨rfl, ⟨nd6, rfl⟩⟩
            have HT6 := Aside0.mk (TR_below HT5.out (below_drewN (Below.refl _ _) nd6))
            clear HT5
            generalize w5.drewN nd6 = w7 at HT6 ⊢
            have c0 : w7.cell? ⟨B, 0, none⟩ = some (.int .i64 W) := (blk_cell HT6.out.hB 0).trans rfl
            go_wp2_with fail
            clear c0
            refine (told_TR HT6.out hgb hbq (by have := HL3.out; have := HYB.out; omega) (j : Int) v k e s' e2 z5 (by omega)).mono ?_
            rintro en w8 ⟨rfl, hT8⟩
            have HT8 := Aside0.mk hT8
            clear HT6 hT8
            obtain ⟨r7, hr7⟩ : ∃ r7, IntKind.i64.wrap (7 * e) = r7 := ⟨_, rfl⟩
            obtain ⟨r3, hr3⟩ : ∃ r3, IntKind.i64.wrap (3 * e) = r3 := ⟨_, rfl⟩
            obtain ⟨r5, hr5⟩ : ∃ r5, IntKind.i64.wrap (5 * e) = r5 := ⟨_, rfl⟩
            obtain ⟨ri, hri⟩ : ∃ ri, ri = r7 / 16 := ⟨_, rfl⟩
            obtain ⟨le, hle⟩ : ∃ le, le = r3 / 16 := ⟨_, rfl⟩
            obtain ⟨mi, hmi⟩ : ∃ mi, mi = r5 / 16 := ⟨_, rfl⟩
            have fl7 : dither_floor.f r7 = some ri := by rw [hri]; rfl
            have fl3 : dither_floor.f r3 = some le := by rw [hle]; rfl
            have fl5 : dither_floor.f r5 = some mi := by rw [hmi]; rfl
            have HRI := Aside0.mk hri
            have HLE := Aside0.mk hle
            have HMI := Aside0.mk hmi
            clear hri hle hmi
            go_wp2_with fail
            refine (dither_floor.calls r7 ri _ fl7).mono ?_
            rintro en w9 ⟨rfl, ⟨nd1, rfl⟩⟩
            go_wp2_with fail
            refine (dither_floor.calls r3 le _ fl3).mono ?_
            rintro en w9 ⟨rfl, ⟨nd2, rfl⟩⟩
            go_wp2_with fail
            refine (dither_floor.calls r5 mi _ fl5).mono ?_
            rintro en w9 ⟨rfl, ⟨nd3, rfl⟩⟩
            have HT9 := Aside0.mk (TR_below HT8.out (below_drewN (below_drewN (Below.refl _ _) (nd1 + nd2)) nd3))
            clear HT8
            generalize (w8.drewN (nd1 + nd2)).drewN nd3 = w9 at HT9 ⊢
            have e0 : (0 : Int) ≤ (x : Int) + 2 := by omega
            have e1 : (x : Int) + 2 < (W : Int) + 2 := by omega
            have e2' : ((x : Int) + 2).toNat = x + 2 := by omega
            have i0 : (0 : Int) ≤ (x : Int) := by omega
            have i1 : (x : Int) < (W : Int) + 2 := by omega
            have i2 : x < W + 2 := by omega
            have i3 : x + 1 < W + 2 := by omega
            have i4 : x + 2 < W + 2 := by omega
            have gw1 : w0.heap.size ≤ gh := by omega
            have gw2 : w0.heap.size ≤ gb := by omega
            have nb1 : gh ≠ bn := by omega
            have nb2 : gb ≠ bn := by omega
            -- here[x+2]
            obtain ⟨f2, hf2⟩ : ∃ f2, f2 = F3 (x + 2) := ⟨_, rfl⟩
            obtain ⟨a1, ha1⟩ : ∃ a1, IntKind.i64.wrap (f2 + ri) = a1 := ⟨_, rfl⟩
            have ch : w9.cell? ⟨gh, x + 2, none⟩ = some (.int .i64 f2) := by rw [hf2]; exact (blk_cell HT9.out.hh (x + 2)).trans (arrN_get _ _ _ (by omega))
            have cf := blk_frozen HT9.out.hh (x + 2)
            have HF2 := Aside0.mk hf2
            clear hf2
            go_upto_region 17 with fail
            have HT10 := Aside0.mk (TR_here HT9.out hne nb1 gw1 (x + 2) a1)
            clear HT9 ch cf
            generalize w9.setCell ⟨gh, x + 2, none⟩ (.int .i64 a1) = w10 at HT10 ⊢
            -- below[x]
            obtain ⟨f3, hf3⟩ : ∃ f3, f3 = G3 x := ⟨_, rfl⟩
            obtain ⟨a2, ha2⟩ : ∃ a2, IntKind.i64.wrap (f3 + le) = a2 := ⟨_, rfl⟩
            have ch : w10.cell? ⟨gb, x, none⟩ = some (.int .i64 f3) := by rw [hf3]; exact (blk_cell HT10.out.hb x).trans (arrN_get _ _ _ (by omega))
            have cf := blk_frozen HT10.out.hb x
            have HF3 := Aside0.mk hf3
            clear hf3
            go_upto_region 18 with fail
            have HT11 := Aside0.mk (TR_next HT10.out hne nb2 gw2 x a2)
            clear HT10 ch cf
            generalize w10.setCell ⟨gb, x, none⟩ (.int .i64 a2) = w11 at HT11 ⊢
            -- below[x+1]
            obtain ⟨G5, hG5⟩ : ∃ G5, G5 = upd G3 x a2 := ⟨_, rfl⟩
            rw [← hG5] at HT11
            obtain ⟨f4, hf4⟩ : ∃ f4, f4 = G5 (x + 1) := ⟨_, rfl⟩
            obtain ⟨a3, ha3⟩ : ∃ a3, IntKind.i64.wrap (f4 + mi) = a3 := ⟨_, rfl⟩
            have ch : w11.cell? ⟨gb, x + 1, none⟩ = some (.int .i64 f4) := by rw [hf4]; exact (blk_cell HT11.out.hb (x + 1)).trans (arrN_get _ _ _ (by omega))
            have cf := blk_frozen HT11.out.hb (x + 1)
            have HF4 := Aside0.mk hf4
            have HG5 := Aside0.mk hG5
            clear hf4 hG5
            go_upto_region 19 with fail
            have HT12 := Aside0.mk (TR_next HT11.out hne nb2 gw2 (x + 1) a3)
            clear HT11 ch cf
            generalize w11.setCell ⟨gb, x + 1, none⟩ (.int .i64 a3) = w12 at HT12 ⊢
            -- below[x+2]
            obtain ⟨G6, hG6⟩ : ∃ G6, G6 = upd G5 (x + 1) a3 := ⟨_, rfl⟩
            rw [← hG6] at HT12
            obtain ⟨f5, hf5⟩ : ∃ f5, f5 = G6 (x + 2) := ⟨_, rfl⟩
            obtain ⟨t1, ht1⟩ : ∃ t1, IntKind.i64.wrap (e - ri) = t1 := ⟨_, rfl⟩
            obtain ⟨t2, ht2⟩ : ∃ t2, IntKind.i64.wrap (t1 - le) = t2 := ⟨_, rfl⟩
            obtain ⟨t3, ht3⟩ : ∃ t3, IntKind.i64.wrap (t2 - mi) = t3 := ⟨_, rfl⟩
            obtain ⟨a4, ha4⟩ : ∃ a4, IntKind.i64.wrap (f5 + t3) = a4 := ⟨_, rfl⟩
            have ch : w12.cell? ⟨gb, x + 2, none⟩ = some (.int .i64 f5) := by rw [hf5]; exact (blk_cell HT12.out.hb (x + 2)).trans (arrN_get _ _ _ (by omega))
            have cf := blk_frozen HT12.out.hb (x + 2)
            have HF5 := Aside0.mk hf5
            have HG6 := Aside0.mk hG6
            clear hf5 hG6
            go_upto_region 20 with fail
            have HT13 := Aside0.mk (TR_next HT12.out hne nb2 gw2 (x + 2) a4)
            clear HT12 ch cf
            generalize w12.setCell ⟨gb, x + 2, none⟩ (.int .i64 a4) = w13 at HT13 ⊢
            have hF4 : upd F3 (x + 2) a1 = F4 := by
              have := Z7.out
              rw [this, ← ha1, i64_w, HF2.out, HRI.out, ← hr7, i64_w]
            have hG4 : upd G6 (x + 2) a4 = G4 := by
              have := Z8.out
              have k1 : a2 = wrap64 (G3 x + wrap64 (3 * e) / 16) := by rw [← ha2, i64_w, HF3.out, HLE.out, ← hr3, i64_w]
              have k2 : a3 = wrap64 (G5 (x + 1) + wrap64 (5 * e) / 16) := by rw [← ha3, i64_w, HF4.out, HMI.out, ← hr5, i64_w]
              have k3 : t3 = wrap64 (wrap64 (wrap64 (e - wrap64 (7 * e) / 16) - wrap64 (3 * e) / 16) - wrap64 (5 * e) / 16) := by rw [← ht3, ← ht2, ← ht1, i64_w, i64_w, i64_w, HRI.out, HLE.out, HMI.out, ← hr7, ← hr3, ← hr5, i64_w, i64_w, i64_w]
              rw [this, ← k1, ← HG5.out, ← k2, ← HG6.out, ← k3, ← ha4, i64_w, HF5.out]
            rw [hF4, hG4] at HT13
            go_wp2
            go_roundw
            case rel => exact ⟨x + 1, F4, G4, out3 ++ [s'], by omega, by go_num, HREST, ⟨by have := HL3.out; simp; omega⟩, HT13⟩
            case measure => simp [intOf]; omega
          · obtain rfl : x = W := by omega
            have hq : some (F3, G3, out3) = some (F2, G2, out2) := by
              have := HA.out
              rw [Nat.sub_self] at this
              exact this
            simp only [Option.some.injEq, Prod.mk.injEq] at hq
            obtain ⟨rfl, rfl, rfl⟩ := hq
            clear HA HROW HL3
            have hw1 : IntKind.i64.wrap ((x : Int) + 1) = (x : Int) + 1 := by rw [IntKind.wrap_i64]; omega
            have hw2' : IntKind.i64.wrap ((x : Int) + 2) = (x : Int) + 2 := by rw [IntKind.wrap_i64]; omega
            have i0 : (0 : Int) ≤ (x : Int) + 1 := by omega
            have i1 : (x : Int) + 1 < (x : Int) + 2 := by omega
            have i2 : ((x : Int) + 1).toNat = x + 1 := by omega
            have i3 : (0 : Int) < (x : Int) + 2 := by omega
            have gw1 : w0.heap.size ≤ gh := by omega
            have gw2 : w0.heap.size ≤ gb := by omega
            have nb1 : gh ≠ bn := by omega
            have nb2 : gb ≠ bn := by omega
            obtain ⟨f1, hf1⟩ : ∃ f1, f1 = F3 (x + 1) := ⟨_, rfl⟩
            obtain ⟨f2, hf2⟩ : ∃ f2, f2 = G3 0 := ⟨_, rfl⟩
            obtain ⟨a1, ha1⟩ : ∃ a1, IntKind.i64.wrap (f1 + f2) = a1 := ⟨_, rfl⟩
            obtain ⟨a2, ha2⟩ : ∃ a2, IntKind.i64.wrap (fall1 + a1) = a2 := ⟨_, rfl⟩
            have c0 : wr.cell? ⟨B, 0, none⟩ = some (.int .i64 x) := (blk_cell HT3.out.hB 0).trans rfl
            have ch : wr.cell? ⟨gh, x + 1, none⟩ = some (.int .i64 f1) := by rw [hf1]; exact (blk_cell HT3.out.hh (x + 1)).trans (arrN_get _ _ _ (by omega))
            have cb : wr.cell? ⟨gb, 0, none⟩ = some (.int .i64 f2) := by rw [hf2]; exact (blk_cell HT3.out.hb 0).trans (arrN_get _ _ _ (by omega))
            have HF1 := Aside0.mk hf1
            have HF2 := Aside0.mk hf2
            clear hf1 hf2
            go_upto_region 21 with fail
            go_quiet (fail)
            clear c0 ch cb
            have HT4 := Aside0.mk (TR_below HT3.out (below_drewN (Below.refl _ _) nq))
            clear HT3
            generalize wr.drewN nq = w5 at HT4 ⊢
            have cb : w5.cell? ⟨gb, 0, none⟩ = some (.int .i64 (G3 0)) := (blk_cell HT4.out.hb 0).trans (arrN_get _ _ _ (by omega))
            have cf := blk_frozen HT4.out.hb 0
            go_upto_region 23 with fail
            have HT5 := Aside0.mk (TR_next HT4.out hne nb2 gw2 0 0)
            clear HT4 cb cf
            generalize w5.setCell ⟨gb, 0, none⟩ (.int .i64 0) = w6 at HT5 ⊢
            obtain ⟨G4, hG4⟩ : ∃ G4, G4 = upd G3 0 0 := ⟨_, rfl⟩
            rw [← hG4] at HT5
            obtain ⟨f3, hf3⟩ : ∃ f3, f3 = G4 (x + 1) := ⟨_, rfl⟩
            obtain ⟨a3, ha3⟩ : ∃ a3, IntKind.i64.wrap (a2 + f3) = a3 := ⟨_, rfl⟩
            have c0 : w6.cell? ⟨B, 0, none⟩ = some (.int .i64 x) := (blk_cell HT5.out.hB 0).trans rfl
            have cb : w6.cell? ⟨gb, x + 1, none⟩ = some (.int .i64 f3) := by rw [hf3]; exact (blk_cell HT5.out.hb (x + 1)).trans (arrN_get _ _ _ (by omega))
            have HF3 := Aside0.mk hf3
            have HG4 := Aside0.mk hG4
            clear hf3 hG4
            go_upto_region 24 with fail
            clear cb
            have T3 := Aside0.mk (TR_turn HT5.out)
            have lt3 : B < w6.heap.size := blk_lt HT5.out.hB
            have lt4 : gb < w6.heap.size := blk_lt HT5.out.hb
            go_cut [7, 8] (fun s7 s8 wx => ∃ gn : Nat, s7 = .slice (some ⟨gb, 0, none⟩) (x + 2) (x + 2) ∧ s8 = .slice (some ⟨gn, 0, none⟩) (x + 2) (x + 2) ∧ gb ≠ gn ∧ B < gn ∧ TR w0 bn br gq B gb gn n x H (.slice A l.length c) cs (x + 2) G4 (fun _ => 0) out3 wx)
            case first =>
              go_region_held3 (fun w' => w'.cell? ⟨B, 0, none⟩ = some (.int .i64 x) ∧ w'.cell? ⟨B, 0, none⟩ = some (.int .i64 x)) (go_keep) (fail)
              all_goals (go_wp2_with fail; go_meet)
              all_goals exact ⟨_, rfl, rfl, by omega, lt3, TR_drew T3.out⟩
            case rest =>
              obtain ⟨gn, rfl, rfl, hne2, ltn, hT6⟩ := hcut
              clear T3 HT5 c0
              have c0 : wc.cell? ⟨B, 0, none⟩ = some (.int .i64 x) := (blk_cell hT6.hB 0).trans rfl
              have ch : wc.cell? ⟨gb, x + 1, none⟩ = some (.int .i64 (G4 (x + 1))) := (blk_cell hT6.hh (x + 1)).trans (arrN_get _ _ _ (by omega))
              have cf := blk_frozen hT6.hh (x + 1)
              have HT6 := Aside0.mk hT6
              clear hT6
              go_upto_region 26 with fail
              have HT7 := Aside0.mk (TR_here HT6.out hne2 nb2 gw2 (x + 1) 0)
              clear HT6 ch cf c0
              generalize wc.setCell ⟨gb, x + 1, none⟩ (.int .i64 0) = w7 at HT7 ⊢
              have hn2 : allT n l x (H - (y + 1)) (y + 1) (upd G4 (x + 1) 0) a3 out3 = some (F, fall, out) := by
                have := HNEXT.out
                rw [← HG4.out] at this
                rw [← ha3, ← ha2, ← ha1, i64_w, i64_w, i64_w, HF1.out, HF2.out, HF3.out]
                exact this
              go_wp2
              go_roundw
              case rel => exact ⟨y + 1, gb, gn, _, _, _, by omega, by go_num, rfl, rfl, rfl, hne2, ltb, ltn, ⟨hn2⟩, ⟨by have h2 : out3.length = out1.length + x := HL2.out; have := HL.out; rw [Nat.succ_mul]; omega⟩, HT7⟩
              case measure => simp [intOf]; omega
      · obtain rfl : y = H := by omega
        have hq : some (F1, fall1, out1) = some (F, fall, out) := by
          have := HA.out
          rw [Nat.sub_self] at this
          exact this
        simp only [Option.some.injEq, Prod.mk.injEq] at hq
        obtain ⟨rfl, rfl, rfl⟩ := hq
        clear HA HALL HL
        have hw1 : IntKind.i64.wrap ((W : Int) + 1) = (W : Int) + 1 := by rw [IntKind.wrap_i64]; omega
        have i0 : (1 : Int) ≤ (W : Int) + 1 := by omega
        have i1 : (0 : Int) ≤ (W : Int) + 1 := by omega
        have i2 : (W : Int) + 1 ≤ (W : Int) + 2 := by omega
        have i3 : ((W : Int) + 1).toNat = W + 1 := by omega
        have c0 : wr.cell? ⟨B, 0, none⟩ = some (.int .i64 W) := (blk_cell HT.out.hB 0).trans rfl
        go_wp2
        clear c0
        go_loopw [9, 171] (fun v9 v171 wr => ∃ (i : Nat) (f : Int), i ≤ W ∧ v171 = .int .i64 i ∧ v9 = .int .i64 f ∧ Aside0 (lastT F1 (W - i) i f = lastT F1 W 0 fall1) ∧ Aside0 (TR w0 bn br gq B gh gb n W y (.slice A l.length c) cs (W + 2) F1 (fun _ => 0) out1 wr)) (fun _ v171 _ => W - (intOf v171).toNat)
        case atStart => exact ⟨0, fall1, Nat.zero_le _, rfl, rfl, ⟨rfl⟩, HT⟩
        case round =>
          obtain ⟨i, f, hi, rfl, rfl, HF, HT2⟩ := hrel
          clear HT
          by_cases hli : i < W
          · obtain ⟨f1, hf1⟩ : ∃ f1, f1 = F1 (i + 1) := ⟨_, rfl⟩
            obtain ⟨a1, ha1⟩ : ∃ a1, IntKind.i64.wrap (f + f1) = a1 := ⟨_, rfl⟩
            have ch : wr.cell? ⟨gh, i + 1, none⟩ = some (.int .i64 f1) := by rw [hf1]; exact (blk_cell HT2.out.hh (i + 1)).trans (arrN_get _ _ _ (by omega))
            have ch2 : wr.cell? ⟨gh, 1 + i, none⟩ = some (.int .i64 f1) := by rw [Nat.add_comm]; exact ch
            have HF1 := Aside0.mk hf1
            clear hf1
            go_wp2
            go_roundw
            case rel =>
              refine ⟨i + 1, a1, by omega, by go_num, rfl, ⟨?_⟩, HT2⟩
              rw [← HF.out, show W - i = (W - (i + 1)) + 1 by omega]
              show _ = lastT F1 (W - (i + 1)) (i + 1) (wrap64 (f + F1 (i + 1)))
              rw [← ha1, i64_w, HF1.out]
            case measure => simp [intOf]; omega
          · obtain rfl : i = W := by omega
            have hf : f = lastT F1 i 0 fall1 := by
              have := HF.out
              rw [Nat.sub_self] at this
              exact this
            go_wp2
            go_ret
            obtain ⟨u, e1, e2⟩ := HT2.out.ex
            exact ⟨by rw [← hf]; rfl, u, e1, HT2.out.hr, e2, HT2.out.bl⟩
end Go.Proofs.Ytmipbbkieadecaa
