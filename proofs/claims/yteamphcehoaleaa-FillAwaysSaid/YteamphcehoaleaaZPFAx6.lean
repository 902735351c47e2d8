import Derived.Test.YteamphcehoaleaaZPFAx0
namespace Go.Proofs.Yteamphcehoaleaa.PFA
open Go.RowKit Go.Proofs.YteamphcehoaleaaW.PrintWords Go.Proofs.YteamphcehoaleaaW.PrintLast Go.Proofs.YteamphcehoaleaaW.PrintMore
attribute [local go_sem] max2_int min2_int max_two min_two max_three min_three max_four min_four
set_option linter.unusedVariables false
set_option linter.unusedSimpArgs false

mutual
def Az.j0 : Nat → Bool → Int → Int → List Bool → Int → Int → List Bool → Option (Bool)
 | 0, _, _, _, _, _, _, _ => none
 | k + 1, x26, be, bf, aM, bg, bh, aN => if x26 = true then (some false) else (Az.l0 k 0 be bf aM bg bh aN)
def Az.l0 : Nat → Int → Int → Int → List Bool → Int → Int → List Bool → Option (Bool)
 | 0, _, _, _, _, _, _, _ => none
 | k + 1, x5, be, bf, aM, bg, bh, aN => if x5 < (aM.length : Int) then (if 0 ≤ x5 then (if x5 < (aN.length : Int) then (if ((rdOf false aM x5) != (rdOf false aN x5)) = true then (some false) else (Az.l0 k (wrap64 (x5 + 1)) be bf aM bg bh aN)) else (none)) else (none)) else (some true)
end
def Az.f (k : Nat) (af : Int) (ag : Int) (ab : List Bool) (aw : Int) (ax : Int) (am : List Bool) : Option (Bool) := if af = aw then (if ag = ax then (Az.j0 k ((ab.length : Int) != (am.length : Int)) af ag ab aw ax am) else (Az.j0 k true af ag ab aw ax am)) else (Az.j0 k true af ag ab aw ax am)
theorem Az.mono_l : ∀ k, (∀ y0 y1 y2 y3 y4 y5 y6, LeO (Az.j0 k y0 y1 y2 y3 y4 y5 y6) (Az.j0 (k + 1) y0 y1 y2 y3 y4 y5 y6)) ∧ (∀ y0 y1 y2 y3 y4 y5 y6, LeO (Az.l0 k y0 y1 y2 y3 y4 y5 y6) (Az.l0 (k + 1) y0 y1 y2 y3 y4 y5 y6))
 | 0 => ⟨fun _ _ _ _ _ _ _ r h => by simp [Az.j0] at h, fun _ _ _ _ _ _ _ r h => by simp [Az.l0] at h⟩
 | k + 1 => by
  obtain ⟨ih0, ih1⟩ := Az.mono_l k
  refine ⟨?_, ?_⟩
  ·intro y0 y1 y2 y3 y4 y5 y6
   unfold Az.j0
   repeat' first
   | (with_reducible exact ih0 _ _ _ _ _ _ _)
   | (with_reducible exact ih1 _ _ _ _ _ _ _)
   | (with_reducible exact LeO.refl _)
   | (with_reducible exact LeO.none _)
   | (with_reducible refine LeO.ite ?_ ?_)
   | (with_reducible refine LeO.bind ?_ (fun _ => ?_))
   | exact ih0 _ _ _ _ _ _ _
   | exact ih1 _ _ _ _ _ _ _
   | exact LeO.none _
   | refine LeO.ite ?_ ?_
   | refine LeO.bind ?_ (fun _ => ?_)
  ·intro y0 y1 y2 y3 y4 y5 y6
   unfold Az.l0
   repeat' first
   | (with_reducible exact ih0 _ _ _ _ _ _ _)
   | (with_reducible exact ih1 _ _ _ _ _ _ _)
   | (with_reducible exact LeO.refl _)
   | (with_reducible exact LeO.none _)
   | (with_reducible refine LeO.ite ?_ ?_)
   | (with_reducible refine LeO.bind ?_ (fun _ => ?_))
   | exact ih0 _ _ _ _ _ _ _
   | exact ih1 _ _ _ _ _ _ _
   | exact LeO.none _
   | refine LeO.ite ?_ ?_
   | refine LeO.bind ?_ (fun _ => ?_)
theorem Az.mono : ∀ a0 a1 a2 a3 a4 a5 k, LeO (Az.f k a0 a1 a2 a3 a4 a5) (Az.f (k + 1) a0 a1 a2 a3 a4 a5) := by
 intro a0 a1 a2 a3 a4 a5 k
 obtain ⟨ih0, ih1⟩ := Az.mono_l k
 unfold Az.f
 repeat' first
   | (with_reducible exact ih0 _ _ _ _ _ _ _)
   | (with_reducible exact ih1 _ _ _ _ _ _ _)
   | (with_reducible exact LeO.refl _)
   | (with_reducible exact LeO.none _)
   | (with_reducible refine LeO.ite ?_ ?_)
   | (with_reducible refine LeO.bind ?_ (fun _ => ?_))
   | exact ih0 _ _ _ _ _ _ _
   | exact ih1 _ _ _ _ _ _ _
   | exact LeO.none _
   | refine LeO.ite ?_ ?_
   | refine LeO.bind ?_ (fun _ => ?_)
set_option maxHeartbeats 8000000 in
set_option maxRecDepth 100000 in
theorem Az.calls (k : Nat) (af : Int) (ag : Int) (ar : Option Addr) (aq : Nat) (ab : List Bool) (aw : Int) (ax : Int) (ba : Option Addr) (bb : Nat) (am : List Bool) (r : Bool) (w : World) (bs : Kd.C Kd.bool w ar ab.length ab) (bt : ab.length ≤ aq) (dd : Kd.C Kd.bool w ba am.length am) (de : am.length ≤ bb) (h : Az.f k af ag ab aw ax am = some r) :
  Calls Try.prog 40 #[.agg #[.int .i64 af, .int .i64 ag, .slice ar ab.length aq], .agg #[.int .i64 aw, .int .i64 ax, .slice ba am.length bb]] w fun e w' => e = .returned (.bool r) ∧ Below w.heap.size w w' := by
 have hu50 := Try.underlying50
 have bD := Aa.mk bs
 have dC := Aa.mk bt
 clear bs bt
 have df := Aa.mk dd
 have eC := Aa.mk de
 clear dd de
 have HB := Aa.mk (Below.refl w.heap.size w)
 have H : (if af = aw then (if ag = ax then (Az.j0 k ((ab.length : Int) != (am.length : Int)) af ag ab aw ax am) else (Az.j0 k true af ag ab aw ax am)) else (Az.j0 k true af ag ab aw ax am)) = some r := h
 clear h
 have HC3 := Aa.mk H
 clear H
 go_enter Try.func40, Try.ntmps40
 go_upto_region 1 with (first | ((with_reducible refine Bq (N := 2) rfl ?_); (try (refine C3 (by rfl) ?_; dsimp only)); refine Bt ?hg (N := 2) ?hd (cs := #[.int .i64 af, .int .i64 ag, .slice ar ab.length aq]) (t := 50) ?hr ?_; (case hd => rfl); (case hg => rfl); (case hr => first | (go_simp; done) | (go_simp; rfl)); intro ai hg w4 hbox hb; have n0_ := Aa.mk (Au (lU HB.out) hb); have n1_ := Aa.mk (hbox); have n2_ := Aa.mk ((by rw [hg]; exact (An (lU HB.out)) : w.heap.size ≤ ai)); have n3_ := Aa.mk ((by rw [hg]; exact (An (lU HB.out)) : w.heap.size ≤ ai)); clear HB; have HB := n0_; have aa := n1_; have eD := n2_; have aH := n3_; clear n0_ n1_ n2_ n3_; clear hb hbox hg) | ((with_reducible refine Bq (N := 3) rfl ?_); (try (refine C3 (by rfl) ?_; dsimp only)); refine Bt ?hg (N := 3) ?hd (cs := #[.int .i64 aw, .int .i64 ax, .slice ba am.length bb]) (t := 50) ?hr ?_; (case hd => rfl); (case hg => rfl); (case hr => first | (go_simp; done) | (go_simp; rfl)); intro ap hg w5 hbox hb; have n0_ := Aa.mk (Ao (g := ai) (o := .cells #[.int .i64 af, .int .i64 ag, .slice ar ab.length aq] 50 (0, 0)) (by exact bU <| aa.out) hb); have n1_ := Aa.mk (Au (by repeat (first | (with_reducible first | exact HB.out | apply Ae | apply Ac | apply Ah | refine Ag ?_ aH.out) | exact HB.out)) hb); have n2_ := Aa.mk (hbox); have n3_ := Aa.mk ((by rw [hg]; exact (An (by repeat (first | (with_reducible first | exact HB.out | apply Ae | apply Ac | apply Ah | refine Ag ?_ aH.out) | exact HB.out))) : w.heap.size ≤ ap)); have n4_ := Aa.mk ((by rw [hg]; exact (An (by repeat (first | (with_reducible first | exact HB.out | apply Ae | apply Ac | apply Ah | refine Ag ?_ aH.out) | exact HB.out))) : w.heap.size ≤ ap)); have n5_ := Aa.mk ((by rw [hg]; exact Nat.ne_of_lt (Bz (g := ai) (o := .cells #[.int .i64 af, .int .i64 ag, .slice ar ab.length aq] 50 (0, 0)) (by exact bU <| aa.out)) : ai ≠ ap)); have n6_ := Aa.mk ((by rw [hg]; exact Nat.ne_of_gt (Bz (g := ai) (o := .cells #[.int .i64 af, .int .i64 ag, .slice ar ab.length aq] 50 (0, 0)) (by exact bU <| aa.out)) : ap ≠ ai)); clear aa; clear HB; have aa := n0_; have HB := n1_; have ae := n2_; have eE := n3_; have aW := n4_; have ay := n5_; have az := n6_; clear n0_ n1_ n2_ n3_ n4_ n5_ n6_; clear hb hbox hg))
 repeat (go_quiet (fail); go_upto_region 1 with (fail))
 (try simp only [Act.put, sA, sB, sC])
 go_cut [26] (fun v26 wc => ∃ (kq : Nat) (bE : Bool), v26 = .bool bE ∧ Aa (Az.j0 kq bE af ag ab aw ax am = some r) ∧ Aa (kq ≤ k) ∧ Aa (wc.heap[ai]? = some (.cells #[.int .i64 af, .int .i64 ag, (.slice ar ab.length aq)] 50 (0, 0))) ∧ Aa (wc.heap[ap]? = some (.cells #[.int .i64 aw, .int .i64 ax, (.slice ba am.length bb)] 50 (0, 0))) ∧ Aa (Below w.heap.size w wc))
 case first =>
  have H := HC3.out
  clear HC3
  by_cases c6 : af = aw
  ·rw [if_pos c6] at H
   have bv : (af == aw) = true := beq_iff_eq.mpr c6
   have dj : (af != aw) = false := bne_eq_false_iff_eq.mpr c6
   clear c6
   (first | rw [bv] | (simp only [i64_w, i32_w]; rw [bv]) | skip)
   by_cases c7 : ag = ax
   ·rw [if_pos c7] at H
    have dk : (ag == ax) = true := beq_iff_eq.mpr c7
    have dl : (ag != ax) = false := bne_eq_false_iff_eq.mpr c7
    clear c7
    have H' := Aa.mk H
    clear H
    have fb := ay.out
    have fc := az.out
    have cd : w5.cell? ⟨ai, 0, none⟩ = some (.int .i64 af) := (Ad aa.out 0).trans rfl
    have ce : w5.cell? ⟨ai, 1, none⟩ = some (.int .i64 ag) := (Ad aa.out 1).trans rfl
    have cg : w5.cell? ⟨ai, 2, none⟩ = some (.slice ar ab.length aq) := (Ad aa.out 2).trans rfl
    have ck := Af aa.out 0
    have cp := Af aa.out 1
    have cr := Af aa.out 2
    have bj : w5.cell? ⟨ap, 0, none⟩ = some (.int .i64 aw) := (Ad ae.out 0).trans rfl
    have bk : w5.cell? ⟨ap, 1, none⟩ = some (.int .i64 ax) := (Ad ae.out 1).trans rfl
    have bl : w5.cell? ⟨ap, 2, none⟩ = some (.slice ba am.length bb) := (Ad ae.out 2).trans rfl
    have bm := Af ae.out 0
    have bo := Af ae.out 1
    have bp := Af ae.out 2
    go_wp2
    repeat (go_quiet (fail); try go_wp2)
    go_meet
    case rel => exact ⟨_, (((ab.length : Int) != (am.length : Int))), (by first | rfl | (simp; done) | (simp [*]; done)), H', ⟨by first | omega | exact Nat.le_refl _⟩, ⟨by exact bU <| aa.out⟩, ⟨by exact bU <| ae.out⟩, ⟨by repeat (first | (with_reducible first | exact HB.out | apply Ae | apply Ac | apply Ah | refine Ag ?_ aH.out | refine Ag ?_ aW.out) | exact HB.out)⟩⟩
   ·rw [if_neg c7] at H
    have dk : (ag == ax) = false := beq_eq_false_iff_ne.mpr c7
    have dl : (ag != ax) = true := bne_iff_ne.mpr c7
    have H' := Aa.mk H
    clear H
    have eF := ay.out
    have eG := az.out
    have bF : w5.cell? ⟨ai, 0, none⟩ = some (.int .i64 af) := (Ad aa.out 0).trans rfl
    have bG : w5.cell? ⟨ai, 1, none⟩ = some (.int .i64 ag) := (Ad aa.out 1).trans rfl
    have bH : w5.cell? ⟨ai, 2, none⟩ = some (.slice ar ab.length aq) := (Ad aa.out 2).trans rfl
    have bI := Af aa.out 0
    have bJ := Af aa.out 1
    have bK := Af aa.out 2
    have bL : w5.cell? ⟨ap, 0, none⟩ = some (.int .i64 aw) := (Ad ae.out 0).trans rfl
    have bM : w5.cell? ⟨ap, 1, none⟩ = some (.int .i64 ax) := (Ad ae.out 1).trans rfl
    have bN : w5.cell? ⟨ap, 2, none⟩ = some (.slice ba am.length bb) := (Ad ae.out 2).trans rfl
    have bO := Af ae.out 0
    have bP := Af ae.out 1
    have bQ := Af ae.out 2
    go_wp2
    repeat (go_quiet (fail); try go_wp2)
    go_meet
    case rel => exact ⟨_, (true), (by first | rfl | (simp; done) | (simp [*]; done)), H', ⟨by first | omega | exact Nat.le_refl _⟩, ⟨by exact bU <| aa.out⟩, ⟨by exact bU <| ae.out⟩, ⟨by repeat (first | (with_reducible first | exact HB.out | apply Ae | apply Ac | apply Ah | refine Ag ?_ aH.out | refine Ag ?_ aW.out) | exact HB.out)⟩⟩
  ·rw [if_neg c6] at H
   have bv : (af == aw) = false := beq_eq_false_iff_ne.mpr c6
   have dj : (af != aw) = true := bne_iff_ne.mpr c6
   (first | rw [bv] | (simp only [i64_w, i32_w]; rw [bv]) | skip)
   have H' := Aa.mk H
   clear H
   have eH := ay.out
   have eI := az.out
   have bR : w5.cell? ⟨ai, 0, none⟩ = some (.int .i64 af) := (Ad aa.out 0).trans rfl
   have bS : w5.cell? ⟨ai, 1, none⟩ = some (.int .i64 ag) := (Ad aa.out 1).trans rfl
   have bT : w5.cell? ⟨ai, 2, none⟩ = some (.slice ar ab.length aq) := (Ad aa.out 2).trans rfl
   have bV := Af aa.out 0
   have bW := Af aa.out 1
   have bX := Af aa.out 2
   have bY : w5.cell? ⟨ap, 0, none⟩ = some (.int .i64 aw) := (Ad ae.out 0).trans rfl
   have bZ : w5.cell? ⟨ap, 1, none⟩ = some (.int .i64 ax) := (Ad ae.out 1).trans rfl
   have b3 : w5.cell? ⟨ap, 2, none⟩ = some (.slice ba am.length bb) := (Ad ae.out 2).trans rfl
   have b4 := Af ae.out 0
   have b5 := Af ae.out 1
   have b6 := Af ae.out 2
   go_wp2
   repeat (go_quiet (fail); try go_wp2)
   go_meet
   case rel => exact ⟨_, (true), (by first | rfl | (simp; done) | (simp [*]; done)), H', ⟨by first | omega | exact Nat.le_refl _⟩, ⟨by exact bU <| aa.out⟩, ⟨by exact bU <| ae.out⟩, ⟨by repeat (first | (with_reducible first | exact HB.out | apply Ae | apply Ac | apply Ah | refine Ag ?_ aH.out | refine Ag ?_ aW.out) | exact HB.out)⟩⟩
 case rest =>
  clear HC3
  try clear c1
  try clear p2
  try clear c4
  try clear c6
  try clear bv
  try clear dj
  try clear c7
  try clear dk
  try clear dl
  try clear c8
  try clear c11
  try clear c14
  try clear bj
  try clear bk
  try clear bl
  try clear bF
  try clear bG
  try clear bH
  try clear bL
  try clear bM
  try clear bN
  try clear bR
  try clear bS
  try clear bT
  try clear bY
  try clear bZ
  try clear b3
  try clear cd
  try clear ce
  try clear cg
  try clear bm
  try clear bo
  try clear bp
  try clear bI
  try clear bJ
  try clear bK
  try clear bO
  try clear bP
  try clear bQ
  try clear bV
  try clear bW
  try clear bX
  try clear b4
  try clear b5
  try clear b6
  try clear ck
  try clear cp
  try clear cr
  obtain ⟨kq, bE, rfl, HA, HJ2, aa, ae, HB⟩ := hcut
  cases kq with
  | zero => exact absurd HA.out (by simp [Az.j0])
  | succ kj2 =>
   have H := HA.out
   clear HA
   simp only [Az.j0] at H
   by_cases c17 : bE = true
   ·subst c17
    have H1 := H
    rw [if_pos rfl] at H1
    clear H
    have H := H1
    clear H1
    obtain rfl := Option.some.inj H
    go_wp2
    repeat (go_quiet (fail); try go_wp2)
    go_ret
    exact ⟨by first | rfl | (simp [Be, Bd] <;> rfl) | (simp [*, Be, Bd] <;> rfl), by repeat (first | (with_reducible first | exact HB.out | apply Ae | apply Ac | apply Ah | refine Ag ?_ aH.out | refine Ag ?_ aW.out) | exact HB.out)⟩
   ·replace c17 := Bool.eq_false_iff.mpr c17
    subst c17
    have H1 := H
    rw [if_neg (show ¬ (false = true) by decide)] at H1
    clear H
    have H := H1
    clear H1
    have H' := Aa.mk H
    clear H
    go_wp2
    repeat (go_quiet (fail); try go_wp2)
    go_loopg [5] kj2 (fun kq v5 w' => ∃ (al : Int), v5 = .int .i64 al ∧ Aa (Az.l0 kq al af ag ab aw ax am = some r) ∧ Aa (kq ≤ kj2) ∧ Aa (w'.heap[ai]? = some (.cells #[.int .i64 af, .int .i64 ag, (.slice ar ab.length aq)] 50 (0, 0))) ∧ Aa (w'.heap[ap]? = some (.cells #[.int .i64 aw, .int .i64 ax, (.slice ba am.length bb)] 50 (0, 0))) ∧ Aa (Below w.heap.size w w'))
    case atStart => exact ⟨(0), (by first | rfl | (simp; done) | (simp [*]; done)), H', ⟨Nat.le_refl _⟩, ⟨by exact bU <| aa.out⟩, ⟨by exact bU <| ae.out⟩, ⟨by repeat (first | (with_reducible first | exact HB.out | apply Ae | apply Ac | apply Ah | refine Ag ?_ aH.out | refine Ag ?_ aW.out) | exact HB.out)⟩⟩
    case round =>
     clear H'
     try clear c1
     try clear p2
     try clear c4
     try clear c6
     try clear bv
     try clear dj
     try clear c7
     try clear dk
     try clear dl
     try clear c8
     try clear c11
     try clear c14
     try clear c17
     try clear bj
     try clear bk
     try clear bl
     try clear bF
     try clear bG
     try clear bH
     try clear bL
     try clear bM
     try clear bN
     try clear bR
     try clear bS
     try clear bT
     try clear bY
     try clear bZ
     try clear b3
     try clear cd
     try clear ce
     try clear cg
     try clear bm
     try clear bo
     try clear bp
     try clear bI
     try clear bJ
     try clear bK
     try clear bO
     try clear bP
     try clear bQ
     try clear bV
     try clear bW
     try clear bX
     try clear b4
     try clear b5
     try clear b6
     try clear ck
     try clear cp
     try clear cr
     try clear p2
     obtain ⟨al, rfl, HA, HK2, aa, ae, HB⟩ := hrel
     cases gk with
     | zero => exact absurd HA.out (by simp [Az.l0])
     | succ k2 =>
      have H := HA.out
      clear HA
      simp only [Az.l0] at H
      by_cases c18 : al < (ab.length : Int)
      ·rw [if_pos c18] at H
       have dD : decide (al < (ab.length : Int)) = true := decide_eq_true c18
       clear c18
       by_cases c19 : 0 ≤ al
       ·rw [if_pos c19] at H
        have eJ : decide (0 ≤ al) = true := decide_eq_true c19
        clear c19
        by_cases c20 : al < (am.length : Int)
        ·rw [if_pos c20] at H
         have eK : decide (al < (am.length : Int)) = true := decide_eq_true c20
         clear c20
         by_cases c21 : ((rdOf false ab al) != (rdOf false am al)) = true
         ·rw [if_pos c21] at H
          have dE : ((rdOf false ab al) != (rdOf false am al)) = true := c21
          (try (have dF : decide ((rdOf false ab al) = (rdOf false am al)) = false := by simpa using c21))
          (try (have dG : ((rdOf false ab al) == (rdOf false am al)) = false := by simpa using c21))
          (try (have eL : ¬ ((rdOf false ab al) = (rdOf false am al)) := by simpa using c21))
          clear c21
          obtain rfl := Option.some.inj H
          have dH := ay.out
          have dI := az.out
          have dY : wr.cell? ⟨ai, 0, none⟩ = some (.int .i64 af) := (Ad aa.out 0).trans rfl
          have dZ : wr.cell? ⟨ai, 1, none⟩ = some (.int .i64 ag) := (Ad aa.out 1).trans rfl
          have d5 : wr.cell? ⟨ai, 2, none⟩ = some (.slice ar ab.length aq) := (Ad aa.out 2).trans rfl
          have d6 := Af aa.out 0
          have d7 := Af aa.out 1
          have d8 := Af aa.out 2
          have bw : 0 ≤ (al : Int) := of_decide_eq_true (by with_reducible assumption)
          have bz : al < (ab.length : Int) := of_decide_eq_true (by with_reducible assumption)
          obtain ⟨dJ, e191, aE⟩ := Kd.at_bool bD.out al bw bz
          cases e191
          replace aE := (HB.out.cell (World.block_lt_of_cell? w _ aE)).trans aE
          replace bw := eq_true bw
          replace bz := eq_true bz
          have cz : wr.cell? ⟨ap, 0, none⟩ = some (.int .i64 aw) := (Ad ae.out 0).trans rfl
          have cA : wr.cell? ⟨ap, 1, none⟩ = some (.int .i64 ax) := (Ad ae.out 1).trans rfl
          have cB : wr.cell? ⟨ap, 2, none⟩ = some (.slice ba am.length bb) := (Ad ae.out 2).trans rfl
          have cC := Af ae.out 0
          have cD := Af ae.out 1
          have cE := Af ae.out 2
          have bB : 0 ≤ (al : Int) := of_decide_eq_true (by with_reducible assumption)
          have bC : al < (am.length : Int) := of_decide_eq_true (by with_reducible assumption)
          obtain ⟨dK, e192, aG⟩ := Kd.at_bool df.out al bB bC
          cases e192
          replace aG := (HB.out.cell (World.block_lt_of_cell? w _ aG)).trans aG
          replace bB := eq_true bB
          replace bC := eq_true bC
          go_wp2
          repeat (go_quiet (fail); try go_wp2)
          go_ret
          exact ⟨by first | rfl | (simp [Be, Bd] <;> rfl) | (simp [*, Be, Bd] <;> rfl), by repeat (first | (with_reducible first | exact HB.out | apply Ae | apply Ac | apply Ah | refine Ag ?_ aH.out | refine Ag ?_ aW.out) | exact HB.out)⟩
         ·rw [if_neg c21] at H
          have dE : ((rdOf false ab al) != (rdOf false am al)) = false := by simpa using c21
          (try (have dF : decide ((rdOf false ab al) = (rdOf false am al)) = true := by simpa using c21))
          (try (have dG : ((rdOf false ab al) == (rdOf false am al)) = true := by simpa using c21))
          clear c21
          have H' := Aa.mk H
          clear H
          have dL := ay.out
          have dM := az.out
          have cF : wr.cell? ⟨ai, 0, none⟩ = some (.int .i64 af) := (Ad aa.out 0).trans rfl
          have cG : wr.cell? ⟨ai, 1, none⟩ = some (.int .i64 ag) := (Ad aa.out 1).trans rfl
          have cH : wr.cell? ⟨ai, 2, none⟩ = some (.slice ar ab.length aq) := (Ad aa.out 2).trans rfl
          have cI := Af aa.out 0
          have cJ := Af aa.out 1
          have cK := Af aa.out 2
          have bw : 0 ≤ (al : Int) := of_decide_eq_true (by with_reducible assumption)
          have bz : al < (ab.length : Int) := of_decide_eq_true (by with_reducible assumption)
          obtain ⟨dJ, e191, aE⟩ := Kd.at_bool bD.out al bw bz
          cases e191
          replace aE := (HB.out.cell (World.block_lt_of_cell? w _ aE)).trans aE
          replace bw := eq_true bw
          replace bz := eq_true bz
          have cL : wr.cell? ⟨ap, 0, none⟩ = some (.int .i64 aw) := (Ad ae.out 0).trans rfl
          have cM : wr.cell? ⟨ap, 1, none⟩ = some (.int .i64 ax) := (Ad ae.out 1).trans rfl
          have cO : wr.cell? ⟨ap, 2, none⟩ = some (.slice ba am.length bb) := (Ad ae.out 2).trans rfl
          have cP := Af ae.out 0
          have cQ := Af ae.out 1
          have cR := Af ae.out 2
          have bB : 0 ≤ (al : Int) := of_decide_eq_true (by with_reducible assumption)
          have bC : al < (am.length : Int) := of_decide_eq_true (by with_reducible assumption)
          obtain ⟨dK, e192, aG⟩ := Kd.at_bool df.out al bB bC
          cases e192
          replace aG := (HB.out.cell (World.block_lt_of_cell? w _ aG)).trans aG
          replace bB := eq_true bB
          replace bC := eq_true bC
          go_wp2
          repeat (go_quiet (fail); try go_wp2)
          go_roundg k2
          case measure => have := HJ2.out; have := HK2.out; omega
          case rel => exact ⟨(wrap64 (al + 1)), (by first | rfl | (simp; done) | (simp [*]; done)), H', ⟨by have := HJ2.out; have := HK2.out; omega⟩, ⟨by exact bU <| aa.out⟩, ⟨by exact bU <| ae.out⟩, ⟨by repeat (first | (with_reducible first | exact HB.out | apply Ae | apply Ac | apply Ah | refine Ag ?_ aH.out | refine Ag ?_ aW.out) | exact HB.out)⟩⟩
        ·rw [if_neg c20] at H
         exact absurd H (by simp)
       ·rw [if_neg c19] at H
        exact absurd H (by simp)
      ·rw [if_neg c18] at H
       have dD : decide (al < (ab.length : Int)) = false := decide_eq_false c18
       clear c18
       obtain rfl := Option.some.inj H
       have eM := ay.out
       have eN := az.out
       have d9 : wr.cell? ⟨ai, 0, none⟩ = some (.int .i64 af) := (Ad aa.out 0).trans rfl
       have ec : wr.cell? ⟨ai, 1, none⟩ = some (.int .i64 ag) := (Ad aa.out 1).trans rfl
       have ed : wr.cell? ⟨ai, 2, none⟩ = some (.slice ar ab.length aq) := (Ad aa.out 2).trans rfl
       have ee := Af aa.out 0
       have ef := Af aa.out 1
       have eh := Af aa.out 2
       go_wp2
       repeat (go_quiet (fail); try go_wp2)
       go_ret
       exact ⟨by first | rfl | (simp [Be, Bd] <;> rfl) | (simp [*, Be, Bd] <;> rfl), by repeat (first | (with_reducible first | exact HB.out | apply Ae | apply Ac | apply Ah | refine Ag ?_ aH.out | refine Ag ?_ aW.out) | exact HB.out)⟩

def B3.f (a0 : Int) (a1 : Int) : Option (Int × Int × List Bool) := if 0 ≤ (wrap64 (a0 * a1)) then (if (wrap64 (a0 * a1) : Int).toNat ≤ 281474976710656 then (some (a0, a1, (List.replicate (wrap64 (a0 * a1) : Int).toNat false))) else (none)) else (none)
set_option maxHeartbeats 8000000 in
set_option maxRecDepth 100000 in
theorem B3.calls (a0 : Int) (a1 : Int) (r1 : Int) (r2 : Int) (r3 : List Bool) (w : World) (h : B3.f a0 a1 = some (r1, r2, r3)) :
  Calls Try.prog 58 #[.int .i64 a0, .int .i64 a1] w fun e w' => ∃ v2_ : Value, e = .returned (.agg #[.int .i64 r1, .int .i64 r2, v2_]) ∧ Kd.R Kd.bool 4 w' w.heap.size (fun _ => True) v2_ r3 ∧ Below w.heap.size w w' := by
 have hu50 := Try.underlying50
 have HB := Aa.mk (Below.refl w.heap.size w)
 have H : (if 0 ≤ (wrap64 (a0 * a1)) then (if (wrap64 (a0 * a1) : Int).toNat ≤ 281474976710656 then (some (a0, a1, (List.replicate (wrap64 (a0 * a1) : Int).toNat false))) else (none)) else (none)) = some (r1, r2, r3) := h
 clear h
 obtain ⟨ji3, cS⟩ : ∃ j_ : Int, (wrap64 (a0 * a1)) = j_ := ⟨_, rfl⟩
 replace H : (if 0 ≤ (ji3) then (if (ji3 : Int).toNat ≤ 281474976710656 then (some (a0, a1, (List.replicate (ji3 : Int).toNat false))) else (none)) else (none)) = some (r1, r2, r3) := by first | (rw [cS] at H; exact H) | (simp only [cS] at H ⊢; exact H)
 have hji3w : (IntKind.i64.wrap (a0 * a1)) = ji3 := (i64_w _).trans cS
 by_cases c4 : 0 ≤ (ji3)
 ·rw [if_pos c4] at H
  have fd := eq_true c4
  have fe : decide (0 ≤ (ji3)) = true := decide_eq_true c4
  clear c4
  by_cases c5 : (ji3 : Int).toNat ≤ 281474976710656
  ·rw [if_pos c5] at H
   have ff := eq_true c5
   have fg : decide ((ji3 : Int).toNat ≤ 281474976710656) = true := decide_eq_true c5
   clear c5
   obtain ⟨dN, ct⟩ : ∃ y_ : List Bool, y_ = (List.replicate (ji3 : Int).toNat false) := ⟨_, rfl⟩
   (try rw [Option.bind_some] at H); try rw [← ct] at H
   have dg := Aa.mk ct
   clear ct
   simp only [Option.some.injEq, Prod.mk.injEq] at H
   obtain ⟨rfl, rfl, rfl⟩ := H
   go_enter Try.func58, Try.ntmps58
   go_wp2_with (first | ((with_reducible refine Bq (N := 4) rfl ?_); refine Bt ?hg (N := 4) ?hd (cs := #[.int .i64 0, .int .i64 0, .slice none 0 0]) (t := 50) ?hr ?_; (case hd => rfl); (case hg => rfl); (case hr => first | (go_simp; done) | (go_simp; rfl)); intro aK hg w6 hbox hb; have n0_ := Aa.mk (Au (lU HB.out) hb); have n1_ := Aa.mk (hbox); have n2_ := Aa.mk ((by rw [hg]; exact (An (lU HB.out)) : w.heap.size ≤ aK)); have n3_ := Aa.mk ((by rw [hg]; exact (An (lU HB.out)) : w.heap.size ≤ aK)); clear HB; have HB := n0_; have aI := n1_; have eO := n2_; have cu := n3_; clear n0_ n1_ n2_ n3_; clear hb hbox hg) | ((with_reducible refine Bq (N := 10) rfl ?_); refine Kd.R_make Kd.bool _ 4 rfl (N := 10) rfl 48 _ _ rfl ji3 rfl rfl Try.underlying48 (.bool false) 1 info4 rfl (by decide) (by omega) false (ok := fun _ => True) (okp := fun _ => True) rfl (fun _ hk => hk) trivial (of_decide_eq_true (by with_reducible assumption)) (Nat.le_trans (Nat.mul_le_mul_right _ (of_decide_eq_true (by with_reducible assumption) : ji3.toNat ≤ 281474976710656)) (by omega)) (Below.refl _ _) (Nat.le_refl _) ?_; intro v195 w7 ho8 hb hg_ hnew_; clear hg_ hnew_; (first | rw [← dg.out] at ho8 | (simp only [Int.reduceToNat] at ho8; rw [← dg.out] at ho8)); have n0_ := Aa.mk (Kd.Cc ho8 (An (by repeat (first | (with_reducible first | exact HB.out | apply Ae | apply Ac | apply Ah | refine Ag ?_ cu.out) | exact HB.out)))); have n1_ := Aa.mk (Ao (g := aK) (o := .cells #[.int .i64 0, .int .i64 0, .slice none 0 0] 50 (0, 0)) (by exact bU <| aI.out) hb); have n2_ := Aa.mk (Au (by repeat (first | (with_reducible first | exact HB.out | apply Ae | apply Ac | apply Ah | refine Ag ?_ cu.out) | exact HB.out)) hb); clear aI; clear HB; have dh := n0_; have aI := n1_; have HB := n2_; clear n0_ n1_ n2_; clear hb ho8; obtain ⟨Ao9, co9, eo9⟩ := Kd.B0 dh.out; subst eo9; have bj : w7.cell? ⟨aK, 0, none⟩ = some (.int .i64 0) := (Ad aI.out 0).trans rfl; have bk : w7.cell? ⟨aK, 1, none⟩ = some (.int .i64 0) := (Ad aI.out 1).trans rfl; have bl : w7.cell? ⟨aK, 2, none⟩ = some (.slice none 0 0) := (Ad aI.out 2).trans rfl; have bm := Af aI.out 0; have bo := Af aI.out 1; have bp := Af aI.out 2))
   refine bodyPost_ret (results_cell_row rfl _ _ aK 50 #[.int .i64 a0, .int .i64 a1, .slice Ao9 dN.length co9] (0, 0) _ rfl (by (with_reducible repeat (first | refine Ax ?_ _ | refine Ay ?_ | refine Ak ?_ _)); refine Bo (cs := #[.int .i64 a0, .int .i64 a1, .slice none 0 0]) ?_ 2 _ rfl; (with_reducible repeat (first | refine Ax ?_ _ | refine Ay ?_ | refine Ak ?_ _)); refine Bo (cs := #[.int .i64 a0, .int .i64 0, .slice none 0 0]) ?_ 1 _ rfl; (with_reducible repeat (first | refine Ax ?_ _ | refine Ay ?_ | refine Ak ?_ _)); refine Bo (cs := #[.int .i64 0, .int .i64 0, .slice none 0 0]) ?_ 0 _ rfl; exact bU <| aI.out) Try.underlying50 rfl (by kernel_rfl)) rfl ?_
   exact ⟨_, by first | rfl | (simp [Be, Bd] <;> rfl) | (simp only [← cS]; first | rfl | (simp [Be, Bd] <;> rfl)) | (simp [*, Be, Bd] <;> rfl), by exact rU <| Kd.Bj (Kd.Bn (p := ⟨aK, 2, none⟩) (Kd.Bn (p := ⟨aK, 1, none⟩) (Kd.Bn (p := ⟨aK, 0, none⟩) (Kd.Cb dh.out aI.out (by decide)) (fun _ hk => hk.2) (.int .i64 a0)) (fun _ hk => hk.2) (.int .i64 a1)) (fun _ hk => hk.2) (.slice Ao9 dN.length co9)) (fun _ hk => trivial), by repeat (first | (with_reducible first | exact HB.out | apply Ae | apply Ac | apply Ah | refine Ag ?_ cu.out) | exact HB.out)⟩
  ·rw [if_neg c5] at H
   exact absurd H (by simp)
 ·rw [if_neg c4] at H
  exact absurd H (by simp)

def Bh.l0 : Nat → Int → Int → Int → List Bool → Int → Int → List Bool → Option (Int × Int × List Bool)
 | 0, _, _, _, _, _, _, _ => none
 | k + 1, x4, cU, cV, bq, b7, b8, br => if x4 < (bq.length : Int) then (if 0 ≤ x4 then (if x4 < (br.length : Int) then (Bh.l0 k (wrap64 (x4 + 1)) cU cV bq b7 b8 (br.set (x4 : Int).toNat (!(rdOf false bq x4)))) else (none)) else (none)) else (some (b7, b8, br))
def Bh.f (k : Nat) (af : Int) (ag : Int) (ab : List Bool) : Option (Int × Int × List Bool) := (B3.f af ag).bind fun aZ => (Bh.l0 k 0 af ag ab aZ.1 aZ.2.1 aZ.2.2)
theorem Bh.mono_l : ∀ k, (∀ y0 y1 y2 y3 y4 y5 y6, LeO (Bh.l0 k y0 y1 y2 y3 y4 y5 y6) (Bh.l0 (k + 1) y0 y1 y2 y3 y4 y5 y6))
 | 0 => fun _ _ _ _ _ _ _ r h => by simp [Bh.l0] at h
 | k + 1 => by
  have ih0 := Bh.mono_l k
  ·intro y0 y1 y2 y3 y4 y5 y6
   unfold Bh.l0
   repeat' first
   | (with_reducible exact ih0 _ _ _ _ _ _ _)
   | (with_reducible exact LeO.refl _)
   | (with_reducible exact LeO.none _)
   | (with_reducible refine LeO.ite ?_ ?_)
   | (with_reducible refine LeO.bind ?_ (fun _ => ?_))
   | exact ih0 _ _ _ _ _ _ _
   | exact LeO.none _
   | refine LeO.ite ?_ ?_
   | refine LeO.bind ?_ (fun _ => ?_)
theorem Bh.mono : ∀ a0 a1 a2 k, LeO (Bh.f k a0 a1 a2) (Bh.f (k + 1) a0 a1 a2) := by
 intro a0 a1 a2 k
 have ih0 := Bh.mono_l k
 unfold Bh.f
 repeat' first
   | (with_reducible exact ih0 _ _ _ _ _ _ _)
   | (with_reducible exact LeO.refl _)
   | (with_reducible exact LeO.none _)
   | (with_reducible refine LeO.ite ?_ ?_)
   | (with_reducible refine LeO.bind ?_ (fun _ => ?_))
   | exact ih0 _ _ _ _ _ _ _
   | exact LeO.none _
   | refine LeO.ite ?_ ?_
   | refine LeO.bind ?_ (fun _ => ?_)
def Bh.T5 : Bool × List (List Nat × List Nat) := (true, [([], []), ([0], [0]), ([], []), ([], []), ([3], [3]), ([], []), ([4, 5], [4, 5]), ([6], [6]), ([7], [7]), ([1, 2, 0, 1, 2, 3, 4, 5, 6, 7, 8], [1, 2]), ([9, 8, 0, 1, 2, 3, 4, 5, 6, 7, 8], [8, 9])])
def Bh.B5 : List Nat := [0, 1, 0, 0, 8, 0, 56, 120, 248, 511, 1023]
theorem Bh.tab5 : rtab .any (opsOf Try.f57 5) = Bh.T5 := by kernel_rfl
theorem Bh.bits5 : waitsOk Bh.T5.2 Bh.B5 = true := by kernel_rfl
set_option maxHeartbeats 8000000 in
set_option maxRecDepth 100000 in
theorem Bh.calls (k : Nat) (af : Int) (ag : Int) (ar : Option Addr) (aq : Nat) (ab : List Bool) (r1 : Int) (r2 : Int) (r3 : List Bool) (w : World) (bs : Kd.C Kd.bool w ar ab.length ab) (bt : ab.length ≤ aq) (h : Bh.f k af ag ab = some (r1, r2, r3)) :
  Calls Try.prog 57 #[.agg #[.int .i64 af, .int .i64 ag, .slice ar ab.length aq]] w fun e w' => ∃ v2_ : Value, e = .returned (.agg #[.int .i64 r1, .int .i64 r2, v2_]) ∧ Kd.R Kd.bool 4 w' w.heap.size (fun _ => True) v2_ r3 ∧ Below w.heap.size w w' := by
 have hu50 := Try.underlying50
 have bD := Aa.mk bs
 have dC := Aa.mk bt
 clear bs bt
 have HB := Aa.mk (Below.refl w.heap.size w)
 have H : ((B3.f af ag).bind fun aZ => (Bh.l0 k 0 af ag ab aZ.1 aZ.2.1 aZ.2.2)) = some (r1, r2, r3) := h
 clear h
 replace H := Option.bind_eq_some_iff.mp H
 obtain ⟨⟨aY, bc, cW⟩, A20, H⟩ := H
 try dsimp only at H
 have A2 := Aa.mk A20
 clear A20
 have H' := Aa.mk H
 clear H
 go_enter Try.func57, Try.ntmps57
 go_wp2_with (first | ((with_reducible refine Bq (N := 1) rfl ?_); refine Bt ?hg (N := 1) ?hd (cs := #[.int .i64 af, .int .i64 ag, .slice ar ab.length aq]) (t := 50) ?hr ?_; (case hd => rfl); (case hg => rfl); (case hr => first | (go_simp; done) | (go_simp; rfl)); intro ak hg w3 hbox hb; have n0_ := Aa.mk (Au (lU HB.out) hb); have n1_ := Aa.mk (hbox); have n2_ := Aa.mk ((by rw [hg]; exact (An (lU HB.out)) : w.heap.size ≤ ak)); have n3_ := Aa.mk ((by rw [hg]; exact (An (lU HB.out)) : w.heap.size ≤ ak)); clear HB; have HB := n0_; have ac := n1_; have eP := n2_; have aJ := n3_; clear n0_ n1_ n2_ n3_; clear hb hbox hg) | ((with_reducible refine Bq (N := 2) rfl ?_); refine Bt ?hg (N := 2) ?hd (cs := #[.int .i64 0, .int .i64 0, .slice none 0 0]) (t := 50) ?hr ?_; (case hd => rfl); (case hg => rfl); (case hr => first | (go_simp; done) | (go_simp; rfl)); intro av hg w4 hbox hb; have n0_ := Aa.mk (Ao (g := ak) (o := .cells #[.int .i64 af, .int .i64 ag, .slice ar ab.length aq] 50 (0, 0)) (by exact bU <| ac.out) hb); have n1_ := Aa.mk (Au (by repeat (first | (with_reducible first | exact HB.out | apply Ae | apply Ac | apply Ah | refine Ag ?_ aJ.out) | exact HB.out)) hb); have n2_ := Aa.mk (hbox); have n3_ := Aa.mk ((by rw [hg]; exact (An (by repeat (first | (with_reducible first | exact HB.out | apply Ae | apply Ac | apply Ah | refine Ag ?_ aJ.out) | exact HB.out))) : w.heap.size ≤ av)); have n4_ := Aa.mk ((by rw [hg]; exact (An (by repeat (first | (with_reducible first | exact HB.out | apply Ae | apply Ac | apply Ah | refine Ag ?_ aJ.out) | exact HB.out))) : w.heap.size ≤ av)); have n5_ := Aa.mk ((by rw [hg]; exact Nat.ne_of_lt (Bz (g := ak) (o := .cells #[.int .i64 af, .int .i64 ag, .slice ar ab.length aq] 50 (0, 0)) (by exact bU <| ac.out)) : ak ≠ av)); have n6_ := Aa.mk ((by rw [hg]; exact Nat.ne_of_gt (Bz (g := ak) (o := .cells #[.int .i64 af, .int .i64 ag, .slice ar ab.length aq] 50 (0, 0)) (by exact bU <| ac.out)) : av ≠ ak)); clear ac; clear HB; have ac := n0_; have HB := n1_; have an := n2_; have eQ := n3_; have aX := n4_; have aT := n5_; have aU := n6_; clear n0_ n1_ n2_ n3_ n4_ n5_ n6_; clear hb hbox hg; have fh := aT.out; have fi := aU.out; have dn : w4.cell? ⟨ak, 0, none⟩ = some (.int .i64 af) := (Ad ac.out 0).trans rfl; have dp : w4.cell? ⟨ak, 1, none⟩ = some (.int .i64 ag) := (Ad ac.out 1).trans rfl; have dq : w4.cell? ⟨ak, 2, none⟩ = some (.slice ar ab.length aq) := (Ad ac.out 2).trans rfl; have dr := Af ac.out 0; have dt := Af ac.out 1; have du := Af ac.out 2) | ((with_reducible refine Br (f := 58) rfl ?_); refine Cm (some 9) rfl rfl Try.func58 (by kernel_rfl) rfl #[.int .i64 af, .int .i64 ag] rfl (by (try simp only [List.map_toArray, List.map_cons, List.map_nil]); first | done | rfl | (simp only [List.length_drop, List.length_take]; rfl)) ?_; (with_reducible refine (B3.calls af ag aY bc cW _ A2.out).mono ?_); rintro e w7 ⟨v202, rfl, ho0, hb⟩; refine ⟨_, rfl, ?_⟩; have n0_ := Aa.mk (Kd.Cc ho0 (An (by repeat (first | (with_reducible first | exact HB.out | apply Ae | apply Ac | apply Ah | refine Ag ?_ aJ.out | refine Ag ?_ aX.out) | exact HB.out)))); have n1_ := Aa.mk (Ao (g := ak) (o := .cells #[.int .i64 af, .int .i64 ag, .slice ar ab.length aq] 50 (0, 0)) (by exact bU <| ac.out) hb); have n2_ := Aa.mk (Ao (g := av) (o := .cells #[.int .i64 0, .int .i64 0, .slice none 0 0] 50 (0, 0)) (by exact bU <| an.out) hb); have n3_ := Aa.mk (Au (by repeat (first | (with_reducible first | exact HB.out | apply Ae | apply Ac | apply Ah | refine Ag ?_ aJ.out | refine Ag ?_ aX.out) | exact HB.out)) hb); clear ac; clear an; clear HB; have bu := n0_; have ac := n1_; have an := n2_; have HB := n3_; clear n0_ n1_ n2_ n3_; (try clear hb); (try clear hb2); (try clear hk); (try clear hi); (try clear ho0)) | ((with_reducible refine Bq (N := 3) rfl ?_); refine Bt ?hg (N := 3) ?hd (cs := #[.int .i64 0, .int .i64 0, .slice none 0 0]) (t := 50) ?hr ?_; (case hd => rfl); (case hg => rfl); (case hr => first | (go_simp; done) | (go_simp; rfl)); intro au hg w8 hbox hb; have n0_ := Aa.mk (Kd.Bc (by exact rU <| bu.out) hb); have n1_ := Aa.mk (Ao (g := ak) (o := .cells #[.int .i64 af, .int .i64 ag, .slice ar ab.length aq] 50 (0, 0)) (by exact bU <| ac.out) hb); have n2_ := Aa.mk (Ao (g := av) (o := .cells #[.int .i64 0, .int .i64 0, .slice none 0 0] 50 (0, 0)) (by exact bU <| an.out) hb); have n3_ := Aa.mk (Au (by repeat (first | (with_reducible first | exact HB.out | apply Ae | apply Ac | apply Ah | refine Ag ?_ aJ.out | refine Ag ?_ aX.out) | exact HB.out)) hb); have n4_ := Aa.mk (hbox); have n5_ := Aa.mk ((by rw [hg]; exact (An (by repeat (first | (with_reducible first | exact HB.out | apply Ae | apply Ac | apply Ah | refine Ag ?_ aJ.out | refine Ag ?_ aX.out) | exact HB.out))) : w.heap.size ≤ au)); have n6_ := Aa.mk ((by rw [hg]; exact (An (by repeat (first | (with_reducible first | exact HB.out | apply Ae | apply Ac | apply Ah | refine Ag ?_ aJ.out | refine Ag ?_ aX.out) | exact HB.out))) : w.heap.size ≤ au)); have n7_ := Aa.mk ((by rw [hg]; exact Nat.ne_of_lt (Bz (g := ak) (o := .cells #[.int .i64 af, .int .i64 ag, .slice ar ab.length aq] 50 (0, 0)) (by exact bU <| ac.out)) : ak ≠ au)); have n8_ := Aa.mk ((by rw [hg]; exact Nat.ne_of_gt (Bz (g := ak) (o := .cells #[.int .i64 af, .int .i64 ag, .slice ar ab.length aq] 50 (0, 0)) (by exact bU <| ac.out)) : au ≠ ak)); have n9_ := Aa.mk ((by rw [hg]; exact Nat.ne_of_lt (Bz (g := av) (o := .cells #[.int .i64 0, .int .i64 0, .slice none 0 0] 50 (0, 0)) (by exact bU <| an.out)) : av ≠ au)); have dO := Aa.mk ((by rw [hg]; exact Nat.ne_of_gt (Bz (g := av) (o := .cells #[.int .i64 0, .int .i64 0, .slice none 0 0] 50 (0, 0)) (by exact bU <| an.out)) : au ≠ av)); clear bu; clear ac; clear an; clear HB; have bu := n0_; have ac := n1_; have an := n2_; have HB := n3_; have ao := n4_; have eR := n5_; have cx := n6_; have aA := n7_; have aV := n8_; have aD := n9_; have bd := dO; clear n0_ n1_ n2_ n3_ n4_ n5_ n6_ n7_ n8_ n9_ dO; clear hb hbox hg; have fj := aV.out; have fk := aA.out; have eS := bd.out; have eT := aD.out; have cX : w8.cell? ⟨au, 0, none⟩ = some (.int .i64 0) := (Ad ao.out 0).trans rfl; have cY : w8.cell? ⟨au, 1, none⟩ = some (.int .i64 0) := (Ad ao.out 1).trans rfl; have cZ : w8.cell? ⟨au, 2, none⟩ = some (.slice none 0 0) := (Ad ao.out 2).trans rfl; have da := Af ao.out 0; have db := Af ao.out 1; have dc := Af ao.out 2; obtain ⟨dP, dQ, et⟩ := Kd.B0 bu.out; subst et))
 go_loopg [4] k (fun kq v4 w' => ∃ (aC : Int) (aj : List Bool) (u205002 : Value), v4 = .int .i64 aC ∧ Aa (Bh.l0 kq aC af ag ab aY bc aj = some (r1, r2, r3)) ∧ Aa (kq ≤ k) ∧ Aa (Kd.R Kd.bool 4 w' w.heap.size (fun _ => True) u205002 aj) ∧ Aa (w'.heap[ak]? = some (.cells #[.int .i64 af, .int .i64 ag, (.slice ar ab.length aq)] 50 (0, 0))) ∧ Aa (w'.heap[av]? = some (.cells #[.int .i64 0, .int .i64 0, (.slice none 0 0)] 50 (0, 0))) ∧ Aa (w'.heap[au]? = some (.cells #[.int .i64 aY, .int .i64 bc, u205002] 50 (0, 0))) ∧ Aa (Below w.heap.size w w'))
 case atStart => exact ⟨(0), (cW), (.slice dP cW.length dQ), (by first | rfl | (simp; done) | (simp [*]; done)), H', ⟨Nat.le_refl _⟩, ⟨by exact rU <| Kd.Bj (Kd.Bn (p := ⟨au, 2, none⟩) (Kd.Bn (p := ⟨au, 1, none⟩) (Kd.Bn (p := ⟨au, 0, none⟩) (Kd.Cb bu.out ao.out (by decide)) (fun _ hk => hk.2) (.int .i64 aY)) (fun _ hk => hk.2) (.int .i64 bc)) (fun _ hk => hk.2) (.slice dP cW.length dQ)) (fun _ hk => trivial)⟩, ⟨by (with_reducible repeat (first | refine Ax ?_ _ | refine Ay ?_ | refine Ak ?_ _)); refine Bk ?_ aA.out _; (with_reducible repeat (first | refine Ax ?_ _ | refine Ay ?_ | refine Ak ?_ _)); refine Bk ?_ aA.out _; (with_reducible repeat (first | refine Ax ?_ _ | refine Ay ?_ | refine Ak ?_ _)); refine Bk ?_ aA.out _; exact bU <| ac.out⟩, ⟨by (with_reducible repeat (first | refine Ax ?_ _ | refine Ay ?_ | refine Ak ?_ _)); refine Bk ?_ aD.out _; (with_reducible repeat (first | refine Ax ?_ _ | refine Ay ?_ | refine Ak ?_ _)); refine Bk ?_ aD.out _; (with_reducible repeat (first | refine Ax ?_ _ | refine Ay ?_ | refine Ak ?_ _)); refine Bk ?_ aD.out _; exact bU <| an.out⟩, ⟨by (with_reducible repeat (first | refine Ax ?_ _ | refine Ay ?_ | refine Ak ?_ _)); refine Bo (cs := #[.int .i64 aY, .int .i64 bc, .slice none 0 0]) ?_ 2 _ rfl; (with_reducible repeat (first | refine Ax ?_ _ | refine Ay ?_ | refine Ak ?_ _)); refine Bo (cs := #[.int .i64 aY, .int .i64 0, .slice none 0 0]) ?_ 1 _ rfl; (with_reducible repeat (first | refine Ax ?_ _ | refine Ay ?_ | refine Ak ?_ _)); refine Bo (cs := #[.int .i64 0, .int .i64 0, .slice none 0 0]) ?_ 0 _ rfl; exact bU <| ao.out⟩, ⟨by repeat (first | (with_reducible first | exact HB.out | apply Ae | apply Ac | apply Ah | refine Ag ?_ aJ.out | refine Ag ?_ aX.out | refine Ag ?_ cx.out) | exact HB.out)⟩⟩
 case round =>
  clear H'
  try clear c1
  try clear p2
  try clear c5
  try clear c9
  try clear c10
  try clear cX
  try clear cY
  try clear cZ
  try clear dn
  try clear dp
  try clear dq
  try clear da
  try clear db
  try clear dc
  try clear dr
  try clear dt
  try clear du
  obtain ⟨aC, aj, u205002, rfl, HA, HK1, ah, ac, an, ao, HB⟩ := hrel
  cases gk with
  | zero => exact absurd HA.out (by simp [Bh.l0])
  | succ k1 =>
   have H := HA.out
   clear HA
   simp only [Bh.l0] at H
   by_cases c13 : aC < (ab.length : Int)
   ·rw [if_pos c13] at H
    have dR : decide (aC < (ab.length : Int)) = true := decide_eq_true c13
    clear c13
    by_cases c14 : 0 ≤ aC
    ·rw [if_pos c14] at H
     have eU : decide (0 ≤ aC) = true := decide_eq_true c14
     clear c14
     by_cases c15 : aC < (aj.length : Int)
     ·rw [if_pos c15] at H
      have eV : decide (aC < (aj.length : Int)) = true := decide_eq_true c15
      clear c15
      obtain ⟨ew, cy⟩ : ∃ y_ : List Bool, y_ = (aj.set (aC : Int).toNat (!(rdOf false ab aC))) := ⟨_, rfl⟩
      (try rw [Option.bind_some] at H); try rw [← cy] at H
      have dS := Aa.mk cy
      clear cy
      have H' := Aa.mk H
      clear H
      have eW := aT.out
      have eX := aU.out
      have eY := aA.out
      have eZ := aV.out
      have ei : wr.cell? ⟨ak, 0, none⟩ = some (.int .i64 af) := (Ad ac.out 0).trans rfl
      have ek : wr.cell? ⟨ak, 1, none⟩ = some (.int .i64 ag) := (Ad ac.out 1).trans rfl
      have el : wr.cell? ⟨ak, 2, none⟩ = some (.slice ar ab.length aq) := (Ad ac.out 2).trans rfl
      have eo := Af ac.out 0
      have ep := Af ac.out 1
      have er := Af ac.out 2
      try go_wp2
      have n0_ := Aa.mk (Kd.Dg ah.out)
      have n1_ := Aa.mk (Ay ac.out)
      have n2_ := Aa.mk (Ay an.out)
      have n3_ := Aa.mk (Ay ao.out)
      have n4_ := Aa.mk (Ah HB.out)
      clear ah
      clear ac
      clear an
      clear ao
      clear HB
      have ah := n0_
      have ac := n1_
      have an := n2_
      have ao := n3_
      have HB := n4_
      clear n0_ n1_ n2_ n3_ n4_
      have dv : 0 ≤ (aC : Int) := of_decide_eq_true (by with_reducible assumption)
      have dw : aC < (ab.length : Int) := of_decide_eq_true (by with_reducible assumption)
      obtain ⟨di, e205, aQ⟩ := Kd.at_bool bD.out aC dv dw
      have b9 := aQ
      cases e205
      replace aQ := (HB.out.cell (World.block_lt_of_cell? w _ aQ)).trans aQ
      replace dv := eq_true dv
      replace dw := eq_true dw
      have p16 : 0 ≤ (aC : Int) := of_decide_eq_true (by with_reducible assumption)
      have q16 : (aC : Int) < ((aj.length : Int) : Int) := of_decide_eq_true (by with_reducible assumption)
      obtain ⟨go16, dT, dU, dV, gl16, cl16, HG16⟩ := Kd.Dd ah.out (by omega)
      (first | cases dU | (injection dU with ea_ en_ ec_; (first | subst ea_ | (injection ea_ with ea_; subst ea_)); subst ec_; clear en_))
      have GB16 := Aa.mk dV
      have GG16 := Aa.mk HG16
      clear dV gl16 HG16
      obtain ⟨dz, dA⟩ := Kd.Cx false ah.out (aC : Int) p16 q16
      replace p16 := eq_true p16
      replace q16 := eq_true q16
      have dB := Kd.R_putn ah.out (aC : Int) (!(rdOf false ab aC))
      rw [← dS.out] at dB
      have HQ21 := Aa.mk dB
      clear dB
      refine start_ (n := 11) (S := fun w' => w'.cell? ⟨au, 0, none⟩ = some (.int .i64 aY) ∧ w'.cell? ⟨au, 1, none⟩ = some (.int .i64 bc) ∧ w'.cell? ⟨au, 2, none⟩ = some (.slice (some ⟨go16, 0, none⟩) aj.length dT) ∧ w'.cell? ⟨ak, 0, none⟩ = some (.int .i64 af) ∧ w'.cell? ⟨ak, 1, none⟩ = some (.int .i64 ag) ∧ w'.cell? ⟨ak, 2, none⟩ = some (.slice (some di) ab.length aq) ∧ w'.cell? (di.add (aC).toNat) = some (.bool (rdOf false ab aC))) (ds := [10]) #[false, false, false, false, false, false, false, false, false, false, false] (by kernel_rfl) rfl rfl ⟨(Ad ao.out 0).trans rfl, (Ad ao.out 1).trans rfl, (Ad ao.out 2).trans rfl, (Ad ac.out 0).trans rfl, (Ad ac.out 1).trans rfl, (Ad ac.out 2).trans rfl, ((HB.out.cell (World.block_lt_of_cell? w _ b9)).trans b9)⟩ (fun hHeld => ?_); refine with_tabW Bh.tab5 Bh.bits5 (fun HT_ HW_ => ?_)
      generalize wr.drew = w20 at ah ac an ao HB GG16 HQ21 dA dz aQ hHeld ⊢
      refine pure_ (i := 0) (N := some 17) (v := ?_) (a' := ?_) (bA 11 1) rfl rfl (any_of HT_.out (by kernel_rfl)) (fun _ _ _ h => h) (Or.inl ⟨by rfl, ?_⟩) ?_ ?_
      rotate_left; (intro w'; go_simp; with_reducible rfl); rotate_left; (simp only [Act.put, sA, sB, sC, i64_w, i32_w]; rfl)
      refine pure_ (i := 2) (N := some 19) (v := ?_) (a' := ?_) (bA 11 5) rfl rfl (any_of HT_.out (by kernel_rfl)) (fun _ _ _ h => h) (Or.inl ⟨by rfl, ?_⟩) ?_ ?_
      rotate_left; (intro w'; go_simp; with_reducible rfl); rotate_left; (simp only [Act.put, sA, sB, sC, i64_w, i32_w]; rfl)
      refine pure_ (i := 3) (N := some 20) (v := ?_) (a' := ?_) (bA 11 13) rfl rfl (any_of HT_.out (by kernel_rfl)) (fun _ _ _ h => h) (Or.inl ⟨by rfl, ?_⟩) ?_ ?_
      rotate_left; (intro w'; go_simp; with_reducible rfl); rotate_left; (simp only [Act.put, sA, sB, sC, i64_w, i32_w]; rfl)
      refine pure_ (i := 5) (N := some 22) (v := ?_) (a' := ?_) (bA 11 45) rfl rfl (any_of HT_.out (by kernel_rfl)) (fun _ _ _ h => h) (Or.inl ⟨by rfl, ?_⟩) ?_ ?_
      rotate_left; (intro w'; go_simp; with_reducible rfl); rotate_left; (simp only [Act.put, sA, sB, sC, i64_w, i32_w]; rfl)
      refine take_ (i := 1) (N := some 18) (v := ?_) (a' := ?_) (bA 11 47) rfl rfl (take_ofW HT_.out HW_.out (by kernel_rfl)) (fun _ _ _ h => h) (Or.inl ⟨by rfl, ?_⟩) hHeld ?_ ?_
      rotate_left; (rintro w' ⟨s0, s1, s2, s3, s4, s5, s6⟩; go_simp; with_reducible rfl); rotate_left; (simp only [Act.put, sA, sB, sC, i64_w, i32_w]; rfl)
      refine take_ (i := 4) (N := some 21) (v := ?_) (a' := ?_) (bA 11 63) rfl rfl (take_ofW HT_.out HW_.out (by kernel_rfl)) (fun _ _ _ h => h) (Or.inl ⟨by rfl, ?_⟩) hHeld ?_ ?_
      rotate_left; (rintro w' ⟨s0, s1, s2, s3, s4, s5, s6⟩; go_simp; with_reducible rfl); rotate_left; (simp only [Act.put, sA, sB, sC, i64_w, i32_w]; rfl)
      refine pure_ (i := 6) (N := some 23) (v := ?_) (a' := ?_) (bA 11 127) rfl rfl (any_of HT_.out (by kernel_rfl)) (fun _ _ _ h => h) (Or.inl ⟨by rfl, ?_⟩) ?_ ?_
      rotate_left; (intro w'; go_simp; with_reducible rfl); rotate_left; (simp only [Act.put, sA, sB, sC, i64_w, i32_w]; rfl)
      refine take_ (i := 7) (N := some 24) (v := ?_) (a' := ?_) (bA 11 255) rfl rfl (take_ofW HT_.out HW_.out (by kernel_rfl)) (fun _ _ _ h => h) (Or.inl ⟨by rfl, ?_⟩) hHeld ?_ ?_
      rotate_left; (rintro w' ⟨s0, s1, s2, s3, s4, s5, s6⟩; go_simp; with_reducible rfl); rotate_left; (simp only [Act.put, sA, sB, sC, i64_w, i32_w]; rfl)
      refine pure_ (i := 8) (N := some 25) (v := ?_) (a' := ?_) (bA 11 511) rfl rfl (any_of HT_.out (by kernel_rfl)) (fun _ _ _ h => h) (Or.inl ⟨by rfl, ?_⟩) ?_ ?_
      rotate_left; (intro w'; go_simp; with_reducible rfl); rotate_left; (simp only [Act.put, sA, sB, sC, i64_w, i32_w]; rfl)
      refine pure_ (i := 9) (N := some 26) (v := ?_) (a' := ?_) (bA 11 1023) rfl rfl (any_of HT_.out (by kernel_rfl)) (fun _ _ _ h => h) (Or.inl ⟨by rfl, ?_⟩) ?_ ?_
      rotate_left; (intro w'; go_simp; with_reducible rfl); rotate_left; (simp only [Act.put, sA, sB, sC, i64_w, i32_w]; rfl)
      refine last_ (i := 10) (N := none) (bA 11 2047) rfl rfl (one_of HT_.out (by kernel_rfl)) (by decide) (fun K hK => ?_)
      refine skip_ (w1 := ?_) (by rfl) rfl ?_ ?_
      rotate_left
      ·go_simp
       rfl
      refine hK.out _ _ ?_
      clear hK K
      refine done_ (done_of HT_.out (by kernel_rfl)) ?_
      try go_wp2
      go_roundg k1
      case measure => have := HK1.out; omega
      case rel => exact ⟨(wrap64 (aC + 1)), (ew), (.slice (some ⟨go16, 0, none⟩) aj.length dT), (by first | rfl | (simp; done) | (simp [*]; done)), H', ⟨by have := HK1.out; omega⟩, ⟨by exact rU <| HQ21.out⟩, ⟨by (with_reducible repeat (first | refine Ax ?_ _ | refine Ay ?_ | refine Ak ?_ _)); refine Bk ?_ (by have h_ := Kd.De ah.out ac.out (by decide); intro e_; exact h_ (by rw [e_]; rfl)) _; exact bU <| ac.out⟩, ⟨by (with_reducible repeat (first | refine Ax ?_ _ | refine Ay ?_ | refine Ak ?_ _)); refine Bk ?_ (by have h_ := Kd.De ah.out an.out (by decide); intro e_; exact h_ (by rw [e_]; rfl)) _; exact bU <| an.out⟩, ⟨by (with_reducible repeat (first | refine Ax ?_ _ | refine Ay ?_ | refine Ak ?_ _)); refine Bk ?_ (by have h_ := Kd.De ah.out ao.out (by decide); intro e_; exact h_ (by rw [e_]; rfl)) _; exact bU <| ao.out⟩, ⟨by repeat (first | (with_reducible first | exact HB.out | apply Ae | apply Ac | apply Ah | refine Ag ?_ GB16.out | refine Ag ?_ aJ.out | refine Ag ?_ aX.out | refine Ag ?_ cx.out) | exact HB.out)⟩⟩
     ·rw [if_neg c15] at H
      exact absurd H (by simp)
    ·rw [if_neg c14] at H
     exact absurd H (by simp)
   ·rw [if_neg c13] at H
    have dR : decide (aC < (ab.length : Int)) = false := decide_eq_false c13
    clear c13
    simp only [Option.some.injEq, Prod.mk.injEq] at H
    obtain ⟨rfl, rfl, rfl⟩ := H
    have dH := aT.out
    have dI := aU.out
    have e7 := aA.out
    have e8 := aV.out
    have cz : wr.cell? ⟨ak, 0, none⟩ = some (.int .i64 af) := (Ad ac.out 0).trans rfl
    have cA : wr.cell? ⟨ak, 1, none⟩ = some (.int .i64 ag) := (Ad ac.out 1).trans rfl
    have cB : wr.cell? ⟨ak, 2, none⟩ = some (.slice ar ab.length aq) := (Ad ac.out 2).trans rfl
    have cC := Af ac.out 0
    have cD := Af ac.out 1
    have cE := Af ac.out 2
    have dL := bd.out
    have dM := aD.out
    have cF : wr.cell? ⟨au, 0, none⟩ = some (.int .i64 aY) := (Ad ao.out 0).trans rfl
    have cG : wr.cell? ⟨au, 1, none⟩ = some (.int .i64 bc) := (Ad ao.out 1).trans rfl
    have cH : wr.cell? ⟨au, 2, none⟩ = some (u205002) := (Ad ao.out 2).trans rfl
    have cI := Af ao.out 0
    have cJ := Af ao.out 1
    have cK := Af ao.out 2
    have cL : wr.cell? ⟨av, 0, none⟩ = some (.int .i64 0) := (Ad an.out 0).trans rfl
    have cM : wr.cell? ⟨av, 1, none⟩ = some (.int .i64 0) := (Ad an.out 1).trans rfl
    have cO : wr.cell? ⟨av, 2, none⟩ = some (.slice none 0 0) := (Ad an.out 2).trans rfl
    have cP := Af an.out 0
    have cQ := Af an.out 1
    have cR := Af an.out 2
    obtain ⟨dW, dX, ez⟩ := Kd.B0 ah.out
    subst ez
    go_wp2
    refine bodyPost_ret (results_cell_row rfl _ _ av 50 #[.int .i64 aY, .int .i64 bc, .slice dW aj.length dX] (0, 0) _ rfl (by (with_reducible repeat (first | refine Ax ?_ _ | refine Ay ?_ | refine Ak ?_ _)); refine Bo (cs := #[.int .i64 aY, .int .i64 bc, .slice none 0 0]) ?_ 2 _ rfl; (with_reducible repeat (first | refine Ax ?_ _ | refine Ay ?_ | refine Ak ?_ _)); refine Bo (cs := #[.int .i64 aY, .int .i64 0, .slice none 0 0]) ?_ 1 _ rfl; (with_reducible repeat (first | refine Ax ?_ _ | refine Ay ?_ | refine Ak ?_ _)); refine Bo (cs := #[.int .i64 0, .int .i64 0, .slice none 0 0]) ?_ 0 _ rfl; exact bU <| an.out) Try.underlying50 rfl (by kernel_rfl)) rfl ?_
    exact ⟨_, by first | rfl | (simp [Be, Bd] <;> rfl) | (simp [*, Be, Bd] <;> rfl), by exact rU <| Kd.Bj (Kd.Bn (p := ⟨av, 2, none⟩) (Kd.Bn (p := ⟨av, 1, none⟩) (Kd.Bn (p := ⟨av, 0, none⟩) (Kd.Cb ah.out an.out (by decide)) (fun _ hk => hk.2) (.int .i64 aY)) (fun _ hk => hk.2) (.int .i64 bc)) (fun _ hk => hk.2) (.slice dW aj.length dX)) (fun _ hk => trivial), by repeat (first | (with_reducible first | exact HB.out | apply Ae | apply Ac | apply Ah | refine Ag ?_ aJ.out | refine Ag ?_ aX.out | refine Ag ?_ cx.out) | exact HB.out)⟩

def Di.f (a0 : Int) : Option (Int) := some a0
set_option maxHeartbeats 8000000 in
set_option maxRecDepth 100000 in
theorem Di.calls (a0 : Int) (r : Int) (w : World) (h : Di.f a0 = some r) :
  Calls Try.prog 17 #[.int .i64 a0] w fun e w' => e = .returned (.int .i64 r) ∧ Drawn0 w w' := by
 have H : (some a0) = some r := h
 clear h
 obtain rfl := Option.some.inj H
 go_enter Try.func17, Try.ntmps17
 go_wp2
 go_ret
 exact ⟨by first | rfl | (simp; done) | (simp [*]; done), by repeat (first | exact Drawn0.refl _ | apply Drawn0.step)⟩

end Go.Proofs.Yteamphcehoaleaa.PFA

