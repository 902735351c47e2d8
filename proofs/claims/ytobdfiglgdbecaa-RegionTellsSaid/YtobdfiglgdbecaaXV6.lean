import Derived.Test.YtobdfiglgdbecaaXV4
import Derived.Test.YtobdfiglgdbecaaXPGKx1
section
set_option linter.unusedVariables false
set_option linter.unusedSimpArgs false
open Go Go.RowKit Go.Proofs.YtobdfiglgdbecaaW.PrintWords Go.Proofs.YtobdfiglgdbecaaW.PrintMore
namespace Go.Proofs.Ytobdfiglgdbecaa
open PGA PGB PGH PGK
namespace VR
theorem moved_append (a b : List RG.Rc) (x y z t : Int) : RG.movedP (a ++ b) x y z t = RG.movedP a x y z t ++ RG.movedP b x y z t := by unfold RG.movedP; rw [List.filter_append, List.map_append]
theorem moved_le (a : List RG.Rc) (x y z t : Int) : (RG.movedP a x y z t).length ≤ a.length := by unfold RG.movedP; rw [List.length_map]; exact List.length_filter_le _ _
theorem moved_l0 (l : List S58) (hl : l.length ≤ 4096) (a1 a2 a3 a4 : Int) (h1 : -100000 ≤ a1 ∧ a1 ≤ 100000) (h2 : -100000 ≤ a2 ∧ a2 ≤ 100000) (h3 : -100000 ≤ a3 ∧ a3 ≤ 100000) (h4 : -100000 ≤ a4 ∧ a4 ≤ 100000) (hn : ∀ r ∈ l.map rc, RG.some1 r = true → RG.near4 r = true) : ∀ d i, i + d = l.length →
    Ev (fun k => Cq.l0 k a1 a2 a3 a4 ((RG.movedP ((l.take i).map rc) a1 a2 a3 a4).map cr) l (l.length : Int) (i : Int)) ((RG.movedP (l.map rc) a1 a2 a3 a4).map cr) := by
  intro d
  induction d with
  | zero =>
    intro i hi; refine one_round fun k => ?_
    rw [Cq.l0, if_neg (by omega), List.take_of_length_le (by omega)]
  | succ d ih =>
    intro i hi; have hlt : i < l.length := by omega
    have hb := moved_le ((l.take i).map rc) a1 a2 a3 a4; rw [List.length_map, List.length_take] at hb; refine Ev.step (fun k => ?_) (ih (i + 1) (by omega))
    have e : RG.movedP ((l.take (i + 1)).map rc) a1 a2 a3 a4 = RG.movedP ((l.take i).map rc) a1 a2 a3 a4 ++ RG.movedP [rc l[i]] a1 a2 a3 a4 := by
      rw [List.take_succ_eq_append_getElem hlt, List.map_append, moved_append]; rfl
    rw [Cq.l0, if_pos (by omega), if_pos (by omega), if_pos (by omega), rdR l i hlt, some_val, wrs i (by omega), e]
    simp only [Option.bind_some]
    by_cases c : RG.some1 (rc l[i]) = true
    · have hnn := (RG.near4_iff _).mp (hn (rc l[i]) (List.mem_map.mpr ⟨l[i], List.getElem_mem hlt, rfl⟩) c)
      obtain ⟨n0, n1, n2, n3⟩ := hnn; have n0 : -8192 ≤ l[i].f0 ∧ l[i].f0 ≤ 8192 := n0; have n1 : -8192 ≤ l[i].f1 ∧ l[i].f1 ≤ 8192 := n1; have n2 : -8192 ≤ l[i].f2 ∧ l[i].f2 ≤ 8192 := n2; have n3 : -8192 ≤ l[i].f3 ∧ l[i].f3 ≤ 8192 := n3; have w0 : wrap64 (l[i].f0 - a1) = l[i].f0 - a1 := by unfold wrap64; omega
      have w1 : wrap64 (l[i].f1 - a2) = l[i].f1 - a2 := by unfold wrap64; omega
      have w2 : wrap64 (l[i].f2 + a3) = l[i].f2 + a3 := by unfold wrap64; omega
      have w3 : wrap64 (l[i].f3 + a4) = l[i].f3 + a4 := by unfold wrap64; omega
      have e2 : RG.movedP [rc l[i]] a1 a2 a3 a4 = [(l[i].f0 - a1, l[i].f1 - a2, l[i].f2 + a3, l[i].f3 + a4)] := by unfold RG.movedP; rw [List.filter_cons, if_pos c]; rfl
      rw [if_pos c, if_pos (by rw [List.length_map]; omega), w0, w1, w2, w3, e2, List.map_append]; rfl
    · have e2 : RG.movedP [rc l[i]] a1 a2 a3 a4 = [] := by unfold RG.movedP; rw [List.filter_cons, if_neg c]; rfl
      rw [if_neg c, e2, List.append_nil]
theorem moved_val (l : List S58) (a1 a2 a3 a4 : Int) (h1 : -100000 ≤ a1 ∧ a1 ≤ 100000) (h2 : -100000 ≤ a2 ∧ a2 ≤ 100000) (h3 : -100000 ≤ a3 ∧ a3 ≤ 100000) (h4 : -100000 ≤ a4 ∧ a4 ≤ 100000) (hr : RG.rightP (l.map rc) = 0) :
    Ev (fun k => Cq.f k l a1 a2 a3 a4) ((RG.movedP (l.map rc) a1 a2 a3 a4).map cr) := moved_l0 l (right_len hr) a1 a2 a3 a4 h1 h2 h3 h4 (RG.right_le hr).2 l.length 0 (Nat.zero_add _)
theorem told_moved (l : List S58) (a1 a2 a3 a4 : Int) (hr : RG.rightP (l.map rc) = 0) :
    Ev (fun k => (Aw.f k ((RG.movedP (l.map rc) a1 a2 a3 a4).map cr) [] 49).bind fun t => (B0.f k t).bind fun bt => some (bt.1, bt.2)) (outP (RG.toldP (RG.sweepP (RG.movedP (l.map rc) a1 a2 a3 a4) [] RG.firstB))) := by
  have hm := moved_le (l.map rc) a1 a2 a3 a4; rw [List.length_map] at hm; have hl := right_len hr; have hs := sweep_val ((RG.movedP (l.map rc) a1 a2 a3 a4).map cr) [] 49 (by rw [List.length_map]; omega) (by simp); have ht := told_sweep ((RG.movedP (l.map rc) a1 a2 a3 a4).map cr) [] 49 (by rw [List.length_map]; omega) (by simp); rw [keep_first, map_rc_cr] at hs ht; exact Ev.bind hs (Ev.bind ht (Ev.now _))
theorem grow_val (l : List S58) (a1 a2 a3 a4 : Int) : Ev (fun k => Cn.f k l a1 a2 a3 a4) (outP (RG.growP (l.map rc) a1 a2 a3 a4)) := by
  have w1 : wrap64 (0 + 1) = 1 := by unfold wrap64; omega
  have w2 : wrap64 (1 + 1) = 2 := by unfold wrap64; omega
  have w3 : wrap64 (2 + 1) = 3 := by unfold wrap64; omega
  have w4 : wrap64 (3 + 1) = 4 := by unfold wrap64; omega
  have r0 : rd [a1, a2, a3, a4] 0 = a1 := rfl; have r1 : rd [a1, a2, a3, a4] 1 = a2 := rfl; have r2 : rd [a1, a2, a3, a4] 2 = a3 := rfl; have r3 : rd [a1, a2, a3, a4] 3 = a4 := rfl; have hlen : ([a1, a2, a3, a4].length : Int) = 4 := rfl; unfold Cn.f RG.growP; refine Ev.bind (right_val l) ?_
  by_cases ca : RG.rightP (l.map rc) = 0
  · rw [if_pos ca]
    refine Ev.congr (fun k => by rw [if_pos ca, Option.bind_some, hlen]) ?_; have hbad : ∀ {b : Bool}, b = false → Ev (fun _ : Nat => some (([] : List S58), (61 : Int))) (outP (if b = true then RG.toldP (RG.sweepP (RG.movedP (l.map rc) a1 a2 a3 a4) [] RG.firstB) else ([], 61))) := fun h => by rw [h]; exact Ev.now _
    refine Ev.step (fun k => by rw [Cn.l0, if_pos (by omega), if_pos (by omega), if_pos (by rw [hlen]; omega), r0, w1]) ?_
    by_cases c1 : a1 < 0
    · exact Ev.congr (fun k => by rw [if_pos c1]) (hbad (by simp; omega))
    by_cases d1 : a1 > 16384
    · exact Ev.congr (fun k => by rw [if_neg c1, if_pos d1]) (hbad (by simp; omega))
    refine Ev.congr (fun k => by rw [if_neg c1, if_neg d1]) ?_; refine Ev.step (fun k => by rw [Cn.l0, if_pos (by omega), if_pos (by omega), if_pos (by rw [hlen]; omega), r1, w2]) ?_
    by_cases c2 : a2 < 0
    · exact Ev.congr (fun k => by rw [if_pos c2]) (hbad (by simp; omega))
    by_cases d2 : a2 > 16384
    · exact Ev.congr (fun k => by rw [if_neg c2, if_pos d2]) (hbad (by simp; omega))
    refine Ev.congr (fun k => by rw [if_neg c2, if_neg d2]) ?_; refine Ev.step (fun k => by rw [Cn.l0, if_pos (by omega), if_pos (by omega), if_pos (by rw [hlen]; omega), r2, w3]) ?_
    by_cases c3 : a3 < 0
    · exact Ev.congr (fun k => by rw [if_pos c3]) (hbad (by simp; omega))
    by_cases d3 : a3 > 16384
    · exact Ev.congr (fun k => by rw [if_neg c3, if_pos d3]) (hbad (by simp; omega))
    refine Ev.congr (fun k => by rw [if_neg c3, if_neg d3]) ?_; refine Ev.step (fun k => by rw [Cn.l0, if_pos (by omega), if_pos (by omega), if_pos (by rw [hlen]; omega), r3, w4]) ?_
    by_cases c4 : a4 < 0
    · exact Ev.congr (fun k => by rw [if_pos c4]) (hbad (by simp; omega))
    by_cases d4 : a4 > 16384
    · exact Ev.congr (fun k => by rw [if_neg c4, if_pos d4]) (hbad (by simp; omega))
    refine Ev.congr (fun k => by rw [if_neg c4, if_neg d4]) ?_; refine Ev.step (fun k => by rw [Cn.l0, if_neg (by omega)]) ?_; rw [if_pos (by simp; omega)]; exact Ev.bind (moved_val l a1 a2 a3 a4 (by omega) (by omega) (by omega) (by omega) ca) (told_moved l a1 a2 a3 a4 ca)
  · rw [if_neg ca]
    exact Ev.congr (fun k => by rw [if_neg ca]; rfl) (Ev.now _)
theorem shift_val (l : List S58) (dx dy : Int) : Ev (fun k => Cb.f k l dx dy) (outP (RG.shiftP (l.map rc) dx dy)) := by
  unfold Cb.f RG.shiftP; refine Ev.bind (right_val l) ?_
  by_cases ca : RG.rightP (l.map rc) = 0
  · rw [if_pos ca]
    refine Ev.congr (fun k => by rw [if_pos ca]) ?_; have hcv := cuts_val1 l (right_len ca); refine Ev.bind hcv ?_
    by_cases cc : RG.cutsP (l.map rc) [] = []
    · rw [if_pos cc]
      refine Ev.congr (fun k => by rw [if_neg (by rw [cc]; simp)]) ?_; refine Ev.step (fun k => by rw [Cb.j0, if_neg (by simp)]) ?_; refine Ev.bind hcv ?_; exact Ev.congr (fun k => by rw [if_neg (by rw [cc]; simp)]; rfl) (Ev.now _)
    · have hpos : ((RG.cutsP (l.map rc) []).length : Int) > 0 := by have := List.length_pos_iff.mpr cc; omega
      rw [if_neg cc]; refine Ev.congr (fun k => by rw [if_pos hpos]) ?_; have hf : Db.f [dx, dy] = some (farB dx || farB dy) := by unfold Db.f; simp
      refine Ev.congr (fun k => by rw [hf, Option.bind_some]) ?_
      by_cases cf : (dx ≤ 32768 ∧ -32768 ≤ dx) ∧ (dy ≤ 32768 ∧ -32768 ≤ dy)
      · have hb : (farB dx || farB dy) = false := by
          unfold farB
          simp only [Bool.or_eq_false_iff, decide_eq_false_iff_not]
          omega
        rw [if_pos cf]; have wx : wrap64 (-dx) = -dx := by unfold wrap64; omega
        have wy : wrap64 (-dy) = -dy := by unfold wrap64; omega
        refine Ev.step (fun k => by rw [hb, Cb.j0, if_pos (by simp), wx, wy]) ?_; exact Ev.bind (moved_val l (-dx) (-dy) dx dy (by omega) (by omega) (by omega) (by omega) ca) (told_moved l (-dx) (-dy) dx dy ca)
      · have hb : (farB dx || farB dy) = true := by
          unfold farB
          simp only [Bool.or_eq_true, decide_eq_true_eq]
          omega
        rw [if_neg cf]; refine Ev.step (fun k => by rw [hb, Cb.j0, if_neg (by simp)]) ?_; refine Ev.bind hcv ?_; exact Ev.congr (fun k => by rw [if_pos hpos]; rfl) (Ev.now _)
  · rw [if_neg ca]
    exact Ev.congr (fun k => by rw [if_neg ca]; rfl) (Ev.now _)
theorem num_val (x : Int) : Cc.f x = some x := rfl
theorem known_true : Ev (fun k => Dk.f k) true := by
  have h1 := of_val [⟨0, 0, 2, 2⟩, ⟨1, 1, 3, 3⟩]; rw [show RG.twoP ([⟨0, 0, 2, 2⟩, ⟨1, 1, 3, 3⟩].map rc) [] RG.firstB = ([(0, 0, 2, 1), (0, 1, 3, 2), (1, 2, 3, 3)], 0) by decide +kernel] at h1; have h2 := count_val [⟨0, 0, 2, 1⟩, ⟨0, 1, 3, 2⟩, ⟨1, 2, 3, 3⟩]; rw [show RG.countP ([⟨0, 0, 2, 1⟩, ⟨0, 1, 3, 2⟩, ⟨1, 2, 3, 3⟩].map rc) = (7, 0) by decide +kernel] at h2; have h3 := less_val [⟨0, 0, 3, 3⟩] [⟨1, 1, 2, 2⟩]; rw [show RG.twoP ([⟨0, 0, 3, 3⟩].map rc) ([⟨1, 1, 2, 2⟩].map rc) RG.withoutB = ([(0, 0, 3, 1), (0, 1, 1, 2), (2, 1, 3, 2), (0, 2, 3, 3)], 0) by decide +kernel] at h3; have h4 := of_val [⟨0, 0, 1, 1⟩, ⟨1, 0, 2, 1⟩, ⟨0, 1, 2, 2⟩]; rw [show RG.twoP ([⟨0, 0, 1, 1⟩, ⟨1, 0, 2, 1⟩, ⟨0, 1, 2, 2⟩].map rc) [] RG.firstB = ([(0, 0, 2, 2)], 0) by decide +kernel] at h4; have h5 := grow_val [⟨0, 0, 1, 1⟩] 1 0 2 1; rw [show RG.growP ([⟨0, 0, 1, 1⟩].map rc) 1 0 2 1 = ([(-1, 0, 3, 2)], 0) by decide +kernel] at h5; have h6 := shift_val [⟨0, 0, 1, 1⟩] 8192 0; rw [show RG.shiftP ([⟨0, 0, 1, 1⟩].map rc) 8192 0 = ([], 61) by decide +kernel] at h6; unfold Dk.f; refine Ev.bind h1 (Ev.bind h2 (Ev.bind h3 (Ev.bind h4 (Ev.bind h5 (Ev.bind h6 ?_))))); refine Ev.bind (eqR_true _ _ (by simp [outP]) rfl) ?_; refine Ev.congr (fun k => by rw [if_pos rfl, if_pos rfl]) ?_; refine Ev.bind (eqR_true _ _ (by simp [outP]) rfl) ?_; refine Ev.congr (fun k => by rw [if_pos rfl]) ?_; refine Ev.bind (eqR_true _ _ (by simp [outP]) rfl) ?_; refine Ev.congr (fun k => by rw [if_pos rfl]) ?_; refine Ev.bind (eqR_true _ _ (by simp [outP]) rfl) ?_; refine Ev.congr (fun k => by rw [if_pos rfl, num_val, Option.bind_some]) ?_; exact Ev.now _
end VR
end Go.Proofs.Ytobdfiglgdbecaa
end
section
set_option linter.unusedVariables false
set_option linter.unusedSimpArgs false
open Go Go.RowKit Go.Proofs.YtobdfiglgdbecaaW.PrintWords Go.Proofs.YtobdfiglgdbecaaW.PrintMore
namespace Go.Proofs.Ytobdfiglgdbecaa
open PGA PGB PGH PGK
namespace RG
theorem count_good {a : List Rc} (ha : rightP a = 0) : countP a = ((cnt (cov a) (-8192) 16384 : Int), 0) := by
  unfold countP; rw [if_pos ha, areaI_eq _ (sweep_ok a [] firstB rfl).1, area_val ha right_nil rfl]; rfl
end RG
namespace VR
open RG (cov rightP twoP flat sweepP)
end VR
end Go.Proofs.Ytobdfiglgdbecaa
end
