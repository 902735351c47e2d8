import Derived.Test.YtobdfiglgdbecaaXV2
import Derived.Test.YtobdfiglgdbecaaXPGAx5
import Derived.Test.YtobdfiglgdbecaaXPGAx6
import Derived.Test.YtobdfiglgdbecaaXPGAx7
set_option linter.unusedVariables false
set_option linter.unusedSimpArgs false
open Go Go.RowKit Go.Proofs.YtobdfiglgdbecaaW.PrintWords Go.Proofs.YtobdfiglgdbecaaW.PrintMore
namespace Go.Proofs.Ytobdfiglgdbecaa
open PGA PGB
namespace VR
theorem keep_ff (c : Int) : keepB c false false = false := by
  unfold keepB
  split
  · rfl
  · split
    · rfl
    · split
      · rfl
      · split <;> rfl
def addB' (out : List S91) (x x' : Int) (v : List RG.Sp) : List S91 := (RG.addP (out.map bd) x x' v).map db
theorem map_db_bd (l : List S91) : (l.map bd).map db = l := by
  rw [List.map_map, show db ∘ bd = id from funext db_bd]; exact List.map_id l
theorem addB_nil (x x' : Int) (v : List RG.Sp) : addB' [] x x' v = [⟨x, x', v.map ps⟩] := rfl
theorem addB_snoc (i : List S91) (p : S91) (x x' : Int) (v : List RG.Sp) : addB' (i ++ [p]) x x' v = if p.f1 = x ∧ p.f2.map sp = v then i ++ [⟨p.f0, x', p.f2⟩] else (i ++ [p]) ++ [⟨x, x', v.map ps⟩] := by
  unfold addB' RG.addP; rw [List.map_append, show (i.map bd ++ [p].map bd).getLast? = some (bd p) by simp]; dsimp only
  by_cases c : p.f1 = x ∧ p.f2.map sp = v
  · rw [if_pos (show (bd p).2.1 = x ∧ (bd p).2.2 = v from c), if_pos c, show [p].map bd = [bd p] from rfl, List.dropLast_concat, List.map_append, map_db_bd]
    obtain ⟨_, c2⟩ := c; subst c2; show i ++ [S91.mk p.f0 x' ((p.f2.map sp).map ps)] = _; rw [map_ps_sp]
  · rw [if_neg (show ¬ ((bd p).2.1 = x ∧ (bd p).2.2 = v) from c), if_neg c, ← List.map_append, List.map_append, map_db_bd]; rfl
theorem addB_le (out : List S91) (x x' : Int) (v : List RG.Sp) : (addB' out x x' v).length ≤ out.length + 1 := by
  rcases RG.last_split out with rfl | ⟨i, p, rfl⟩
  · simp [addB_nil]
  · rw [addB_snoc]; split <;> simp
theorem addB_f2 (out : List S91) (x x' : Int) (v : List RG.Sp) (h : ∀ b ∈ out, b.f2.length ≤ 8192) (hv : v.length ≤ 8192) : ∀ b ∈ addB' out x x' v, b.f2.length ≤ 8192 := by
  rcases RG.last_split out with rfl | ⟨i, p, rfl⟩
  · intro b hb
    rw [addB_nil, List.mem_singleton] at hb; rw [hb]; simpa using hv
  · intro b hb
    rw [addB_snoc] at hb
    split at hb
    · rw [List.mem_append, List.mem_singleton] at hb
      rcases hb with hb | rfl
      · exact h b (by simp [hb])
      · exact h p (by simp)
    · rw [List.mem_append, List.mem_singleton] at hb
      rcases hb with hb | rfl
      · exact h b hb
      · simpa using hv
theorem row_small (a : List S58) (y : Int) (ha : a.length ≤ 4096) : (RG.rowP (a.map rc) y).length ≤ 4096 := by
  have h1 := RG.row_len (a.map rc) y; have h2 := act_le (a.map rc) y; rw [List.length_map] at h2
  omega
theorem merge_small (a b : List S58) (c y : Int) (ha : a.length ≤ 4096) (hb : b.length ≤ 4096) : (RG.mergeP (RG.rowP (a.map rc) y) (RG.rowP (b.map rc) y) (keepB c)).length ≤ 8192 := by
  have h1 := RG.merge_len (RG.rowP (a.map rc) y) (RG.rowP (b.map rc) y) (keepB c) (keep_ff c); have h2 := row_small a y ha; have h3 := row_small b y hb
  omega
theorem sweep_l0 (a b : List S58) (c : Int) (ha : a.length ≤ 4096) (hb : b.length ≤ 4096) (e : List Int) (he : e.length ≤ 100000) : ∀ d j (out : List S91), j + d = e.length → out.length ≤ j → (∀ x ∈ out, x.f2.length ≤ 8192) →
    Ev (fun k => Aw.l0 k a b c e out (j : Int)) ((RG.buildP (RG.rowOf (a.map rc) (b.map rc) (keepB c)) (e.drop j) (out.map bd)).map db) := by
  intro d
  induction d with
  | zero =>
    intro j out hj ho hs; refine one_round fun k => ?_
    rw [Aw.l0, wrs j (by omega), if_neg (by omega), List.drop_of_length_le (by omega)]; show some out = some ((out.map bd).map db); rw [map_db_bd]
  | succ d ih =>
    intro j out hj ho hs; have hlt : j < e.length := by omega
    by_cases h1 : j + 1 < e.length
    · rw [List.drop_eq_getElem_cons hlt, List.drop_eq_getElem_cons h1]
      simp only [RG.buildP]
      have hd : e[j + 1] :: e.drop (j + 1 + 1) = e.drop (j + 1) := (List.drop_eq_getElem_cons h1).symm; rw [hd]; have hms := merge_small a b c e[j] ha hb; obtain ⟨m, hm⟩ : ∃ m, m = RG.mergeP (RG.rowP (a.map rc) e[j]) (RG.rowP (b.map rc) e[j]) (keepB c) := ⟨_, rfl⟩; rw [← hm] at hms
      have hmv : Ev (fun k => Bi.f k ((RG.rowP (a.map rc) e[j]).map ps) ((RG.rowP (b.map rc) e[j]).map ps) c) (m.map ps) := by
        have h := merge_val ((RG.rowP (a.map rc) e[j]).map ps) ((RG.rowP (b.map rc) e[j]).map ps) c (by rw [List.length_map]; have := row_small a e[j] ha; omega) (by rw [List.length_map]; have := row_small b e[j] hb; omega); rw [map_sp_ps, map_sp_ps, ← hm] at h; exact h
      have hro : RG.rowOf (a.map rc) (b.map rc) (keepB c) e[j] = if m = [] then none else some m := by unfold RG.rowOf; rw [← hm]
      rw [hro]; refine Ev.step (fun k => by rw [Aw.l0, wrs j (by omega), if_pos (by omega), if_pos (by omega), if_pos (by omega), rdI e j hlt]) ?_; refine Ev.bind (row_val a e[j] ha) ?_; refine Ev.bind (row_val b e[j] hb) ?_; refine Ev.bind hmv ?_
      by_cases cm : m = []
      · rw [if_pos cm]
        refine Ev.congr (fun k => ?_) (ih (j + 1) out (by omega) (by omega) hs); rw [if_pos (by rw [cm]; rfl)]
      · rw [if_neg cm]
        have hml : ¬ (((m.map ps).length : Int) = 0) := by
          rw [List.length_map]; have := List.length_pos_iff.mpr cm
          omega
        have ih2 := ih (j + 1) (addB' out e[j] e[j + 1] m) (by omega) (by have := addB_le out e[j] e[j + 1] m; omega) (addB_f2 out e[j] e[j + 1] m hs hms); rw [show (addB' out e[j] e[j + 1] m).map bd = RG.addP (out.map bd) e[j] e[j + 1] m from map_bd_db _] at ih2; show Ev _ ((RG.buildP _ (e.drop (j + 1)) (RG.addP (out.map bd) e[j] e[j + 1] m)).map db)
        rcases RG.last_split out with rfl | ⟨i, p, rfl⟩
        · refine Ev.congr (fun k => ?_) ih2
          rw [if_neg hml, if_neg (by simp), if_pos (by omega), if_pos (by simp), rdI e (j + 1) h1]; rfl
        · have hn : (i ++ [p]).length = i.length + 1 := by simp
          have hw : wrap64 (((i ++ [p]).length : Int) - 1) = (i.length : Int) := by rw [hn]; unfold wrap64; omega
          have hr : rd_T91 (i ++ [p]) (i.length : Int) = p := by rw [rdB _ _ (by rw [hn]; omega)]; simp
          have hpl := hs p (by simp); rw [addB_snoc] at ih2
          by_cases c1 : p.f1 = e[j]
          · refine Ev.congr (fun k => by rw [if_neg hml, if_pos (by rw [hn]; omega), hw, if_pos (by omega), if_pos (by rw [hn]; omega), hr, if_pos c1]) ?_
            refine Ev.bind (eqS_val p.f2 (m.map ps) (by omega)) ?_; rw [map_sp_ps]
            by_cases c2 : p.f2.map sp = m
            · rw [if_pos ⟨c1, c2⟩] at ih2
              refine Ev.congr (fun k => ?_) ih2; rw [if_pos (decide_eq_true c2), if_pos (by omega), rdI e (j + 1) h1, Int.toNat_natCast, set_last]
            · rw [if_neg (fun h => c2 h.2)] at ih2
              refine Ev.congr (fun k => ?_) ih2; rw [if_neg (by simpa using c2), if_pos (by omega), if_pos (by rw [hn]; omega), rdI e (j + 1) h1]
          · rw [if_neg (fun h => c1 h.1)] at ih2
            refine Ev.congr (fun k => ?_) ih2; rw [if_neg hml, if_pos (by rw [hn]; omega), hw, if_pos (by omega), if_pos (by rw [hn]; omega), hr, if_neg c1, if_pos (by omega), if_pos (by rw [hn]; omega), rdI e (j + 1) h1]
    · refine one_round fun k => ?_
      rw [Aw.l0, wrs j (by omega), if_neg (by omega), List.drop_eq_getElem_cons hlt, List.drop_of_length_le (show e.length ≤ j + 1 by omega)]; show some out = some ((out.map bd).map db); rw [map_db_bd]
theorem cutsP_len (a b : List RG.Rc) (ha : a.length ≤ 4096) (hb : b.length ≤ 4096) : (RG.cutsP a b).length ≤ 16384 := by
  have h := RG.dist_len (RG.cutsOf a ++ RG.cutsOf b); have h1 := cuts_len a; have h2 := cuts_len b; rw [List.length_append] at h; unfold RG.cutsP
  omega
theorem sweep_val (a b : List S58) (c : Int) (ha : a.length ≤ 4096) (hb : b.length ≤ 4096) : Ev (fun k => Aw.f k a b c) ((RG.sweepP (a.map rc) (b.map rc) (keepB c)).map db) := by
  have hc := cutsP_len (a.map rc) (b.map rc) (by simpa using ha) (by simpa using hb); refine Ev.bind (cuts_val a b ha hb) ?_; exact sweep_l0 a b c ha hb (RG.cutsP (a.map rc) (b.map rc)) (by omega) _ 0 [] (Nat.zero_add _) (Nat.le_refl _) (by simp)
theorem buildP_len {V : Type} [DecidableEq V] (g : Int → Option V) : ∀ (t : List Int) (out : List (Int × Int × V)), (RG.buildP g t out).length ≤ out.length + t.length
  | [], out => Nat.le_add_right _ _
  | [x], out => Nat.le_add_right _ _
  | x :: x' :: t, out => by
    simp only [RG.buildP]
    have h := buildP_len g (x' :: t) (RG.stepP out x x' (g x))
    have h2 : (RG.stepP out x x' (g x)).length ≤ out.length + 1 := by
      cases g x with
      | none => exact Nat.le_succ _
      | some v =>
        show (RG.addP out x x' v).length ≤ _
        rcases RG.last_split out with rfl | ⟨i, p, rfl⟩
        · simp [RG.addP]
        · unfold RG.addP
          rw [show (i ++ [p]).getLast? = some p by simp]; dsimp only
          split <;> simp
    simp only [List.length_cons] at h ⊢
    omega
theorem sweep_small (a b : List S58) (c : Int) (ha : a.length ≤ 4096) (hb : b.length ≤ 4096) : (RG.sweepP (a.map rc) (b.map rc) (keepB c)).length ≤ 16384 ∧ ∀ x ∈ RG.sweepP (a.map rc) (b.map rc) (keepB c), x.2.2.length ≤ 8192 := by
  have hc := cutsP_len (a.map rc) (b.map rc) (by simpa using ha) (by simpa using hb); have hl := buildP_len (RG.rowOf (a.map rc) (b.map rc) (keepB c)) (RG.cutsP (a.map rc) (b.map rc)) []; refine ⟨by unfold RG.sweepP; simp only [List.length_nil] at hl; omega, ?_⟩; refine RG.build_vals (P := fun s : List RG.Sp => s.length ≤ 8192) (RG.rowOf (a.map rc) (b.map rc) (keepB c)) (fun y v hv => ?_) _ _ (by simp); unfold RG.rowOf at hv
  split at hv
  · cases hv
  · obtain rfl := Option.some.inj hv
    exact merge_small a b c y ha hb
theorem told_sweep (a b : List S58) (c : Int) (ha : a.length ≤ 4096) (hb : b.length ≤ 4096) : Ev (fun k => B0.f k ((RG.sweepP (a.map rc) (b.map rc) (keepB c)).map db)) ((RG.toldP (RG.sweepP (a.map rc) (b.map rc) (keepB c))).1.map cr, (RG.toldP (RG.sweepP (a.map rc) (b.map rc) (keepB c))).2) := by
  obtain ⟨h1, h2⟩ := sweep_small a b c ha hb
  have h := told_val ((RG.sweepP (a.map rc) (b.map rc) (keepB c)).map db) (by rw [List.length_map]; omega) (fun x hx => by
    obtain ⟨y, hy, rfl⟩ := List.mem_map.mp hx; have := h2 y hy; show (y.2.2.map ps).length ≤ _; rw [List.length_map]; omega)
  rw [map_bd_db] at h; exact h
theorem right_len {a : List S58} (h : RG.rightP (a.map rc) = 0) : a.length ≤ 4096 := by
  have := (RG.right_le h).1
  rwa [List.length_map] at this
def outP (x : List RG.Rc × Int) : List S58 × Int := (x.1.map cr, x.2)
theorem two_val (a b : List S58) (c : Int) : Ev (fun k => Cz.f k a b c) (outP (RG.twoP (a.map rc) (b.map rc) (keepB c))) := by
  have w1 : wrap64 (0 + 1) = 1 := by unfold wrap64; omega
  have w2 : wrap64 (1 + 1) = 2 := by unfold wrap64; omega
  unfold Cz.f RG.twoP
  simp only [Option.bind_some]
  refine Ev.step (fun k => by rw [Cz.l0, if_pos (by simp), if_pos (by omega), if_pos (by simp), w1]) ?_; refine Ev.bind (right_val a) ?_
  by_cases ca : RG.rightP (a.map rc) = 0
  · rw [if_pos ca]
    refine Ev.congr (fun k => by rw [if_pos ca]) ?_; refine Ev.step (fun k => by rw [Cz.l0, if_pos (by simp), if_pos (by omega), if_pos (by simp), w2]) ?_; refine Ev.bind (right_val b) ?_
    by_cases cb : RG.rightP (b.map rc) = 0
    · rw [if_pos cb]
      refine Ev.congr (fun k => by rw [if_pos cb]) ?_; refine Ev.step (fun k => by rw [Cz.l0, if_neg (by simp)]) ?_; refine Ev.bind (sweep_val a b c (right_len ca) (right_len cb)) ?_; refine Ev.bind (told_sweep a b c (right_len ca) (right_len cb)) ?_; exact Ev.now _
    · rw [if_neg cb]
      refine Ev.congr (fun k => by rw [if_neg cb]) ?_; exact Ev.now _
  · rw [if_neg ca]
    refine Ev.congr (fun k => by rw [if_neg ca]) ?_; exact Ev.now _
theorem none_val (a b : List S58) (c : Int) : Ev (fun k => Cu.f k a b c) (RG.noneP (a.map rc) (b.map rc) (keepB c)) := by
  have w1 : wrap64 (0 + 1) = 1 := by unfold wrap64; omega
  have w2 : wrap64 (1 + 1) = 2 := by unfold wrap64; omega
  unfold Cu.f RG.noneP
  simp only [Option.bind_some]
  refine Ev.step (fun k => by rw [Cu.l0, if_pos (by simp), if_pos (by omega), if_pos (by simp), w1]) ?_; refine Ev.bind (right_val a) ?_
  by_cases ca : RG.rightP (a.map rc) = 0
  · rw [if_pos ca]
    refine Ev.congr (fun k => by rw [if_pos ca]) ?_; refine Ev.step (fun k => by rw [Cu.l0, if_pos (by simp), if_pos (by omega), if_pos (by simp), w2]) ?_; refine Ev.bind (right_val b) ?_
    by_cases cb : RG.rightP (b.map rc) = 0
    · rw [if_pos cb]
      refine Ev.congr (fun k => by rw [if_pos cb]) ?_; refine Ev.step (fun k => by rw [Cu.l0, if_neg (by simp)]) ?_; refine Ev.bind (sweep_val a b c (right_len ca) (right_len cb)) ?_; refine Ev.congr (fun k => ?_) (Ev.now _)
      congr 2
      rw [List.length_map]; cases RG.sweepP (a.map rc) (b.map rc) (keepB c) with
      | nil => rfl
      | cons x t => simp only [List.length_cons, List.isEmpty_cons]; rw [beq_eq_false_iff_ne]; omega
    · rw [if_neg cb]
      refine Ev.congr (fun k => by rw [if_neg cb]) ?_; exact Ev.now _
  · rw [if_neg ca]
    refine Ev.congr (fun k => by rw [if_neg ca]) ?_; exact Ev.now _
theorem keep_first : keepB 49 = RG.firstB := by funext x y; unfold keepB; rw [if_pos rfl]; rfl
theorem keep_without : keepB 59 = RG.withoutB := by funext x y; unfold keepB; rw [if_neg (by omega), if_neg (by omega), if_neg (by omega), if_pos rfl]; rfl
theorem keep_unlike : keepB 61 = RG.unlikeB := by funext x y; unfold keepB; rw [if_neg (by omega), if_neg (by omega), if_neg (by omega), if_neg (by omega)]; rfl
theorem of_val (a : List S58) : Ev (fun k => C6.f k a) (outP (RG.twoP (a.map rc) [] RG.firstB)) := by
  rw [← keep_first]; exact Ev.bind (two_val a [] _) (Ev.now _)
theorem less_val (a b : List S58) : Ev (fun k => Dc.f k a b) (outP (RG.twoP (a.map rc) (b.map rc) RG.withoutB)) := by
  rw [← keep_without]; exact Ev.bind (two_val a b _) (Ev.now _)
theorem same_val (a b : List S58) : Ev (fun k => region_Same.f k a b) (RG.noneP (a.map rc) (b.map rc) RG.unlikeB) := by
  rw [← keep_unlike]; exact Ev.bind (none_val a b _) (Ev.now _)
theorem within_val (a b : List S58) : Ev (fun k => region_Within.f k a b) (RG.noneP (a.map rc) (b.map rc) RG.withoutB) := by
  rw [← keep_without]; exact Ev.bind (none_val a b _) (Ev.now _)
end VR
end Go.Proofs.Ytobdfiglgdbecaa

