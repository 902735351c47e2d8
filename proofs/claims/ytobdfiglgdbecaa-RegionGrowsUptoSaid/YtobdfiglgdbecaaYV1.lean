import Derived.Test.YtobdfiglgdbecaaYPGAx3
import Derived.Test.YtobdfiglgdbecaaYPGAx4
import Derived.Test.YtobdfiglgdbecaaYM4
set_option linter.unusedVariables false
set_option linter.unusedSimpArgs false
open Go Go.RowKit Go.Proofs.YtobdfiglgdbecaaW.PrintWords Go.Proofs.YtobdfiglgdbecaaW.PrintMore
namespace Go.Proofs.Ytobdfiglgdbecaa
open PGA PGB
namespace VR
def rc (x : S58) : RG.Rc := (x.f0, x.f1, x.f2, x.f3)
def cr (r : RG.Rc) : S58 := ⟨r.1, r.2.1, r.2.2.1, r.2.2.2⟩
def sp (x : S93) : RG.Sp := (x.f0, x.f1)
def ps (p : RG.Sp) : S93 := ⟨p.1, p.2⟩
def bd (x : S91) : RG.Bd := (x.f0, x.f1, x.f2.map sp)
def db (b : RG.Bd) : S91 := ⟨b.1, b.2.1, b.2.2.map ps⟩
theorem map_sp_ps (l : List RG.Sp) : (l.map ps).map sp = l := by rw [List.map_map]; exact List.map_id l
theorem map_ps_sp (l : List S93) : (l.map sp).map ps = l := by rw [List.map_map]; exact List.map_id l
theorem map_rc_cr (l : List RG.Rc) : (l.map cr).map rc = l := by rw [List.map_map]; exact List.map_id l
theorem bd_db (b : RG.Bd) : bd (db b) = b := by
  obtain ⟨x, y, z⟩ := b
  show (x, y, (z.map ps).map sp) = _
  rw [map_sp_ps]
theorem db_bd (x : S91) : db (bd x) = x := by
  obtain ⟨a, b, c⟩ := x
  show S91.mk a b ((c.map sp).map ps) = _
  rw [map_ps_sp]
theorem map_bd_db (l : List RG.Bd) : (l.map db).map bd = l := by
  rw [List.map_map, show bd ∘ db = id from funext bd_db]; exact List.map_id l
theorem wrs (i : Nat) (h : i < 9223372036854775807) : wrap64 ((i : Int) + 1) = ((i + 1 : Nat) : Int) := by unfold wrap64; omega
theorem rdR (l : List S58) (i : Nat) (h : i < l.length) : rd_T58 l (i : Int) = l[i] := by
  unfold rd_T58; rw [Int.toNat_natCast, List.getD_eq_getElem?_getD, List.getElem?_eq_getElem h]; rfl
theorem rdS (l : List S93) (i : Nat) (h : i < l.length) : rd_T93 l (i : Int) = l[i] := by
  unfold rd_T93; rw [Int.toNat_natCast, List.getD_eq_getElem?_getD, List.getElem?_eq_getElem h]; rfl
theorem rdI (l : List Int) (i : Nat) (h : i < l.length) : rd l (i : Int) = l[i] := by
  unfold rd; rw [Int.toNat_natCast, List.getD_eq_getElem?_getD, List.getElem?_eq_getElem h]; rfl
theorem some_val (x : S58) : B4.f x.f0 x.f1 x.f2 x.f3 = some (RG.some1 (rc x)) := by
  unfold B4.f RG.some1 rc
  by_cases h : x.f0 < x.f2
  · rw [if_pos h]; simp [h]
  · rw [if_neg h]; simp [h]
theorem near_val (x : S58) : Ce.f [x.f0, x.f1, x.f2, x.f3] = some (RG.near4 (rc x)) := by
  unfold Ce.f RG.near4 rc
  simp [Bool.and_assoc]
theorem one_round {α : Type} {g : Nat → Option α} {r : α} (h : ∀ k, g (k + 1) = some r) : Ev g r := ⟨1, fun k hk => by
  obtain ⟨k, rfl⟩ : ∃ q, k = q + 1 := ⟨k - 1, by omega⟩
  exact h k⟩
theorem right_l0 (l : List S58) (hl : l.length ≤ 4096) : ∀ d i, i + d = l.length → Ev (fun k => Bk.l0 k l (l.length : Int) (i : Int)) (if ((l.drop i).map rc).all RG.okR = true then 0 else 61) := by
  intro d
  induction d with
  | zero =>
    intro i hi
    refine one_round fun k => ?_
    rw [Bk.l0, if_neg (by omega), List.drop_of_length_le (by omega)]; rfl
  | succ d ih =>
    intro i hi
    have hlt : i < l.length := by omega
    rw [List.drop_eq_getElem_cons hlt]
    have ee : ∀ T : List S58, ((l[i] :: T).map rc).all RG.okR = (RG.okR (rc l[i]) && (T.map rc).all RG.okR) := fun T => rfl
    by_cases c : RG.some1 (rc l[i]) = true
    · by_cases c2 : RG.near4 (rc l[i]) = true
      · have e : ((l[i] :: l.drop (i + 1)).map rc).all RG.okR = ((l.drop (i + 1)).map rc).all RG.okR := by rw [ee, show RG.okR (rc l[i]) = true from by unfold RG.okR; rw [c2]; simp, Bool.true_and]
        rw [e]
        refine Ev.step (fun k => ?_) (ih (i + 1) (by omega))
        rw [Bk.l0, if_pos (by omega), if_pos (by omega), if_pos (by omega), rdR l i hlt, some_val]
        simp only [Option.bind_some]
        rw [if_pos c, near_val]
        simp only [Option.bind_some]
        rw [if_pos c2, wrs i (by omega)]
      · have e : ((l[i] :: l.drop (i + 1)).map rc).all RG.okR = false := by rw [ee, show RG.okR (rc l[i]) = false from by unfold RG.okR; rw [c]; simpa using c2, Bool.false_and]
        rw [e, if_neg (by simp)]
        refine one_round fun k => ?_
        rw [Bk.l0, if_pos (by omega), if_pos (by omega), if_pos (by omega), rdR l i hlt, some_val]
        simp only [Option.bind_some]
        rw [if_pos c, near_val]
        simp only [Option.bind_some]
        rw [if_neg c2]
    · have e : ((l[i] :: l.drop (i + 1)).map rc).all RG.okR = ((l.drop (i + 1)).map rc).all RG.okR := by rw [ee, show RG.okR (rc l[i]) = true from by unfold RG.okR; rw [Bool.not_eq_true] at c; rw [c]; rfl, Bool.true_and]
      rw [e]
      refine Ev.step (fun k => ?_) (ih (i + 1) (by omega))
      rw [Bk.l0, if_pos (by omega), if_pos (by omega), if_pos (by omega), rdR l i hlt, some_val]
      simp only [Option.bind_some]
      rw [if_neg c, wrs i (by omega)]
theorem right_val (l : List S58) : Ev (fun k => Bk.f k l) (RG.rightP (l.map rc)) := by
  unfold RG.rightP
  rw [List.length_map]
  by_cases h : 4096 < l.length
  · rw [if_pos h]
    refine ⟨0, fun k _ => ?_⟩
    show Bk.f k l = _
    unfold Bk.f
    rw [if_pos (by omega)]
  · rw [if_neg h]
    refine Ev.congr (fun k => ?_) (right_l0 l (by omega) l.length 0 (by omega))
    unfold Bk.f
    rw [if_neg (by omega)]; rfl
theorem cuts_append (a b : List RG.Rc) : RG.cutsOf (a ++ b) = RG.cutsOf a ++ RG.cutsOf b := by unfold RG.cutsOf; rw [List.filter_append, List.flatMap_append]
theorem cuts_len (a : List RG.Rc) : (RG.cutsOf a).length ≤ 2 * a.length := by
  unfold RG.cutsOf
  induction a with
  | nil => exact Nat.le_refl _
  | cons r t ih =>
    rw [List.filter_cons]
    split
    · simp only [List.flatMap_cons, List.length_append, List.length_cons, List.length_nil]
      omega
    · simp only [List.length_cons]; omega
theorem rdL (l : List (List S58)) (i : Nat) (h : i < l.length) : rd_L5 l (i : Int) = l[i] := by
  unfold rd_L5; rw [Int.toNat_natCast, List.getD_eq_getElem?_getD, List.getElem?_eq_getElem h]; rfl
theorem cuts_l1 {L : List (List S58)} {n i R} (acc : List Int) (l : List S58) (hl : l.length ≤ 4096) (ha : acc.length ≤ 1000000) (hi : i < 1000000)
    (hR : Ev (fun k => Bp.l0 k (acc ++ RG.cutsOf (l.map rc)) L n ((i + 1 : Nat) : Int)) R) : ∀ d j, j + d = l.length →
    Ev (fun k => Bp.l1 k (acc ++ RG.cutsOf ((l.take j).map rc)) L n (i : Int) l (l.length : Int) (j : Int)) R := by
  intro d
  induction d with
  | zero =>
    intro j hj
    refine Ev.step (fun k => ?_) hR
    rw [Bp.l1, if_neg (by omega), List.take_of_length_le (by omega), wrs i (by omega)]
  | succ d ih =>
    intro j hj
    have hlt : j < l.length := by omega
    have hb := cuts_len ((l.take j).map rc)
    rw [List.length_map, List.length_take] at hb
    refine Ev.step (fun k => ?_) (ih (j + 1) (by omega))
    have e : (l.take (j + 1)).map rc = (l.take j).map rc ++ [rc l[j]] := by rw [List.take_succ_eq_append_getElem hlt, List.map_append]; rfl
    rw [Bp.l1, if_pos (by omega), if_pos (by omega), if_pos (by omega), rdR l j hlt, some_val]
    simp only [Option.bind_some]
    by_cases c : RG.some1 (rc l[j]) = true
    · rw [if_pos c, if_pos (by rw [List.length_append]; show _ + 2 < _; omega), wrs j (by omega), e, cuts_append, ← List.append_assoc]
      have e2 : RG.cutsOf [rc l[j]] = [l[j].f1, l[j].f3] := by unfold RG.cutsOf; rw [List.filter_cons, if_pos c]; rfl
      rw [e2]
    · rw [if_neg c, wrs j (by omega), e, cuts_append]
      have e2 : RG.cutsOf [rc l[j]] = [] := by unfold RG.cutsOf; rw [List.filter_cons, if_neg c]; rfl
      rw [e2, List.append_nil]
def cutL (L : List (List S58)) : List Int := L.flatMap fun l => RG.cutsOf (l.map rc)
theorem cutL_len (L : List (List S58)) (h : ∀ l ∈ L, l.length ≤ 4096) : (cutL L).length ≤ 8192 * L.length := by
  unfold cutL
  induction L with
  | nil => exact Nat.le_refl _
  | cons l t ih =>
    have h1 := cuts_len (l.map rc)
    have h2 := h l List.mem_cons_self
    have h3 := ih (fun x hx => h x (List.mem_cons_of_mem _ hx))
    rw [List.flatMap_cons, List.length_append, List.length_cons]
    rw [List.length_map] at h1
    omega
theorem cuts_l0 (L : List (List S58)) (hL : L.length ≤ 2) (h : ∀ l ∈ L, l.length ≤ 4096) : ∀ d i, i + d = L.length → Ev (fun k => Bp.l0 k (cutL (L.take i)) L (L.length : Int) (i : Int)) (RG.dist (cutL L)) := by
  intro d
  induction d with
  | zero =>
    intro i hi
    refine one_round fun k => ?_
    have hb := cutL_len L h
    rw [Bp.l0, if_neg (by omega), List.take_of_length_le (by omega)]
    unfold Cb.f
    rw [if_pos (by omega)]; rfl
  | succ d ih =>
    intro i hi
    have hlt : i < L.length := by omega
    have hb := cutL_len (L.take i) (fun l hl => h l (List.mem_of_mem_take hl))
    rw [List.length_take] at hb
    have e : cutL (L.take (i + 1)) = cutL (L.take i) ++ RG.cutsOf (L[i].map rc) := by
      unfold cutL
      rw [List.take_succ_eq_append_getElem hlt, List.flatMap_append, List.flatMap_singleton]
    have ih := ih (i + 1) (by omega)
    rw [e] at ih
    refine Ev.step (fun k => ?_) (cuts_l1 (cutL (L.take i)) L[i] (h _ (List.getElem_mem hlt)) (by omega) (by omega) ih L[i].length 0 (by omega))
    rw [Bp.l0, if_pos (by omega), if_pos (by omega), if_pos (by omega), rdL L i hlt]
    show _ = Bp.l1 k (cutL (L.take i) ++ []) _ _ _ _ _ _
    rw [List.append_nil]; rfl
theorem cuts_val (a b : List S58) (ha : a.length ≤ 4096) (hb : b.length ≤ 4096) : Ev (fun k => Bp.f k [a, b]) (RG.cutsP (a.map rc) (b.map rc)) := by
  have h := cuts_l0 [a, b] (Nat.le_refl _) (fun l hl => by simp at hl; rcases hl with rfl | rfl <;> assumption) 2 0 rfl
  have e : cutL [a, b] = RG.cutsOf (a.map rc) ++ RG.cutsOf (b.map rc) := by simp [cutL]
  rw [e] at h
  exact h
theorem cuts_val1 (a : List S58) (ha : a.length ≤ 4096) : Ev (fun k => Bp.f k [a]) (RG.cutsP (a.map rc) []) := by
  have h := cuts_l0 [a] (by simp) (fun l hl => by simp at hl; rw [hl]; exact ha) 1 0 rfl
  have e : cutL [a] = RG.cutsOf (a.map rc) ++ RG.cutsOf [] := by simp [cutL, RG.cutsOf]
  rw [e] at h
  exact h
def actS (l : List S58) (y : Int) : List S93 := (RG.act (l.map rc) y).map ps
theorem act_append (a b : List RG.Rc) (y : Int) : RG.act (a ++ b) y = RG.act a y ++ RG.act b y := by unfold RG.act; rw [List.filter_append, List.map_append]
theorem act_le (a : List RG.Rc) (y : Int) : (RG.act a y).length ≤ a.length := by unfold RG.act; rw [List.length_map]; exact List.length_filter_le _ _
theorem set_last {α : Type} (i : List α) (p q : α) : (i ++ [p]).set i.length q = i ++ [q] := by simp
def joinedS (out : List S93) (s : S93) : List S93 := (RG.joined (out.map sp) (sp s)).map ps
theorem joinedS_snoc (i : List S93) (p s : S93) : joinedS (i ++ [p]) s = if s.f0 ≤ p.f1 then i ++ [⟨p.f0, max p.f1 s.f1⟩] else (i ++ [p]) ++ [s] := by
  unfold joinedS RG.joined
  rw [List.map_append, show (i.map sp ++ [p].map sp).getLast? = some (sp p) by simp]
  dsimp only
  by_cases c : s.f0 ≤ p.f1
  · rw [if_pos (show (sp s).1 ≤ (sp p).2 from c), if_pos c, show [p].map sp = [sp p] from rfl, List.dropLast_concat, List.map_append, map_ps_sp]; rfl
  · rw [if_neg (show ¬ (sp s).1 ≤ (sp p).2 from c), if_neg c, ← List.map_append, List.map_append, map_ps_sp]; rfl
theorem joinedS_len (out : List S93) (s : S93) : (joinedS out s).length ≤ out.length + 1 := by
  unfold joinedS
  rw [List.length_map]
  have := RG.joined_len (out.map sp) (sp s)
  rwa [List.length_map] at this
theorem mx_max (a b : Int) : mx a b = max a b := by unfold mx; omega
theorem row_l1 (s : List S93) (hs : s.length ≤ 4096) : ∀ d j (out : List S93), j + d = s.length → out.length ≤ j → Ev (fun k => Ba.l1 k out s (s.length : Int) (j : Int)) ((s.drop j).foldl joinedS out) := by
  intro d
  induction d with
  | zero =>
    intro j out hj ho
    refine one_round fun k => ?_
    rw [Ba.l1, if_neg (by omega), List.drop_of_length_le (by omega)]; rfl
  | succ d ih =>
    intro j out hj ho
    have hlt : j < s.length := by omega
    rw [List.drop_eq_getElem_cons hlt, List.foldl_cons]
    have hjl := joinedS_len out s[j]
    refine Ev.step (fun k => ?_) (ih (j + 1) (joinedS out s[j]) (by omega) (by omega))
    rw [Ba.l1, if_pos (by omega), if_pos (by omega), if_pos (by omega), rdS s j hlt]
    rcases RG.last_split out with rfl | ⟨i, p, rfl⟩
    · rw [if_neg (by simp), if_pos (by simp), wrs j (by omega)]; rfl
    · have hn : (i ++ [p]).length = i.length + 1 := by simp
      have hw : wrap64 (((i ++ [p]).length : Int) - 1) = (i.length : Int) := by rw [hn]; unfold wrap64; omega
      have hr : rd_T93 (i ++ [p]) (i.length : Int) = p := by rw [rdS _ _ (by rw [hn]; omega)]; simp
      rw [if_pos (by rw [hn]; omega), hw, if_pos (by omega), if_pos (by rw [hn]; omega), hr, joinedS_snoc, Int.toNat_natCast, set_last, mx_max, wrs j (by omega)]
      by_cases c : s[j].f0 ≤ p.f1
      · rw [if_pos c, if_pos c]
      · rw [if_neg c, if_neg c, if_pos (by rw [hn]; omega)]
theorem fold_sp (s : List S93) : ∀ out : List S93, (s.foldl joinedS out).map sp = (s.map sp).foldl RG.joined (out.map sp) := by
  induction s with
  | nil => intro out; rfl
  | cons x t ih =>
    intro out
    rw [List.foldl_cons, ih, List.map_cons, List.foldl_cons]
    congr 1
    unfold joinedS
    rw [map_sp_ps]
theorem row_l0 (l : List S58) (y : Int) (hl : l.length ≤ 4096) {R} (hR : Ev (fun k => Ba.l1 k [] (srtSp (actS l y)) ((actS l y).length : Int) 0) R) : ∀ d i, i + d = l.length →
    Ev (fun k => Ba.l0 k y (actS (l.take i) y) l (l.length : Int) (i : Int)) R := by
  intro d
  induction d with
  | zero =>
    intro i hi
    refine Ev.step (fun k => ?_) hR
    have hb := act_le (l.map rc) y
    rw [Ba.l0, if_neg (by omega), List.take_of_length_le (by omega)]
    unfold Cv.f
    rw [if_pos (by unfold actS; rw [List.length_map]; rw [List.length_map] at hb; omega)]; rfl
  | succ d ih =>
    intro i hi
    have hlt : i < l.length := by omega
    have hb := act_le ((l.take i).map rc) y
    rw [List.length_map, List.length_take] at hb
    refine Ev.step (fun k => ?_) (ih (i + 1) (by omega))
    have e : actS (l.take (i + 1)) y = actS (l.take i) y ++ (RG.act [rc l[i]] y).map ps := by
      unfold actS
      rw [List.take_succ_eq_append_getElem hlt, List.map_append, act_append, List.map_append]; rfl
    have hno : RG.acts y (rc l[i]) = false → actS (l.take (i + 1)) y = actS (l.take i) y := fun h => by
      rw [e]; unfold RG.act; rw [List.filter_cons, if_neg (by rw [h]; simp)]; simp
    rw [Ba.l0, if_pos (by omega), if_pos (by omega), if_pos (by omega), rdR l i hlt, some_val, wrs i (by omega)]
    simp only [Option.bind_some]
    by_cases c : RG.some1 (rc l[i]) = true
    · rw [if_pos c]
      by_cases c1 : l[i].f1 ≤ y
      · rw [if_pos c1]
        by_cases c2 : y < l[i].f3
        · rw [if_pos c2, if_pos (by unfold actS; rw [List.length_map]; omega)]
          have h : RG.acts y (rc l[i]) = true := by unfold RG.acts; rw [c]; simp [rc, c1, c2]
          rw [e]; unfold RG.act; rw [List.filter_cons, if_pos h]; rfl
        · rw [if_neg c2, hno (by unfold RG.acts; rw [c]; simp [rc, c1, c2])]
      · rw [if_neg c1, hno (by unfold RG.acts; rw [c]; simp [rc, c1])]
    · rw [if_neg c, hno (by unfold RG.acts; rw [Bool.not_eq_true] at c; rw [c]; rfl)]
theorem row_val (l : List S58) (y : Int) (hl : l.length ≤ 4096) : Ev (fun k => Ba.f k l y) ((RG.rowP (l.map rc) y).map ps) := by
  obtain ⟨hp, hs⟩ := srt_ok (actS l y)
  have hlen : (srtSp (actS l y)).length = (actS l y).length := hp.length_eq
  have hb := act_le (l.map rc) y
  rw [List.length_map] at hb
  have h1 := row_l1 (srtSp (actS l y)) (by rw [hlen]; unfold actS; rw [List.length_map]; omega) (srtSp (actS l y)).length 0 [] (by omega) (by simp)
  rw [List.drop_zero, hlen] at h1
  have e : (srtSp (actS l y)).foldl joinedS [] = (RG.rowP (l.map rc) y).map ps := by
    rw [← map_ps_sp ((srtSp (actS l y)).foldl joinedS []), fold_sp]
    congr 1
    refine RG.row_of (d := (srtSp (actS l y)).map sp) (fun p => ?_) ?_
    · have : ((srtSp (actS l y)).map sp).Perm (RG.act (l.map rc) y) := by
        have h := hp.map sp
        unfold actS at h
        rwa [map_sp_ps] at h
      exact this.mem_iff
    · rw [List.pairwise_map]
      exact hs
  rw [e] at h1
  exact row_l0 l y hl h1 l.length 0 (by omega)
end VR
end Go.Proofs.Ytobdfiglgdbecaa

