import Derived.Test.YtobdfiglgdbecaaXPGAx3
import Derived.Test.YtobdfiglgdbecaaXPGAx4
import Derived.Test.YtobdfiglgdbecaaXNR
section
set_option linter.unusedVariables false
set_option linter.unusedSimpArgs false
open Go Go.RowKit Go.Proofs.YtobdfiglgdbecaaW.PrintWords Go.Proofs.YtobdfiglgdbecaaW.PrintMore
namespace Go.Proofs.Ytobdfiglgdbecaa
open PGA PGB
namespace VR
def rc (x : S58) : RG.Rc := (x.f0, x.f1, x.f2, x.f3)
def cr (r : RG.Rc) : S58 := ⟨r.1, r.2.1, r.2.2.1, r.2.2.2⟩
def sp (x : S93) : RG.Sp := (x.f0, x.f1)
def ps (p : RG.Sp) : S93 := ⟨p.1, p.2⟩
def bd (x : S91) : RG.Bd := (x.f0, x.f1, x.f2.map sp)
def db (b : RG.Bd) : S91 := ⟨b.1, b.2.1, b.2.2.map ps⟩
theorem map_sp_ps (l : List RG.Sp) : (l.map ps).map sp = l := by rw [List.map_map]; exact List.map_id l
theorem map_ps_sp (l : List S93) : (l.map sp).map ps = l := by rw [List.map_map]; exact List.map_id l
theorem map_rc_cr (l : List RG.Rc) : (l.map cr).map rc = l := by rw [List.map_map]; exact List.map_id l
theorem bd_db (b : RG.Bd) : bd (db b) = b := by
  obtain ⟨x, y, z⟩ := b; show (x, y, (z.map ps).map sp) = _; rw [map_sp_ps]
theorem db_bd (x : S91) : db (bd x) = x := by
  obtain ⟨a, b, c⟩ := x; show S91.mk a b ((c.map sp).map ps) = _; rw [map_ps_sp]
theorem map_bd_db (l : List RG.Bd) : (l.map db).map bd = l := by
  rw [List.map_map, show bd ∘ db = id from funext bd_db]; exact List.map_id l
theorem wrs (i : Nat) (h : i < 9223372036854775807) : wrap64 ((i : Int) + 1) = ((i + 1 : Nat) : Int) := by unfold wrap64; omega
theorem rdR (l : List S58) (i : Nat) (h : i < l.length) : rd_T58 l (i : Int) = l[i] := by
  unfold rd_T58; rw [Int.toNat_natCast, List.getD_eq_getElem?_getD, List.getElem?_eq_getElem h]; rfl
theorem rdS (l : List S93) (i : Nat) (h : i < l.length) : rd_T93 l (i : Int) = l[i] := by
  unfold rd_T93; rw [Int.toNat_natCast, List.getD_eq_getElem?_getD, List.getElem?_eq_getElem h]; rfl
theorem rdI (l : List Int) (i : Nat) (h : i < l.length) : rd l (i : Int) = l[i] := by
  unfold rd; rw [Int.toNat_natCast, List.getD_eq_getElem?_getD, List.getElem?_eq_getElem h]; rfl
theorem some_val (x : S58) : Cr.f x.f0 x.f1 x.f2 x.f3 = some (RG.some1 (rc x)) := by
  unfold Cr.f RG.some1 rc
  by_cases h : x.f0 < x.f2
  · rw [if_pos h]; simp [h]
  · rw [if_neg h]; simp [h]
theorem near_val (x : S58) : C2.f [x.f0, x.f1, x.f2, x.f3] = some (RG.near4 (rc x)) := by
  unfold C2.f RG.near4 rc
  simp [Bool.and_assoc]
theorem one_round {α : Type} {g : Nat → Option α} {r : α} (h : ∀ k, g (k + 1) = some r) : Ev g r := ⟨1, fun k hk => by
  obtain ⟨k, rfl⟩ : ∃ q, k = q + 1 := ⟨k - 1, by omega⟩; exact h k⟩
theorem right_l0 (l : List S58) (hl : l.length ≤ 4096) : ∀ d i, i + d = l.length → Ev (fun k => Bw.l0 k l (l.length : Int) (i : Int)) (if ((l.drop i).map rc).all RG.okR = true then 0 else 61) := by
  intro d
  induction d with
  | zero =>
    intro i hi; refine one_round fun k => ?_
    rw [Bw.l0, if_neg (by omega), List.drop_of_length_le (by omega)]; rfl
  | succ d ih =>
    intro i hi; have hlt : i < l.length := by omega
    rw [List.drop_eq_getElem_cons hlt]; have ee : ∀ T : List S58, ((l[i] :: T).map rc).all RG.okR = (RG.okR (rc l[i]) && (T.map rc).all RG.okR) := fun T => rfl
    by_cases c : RG.some1 (rc l[i]) = true
    · by_cases c2 : RG.near4 (rc l[i]) = true
      · have e : ((l[i] :: l.drop (i + 1)).map rc).all RG.okR = ((l.drop (i + 1)).map rc).all RG.okR := by rw [ee, show RG.okR (rc l[i]) = true from by unfold RG.okR; rw [c2]; simp, Bool.true_and]
        rw [e]; refine Ev.step (fun k => ?_) (ih (i + 1) (by omega)); rw [Bw.l0, if_pos (by omega), if_pos (by omega), if_pos (by omega), rdR l i hlt, some_val]
        simp only [Option.bind_some]
        rw [if_pos c, near_val]
        simp only [Option.bind_some]
        rw [if_pos c2, wrs i (by omega)]
      · have e : ((l[i] :: l.drop (i + 1)).map rc).all RG.okR = false := by rw [ee, show RG.okR (rc l[i]) = false from by unfold RG.okR; rw [c]; simpa using c2, Bool.false_and]
        rw [e, if_neg (by simp)]; refine one_round fun k => ?_
        rw [Bw.l0, if_pos (by omega), if_pos (by omega), if_pos (by omega), rdR l i hlt, some_val]
        simp only [Option.bind_some]
        rw [if_pos c, near_val]
        simp only [Option.bind_some]
        rw [if_neg c2]
    · have e : ((l[i] :: l.drop (i + 1)).map rc).all RG.okR = ((l.drop (i + 1)).map rc).all RG.okR := by rw [ee, show RG.okR (rc l[i]) = true from by unfold RG.okR; rw [Bool.not_eq_true] at c; rw [c]; rfl, Bool.true_and]
      rw [e]; refine Ev.step (fun k => ?_) (ih (i + 1) (by omega)); rw [Bw.l0, if_pos (by omega), if_pos (by omega), if_pos (by omega), rdR l i hlt, some_val]
      simp only [Option.bind_some]
      rw [if_neg c, wrs i (by omega)]
theorem right_val (l : List S58) : Ev (fun k => Bw.f k l) (RG.rightP (l.map rc)) := by
  unfold RG.rightP; rw [List.length_map]
  by_cases h : 4096 < l.length
  · rw [if_pos h]
    refine ⟨0, fun k _ => ?_⟩; show Bw.f k l = _; unfold Bw.f; rw [if_pos (by omega)]
  · rw [if_neg h]
    refine Ev.congr (fun k => ?_) (right_l0 l (by omega) l.length 0 (by omega)); unfold Bw.f; rw [if_neg (by omega)]; rfl
theorem cuts_append (a b : List RG.Rc) : RG.cutsOf (a ++ b) = RG.cutsOf a ++ RG.cutsOf b := by unfold RG.cutsOf; rw [List.filter_append, List.flatMap_append]
theorem cuts_len (a : List RG.Rc) : (RG.cutsOf a).length ≤ 2 * a.length := by
  unfold RG.cutsOf
  induction a with
  | nil => exact Nat.le_refl _
  | cons r t ih =>
    rw [List.filter_cons]
    split
    · simp only [List.flatMap_cons, List.length_append, List.length_cons, List.length_nil]
      omega
    · simp only [List.length_cons]; omega
theorem rdL (l : List (List S58)) (i : Nat) (h : i < l.length) : rd_L5 l (i : Int) = l[i] := by
  unfold rd_L5; rw [Int.toNat_natCast, List.getD_eq_getElem?_getD, List.getElem?_eq_getElem h]; rfl
theorem cuts_l1 {L : List (List S58)} {n i R} (acc : List Int) (l : List S58) (hl : l.length ≤ 4096) (ha : acc.length ≤ 1000000) (hi : i < 1000000)
    (hR : Ev (fun k => B1.l0 k (acc ++ RG.cutsOf (l.map rc)) L n ((i + 1 : Nat) : Int)) R) : ∀ d j, j + d = l.length →
    Ev (fun k => B1.l1 k (acc ++ RG.cutsOf ((l.take j).map rc)) L n (i : Int) l (l.length : Int) (j : Int)) R := by
  intro d
  induction d with
  | zero =>
    intro j hj; refine Ev.step (fun k => ?_) hR; rw [B1.l1, if_neg (by omega), List.take_of_length_le (by omega), wrs i (by omega)]
  | succ d ih =>
    intro j hj; have hlt : j < l.length := by omega
    have hb := cuts_len ((l.take j).map rc); rw [List.length_map, List.length_take] at hb; refine Ev.step (fun k => ?_) (ih (j + 1) (by omega)); have e : (l.take (j + 1)).map rc = (l.take j).map rc ++ [rc l[j]] := by rw [List.take_succ_eq_append_getElem hlt, List.map_append]; rfl
    rw [B1.l1, if_pos (by omega), if_pos (by omega), if_pos (by omega), rdR l j hlt, some_val]
    simp only [Option.bind_some]
    by_cases c : RG.some1 (rc l[j]) = true
    · rw [if_pos c, if_pos (by rw [List.length_append]; show _ + 2 < _; omega), wrs j (by omega), e, cuts_append, ← List.append_assoc]
      have e2 : RG.cutsOf [rc l[j]] = [l[j].f1, l[j].f3] := by unfold RG.cutsOf; rw [List.filter_cons, if_pos c]; rfl
      rw [e2]
    · rw [if_neg c, wrs j (by omega), e, cuts_append]
      have e2 : RG.cutsOf [rc l[j]] = [] := by unfold RG.cutsOf; rw [List.filter_cons, if_neg c]; rfl
      rw [e2, List.append_nil]
def cutL (L : List (List S58)) : List Int := L.flatMap fun l => RG.cutsOf (l.map rc)
theorem cutL_len (L : List (List S58)) (h : ∀ l ∈ L, l.length ≤ 4096) : (cutL L).length ≤ 8192 * L.length := by
  unfold cutL
  induction L with
  | nil => exact Nat.le_refl _
  | cons l t ih =>
    have h1 := cuts_len (l.map rc); have h2 := h l List.mem_cons_self; have h3 := ih (fun x hx => h x (List.mem_cons_of_mem _ hx)); rw [List.flatMap_cons, List.length_append, List.length_cons]; rw [List.length_map] at h1
    omega
theorem cuts_l0 (L : List (List S58)) (hL : L.length ≤ 2) (h : ∀ l ∈ L, l.length ≤ 4096) : ∀ d i, i + d = L.length → Ev (fun k => B1.l0 k (cutL (L.take i)) L (L.length : Int) (i : Int)) (RG.dist (cutL L)) := by
  intro d
  induction d with
  | zero =>
    intro i hi; refine one_round fun k => ?_
    have hb := cutL_len L h; rw [B1.l0, if_neg (by omega), List.take_of_length_le (by omega)]; unfold C0.f; rw [if_pos (by omega)]; rfl
  | succ d ih =>
    intro i hi; have hlt : i < L.length := by omega
    have hb := cutL_len (L.take i) (fun l hl => h l (List.mem_of_mem_take hl)); rw [List.length_take] at hb
    have e : cutL (L.take (i + 1)) = cutL (L.take i) ++ RG.cutsOf (L[i].map rc) := by
      unfold cutL; rw [List.take_succ_eq_append_getElem hlt, List.flatMap_append, List.flatMap_singleton]
    have ih := ih (i + 1) (by omega); rw [e] at ih; refine Ev.step (fun k => ?_) (cuts_l1 (cutL (L.take i)) L[i] (h _ (List.getElem_mem hlt)) (by omega) (by omega) ih L[i].length 0 (by omega)); rw [B1.l0, if_pos (by omega), if_pos (by omega), if_pos (by omega), rdL L i hlt]; show _ = B1.l1 k (cutL (L.take i) ++ []) _ _ _ _ _ _; rw [List.append_nil]; rfl
theorem cuts_val (a b : List S58) (ha : a.length ≤ 4096) (hb : b.length ≤ 4096) : Ev (fun k => B1.f k [a, b]) (RG.cutsP (a.map rc) (b.map rc)) := by
  have h := cuts_l0 [a, b] (Nat.le_refl _) (fun l hl => by simp at hl; rcases hl with rfl | rfl <;> assumption) 2 0 rfl; have e : cutL [a, b] = RG.cutsOf (a.map rc) ++ RG.cutsOf (b.map rc) := by simp [cutL]
  rw [e] at h; exact h
theorem cuts_val1 (a : List S58) (ha : a.length ≤ 4096) : Ev (fun k => B1.f k [a]) (RG.cutsP (a.map rc) []) := by
  have h := cuts_l0 [a] (by simp) (fun l hl => by simp at hl; rw [hl]; exact ha) 1 0 rfl; have e : cutL [a] = RG.cutsOf (a.map rc) ++ RG.cutsOf [] := by simp [cutL, RG.cutsOf]
  rw [e] at h; exact h
def actS (l : List S58) (y : Int) : List S93 := (RG.act (l.map rc) y).map ps
theorem act_append (a b : List RG.Rc) (y : Int) : RG.act (a ++ b) y = RG.act a y ++ RG.act b y := by unfold RG.act; rw [List.filter_append, List.map_append]
theorem act_le (a : List RG.Rc) (y : Int) : (RG.act a y).length ≤ a.length := by unfold RG.act; rw [List.length_map]; exact List.length_filter_le _ _
theorem set_last {α : Type} (i : List α) (p q : α) : (i ++ [p]).set i.length q = i ++ [q] := by simp
def joinedS (out : List S93) (s : S93) : List S93 := (RG.joined (out.map sp) (sp s)).map ps
theorem joinedS_snoc (i : List S93) (p s : S93) : joinedS (i ++ [p]) s = if s.f0 ≤ p.f1 then i ++ [⟨p.f0, max p.f1 s.f1⟩] else (i ++ [p]) ++ [s] := by
  unfold joinedS RG.joined; rw [List.map_append, show (i.map sp ++ [p].map sp).getLast? = some (sp p) by simp]; dsimp only
  by_cases c : s.f0 ≤ p.f1
  · rw [if_pos (show (sp s).1 ≤ (sp p).2 from c), if_pos c, show [p].map sp = [sp p] from rfl, List.dropLast_concat, List.map_append, map_ps_sp]; rfl
  · rw [if_neg (show ¬ (sp s).1 ≤ (sp p).2 from c), if_neg c, ← List.map_append, List.map_append, map_ps_sp]; rfl
theorem joinedS_len (out : List S93) (s : S93) : (joinedS out s).length ≤ out.length + 1 := by
  unfold joinedS; rw [List.length_map]; have := RG.joined_len (out.map sp) (sp s)
  rwa [List.length_map] at this
theorem mx_max (a b : Int) : mx a b = max a b := by unfold mx; omega
theorem row_l1 (s : List S93) (hs : s.length ≤ 4096) : ∀ d j (out : List S93), j + d = s.length → out.length ≤ j → Ev (fun k => Bj.l1 k out s (s.length : Int) (j : Int)) ((s.drop j).foldl joinedS out) := by
  intro d
  induction d with
  | zero =>
    intro j out hj ho; refine one_round fun k => ?_
    rw [Bj.l1, if_neg (by omega), List.drop_of_length_le (by omega)]; rfl
  | succ d ih =>
    intro j out hj ho; have hlt : j < s.length := by omega
    rw [List.drop_eq_getElem_cons hlt, List.foldl_cons]; have hjl := joinedS_len out s[j]; refine Ev.step (fun k => ?_) (ih (j + 1) (joinedS out s[j]) (by omega) (by omega)); rw [Bj.l1, if_pos (by omega), if_pos (by omega), if_pos (by omega), rdS s j hlt]
    rcases RG.last_split out with rfl | ⟨i, p, rfl⟩
    · rw [if_neg (by simp), if_pos (by simp), wrs j (by omega)]; rfl
    · have hn : (i ++ [p]).length = i.length + 1 := by simp
      have hw : wrap64 (((i ++ [p]).length : Int) - 1) = (i.length : Int) := by rw [hn]; unfold wrap64; omega
      have hr : rd_T93 (i ++ [p]) (i.length : Int) = p := by rw [rdS _ _ (by rw [hn]; omega)]; simp
      rw [if_pos (by rw [hn]; omega), hw, if_pos (by omega), if_pos (by rw [hn]; omega), hr, joinedS_snoc, Int.toNat_natCast, set_last, mx_max, wrs j (by omega)]
      by_cases c : s[j].f0 ≤ p.f1
      · rw [if_pos c, if_pos c]
      · rw [if_neg c, if_neg c, if_pos (by rw [hn]; omega)]
theorem fold_sp (s : List S93) : ∀ out : List S93, (s.foldl joinedS out).map sp = (s.map sp).foldl RG.joined (out.map sp) := by
  induction s with
  | nil => intro out; rfl
  | cons x t ih =>
    intro out; rw [List.foldl_cons, ih, List.map_cons, List.foldl_cons]
    congr 1
    unfold joinedS; rw [map_sp_ps]
theorem row_l0 (l : List S58) (y : Int) (hl : l.length ≤ 4096) {R} (hR : Ev (fun k => Bj.l1 k [] (srtSp (actS l y)) ((actS l y).length : Int) 0) R) : ∀ d i, i + d = l.length →
    Ev (fun k => Bj.l0 k y (actS (l.take i) y) l (l.length : Int) (i : Int)) R := by
  intro d
  induction d with
  | zero =>
    intro i hi; refine Ev.step (fun k => ?_) hR; have hb := act_le (l.map rc) y; rw [Bj.l0, if_neg (by omega), List.take_of_length_le (by omega)]; unfold Dj.f; rw [if_pos (by unfold actS; rw [List.length_map]; rw [List.length_map] at hb; omega)]; rfl
  | succ d ih =>
    intro i hi; have hlt : i < l.length := by omega
    have hb := act_le ((l.take i).map rc) y; rw [List.length_map, List.length_take] at hb; refine Ev.step (fun k => ?_) (ih (i + 1) (by omega))
    have e : actS (l.take (i + 1)) y = actS (l.take i) y ++ (RG.act [rc l[i]] y).map ps := by
      unfold actS; rw [List.take_succ_eq_append_getElem hlt, List.map_append, act_append, List.map_append]; rfl
    have hno : RG.acts y (rc l[i]) = false → actS (l.take (i + 1)) y = actS (l.take i) y := fun h => by
      rw [e]; unfold RG.act; rw [List.filter_cons, if_neg (by rw [h]; simp)]; simp
    rw [Bj.l0, if_pos (by omega), if_pos (by omega), if_pos (by omega), rdR l i hlt, some_val, wrs i (by omega)]
    simp only [Option.bind_some]
    by_cases c : RG.some1 (rc l[i]) = true
    · rw [if_pos c]
      by_cases c1 : l[i].f1 ≤ y
      · rw [if_pos c1]
        by_cases c2 : y < l[i].f3
        · rw [if_pos c2, if_pos (by unfold actS; rw [List.length_map]; omega)]
          have h : RG.acts y (rc l[i]) = true := by unfold RG.acts; rw [c]; simp [rc, c1, c2]
          rw [e]; unfold RG.act; rw [List.filter_cons, if_pos h]; rfl
        · rw [if_neg c2, hno (by unfold RG.acts; rw [c]; simp [rc, c1, c2])]
      · rw [if_neg c1, hno (by unfold RG.acts; rw [c]; simp [rc, c1])]
    · rw [if_neg c, hno (by unfold RG.acts; rw [Bool.not_eq_true] at c; rw [c]; rfl)]
theorem row_val (l : List S58) (y : Int) (hl : l.length ≤ 4096) : Ev (fun k => Bj.f k l y) ((RG.rowP (l.map rc) y).map ps) := by
  obtain ⟨hp, hs⟩ := srt_ok (actS l y); have hlen : (srtSp (actS l y)).length = (actS l y).length := hp.length_eq; have hb := act_le (l.map rc) y; rw [List.length_map] at hb; have h1 := row_l1 (srtSp (actS l y)) (by rw [hlen]; unfold actS; rw [List.length_map]; omega) (srtSp (actS l y)).length 0 [] (by omega) (by simp); rw [List.drop_zero, hlen] at h1
  have e : (srtSp (actS l y)).foldl joinedS [] = (RG.rowP (l.map rc) y).map ps := by
    rw [← map_ps_sp ((srtSp (actS l y)).foldl joinedS []), fold_sp]
    congr 1
    refine RG.row_of (d := (srtSp (actS l y)).map sp) (fun p => ?_) ?_
    · have : ((srtSp (actS l y)).map sp).Perm (RG.act (l.map rc) y) := by
        have h := hp.map sp; unfold actS at h
        rwa [map_sp_ps] at h
      exact this.mem_iff
    · rw [List.pairwise_map]
      exact hs
  rw [e] at h1; exact row_l0 l y hl h1 l.length 0 (by omega)
end VR
end Go.Proofs.Ytobdfiglgdbecaa
end
section
set_option linter.unusedVariables false
set_option linter.unusedSimpArgs false
open Go Go.RowKit Go.Proofs.YtobdfiglgdbecaaW.PrintWords Go.Proofs.YtobdfiglgdbecaaW.PrintMore
namespace Go.Proofs.Ytobdfiglgdbecaa
open PGA PGB
namespace VR
theorem wra (a b : Nat) (h : a + b < 9223372036854775807) : wrap64 ((a : Int) + (b : Int)) = ((a + b : Nat) : Int) := by unfold wrap64; omega
theorem concat_val (a b : List S93) (ha : a.length ≤ 100000) (hb : b.length ≤ 100000) : Ev (fun k => Ca.f k [a, b]) (a ++ b) := by
  have r0 : rd_L2 [a, b] 0 = a := rfl; have r1 : rd_L2 [a, b] 1 = b := rfl; have l1 : wrap64 (0 + (a.length : Int)) = ((a.length : Nat) : Int) := by unfold wrap64; omega
  have w1 : wrap64 (0 + 1) = 1 := by unfold wrap64; omega
  have w2 : wrap64 (1 + 1) = 2 := by unfold wrap64; omega
  have hn : ([a, b].length : Int) = 2 := rfl; refine ⟨10, fun k hk => ?_⟩; obtain ⟨k, rfl⟩ : ∃ q, k = q + 10 := ⟨k - 10, by omega⟩; show Ca.f (k + 10) [a, b] = _; unfold Ca.f; rw [hn]; rw [Ca.l0, if_pos (by omega), if_pos (by omega), if_pos (by simp), r0, l1, if_neg (by omega), w1]; rw [Ca.l0, if_pos (by omega), if_pos (by omega), if_pos (by simp), r1, wra _ _ (by omega), if_neg (by omega), w2]; rw [Ca.l0, if_neg (by omega)]; unfold Dm.f; rw [if_pos (by omega)]
  simp only [Option.bind_some]
  rw [hn]; rw [Ca.l1, if_pos (by omega), if_pos (by omega), if_pos (by simp), r0, if_pos (by simp; omega), w1]; rw [Ca.l1, if_pos (by omega), if_pos (by omega), if_pos (by simp), r1, if_pos (by simp; omega), w2]; rw [Ca.l1, if_neg (by omega)]; rfl
theorem in_val (a : List S93) (x : Int) : C7.f a x = some (RG.scov (a.map sp) x) := by
  unfold C7.f RG.scov inSp sp; rw [List.any_map]; rfl
def addS' (out : List S93) (x x' : Int) : List S93 := (RG.addS (out.map sp) x x').map ps
theorem addS_nil (x x' : Int) : addS' [] x x' = [⟨x, x'⟩] := rfl
theorem addS_snoc (i : List S93) (p : S93) (x x' : Int) : addS' (i ++ [p]) x x' = if p.f1 = x then i ++ [⟨p.f0, x'⟩] else (i ++ [p]) ++ [⟨x, x'⟩] := by
  unfold addS' RG.addS; rw [List.map_append, show (i.map sp ++ [p].map sp).getLast? = some (sp p) by simp]; dsimp only
  by_cases c : p.f1 = x
  · rw [if_pos (show (sp p).2 = x from c), if_pos c, show [p].map sp = [sp p] from rfl, List.dropLast_concat, List.map_append, map_ps_sp]; rfl
  · rw [if_neg (show ¬ (sp p).2 = x from c), if_neg c, ← List.map_append, List.map_append, map_ps_sp]; rfl
theorem addS_le (out : List S93) (x x' : Int) : (addS' out x x').length ≤ out.length + 1 := by
  rcases RG.last_split out with rfl | ⟨i, p, rfl⟩
  · simp [addS_nil]
  · rw [addS_snoc]; split <;> simp
theorem merge_l1 (a b : List S93) (c : Int) (e : List Int) (he : e.length ≤ 1000000) : ∀ d j (out : List S93), j + d = e.length → out.length ≤ j →
    Ev (fun k => Bi.l1 k a b c e out (j : Int)) ((RG.buildS (fun x => keepB c (RG.scov (a.map sp) x) (RG.scov (b.map sp) x)) (e.drop j) (out.map sp)).map ps) := by
  intro d
  induction d with
  | zero =>
    intro j out hj ho; refine one_round fun k => ?_
    rw [Bi.l1, wrs j (by omega), if_neg (by omega), List.drop_of_length_le (by omega)]; show some out = some ((out.map sp).map ps); rw [map_ps_sp]
  | succ d ih =>
    intro j out hj ho; have hlt : j < e.length := by omega
    by_cases h1 : j + 1 < e.length
    · rw [List.drop_eq_getElem_cons hlt, List.drop_eq_getElem_cons h1]
      simp only [RG.buildS]
      have hd : e[j + 1] :: e.drop (j + 1 + 1) = e.drop (j + 1) := (List.drop_eq_getElem_cons h1).symm; rw [hd]
      by_cases ck : keepB c (RG.scov (a.map sp) e[j]) (RG.scov (b.map sp) e[j]) = true
      · rw [if_pos ck]
        have hl := addS_le out e[j] e[j + 1]; have ih := ih (j + 1) (addS' out e[j] e[j + 1]) (by omega) (by omega); rw [show (addS' out e[j] e[j + 1]).map sp = RG.addS (out.map sp) e[j] e[j + 1] from map_sp_ps _] at ih; refine Ev.step (fun k => ?_) ih; rw [Bi.l1, wrs j (by omega), if_pos (by omega), if_pos (by omega), if_pos (by omega), rdI e j hlt, in_val, in_val]
        simp only [Option.bind_some, C5.f]
        rw [if_pos ck, rdI e (j + 1) h1]
        rcases RG.last_split out with rfl | ⟨i, p, rfl⟩
        · rw [if_neg (by simp), if_pos (by omega), if_pos (by simp)]; rfl
        · have hn : (i ++ [p]).length = i.length + 1 := by simp
          have hw : wrap64 (((i ++ [p]).length : Int) - 1) = (i.length : Int) := by rw [hn]; unfold wrap64; omega
          have hr : rd_T93 (i ++ [p]) (i.length : Int) = p := by rw [rdS _ _ (by rw [hn]; omega)]; simp
          rw [if_pos (by rw [hn]; omega), hw, if_pos (by omega), if_pos (by rw [hn]; omega), hr, addS_snoc, Int.toNat_natCast, set_last]
          by_cases c2 : p.f1 = e[j]
          · rw [if_pos c2, if_pos c2, if_pos (by omega)]
          · rw [if_neg c2, if_neg c2, if_pos (by omega), if_pos (by rw [hn]; omega)]
      · rw [if_neg ck]
        refine Ev.step (fun k => ?_) (ih (j + 1) out (by omega) (by omega)); rw [Bi.l1, wrs j (by omega), if_pos (by omega), if_pos (by omega), if_pos (by omega), rdI e j hlt, in_val, in_val]
        simp only [Option.bind_some, C5.f]
        rw [if_neg ck]
    · refine one_round fun k => ?_
      rw [Bi.l1, wrs j (by omega), if_neg (by omega), List.drop_eq_getElem_cons hlt, List.drop_of_length_le (show e.length ≤ j + 1 by omega)]; show some out = some ((out.map sp).map ps); rw [map_ps_sp]
theorem merge_l0 (a b : List S93) (c : Int) (t : List S93) (ht : t.length ≤ 200000) {R} (hR : Ev (fun k => Bi.l1 k a b c (RG.dist (RG.endsOf (t.map sp))) [] 0) R) : ∀ d j, j + d = t.length →
    Ev (fun k => Bi.l0 k a b c (RG.endsOf ((t.take j).map sp)) t (t.length : Int) (j : Int)) R := by
  intro d
  induction d with
  | zero =>
    intro j hj; refine Ev.step (fun k => ?_) hR; have hb := RG.ends_len (t.map sp); rw [List.length_map] at hb; rw [Bi.l0, if_neg (by omega), List.take_of_length_le (by omega)]; unfold C0.f; rw [if_pos (by omega)]; rfl
  | succ d ih =>
    intro j hj; have hlt : j < t.length := by omega
    have hb := RG.ends_len ((t.take j).map sp); rw [List.length_map, List.length_take] at hb; refine Ev.step (fun k => ?_) (ih (j + 1) (by omega))
    have e : RG.endsOf ((t.take (j + 1)).map sp) = RG.endsOf ((t.take j).map sp) ++ [t[j].f0, t[j].f1] := by
      rw [List.take_succ_eq_append_getElem hlt, List.map_append, RG.ends_append]; rfl
    rw [Bi.l0, if_pos (by omega), if_pos (by omega), if_pos (by omega), rdS t j hlt, wrs j (by omega), e]
    simp only [Option.bind_some]
    rw [if_pos (by simp only [List.length_cons, List.length_nil]; omega)]
theorem merge_val (a b : List S93) (c : Int) (ha : a.length ≤ 100000) (hb : b.length ≤ 100000) : Ev (fun k => Bi.f k a b c) ((RG.mergeP (a.map sp) (b.map sp) (keepB c)).map ps) := by
  have hb1 := RG.dist_len (RG.endsOf ((a ++ b).map sp)); rw [RG.ends_len, List.length_map, List.length_append] at hb1; have h1 := merge_l1 a b c (RG.dist (RG.endsOf ((a ++ b).map sp))) (by omega) _ 0 [] (Nat.zero_add _) (Nat.le_refl _); have h0 := merge_l0 a b c (a ++ b) (by rw [List.length_append]; omega) h1 (a ++ b).length 0 (Nat.zero_add _); rw [List.map_append] at h0; exact Ev.bind (concat_val a b ha hb) h0
theorem eqS_l0 (a b : List S93) (hl : a.length = b.length) (hb : a.length ≤ 1000000) : ∀ d i, i + d = a.length → Ev (fun k => Cm.l0 k a b (a.length : Int) (i : Int)) (decide ((a.drop i).map sp = (b.drop i).map sp)) := by
  intro d
  induction d with
  | zero =>
    intro i hi; refine one_round fun k => ?_
    rw [Cm.l0, if_neg (by omega), List.drop_of_length_le (by omega), List.drop_of_length_le (show b.length ≤ i by omega)]; rfl
  | succ d ih =>
    intro i hi; have h1 : i < a.length := by omega
    have h2 : i < b.length := by omega
    rw [List.drop_eq_getElem_cons h1, List.drop_eq_getElem_cons h2]
    have e : ((a[i] :: a.drop (i + 1)).map sp = (b[i] :: b.drop (i + 1)).map sp) ↔ ((a[i].f0 = b[i].f0 ∧ a[i].f1 = b[i].f1) ∧ (a.drop (i + 1)).map sp = (b.drop (i + 1)).map sp) := by
      rw [List.map_cons, List.map_cons, List.cons.injEq]
      simp [sp]
    have hc : ((!((a[i].f0) == (b[i].f0)) || (!((a[i].f1) == (b[i].f1)))) = true) ↔ ¬ (a[i].f0 = b[i].f0 ∧ a[i].f1 = b[i].f1) := by
      simp only [Bool.or_eq_true, Bool.not_eq_true', beq_eq_false_iff_ne, ne_eq]
      omega
    by_cases c : a[i].f0 = b[i].f0 ∧ a[i].f1 = b[i].f1
    · rw [show decide ((a[i] :: a.drop (i + 1)).map sp = (b[i] :: b.drop (i + 1)).map sp) = decide ((a.drop (i + 1)).map sp = (b.drop (i + 1)).map sp) from decide_eq_decide.mpr (e.trans ⟨fun h => h.2, fun h => ⟨c, h⟩⟩)]
      refine Ev.step (fun k => ?_) (ih (i + 1) (by omega)); rw [Cm.l0, if_pos (by omega), if_pos (by omega), if_pos (by omega), if_pos (by omega), rdS a i h1, rdS b i h2, if_neg (fun h => hc.mp h c), wrs i (by omega)]
    · rw [decide_eq_false (fun h => c (e.mp h).1)]
      refine one_round fun k => ?_
      rw [Cm.l0, if_pos (by omega), if_pos (by omega), if_pos (by omega), if_pos (by omega), rdS a i h1, rdS b i h2, if_pos (hc.mpr c)]
theorem eqS_val (a b : List S93) (hb : a.length ≤ 1000000) : Ev (fun k => Cm.f k a b) (decide (a.map sp = b.map sp)) := by
  by_cases h : a.length = b.length
  · refine Ev.congr (fun k => ?_) (eqS_l0 a b h hb a.length 0 (Nat.zero_add _))
    unfold Cm.f; rw [if_pos (by omega)]; rfl
  · rw [decide_eq_false (fun e => h (by have := congrArg List.length e; simpa using this))]
    refine ⟨0, fun k _ => ?_⟩; show Cm.f k a b = _; unfold Cm.f; rw [if_neg (by omega)]
def proc : List RG.Rc → Bool → List RG.Rc → List RG.Rc × Int
  | acc, many, [] => if many = true then ([], 60) else (acc, 0)
  | acc, many, r :: t => if RG.near4 r = true then (if acc.length = 4096 then proc acc true t else proc (acc ++ [r]) many t) else ([], 61)
theorem proc_val : ∀ (fl acc : List RG.Rc) (many : Bool), acc.length ≤ 4096 → (many = true → acc.length = 4096) →
    proc acc many fl = if fl.all RG.near4 = true then (if many = true ∨ 4096 < acc.length + fl.length then ([], 60) else (acc ++ fl, 0)) else ([], 61)
  | [], acc, many, h1, h2 => by
    simp only [proc, List.all_nil, if_true, List.length_nil, List.append_nil]
    cases many with
    | true => simp
    | false => rw [if_neg (by simp), if_neg (by simp; omega)]
  | r :: t, acc, many, h1, h2 => by
    simp only [proc, List.all_cons, List.length_cons]
    by_cases c : RG.near4 r = true
    · have hb : (RG.near4 r && t.all RG.near4) = t.all RG.near4 := by rw [c]; rfl
      simp only [if_pos c, hb]
      by_cases c2 : acc.length = 4096
      · rw [if_pos c2, proc_val t acc true h1 (fun _ => c2)]
        congr 1
        rw [if_pos (.inl rfl), if_pos (.inr (by omega))]
      · rw [if_neg c2, proc_val t (acc ++ [r]) many (by simp; omega) (fun h => absurd (h2 h) c2), List.length_append, List.append_assoc]
        have hm : many = false := by
          cases many with
          | false => rfl
          | true => exact absurd (h2 rfl) c2
        subst hm; have hl : acc.length + [r].length + t.length = acc.length + (t.length + 1) := by simp only [List.length_cons, List.length_nil]; omega
        rw [hl]; rfl
    · have hb : (RG.near4 r && t.all RG.near4) = false := by rw [show RG.near4 r = false by simpa using c]; rfl
      simp only [if_neg c, hb]; rfl
theorem proc_told (l : List RG.Bd) : proc [] false (RG.flat l) = RG.toldP l := by
  rw [proc_val _ _ _ (by simp) (by simp)]; unfold RG.toldP
  simp
theorem rdB (l : List S91) (i : Nat) (h : i < l.length) : rd_T91 l (i : Int) = l[i] := by
  unfold rd_T91; rw [Int.toNat_natCast, List.getD_eq_getElem?_getD, List.getElem?_eq_getElem h]; rfl
def flatB (b : S91) (l : List S93) : List RG.Rc := l.map fun s => (s.f0, b.f0, s.f1, b.f1)
theorem told_l1 (L : List S91) (i : Nat) (b : S91) (rest : List RG.Rc) (hb : b.f2.length ≤ 1000000) (hi : i < 1000000)
    (hR : ∀ acc many, acc.length ≤ 4096 → Ev (fun k => B0.l0 k (acc.map cr) many L (L.length : Int) ((i + 1 : Nat) : Int)) ((proc acc many rest).1.map cr, (proc acc many rest).2)) : ∀ d j (acc : List RG.Rc) (many : Bool), j + d = b.f2.length → acc.length ≤ 4096 →
    Ev (fun k => B0.l1 k (acc.map cr) many L (L.length : Int) (i : Int) b.f2 (b.f2.length : Int) (j : Int) b.f0 b.f1 b.f2) ((proc acc many (flatB b (b.f2.drop j) ++ rest)).1.map cr, (proc acc many (flatB b (b.f2.drop j) ++ rest)).2) := by
  intro d
  induction d with
  | zero =>
    intro j acc many hj ha; rw [List.drop_of_length_le (by omega)]; refine Ev.step (fun k => ?_) (hR acc many ha); rw [B0.l1, if_neg (by omega), wrs i (by omega)]
  | succ d ih =>
    intro j acc many hj ha; have hlt : j < b.f2.length := by omega
    rw [List.drop_eq_getElem_cons hlt]; have e : flatB b (b.f2[j] :: b.f2.drop (j + 1)) ++ rest = (b.f2[j].f0, b.f0, b.f2[j].f1, b.f1) :: (flatB b (b.f2.drop (j + 1)) ++ rest) := rfl; rw [e]
    simp only [proc]
    have hn : C2.f [b.f2[j].f0, b.f2[j].f1, b.f0, b.f1] = some (RG.near4 (b.f2[j].f0, b.f0, b.f2[j].f1, b.f1)) := by
      unfold C2.f RG.near4
      simp only [List.all_cons, List.all_nil, Bool.and_true]
      congr 1
      generalize RG.nearB b.f2[j].f0 = p; generalize RG.nearB b.f2[j].f1 = q; generalize RG.nearB b.f0 = r; generalize RG.nearB b.f1 = s; cases p <;> cases q <;> cases r <;> cases s <;> rfl
    by_cases c : RG.near4 (b.f2[j].f0, b.f0, b.f2[j].f1, b.f1) = true
    · rw [if_pos c]
      by_cases c2 : acc.length = 4096
      · rw [if_pos c2]
        refine Ev.step (fun k => ?_) (ih (j + 1) acc true (by omega) ha); rw [B0.l1, if_pos (by omega), if_pos (by omega), if_pos (by omega), rdS b.f2 j hlt, hn]
        simp only [Option.bind_some]
        rw [if_pos c, if_pos (by rw [List.length_map]; omega), wrs j (by omega)]
      · rw [if_neg c2]
        have ih := ih (j + 1) (acc ++ [(b.f2[j].f0, b.f0, b.f2[j].f1, b.f1)]) many (by omega) (by simp; omega); rw [List.map_append] at ih; refine Ev.step (fun k => ?_) ih; rw [B0.l1, if_pos (by omega), if_pos (by omega), if_pos (by omega), rdS b.f2 j hlt, hn]
        simp only [Option.bind_some]
        rw [if_pos c, if_neg (by rw [List.length_map]; omega), if_pos (by rw [List.length_map]; omega), wrs j (by omega)]; rfl
    · rw [if_neg c]
      refine one_round fun k => ?_
      rw [B0.l1, if_pos (by omega), if_pos (by omega), if_pos (by omega), rdS b.f2 j hlt, hn]
      simp only [Option.bind_some]
      rw [if_neg c]; rfl
def flatL (L : List S91) : List RG.Rc := L.flatMap fun b => flatB b b.f2
theorem told_l0 (L : List S91) (hL : L.length ≤ 100000) (hb : ∀ b ∈ L, b.f2.length ≤ 1000000) : ∀ d i (acc : List RG.Rc) (many : Bool), i + d = L.length → acc.length ≤ 4096 →
    Ev (fun k => B0.l0 k (acc.map cr) many L (L.length : Int) (i : Int)) ((proc acc many (flatL (L.drop i))).1.map cr, (proc acc many (flatL (L.drop i))).2) := by
  intro d
  induction d with
  | zero =>
    intro i acc many hi ha; rw [List.drop_of_length_le (by omega)]; refine one_round fun k => ?_
    rw [B0.l0, if_neg (by omega)]
    simp only [flatL, List.flatMap_nil, proc]
    cases many <;> rfl
  | succ d ih =>
    intro i acc many hi ha; have hlt : i < L.length := by omega
    rw [List.drop_eq_getElem_cons hlt]; have e : flatL (L[i] :: L.drop (i + 1)) = flatB L[i] L[i].f2 ++ flatL (L.drop (i + 1)) := rfl; rw [e]; have h1 := told_l1 L i L[i] (flatL (L.drop (i + 1))) (hb _ (List.getElem_mem hlt)) (by omega) (fun acc many ha => ih (i + 1) acc many (by omega) ha) L[i].f2.length 0 acc many (Nat.zero_add _) ha; rw [List.drop_zero] at h1; refine Ev.step (fun k => ?_) h1; rw [B0.l0, if_pos (by omega), if_pos (by omega), if_pos (by omega), rdB L i hlt]; rfl
theorem flatL_eq (L : List S91) : flatL L = RG.flat (L.map bd) := by
  unfold flatL RG.flat; rw [List.flatMap_map]
  congr 1
  funext b
  unfold flatB bd; rw [List.map_map]; rfl
theorem told_val (L : List S91) (hL : L.length ≤ 100000) (hb : ∀ b ∈ L, b.f2.length ≤ 1000000) : Ev (fun k => B0.f k L) ((RG.toldP (L.map bd)).1.map cr, (RG.toldP (L.map bd)).2) := by
  have h := told_l0 L hL hb L.length 0 [] false (Nat.zero_add _) (by simp); rw [List.drop_zero, flatL_eq, proc_told] at h; exact h
end VR
end Go.Proofs.Ytobdfiglgdbecaa
end
