import Derived.Test.YtobdfiglgdbecaaQR5
section
set_option linter.unusedVariables false
set_option linter.unusedSectionVars false
set_option linter.unusedSimpArgs false
open Go Go.RowKit Go.Proofs.YtobdfiglgdbecaaW.PrintWords Go.Proofs.YtobdfiglgdbecaaW.PrintMore
namespace Go.Proofs.Ytobdfiglgdbecaa
open PGA PGB PGH PGK PGI PGR
namespace RG
theorem rects_addP (out : List Bd) (x x' : Int) (v : List Sp) : rects out ≤ rects (addP out x x' v) := by
  unfold addP
  rcases last_split out with rfl | ⟨i, p, rfl⟩
  · simp [rects]
  · simp only [List.getLast?_concat, List.dropLast_concat]
    split
    · rename_i h
      rw [rects_append, rects_append]
      simp [rects, h.2]
    · rw [rects_append (i ++ [p])]; omega
theorem rects_build (g : Int → Option (List Sp)) : ∀ (t : List Int) (out : List Bd), rects out ≤ rects (buildP g t out)
  | [], _ => Nat.le_refl _
  | [_], _ => Nat.le_refl _
  | x :: x' :: t, out => by
    have ih := rects_build g (x' :: t) (stepP out x x' (g x))
    refine Nat.le_trans ?_ ih
    unfold stepP
    split
    · exact rects_addP out x x' _
    · exact Nat.le_refl _
end RG
namespace VR
open RG (flat sweepP buildP)
def cutD (d : List S58) (z : Int) : Prop := ∃ q ∈ d, z = q.f1 ∨ z = q.f3
theorem cutD_of {d l : List S58} (h : Ord d l) (z : Int) : cutD d z ↔ z ∈ RG.cutsOf (l.map rc) := by
  unfold cutD RG.cutsOf
  simp only [List.mem_flatMap, List.mem_filter, List.mem_map, List.mem_cons, List.not_mem_nil, or_false]
  constructor
  · rintro ⟨q, hq, h1⟩
    obtain ⟨h2, h3⟩ := (h.mem q).mp hq
    exact ⟨rc q, ⟨⟨q, h2, rfl⟩, h3⟩, h1⟩
  · rintro ⟨_, ⟨⟨q, h2, rfl⟩, h3⟩, h1⟩
    exact ⟨q, (h.mem q).mpr ⟨h2, h3⟩, h1⟩
theorem cuts_in (d : List S58) (hd : d.length ≤ 20000) (hs : ∀ q ∈ d, RG.some1 (rc q) = true) {R : Type} {F : Nat → List Int → Int → Option R} {G : Nat → List Int → Option R}
    (hF : ∀ k ys (i : Nat) (h : i < d.length), F (k + 1) ys (i : Int) = (Bj.f k ys d[i].f1).bind fun t => (Bj.f k t d[i].f3).bind fun u => F k u ((i + 1 : Nat) : Int))
    (hG : ∀ k ys, F (k + 1) ys (d.length : Int) = G k ys) : ∀ e i ys, i + e = d.length → RG.Rise ys → ys.length + 2 * e ≤ 60000 → ∃ ys', RG.Rise ys' ∧ (∀ z, z ∈ ys' ↔ z ∈ ys ∨ cutD (d.drop i) z) ∧ ys'.length ≤ ys.length + 2 * e ∧ ∀ r, Ev (fun k => G k ys') r → Ev (fun k => F k ys (i : Int)) r := by
  intro e
  induction e with
  | zero =>
    intro i ys hi hr hl
    obtain rfl : i = d.length := by omega
    refine ⟨ys, hr, fun z => ?_, by omega, fun r h => Ev.step (fun k => hG k ys) h⟩
    rw [List.drop_length]
    constructor
    · exact .inl
    · rintro (h | ⟨q, hq, _⟩)
      · exact h
      · cases hq
  | succ e ih =>
    intro i ys hi hr hl
    have hlt : i < d.length := by omega
    have l1 := RG.ins_len d[i].f1 ys
    have l2 := RG.ins_len d[i].f3 (RG.ins d[i].f1 ys)
    have r1 := RG.ins_rise d[i].f1 ys hr
    have r2 := RG.ins_rise d[i].f3 _ r1
    obtain ⟨ys', a1, a2, a3, a4⟩ := ih (i + 1) (RG.ins d[i].f3 (RG.ins d[i].f1 ys)) (by omega) r2 (by omega)
    refine ⟨ys', a1, fun z => ?_, by omega, fun r h => ?_⟩
    · rw [a2, RG.mem_ins, RG.mem_ins, List.drop_eq_getElem_cons hlt]
      unfold cutD
      constructor
      · rintro ((h | h | h) | ⟨q, hq, h⟩)
        · exact .inr ⟨_, List.mem_cons_self, .inr h⟩
        · exact .inr ⟨_, List.mem_cons_self, .inl h⟩
        · exact .inl h
        · exact .inr ⟨q, List.mem_cons_of_mem _ hq, h⟩
      · rintro (h | ⟨q, hq, h⟩)
        · exact .inl (.inr (.inr h))
        · rcases List.mem_cons.mp hq with rfl | hq
          · rcases h with h | h
            · exact .inl (.inr (.inl h))
            · exact .inl (.inl h)
          · exact .inr ⟨q, hq, h⟩
    · refine Ev.step (fun k => hF k ys i hlt) ?_
      exact Ev.bind (insert_val ys hr (by omega) _) (Ev.bind (insert_val _ r1 (by omega) _) (a4 r h))
def Wp (A B : List RG.Rc) (keep : Bool → Bool → Bool) (y : Int) : List RG.Sp := RG.mergeP (RG.rowP A y) (RG.rowP B y) keep
theorem rowOf_Wp (A B : List RG.Rc) (keep : Bool → Bool → Bool) (y : Int) : RG.rowOf A B keep y = if Wp A B keep y = [] then none else some (Wp A B keep y) := rfl
def fin6 (F : List RG.Rc) : List S58 × Int := if 4096 < F.length then ([], 60) else (F.map cr, 0)
def curB (B0 : List RG.Bd) (band : List RG.Sp) (top x : Int) : List RG.Bd := B0 ++ (if band = [] then [] else [(top, x, band)])
theorem flat_cur (B0 : List RG.Bd) (band : List RG.Sp) (top x : Int) : flat (curB B0 band top x) = flat B0 ++ band.map fun s => (s.1, top, s.2, x) := by
  unfold curB flat
  by_cases c : band = []
  · subst c; simp
  · rw [if_neg c, List.flatMap_append]; simp
theorem emit6 (way : Int) (d1 d2 : List S58) (C : List Int) (hC : C.length ≤ 100000) (i : Nat) (hi : i < C.length) (band now : List RG.Sp) (top : Int) (hb : band.length ≤ 100000) {R} : ∀ e j (out : List RG.Rc), j + e = band.length → out.length + e ≤ 1000000 →
    Ev (fun k => if ((out ++ (band.drop j).map fun s => (s.1, top, s.2, C[i])).length : Int) > 4096 then some ([], 60) else Af.l2 k d1 d2 way C ((out ++ (band.drop j).map fun s => (s.1, top, s.2, C[i])).map cr) (now.map p6) C[i] ((i + 1 : Nat) : Int)) R →
    Ev (fun k => Af.l3 k d1 d2 way C (out.map cr) (band.map p6) top (i : Int) (now.map p6) (j : Int)) R := by
  intro e
  induction e with
  | zero =>
    intro j out hj ho hR
    rw [List.drop_of_length_le (by omega), List.map_nil, List.append_nil] at hR
    refine Ev.step (fun k => ?_) hR
    rw [Af.l3, if_neg (by simp; omega), List.length_map]
    by_cases c : (out.length : Int) > 4096
    · rw [if_pos c, if_pos c]
    · rw [if_neg c, if_neg c, if_pos (by omega), if_pos (by omega), rdI C i hi, wrs i (by omega)]
  | succ e ih =>
    intro j out hj ho hR
    have hlt : j < band.length := by omega
    rw [List.drop_eq_getElem_cons hlt, List.map_cons, ← List.singleton_append, ← List.append_assoc] at hR
    refine Ev.step (fun k => ?_) (ih (j + 1) (out ++ [(band[j].1, top, band[j].2, C[i])]) (by omega) (by rw [List.length_append, List.length_singleton]; omega) hR)
    rw [Af.l3, if_pos (by simp; omega), if_pos (by omega), if_pos (by omega), if_pos (by omega), if_pos (by rw [List.length_map]; omega), rd6 _ j (by simp; omega), rdI C i hi, wrs j (by omega), List.map_append, List.getElem_map]
    rfl
theorem step_same {A B : List RG.Rc} {keep : Bool → Bool → Bool} {B0 : List RG.Bd} {band : List RG.Sp} {top x x' : Int} (h : band = Wp A B keep x) : RG.stepP (curB B0 band top x) x x' (RG.rowOf A B keep x) = curB B0 band top x' := by
  rw [rowOf_Wp, ← h]
  by_cases c : band = []
  · subst c; rfl
  · rw [if_neg c]
    unfold curB RG.stepP RG.addP
    rw [if_neg c, if_neg c]
    simp only [List.getLast?_concat, List.dropLast_concat]
    rw [if_pos ⟨trivial, trivial⟩]
theorem step_new {A B : List RG.Rc} {keep : Bool → Bool → Bool} {B0 : List RG.Bd} {band : List RG.Sp} {top x x' : Int} (hne : band ≠ Wp A B keep x) (h0 : ∀ p ∈ B0, p.2.1 < x) : RG.stepP (curB B0 band top x) x x' (RG.rowOf A B keep x) = curB (curB B0 band top x) (Wp A B keep x) x x' := by
  rw [rowOf_Wp]
  by_cases c : Wp A B keep x = []
  · rw [if_pos c]
    show curB B0 band top x = curB B0 band top x ++ (if Wp A B keep x = [] then [] else _)
    rw [if_pos c, List.append_nil]
  · rw [if_neg c]
    show RG.addP (curB B0 band top x) x x' (Wp A B keep x) = curB B0 band top x ++ (if Wp A B keep x = [] then [] else [(x, x', Wp A B keep x)])
    rw [if_neg c]
    unfold RG.addP
    by_cases cb : band = []
    · have e : curB B0 band top x = B0 := by unfold curB; rw [if_pos cb, List.append_nil]
      rw [e]
      rcases RG.last_split B0 with rfl | ⟨i, p, rfl⟩
      · rfl
      · have := h0 p (by simp)
        simp only [List.getLast?_concat]
        rw [if_neg (fun h => by omega)]
    · have e : curB B0 band top x = B0 ++ [(top, x, band)] := by unfold curB; rw [if_neg cb]
      rw [e]
      simp only [List.getLast?_concat]
      rw [if_neg (fun h => hne h.2)]
section
variable {way : Int} {keep : Bool → Bool → Bool} (hk : ∀ x y, Ci.f way x y = some (keep x y)) (hff : keep false false = false) {a b d1 d2 : List S58} (h1 : Ord d1 a) (h2 : Ord d2 b) (la : a.length ≤ 4096) (lb : b.length ≤ 4096)
  (na : ∀ r ∈ a.map rc, RG.some1 r = true → RG.near4 r = true) (nb : ∀ r ∈ b.map rc, RG.some1 r = true → RG.near4 r = true)
include hk hff h1 h2 la lb na nb
theorem row_big {l : List S58} (nl : ∀ r ∈ l.map rc, RG.some1 r = true → RG.near4 r = true) (y : Int) : ∀ z ∈ RG.endsOf (RG.rowP (l.map rc) y), z < big := by
  intro z hz
  obtain ⟨r, hr, hs, hz⟩ := RG.row_ends hz
  have := (RG.near4_iff r).mp (nl r hr hs)
  unfold big
  omega
theorem wp_len (y : Int) : (Wp (a.map rc) (b.map rc) keep y).length ≤ 8192 := by
  have e1 := row_small a y la
  have e2 := row_small b y lb
  have := RG.merge_len (RG.rowP (a.map rc) y) (RG.rowP (b.map rc) y) keep hff
  unfold Wp; omega
theorem sweep6_l2 (C : List Int) (hC : C.length ≤ 20000) (hr : RG.Rise C) : ∀ e i B0 band top, i + e = C.length → band.length ≤ 8192 → (flat B0).length ≤ 4096 → (i = C.length → band = []) → (∀ h : i < C.length, ∀ p ∈ B0, p.2.1 < C[i]) →
    Ev (fun k => Af.l2 k d1 d2 way C ((flat B0).map cr) (band.map p6) top (i : Int)) (fin6 (flat (buildP (RG.rowOf (a.map rc) (b.map rc) keep) (C.drop i) (curB B0 band top (C.getD i 0))))) := by
  intro e
  induction e with
  | zero =>
    intro i B0 band top hi hb ho hend _
    obtain rfl : i = C.length := by omega
    have hbn := hend rfl
    subst hbn
    refine one_round fun k => ?_
    rw [Af.l2, if_neg (by omega), List.drop_length]
    have e : curB B0 [] top (C.getD C.length 0) = B0 := by unfold curB; rw [if_pos rfl, List.append_nil]
    show some ((flat B0).map cr, (0 : Int)) = some (fin6 (flat (curB B0 [] top (C.getD C.length 0))))
    rw [e]; unfold fin6; rw [if_neg (by omega)]
  | succ e ih =>
    intro i B0 band top hi hb ho hend hlast
    have hlt : i < C.length := by omega
    have hx : C.getD i 0 = C[i] := by rw [List.getD_eq_getElem?_getD, List.getElem?_eq_getElem hlt]; rfl
    rw [hx]
    have hB := hlast hlt
    have next : ∀ now, (i + 1 < C.length → now = Wp (a.map rc) (b.map rc) keep C[i]) → (¬ i + 1 < C.length → now = []) →
        Ev (fun k => Af.j3 k d1 d2 way C ((flat B0).map cr) (band.map p6) top (i : Int) (now.map p6)) (fin6 (flat (buildP (RG.rowOf (a.map rc) (b.map rc) keep) (C.drop i) (curB B0 band top C[i])))) := by
      intro now hn1 hn2
      have hnl : now.length ≤ 8192 := by
        by_cases c : i + 1 < C.length
        · rw [hn1 c]; exact wp_len hk hff h1 h2 la lb na nb _
        · rw [hn2 c]; exact Nat.zero_le _
      refine Ev.step (fun k => by rw [Af.j3]) (Ev.bind (same6_val band now (by omega)) ?_)
      by_cases cs : band = now
      · rw [decide_eq_true cs]
        refine Ev.congr (fun k => by rw [if_pos rfl, wrs i (by omega)]) ?_
        by_cases c : i + 1 < C.length
        · have hx1 : C.getD (i + 1) 0 = C[i + 1] := by rw [List.getD_eq_getElem?_getD, List.getElem?_eq_getElem c]; rfl
          have h := ih (i + 1) B0 band top (by omega) hb ho (fun h => by omega) (fun h p hp => by have := hB p hp; have := rise_lt hr i (i + 1) c (Nat.lt_succ_self i); omega)
          rw [hx1] at h
          have eb : buildP (RG.rowOf (a.map rc) (b.map rc) keep) (C.drop i) (curB B0 band top C[i]) = buildP (RG.rowOf (a.map rc) (b.map rc) keep) (C.drop (i + 1)) (curB B0 band top C[i + 1]) := by
            rw [← step_same (cs.trans (hn1 c)) (x' := C[i + 1]), List.drop_eq_getElem_cons hlt, List.drop_eq_getElem_cons c]; rfl
          rw [eb]; exact h
        · have hn := hn2 c
          have hbe : band = [] := cs.trans hn
          have h := ih (i + 1) B0 band top (by omega) hb ho (fun _ => hbe) (fun h => absurd h c)
          have ed : C.drop (i + 1) = [] := List.drop_of_length_le (by omega)
          have eb : buildP (RG.rowOf (a.map rc) (b.map rc) keep) (C.drop i) (curB B0 band top C[i]) = buildP (RG.rowOf (a.map rc) (b.map rc) keep) (C.drop (i + 1)) (curB B0 band top (C.getD (i + 1) 0)) := by
            rw [List.drop_eq_getElem_cons hlt, ed, hbe]; rfl
          rw [eb]; exact h
      · rw [decide_eq_false cs]
        refine Ev.congr (fun k => by rw [if_neg (by decide)]) ?_
        have hfl := flat_cur B0 band top C[i]
        refine emit6 way d1 d2 C (by omega) i hlt band now top (by omega) band.length 0 (flat B0) (Nat.zero_add _) (by omega) ?_
        rw [List.drop_zero, ← hfl]
        by_cases cl : ((flat (curB B0 band top C[i])).length : Int) > 4096
        · refine Ev.congr (fun k => by rw [if_pos cl]) ?_
          have : 4096 < (flat (buildP (RG.rowOf (a.map rc) (b.map rc) keep) (C.drop i) (curB B0 band top C[i]))).length := by
            have := RG.rects_build (RG.rowOf (a.map rc) (b.map rc) keep) (C.drop i) (curB B0 band top C[i])
            rw [← RG.flat_len, ← RG.flat_len] at this
            omega
          unfold fin6
          rw [if_pos this]
          exact Ev.now _
        · refine Ev.congr (fun k => by rw [if_neg cl]) ?_
          by_cases c : i + 1 < C.length
          · have hx1 : C.getD (i + 1) 0 = C[i + 1] := by rw [List.getD_eq_getElem?_getD, List.getElem?_eq_getElem c]; rfl
            have hcc := rise_lt hr i (i + 1) c (Nat.lt_succ_self i)
            have h := ih (i + 1) (curB B0 band top C[i]) now C[i] (by omega) hnl (by omega) (fun h => by omega) (fun h p hp => by
              unfold curB at hp
              rw [List.mem_append] at hp
              rcases hp with hp | hp
              · have := hB p hp; omega
              · split at hp
                · cases hp
                · simp at hp; subst hp; exact hcc)
            rw [hx1] at h
            have eb : buildP (RG.rowOf (a.map rc) (b.map rc) keep) (C.drop i) (curB B0 band top C[i]) = buildP (RG.rowOf (a.map rc) (b.map rc) keep) (C.drop (i + 1)) (curB (curB B0 band top C[i]) now C[i] C[i + 1]) := by
              rw [hn1 c, ← step_new (fun e => cs (e.trans (hn1 c).symm)) hB, List.drop_eq_getElem_cons hlt, List.drop_eq_getElem_cons c]; rfl
            rw [eb]; exact h
          · have hn := hn2 c
            have h := ih (i + 1) (curB B0 band top C[i]) now C[i] (by omega) hnl (by omega) (fun _ => hn) (fun h => absurd h c)
            have ed : C.drop (i + 1) = [] := List.drop_of_length_le (by omega)
            have eb : buildP (RG.rowOf (a.map rc) (b.map rc) keep) (C.drop i) (curB B0 band top C[i]) = buildP (RG.rowOf (a.map rc) (b.map rc) keep) (C.drop (i + 1)) (curB (curB B0 band top C[i]) now C[i] (C.getD (i + 1) 0)) := by
              have e : curB (curB B0 band top C[i]) now C[i] (C.getD (i + 1) 0) = curB B0 band top C[i] := by
                show curB B0 band top C[i] ++ (if now = [] then [] else _) = _
                rw [if_pos hn, List.append_nil]
              rw [e, List.drop_eq_getElem_cons hlt, ed]; rfl
            rw [eb]; exact h
    by_cases c : i + 1 < C.length
    · have hw : ¬ (wrap64 ((i : Int) + 1) < (C.length : Int)) → False := fun h => by rw [wrs i (by omega)] at h; omega
      refine Ev.step (fun k => by rw [Af.l2, if_pos (by omega), if_pos (Classical.byContradiction hw), if_pos (by omega), rdI C i hlt]) ?_
      have hr1 := row_small a C[i] la
      have hr2 := row_small b C[i] lb
      refine Ev.bind (row6_val h1 C[i] (by omega)) (Ev.bind (row6_val h2 C[i] (by omega)) (Ev.bind ?_ (next (Wp (a.map rc) (b.map rc) keep C[i]) (fun _ => rfl) (fun h => absurd c h))))
      exact put_val hk _ _ (RG.row_ok _ _).1 (RG.row_ok _ _).1 (by omega) (by omega) (row_big hk hff h1 h2 la lb na nb na _) (row_big hk hff h1 h2 la lb na nb nb _)
    · refine Ev.step (fun k => by rw [Af.l2, if_pos (by omega), if_neg (by rw [wrs i (by omega)]; omega)]) ?_
      exact next [] (fun h => absurd h c) (fun _ => rfl)
end
theorem sweep6_val {way : Int} {keep : Bool → Bool → Bool} (hk : ∀ x y, Ci.f way x y = some (keep x y)) (hff : keep false false = false) (a b : List S58) (la : a.length ≤ 4096) (lb : b.length ≤ 4096)
    (na : ∀ r ∈ a.map rc, RG.some1 r = true → RG.near4 r = true) (nb : ∀ r ∈ b.map rc, RG.some1 r = true → RG.near4 r = true) :
    Ev (fun k => Af.f k a b way) (fin6 (flat (sweepP (a.map rc) (b.map rc) keep))) := by
  obtain ⟨d1, o1, h1⟩ := order_val a.length a (Nat.le_refl _) (by omega)
  obtain ⟨d2, o2, h2⟩ := order_val b.length b (Nat.le_refl _) (by omega)
  have l1 := h1.len
  have l2 := h2.len
  unfold Af.f
  refine Ev.bind o1 (Ev.bind o2 ?_)
  obtain ⟨y1, r1, m1, n1, g1⟩ := cuts_in d1 (by omega) (fun q hq => ((h1.mem q).mp hq).2) (F := fun k ys i => Af.l0 k d1 d2 way ys i) (G := fun k ys => Af.l1 k d1 d2 way ys 0)
    (fun k ys i h => by
      have hs := ((h1.mem d1[i]).mp (List.getElem_mem h)).2
      rw [Af.l0, if_pos (by omega), if_pos (by omega), rdR d1 i h, someH, hs, Option.bind_some, if_pos rfl, wrs i (by omega)])
    (fun k ys => by rw [Af.l0, if_neg (by omega)]) d1.length 0 [] (Nat.zero_add _) trivial (by simp; omega)
  obtain ⟨y2, r2, m2, n2, g2⟩ := cuts_in d2 (by omega) (fun q hq => ((h2.mem q).mp hq).2) (F := fun k ys i => Af.l1 k d1 d2 way ys i) (G := fun k ys => Af.l2 k d1 d2 way ys [] [] 0 0)
    (fun k ys i h => by
      have hs := ((h2.mem d2[i]).mp (List.getElem_mem h)).2
      rw [Af.l1, if_pos (by omega), if_pos (by omega), rdR d2 i h, someH, hs, Option.bind_some, if_pos rfl, wrs i (by omega)])
    (fun k ys => by rw [Af.l1, if_neg (by omega)]) d2.length 0 y1 (Nat.zero_add _) r1 (by simp at n1; omega)
  refine g1 _ (g2 _ ?_)
  have ey : y2 = RG.cutsP (a.map rc) (b.map rc) := RG.rise_unique _ _ r2 (RG.dist_rise _) fun z => by
    rw [m2, m1, List.drop_zero, List.drop_zero, cutD_of h1, cutD_of h2]
    unfold RG.cutsP
    rw [RG.mem_dist, List.mem_append]
    constructor
    · rintro ((h | h) | h)
      · cases h
      · exact .inl h
      · exact .inr h
    · rintro (h | h)
      · exact .inl (.inr h)
      · exact .inr h
  subst ey
  have hl := cutsP_len (a.map rc) (b.map rc) (by rw [List.length_map]; omega) (by rw [List.length_map]; omega)
  have h := sweep6_l2 hk hff h1 h2 la lb na nb (RG.cutsP (a.map rc) (b.map rc)) (by omega) r2 (RG.cutsP (a.map rc) (b.map rc)).length 0 [] [] 0 (Nat.zero_add _) (Nat.zero_le _) (Nat.zero_le _) (fun _ => rfl) (fun _ p hp => by cases hp)
  exact h
end VR
end Go.Proofs.Ytobdfiglgdbecaa
end
section
set_option linter.unusedVariables false
set_option linter.unusedSectionVars false
set_option linter.unusedSimpArgs false
open Go Go.RowKit Go.Proofs.YtobdfiglgdbecaaW.PrintWords Go.Proofs.YtobdfiglgdbecaaW.PrintMore
namespace Go.Proofs.Ytobdfiglgdbecaa
open PGA PGB PGH PGK PGI PGR
namespace VR
open RG (flat sweepP buildP cov)
theorem kp1 (x y : Bool) : Ci.f 1 x y = some (RG.firstB x y) := by unfold Ci.f; cases x <;> cases y <;> rfl
theorem kp2 (x y : Bool) : Ci.f 2 x y = some (RG.eitherB x y) := by unfold Ci.f; cases x <;> cases y <;> rfl
theorem kp3 (x y : Bool) : Ci.f 3 x y = some (RG.alsoB x y) := by unfold Ci.f; cases x <;> cases y <;> rfl
theorem kp4 (x y : Bool) : Ci.f 4 x y = some (RG.withoutB x y) := by unfold Ci.f; cases x <;> cases y <;> rfl
theorem fin_told {A B : List RG.Rc} {keep : Bool → Bool → Bool} (na : ∀ r ∈ A, RG.some1 r = true → RG.near4 r = true) (nb : ∀ r ∈ B, RG.some1 r = true → RG.near4 r = true) : fin6 (flat (sweepP A B keep)) = outP (RG.toldP (sweepP A B keep)) := by
  unfold fin6 RG.toldP outP
  rw [if_pos (RG.flat_near na nb)]
  by_cases c : 4096 < (flat (sweepP A B keep)).length
  · rw [if_pos c, if_pos c]; rfl
  · rw [if_neg c, if_neg c]
theorem two6_val {way : Int} {keep : Bool → Bool → Bool} (hk : ∀ x y, Ci.f way x y = some (keep x y)) (hff : keep false false = false) (a b : List S58) : Ev (fun k => Cr.f k a b way) (outP (RG.twoP (a.map rc) (b.map rc) keep)) := by
  unfold Cr.f RG.twoP
  refine Ev.bind (rightH_val a) ?_
  by_cases ca : RG.rightP (a.map rc) = 0
  · rw [if_pos ca]
    refine Ev.congr (fun k => by rw [if_pos ca]) (Ev.bind (rightH_val b) ?_)
    by_cases cb : RG.rightP (b.map rc) = 0
    · rw [if_pos cb]
      refine Ev.congr (fun k => by rw [if_pos cb]) ?_
      have na := (RG.right_le ca).2
      have nb := (RG.right_le cb).2
      rw [← fin_told na nb]
      exact Ev.bind (sweep6_val hk hff a b (right_len ca) (right_len cb) na nb) (Ev.now _)
    · rw [if_neg cb]
      exact Ev.congr (fun k => by rw [if_neg cb]; rfl) (Ev.now _)
  · rw [if_neg ca]
    exact Ev.congr (fun k => by rw [if_neg ca]; rfl) (Ev.now _)
theorem of6_val (a : List S58) : Ev (fun k => halideref6_Of.f k a) (outP (RG.twoP (a.map rc) [] RG.firstB)) := Ev.bind (two6_val kp1 rfl a []) (Ev.now _)
theorem union6_val (a b : List S58) : Ev (fun k => Dk.f k a b) (outP (RG.twoP (a.map rc) (b.map rc) RG.eitherB)) := Ev.bind (two6_val kp2 rfl a b) (Ev.now _)
theorem meet6_val (a b : List S58) : Ev (fun k => Do.f k a b) (outP (RG.twoP (a.map rc) (b.map rc) RG.alsoB)) := Ev.bind (two6_val kp3 rfl a b) (Ev.now _)
theorem less6_val (a b : List S58) : Ev (fun k => Dp.f k a b) (outP (RG.twoP (a.map rc) (b.map rc) RG.withoutB)) := Ev.bind (two6_val kp4 rfl a b) (Ev.now _)
end VR
end Go.Proofs.Ytobdfiglgdbecaa
end
section
set_option linter.unusedVariables false
set_option linter.unusedSectionVars false
set_option linter.unusedSimpArgs false
open Go Go.RowKit Go.Proofs.YtobdfiglgdbecaaW.PrintWords Go.Proofs.YtobdfiglgdbecaaW.PrintMore
namespace Go.Proofs.Ytobdfiglgdbecaa
open PGA PGB PGH PGK PGI PGR
namespace VR
open RG (flat sweepP buildP cov)
section
variable {way : Int} {keep : Bool → Bool → Bool} (hk : ∀ x y, Ci.f way x y = some (keep x y)) (hff : keep false false = false) {a b d1 d2 : List S58} (h1 : Ord d1 a) (h2 : Ord d2 b) (la : a.length ≤ 4096) (lb : b.length ≤ 4096)
  (na : ∀ r ∈ a.map rc, RG.some1 r = true → RG.near4 r = true) (nb : ∀ r ∈ b.map rc, RG.some1 r = true → RG.near4 r = true)
include hk hff h1 h2 la lb na nb
end
end VR
end Go.Proofs.Ytobdfiglgdbecaa
end
