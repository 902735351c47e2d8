import Derived.Test.YtobdfiglgdbecaaYV6
import Derived.Test.YtobdfiglgdbecaaYR1
import Derived.Test.YtobdfiglgdbecaaYCP
import Derived.Test.YtobdfiglgdbecaaYPGRx11
import Derived.Test.YtobdfiglgdbecaaYPGRx10
import Derived.Test.YtobdfiglgdbecaaYPGRx7
import Derived.Test.YtobdfiglgdbecaaYPGRx9
section
set_option linter.unusedVariables false
set_option linter.unusedSimpArgs false
open Go Go.RowKit Go.Proofs.YtobdfiglgdbecaaW.PrintWords Go.Proofs.YtobdfiglgdbecaaW.PrintMore
namespace Go.Proofs.Ytobdfiglgdbecaa
open PGA PGB PGH PGK PGI PGR
namespace VR
def p6 (p : RG.Sp) : S99 := ⟨p.1, p.2⟩
theorem rd6 (l : List S99) (i : Nat) (h : i < l.length) : rd_T99 l (i : Int) = l[i] := by
  unfold rd_T99; rw [Int.toNat_natCast, List.getD_eq_getElem?_getD, List.getElem?_eq_getElem h]; rfl
theorem joined6 (l : List RG.Sp) (x y : Int) (hl : l.length ≤ 1000000) : Br.f (l.map p6) x y = some ((RG.joined l (x, y)).map p6) := by
  unfold Br.f RG.joined
  rcases RG.last_split l with rfl | ⟨i, p, rfl⟩
  · rw [if_neg (by simp)]; rfl
  · have e : (((i ++ [p]).map p6).length : Int) - 1 = (i.length : Int) := by simp
    have hw : wrap64 ((((i ++ [p]).map p6).length : Int) - 1) = (i.length : Int) := by
      rw [e]; unfold wrap64; simp only [List.length_append, List.length_singleton] at hl; omega
    have hlt : i.length < ((i ++ [p]).map p6).length := by simp
    have hg : ((i ++ [p]).map p6)[i.length] = p6 p := by simp
    rw [if_pos (by simp), hw, if_pos (by omega), if_pos (by omega), rd6 _ i.length hlt, hg]
    simp only [List.getLast?_concat, List.dropLast_concat]
    by_cases c : x ≤ p.2
    · rw [if_pos (show x ≤ (p6 p).f1 from c), if_pos c]
      congr 1
      rw [Int.toNat_natCast]
      have em : mx p.2 y = max p.2 y := by unfold mx; omega
      rw [List.map_append, List.map_append, List.set_append, if_neg (by simp), List.length_map, Nat.sub_self]
      show _ ++ [_] = _ ++ [_]
      rw [show (p6 p).f1 = p.2 from rfl, em]
      rfl
    · rw [if_neg (show ¬ x ≤ (p6 p).f1 from c), if_neg c, if_pos (by simp only [List.length_map]; omega)]
      rw [List.map_append (l₂ := [(x, y)])]
      rfl
def selR (d : List S58) (y : Int) : List RG.Sp := (d.filter fun r => decide (r.f1 ≤ y) && decide (y < r.f3)).map fun r => (r.f0, r.f2)
theorem row6_l0 (d : List S58) (y : Int) (hd : d.length ≤ 100000) : ∀ e i (out : List RG.Sp), i + e = d.length → out.length ≤ i → Ev (fun k => B1.l0 k d y (out.map p6) (i : Int)) (((selR (d.drop i) y).foldl RG.joined out).map p6) := by
  intro e
  induction e with
  | zero =>
    intro i out hi ho
    refine one_round fun k => ?_
    rw [B1.l0, if_neg (by omega), List.drop_of_length_le (by omega)]; rfl
  | succ e ih =>
    intro i out hi ho
    have hlt : i < d.length := by omega
    rw [List.drop_eq_getElem_cons hlt]
    by_cases c1 : d[i].f1 ≤ y
    · by_cases c2 : y < d[i].f3
      · have hs : selR (d[i] :: d.drop (i + 1)) y = (d[i].f0, d[i].f2) :: selR (d.drop (i + 1)) y := by
          unfold selR; rw [List.filter_cons, if_pos (by simp [c1, c2])]; rfl
        rw [hs, List.foldl_cons]
        have := RG.joined_len out (d[i].f0, d[i].f2)
        refine Ev.step (fun k => ?_) (ih (i + 1) (RG.joined out (d[i].f0, d[i].f2)) (by omega) (by omega))
        rw [B1.l0, if_pos (by omega), if_pos (by omega), rdR d i hlt, if_pos c1, if_pos c2, joined6 _ _ _ (by omega), Option.bind_some, wrs i (by omega)]
      · have hs : selR (d[i] :: d.drop (i + 1)) y = selR (d.drop (i + 1)) y := by
          unfold selR; rw [List.filter_cons, if_neg (by simp [c1, c2])]
        rw [hs]
        refine Ev.step (fun k => ?_) (ih (i + 1) out (by omega) (by omega))
        rw [B1.l0, if_pos (by omega), if_pos (by omega), rdR d i hlt, if_pos c1, if_neg c2, wrs i (by omega)]
    · have hs : selR (d[i] :: d.drop (i + 1)) y = selR (d.drop (i + 1)) y := by
        unfold selR; rw [List.filter_cons, if_neg (by simp [c1])]
      rw [hs]
      refine Ev.step (fun k => ?_) (ih (i + 1) out (by omega) (by omega))
      rw [B1.l0, if_pos (by omega), if_pos (by omega), rdR d i hlt, if_neg c1, wrs i (by omega)]
structure Ord (d l : List S58) : Prop where
  mem : ∀ q, q ∈ d ↔ q ∈ l ∧ RG.some1 (rc q) = true
  sort : d.Pairwise fun p q => p.f0 ≤ q.f0
  len : d.length ≤ l.length
theorem row6_val {d l : List S58} (h : Ord d l) (y : Int) (hl : l.length ≤ 100000) : Ev (fun k => B1.f k d y) ((RG.rowP (l.map rc) y).map p6) := by
  have h1 := row6_l0 d y (by have := h.len; omega) d.length 0 [] (Nat.zero_add _) (Nat.le_refl _)
  have e : RG.joinAll (selR d y) = RG.rowP (l.map rc) y := by
    refine RG.row_of (fun p => ?_) ?_
    · unfold selR RG.act
      simp only [List.mem_map, List.mem_filter, Bool.and_eq_true, decide_eq_true_eq, RG.acts]
      constructor
      · rintro ⟨r, ⟨hr, h2, h3⟩, rfl⟩
        obtain ⟨h4, h5⟩ := (h.mem r).mp hr
        exact ⟨rc r, ⟨⟨r, h4, rfl⟩, ⟨h5, h2⟩, h3⟩, rfl⟩
      · rintro ⟨_, ⟨⟨r, hr, rfl⟩, ⟨h5, h2⟩, h3⟩, rfl⟩
        exact ⟨r, ⟨(h.mem r).mpr ⟨hr, h5⟩, h2, h3⟩, rfl⟩
    · unfold selR
      rw [List.pairwise_map]
      exact (h.sort.filter _)
  rw [← e]
  exact h1
theorem ends6_l0 (s : List RG.Sp) (hs : s.length ≤ 100000) : ∀ e i (out : List Int), i + e = s.length → out.length ≤ 2 * i → Ev (fun k => Bw.l0 k (s.map p6) out (i : Int)) (out ++ RG.endsOf (s.drop i)) := by
  intro e
  induction e with
  | zero =>
    intro i out hi ho
    refine one_round fun k => ?_
    rw [Bw.l0, if_neg (by simp; omega), List.drop_of_length_le (by omega)]
    show some out = some (out ++ [])
    rw [List.append_nil]
  | succ e ih =>
    intro i out hi ho
    have hlt : i < s.length := by omega
    rw [List.drop_eq_getElem_cons hlt]
    have hs2 : RG.endsOf (s[i] :: s.drop (i + 1)) = [s[i].1, s[i].2] ++ RG.endsOf (s.drop (i + 1)) := rfl
    rw [hs2, ← List.append_assoc]
    refine Ev.step (fun k => ?_) (ih (i + 1) (out ++ [s[i].1, s[i].2]) (by omega) (by simp; omega))
    rw [Bw.l0, if_pos (by simp; omega), if_pos (by omega), rd6 _ i (by simp; omega)]
    simp only [Option.bind_some, List.length_cons, List.length_nil, List.getElem_map]
    rw [if_pos (by omega), wrs i (by omega)]
    rfl
theorem ends6_val (s : List RG.Sp) (hs : s.length ≤ 100000) : Ev (fun k => Bw.f k (s.map p6)) (RG.endsOf s) := ends6_l0 s hs s.length 0 [] (Nat.zero_add _) (Nat.zero_le _)
end VR
end Go.Proofs.Ytobdfiglgdbecaa
end
section
set_option linter.unusedVariables false
set_option linter.unusedSimpArgs false
open Go Go.RowKit Go.Proofs.YtobdfiglgdbecaaW.PrintWords Go.Proofs.YtobdfiglgdbecaaW.PrintMore
namespace Go.Proofs.Ytobdfiglgdbecaa
open PGA PGB PGH PGK PGI PGR
namespace VR
theorem rise_lt {l : List Int} (hr : RG.Rise l) (i j : Nat) (hj : j < l.length) (h : i < j) : l[i] < l[j] := List.pairwise_iff_getElem.mp (RG.rise_pairwise l hr) i j (by omega) hj h
theorem shl_set (l : List Int) (i : Nat) (n : Int) (hi : i ≤ l.length) : (shl (l ++ [0]) i).set i n = l.take i ++ n :: l.drop i := by
  unfold shl
  have e1 : (l ++ [0]).take (i + 1) = l.take i ++ [(l ++ [0]).getD i 0] := by
    rw [List.take_succ_eq_append_getElem (by simp; omega), List.take_append_of_le_length hi, List.getD_eq_getElem?_getD, List.getElem?_eq_getElem (by simp; omega)]; rfl
  have e2 : ((l ++ [0]).drop i).take ((l ++ [0]).length - (i + 1)) = l.drop i := by
    rw [List.drop_append_of_le_length hi, List.length_append, List.length_singleton, show l.length + 1 - (i + 1) = (l.drop i).length by rw [List.length_drop]; omega, List.take_append_of_le_length (Nat.le_refl _), List.take_length]
  rw [e1, e2, List.append_assoc, List.set_append, if_neg (by rw [List.length_take]; omega), List.length_take, Nat.min_eq_left hi, Nat.sub_self]
  rfl
theorem insert_l0 (l : List Int) (hr : RG.Rise l) (hl : l.length ≤ 100000) (n : Int) : ∀ d i j, j - i ≤ d → i ≤ j → j ≤ l.length → (∀ t (h : t < l.length), t < i → l[t] < n) → (∀ t (h : t < l.length), j ≤ t → n ≤ l[t]) →
    Ev (fun k => Bj.l0 k l n (i : Int) (j : Int)) (RG.ins n l) := by
  intro d
  induction d with
  | zero =>
    intro i j hd hij hj h1 h2
    obtain rfl : i = j := by omega
    refine one_round fun k => ?_
    rw [Bj.l0, if_neg (by omega)]
    by_cases c : i < l.length
    · rw [if_pos (by omega), if_pos (by omega), rdI l i c]
      by_cases c2 : l[i] = n
      · rw [if_pos c2, RG.ins_there hr (by rw [← c2]; exact List.getElem_mem c)]
      · rw [if_neg c2, if_pos (by omega)]
        simp only [Option.bind_some]
        rw [if_pos (by simp; omega), Int.toNat_natCast, shl_set l i n (by omega)]
        rw [RG.ins_at i hr (fun z hz => ?_) (fun z hz => ?_)]
        · obtain ⟨t, ht, rfl⟩ := List.mem_iff_getElem.mp hz
          rw [List.length_take] at ht
          rw [List.getElem_take]
          exact h1 t (by omega) (by omega)
        · obtain ⟨t, ht, rfl⟩ := List.mem_iff_getElem.mp hz
          rw [List.length_drop] at ht
          rw [List.getElem_drop]
          have h3 := h2 i c (Nat.le_refl _)
          rcases Nat.eq_zero_or_pos t with rfl | hp
          · have e : i + 0 = i := rfl
            simp only [Nat.add_zero]
            omega
          · have := rise_lt hr i (i + t) (by omega) (by omega)
            omega
    · rw [if_neg (by omega), if_pos (by omega)]
      simp only [Option.bind_some]
      rw [if_pos (by omega), if_pos (by simp; omega), Int.toNat_natCast, shl_set l i n (by omega)]
      rw [RG.ins_at i hr (fun z hz => ?_) (fun z hz => ?_)]
      · obtain ⟨t, ht, rfl⟩ := List.mem_iff_getElem.mp hz
        rw [List.length_take] at ht
        rw [List.getElem_take]
        exact h1 t (by omega) (by omega)
      · rw [List.drop_of_length_le (by omega)] at hz; cases hz
  | succ d ih =>
    intro i j hd hij hj h1 h2
    by_cases c : i = j
    · subst c
      exact ih i i (by omega) (Nat.le_refl _) hj h1 h2
    · have hm : wrap64 (Int.tdiv (wrap64 ((i : Int) + (j : Int))) 2) = (((i + j) / 2 : Nat) : Int) := by
        have e1 : wrap64 ((i : Int) + (j : Int)) = ((i + j : Nat) : Int) := by unfold wrap64; omega
        rw [e1, show Int.tdiv ((i + j : Nat) : Int) 2 = (((i + j) / 2 : Nat) : Int) from rfl]
        unfold wrap64; omega
      have hml : (i + j) / 2 < l.length := by omega
      have hw : wrap64 ((((i + j) / 2 : Nat) : Int) + 1) = (((i + j) / 2 + 1 : Nat) : Int) := by unfold wrap64; omega
      by_cases c2 : l[(i + j) / 2] < n
      · refine Ev.step (fun k => ?_) (ih ((i + j) / 2 + 1) j (by omega) (by omega) hj (fun t ht h => ?_) h2)
        · rw [Bj.l0, if_pos (by omega), hm, if_pos (by omega), if_pos (by omega), rdI l _ hml, if_pos c2, hw]
        · rcases Nat.lt_or_ge t ((i + j) / 2) with h3 | h3
          · have := rise_lt hr t ((i + j) / 2) hml h3; omega
          · have e : t = (i + j) / 2 := by omega
            subst e; exact c2
      · refine Ev.step (fun k => ?_) (ih i ((i + j) / 2) (by omega) (by omega) (by omega) h1 (fun t ht h => ?_))
        · rw [Bj.l0, if_pos (by omega), hm, if_pos (by omega), if_pos (by omega), rdI l _ hml, if_neg c2]
        · rcases Nat.lt_or_ge ((i + j) / 2) t with h3 | h3
          · have := rise_lt hr ((i + j) / 2) t ht h3; omega
          · have e : t = (i + j) / 2 := by omega
            subst e; omega
theorem insert_val (l : List Int) (hr : RG.Rise l) (hl : l.length ≤ 100000) (n : Int) : Ev (fun k => Bj.f k l n) (RG.ins n l) :=
  insert_l0 l hr hl n l.length 0 l.length (by omega) (Nat.zero_le _) (Nat.le_refl _) (fun t _ h => by omega) (fun t h1 h => by omega)
theorem same6_l0 (a b : List RG.Sp) (hl : a.length = b.length) (hb : a.length ≤ 100000) : ∀ d i, i + d = a.length → Ev (fun k => Ci.l0 k (a.map p6) (b.map p6) (i : Int)) (decide (a.drop i = b.drop i)) := by
  intro d
  induction d with
  | zero =>
    intro i hi
    refine one_round fun k => ?_
    rw [Ci.l0, if_neg (by simp; omega), List.drop_of_length_le (by omega), List.drop_of_length_le (by omega), decide_eq_true rfl]
  | succ d ih =>
    intro i hi
    have h1 : i < a.length := by omega
    have h2 : i < b.length := by omega
    rw [List.drop_eq_getElem_cons h1, List.drop_eq_getElem_cons h2]
    by_cases c : a[i] = b[i]
    · have e : decide (a[i] :: a.drop (i + 1) = b[i] :: b.drop (i + 1)) = decide (a.drop (i + 1) = b.drop (i + 1)) := by rw [c]; exact decide_eq_decide.mpr ⟨fun h => (List.cons.inj h).2, fun h => by rw [h]⟩
      rw [e]
      refine Ev.step (fun k => ?_) (ih (i + 1) (by omega))
      rw [Ci.l0, if_pos (by simp; omega), if_pos (by omega), if_pos (by simp; omega), rd6 _ i (by simp; omega), rd6 _ i (by simp; omega), List.getElem_map, List.getElem_map, c, if_neg (by simp), wrs i (by omega)]
    · have e : decide (a[i] :: a.drop (i + 1) = b[i] :: b.drop (i + 1)) = false := decide_eq_false fun h => c (List.cons.inj h).1
      rw [e]
      refine one_round fun k => ?_
      rw [Ci.l0, if_pos (by simp; omega), if_pos (by omega), if_pos (by simp; omega), rd6 _ i (by simp; omega), rd6 _ i (by simp; omega), List.getElem_map, List.getElem_map, if_pos]
      have : ¬ (a[i].1 = b[i].1 ∧ a[i].2 = b[i].2) := fun h => c (Prod.ext h.1 h.2)
      show (!(a[i].1 == b[i].1) || !(a[i].2 == b[i].2)) = true
      by_cases c1 : a[i].1 = b[i].1
      · have c2 : ¬ a[i].2 = b[i].2 := fun h => this ⟨c1, h⟩
        simp [c2]
      · simp [c1]
theorem same6_val (a b : List RG.Sp) (hb : a.length ≤ 100000) : Ev (fun k => Ci.f k (a.map p6) (b.map p6)) (decide (a = b)) := by
  by_cases c : a.length = b.length
  · refine Ev.congr (fun k => ?_) (same6_l0 a b c hb a.length 0 (Nat.zero_add _))
    show Ci.f k _ _ = _
    unfold Ci.f
    rw [if_pos (by simp [c])]; rfl
  · have e : decide (a = b) = false := decide_eq_false fun h => c (by rw [h])
    rw [e]
    refine ⟨0, fun k _ => ?_⟩
    show Ci.f k _ _ = _
    unfold Ci.f
    rw [if_neg (by simp; omega)]
end VR
end Go.Proofs.Ytobdfiglgdbecaa
end
section
set_option linter.unusedVariables false
set_option linter.unusedSimpArgs false
open Go Go.RowKit Go.Proofs.YtobdfiglgdbecaaW.PrintWords Go.Proofs.YtobdfiglgdbecaaW.PrintMore
namespace Go.Proofs.Ytobdfiglgdbecaa
open PGA PGB PGH PGK PGI PGR
namespace VR
structure Mrg (a b e : List S58) : Prop where
  mem : ∀ q, q ∈ e ↔ q ∈ a ∨ q ∈ b
  sort : e.Pairwise fun p q => p.f0 ≤ q.f0
  len : e.length = a.length + b.length
theorem order_merge (a b : List S58) (ha : a.Pairwise fun p q => p.f0 ≤ q.f0) (hb : b.Pairwise fun p q => p.f0 ≤ q.f0) (hl : a.length + b.length ≤ 100000) : ∀ d i j, (a.length - i) + (b.length - j) ≤ d → i ≤ a.length → j ≤ b.length → ∀ out : List S58, out.length ≤ i + j →
    (∃ e, Ev (fun k => An.l0 k a b out (i : Int) (j : Int)) (out ++ e) ∧ Mrg (a.drop i) (b.drop j) e) ∧ (j < b.length → ∃ e, Ev (fun k => An.l1 k a b out (i : Int) (j : Int)) (out ++ e) ∧ Mrg (a.drop i) (b.drop j) e) := by
  intro d
  induction d with
  | zero =>
    intro i j hd hi hj out ho
    refine ⟨⟨[], one_round fun k => ?_, ?_⟩, fun h => by omega⟩
    · rw [An.l0, if_neg (by omega), if_pos (by omega), if_pos (by omega), Int.toNat_natCast, Option.bind_some, List.drop_of_length_le (by omega), if_pos (by simp; omega)]
    · rw [List.drop_of_length_le (by omega), List.drop_of_length_le (by omega)]
      exact ⟨fun q => by simp, List.Pairwise.nil, rfl⟩
  | succ d ih =>
    intro i j hd hi hj out ho
    have one : j < b.length → ∃ e, Ev (fun k => An.l1 k a b out (i : Int) (j : Int)) (out ++ e) ∧ Mrg (a.drop i) (b.drop j) e := fun hjb => by
      have hbj := List.drop_eq_getElem_cons hjb
      have hbs := (List.pairwise_cons.mp (hbj ▸ (hb.sublist (List.drop_sublist j b)))).1
      have takeB : (∀ q ∈ a.drop i, b[j].f0 ≤ q.f0) → (∀ k, An.l1 (k + 1) a b out (i : Int) (j : Int) = An.l0 k a b (out ++ [b[j]]) (i : Int) ((j + 1 : Nat) : Int)) → ∃ e, Ev (fun k => An.l1 k a b out (i : Int) (j : Int)) (out ++ e) ∧ Mrg (a.drop i) (b.drop j) e := fun hmin hstep => by
        obtain ⟨⟨e, h1, h2⟩, _⟩ := ih i (j + 1) (by omega) hi (by omega) (out ++ [b[j]]) (by simp; omega)
        refine ⟨b[j] :: e, ?_, ⟨fun q => ?_, List.Pairwise.cons (fun q hq => ?_) h2.sort, ?_⟩⟩
        · rw [show out ++ b[j] :: e = out ++ [b[j]] ++ e by simp]
          exact Ev.step hstep h1
        · rw [hbj, List.mem_cons, List.mem_cons, h2.mem]
          constructor
          · rintro (h | h | h) <;> simp [h]
          · rintro (h | h | h) <;> simp [h]
        · rcases (h2.mem q).mp hq with h | h
          · exact hmin q h
          · exact hbs q h
        · rw [hbj, List.length_cons, List.length_cons, h2.len]; omega
      by_cases c : i < a.length
      · have haj := List.drop_eq_getElem_cons c
        have has := (List.pairwise_cons.mp (haj ▸ (ha.sublist (List.drop_sublist i a)))).1
        by_cases c2 : a[i].f0 ≤ b[j].f0
        · obtain ⟨_, h0⟩ := ih (i + 1) j (by omega) (by omega) hj (out ++ [a[i]]) (by simp; omega)
          obtain ⟨e, h1, h2⟩ := h0 hjb
          refine ⟨a[i] :: e, ?_, ⟨fun q => ?_, List.Pairwise.cons (fun q hq => ?_) h2.sort, ?_⟩⟩
          · rw [show out ++ a[i] :: e = out ++ [a[i]] ++ e by simp]
            refine Ev.step (fun k => ?_) h1
            rw [An.l1, if_pos (by omega), if_pos (by omega), if_pos (by omega), if_pos (by omega), rdR a i c, rdR b j hjb, if_pos c2, if_pos (by omega), wrs i (by omega)]
          · rw [haj, List.mem_cons, List.mem_cons, h2.mem]
            constructor
            · rintro (h | h | h) <;> simp [h]
            · rintro ((h | h) | h) <;> simp [h]
          · rcases (h2.mem q).mp hq with h | h
            · exact has q h
            · rw [hbj] at h
              rcases List.mem_cons.mp h with rfl | h
              · exact c2
              · have := hbs q h; omega
          · rw [haj, List.length_cons, List.length_cons, h2.len]; omega
        · refine takeB (fun q hq => ?_) (fun k => ?_)
          · rw [haj] at hq
            rcases List.mem_cons.mp hq with rfl | h
            · omega
            · have := has q h; omega
          · rw [An.l1, if_pos (by omega), if_pos (by omega), if_pos (by omega), if_pos (by omega), rdR a i c, rdR b j hjb, if_neg c2, if_pos (by omega), wrs j (by omega)]
      · refine takeB (fun q hq => ?_) (fun k => ?_)
        · rw [List.drop_of_length_le (by omega)] at hq; cases hq
        · rw [An.l1, if_neg (by omega), if_pos (by omega), if_pos (by omega), rdR b j hjb, if_pos (by omega), wrs j (by omega)]
    refine ⟨?_, one⟩
    by_cases c : j < b.length
    · obtain ⟨e, h1, h2⟩ := one c
      exact ⟨e, Ev.step (fun k => by rw [An.l0, if_pos (by omega)]) h1, h2⟩
    · refine ⟨a.drop i, one_round fun k => ?_, ?_⟩
      · rw [An.l0, if_neg (by omega), if_pos (by omega), if_pos (by omega), Int.toNat_natCast, Option.bind_some, if_pos (by rw [List.length_drop]; omega)]
      · have hb0 : b.drop j = [] := List.drop_of_length_le (by omega)
        rw [hb0]
        exact ⟨fun q => by simp, ha.sublist (List.drop_sublist i a), by simp⟩
theorem order_val : ∀ n (l : List S58), l.length ≤ n → n ≤ 50000 → ∃ d, Ev (fun k => An.f k l) d ∧ Ord d l := by
  intro n
  induction n with
  | zero =>
    intro l hl _
    obtain rfl : l = [] := List.length_eq_zero_iff.mp (by omega)
    refine ⟨[], one_round fun k => ?_, ⟨fun q => by simp, List.Pairwise.nil, Nat.le_refl _⟩⟩
    rw [An.f, if_pos (by simp), if_neg (by simp)]
  | succ n ih =>
    intro l hl hn
    by_cases c : l.length < 2
    · match l, c with
      | [], _ =>
        refine ⟨[], one_round fun k => ?_, ⟨fun q => by simp, List.Pairwise.nil, Nat.le_refl _⟩⟩
        rw [An.f, if_pos (by simp), if_neg (by simp)]
      | [x], _ =>
        have h0 : rd_T58 [x] 0 = x := rfl
        by_cases c2 : RG.some1 (rc x) = true
        · refine ⟨[x], one_round fun k => ?_, ⟨fun q => ?_, by simp, Nat.le_refl _⟩⟩
          · rw [An.f, if_pos (by simp), if_pos (by simp), if_pos (by simp), h0, someH, Option.bind_some, if_pos c2, if_pos (by simp)]; rfl
          · rw [List.mem_singleton]
            constructor
            · rintro rfl; exact ⟨rfl, c2⟩
            · exact fun h => h.1
        · refine ⟨[], one_round fun k => ?_, ⟨fun q => ?_, List.Pairwise.nil, by simp⟩⟩
          · rw [An.f, if_pos (by simp), if_pos (by simp), if_pos (by simp), h0, someH, Option.bind_some, if_neg c2]
          · rw [List.mem_singleton]
            constructor
            · intro h; cases h
            · rintro ⟨rfl, h⟩; exact absurd h c2
    · have hw : wrap64 ((l.length : Int) / 2) = ((l.length / 2 : Nat) : Int) := by unfold wrap64; omega
      obtain ⟨a, a1, a2⟩ := ih (l.take (l.length / 2)) (by rw [List.length_take]; omega) (by omega)
      obtain ⟨b, b1, b2⟩ := ih (l.drop (l.length / 2)) (by rw [List.length_drop]; omega) (by omega)
      have la := a2.len
      have lb := b2.len
      rw [List.length_take] at la
      rw [List.length_drop] at lb
      obtain ⟨⟨e, h1, h2⟩, _⟩ := order_merge a b a2.sort b2.sort (by omega) (a.length + b.length) 0 0 (by omega) (Nat.zero_le _) (Nat.zero_le _) [] (Nat.zero_le _)
      refine ⟨e, Ev.step (fun k => by rw [An.f, if_neg (by omega), hw, if_pos (by omega), if_pos (by omega), Int.toNat_natCast]) (Ev.bind a1 (Ev.bind b1 h1)), ⟨fun q => ?_, h2.sort, ?_⟩⟩
      · rw [h2.mem, List.drop_zero, List.drop_zero, a2.mem, b2.mem]
        have e1 : q ∈ l ↔ q ∈ l.take (l.length / 2) ∨ q ∈ l.drop (l.length / 2) := by rw [← List.mem_append, List.take_append_drop]
        rw [e1]
        constructor
        · rintro (⟨h, h'⟩ | ⟨h, h'⟩)
          · exact ⟨.inl h, h'⟩
          · exact ⟨.inr h, h'⟩
        · rintro ⟨h | h, h'⟩
          · exact .inl ⟨h, h'⟩
          · exact .inr ⟨h, h'⟩
      · rw [h2.len, List.drop_zero, List.drop_zero]; omega
end VR
end Go.Proofs.Ytobdfiglgdbecaa
end
section
set_option linter.unusedVariables false
set_option linter.unusedSectionVars false
set_option linter.unusedSimpArgs false
open Go Go.RowKit Go.Proofs.YtobdfiglgdbecaaW.PrintWords Go.Proofs.YtobdfiglgdbecaaW.PrintMore
namespace Go.Proofs.Ytobdfiglgdbecaa
open PGA PGB PGH PGK PGI PGR
namespace VR
structure Left (p q t : List Int) (i j : Nat) : Prop where
  rise : RG.Rise t
  mem : ∀ z, z ∈ t ↔ z ∈ p.drop i ∨ z ∈ q.drop j
theorem drop_ge {p : List Int} (hp : RG.Rise p) {i : Nat} {z : Int} (hz : z ∈ p.drop i) : ∃ h : i < p.length, p[i] ≤ z := by
  obtain ⟨t, ht, rfl⟩ := List.mem_iff_getElem.mp hz
  rw [List.length_drop] at ht
  refine ⟨by omega, ?_⟩
  rw [List.getElem_drop]
  rcases Nat.eq_zero_or_pos t with rfl | h
  · exact Int.le_refl _
  · have := rise_lt hp i (i + t) (by omega) (by omega); omega
theorem mem_at {p : List Int} {i : Nat} (h : i < p.length) : p[i] ∈ p.drop i := by rw [List.drop_eq_getElem_cons h]; exact List.mem_cons_self
theorem Left.swap {p q t : List Int} {i j : Nat} (h : Left p q t i j) : Left q p t j i := ⟨h.rise, fun z => by rw [h.mem]; exact Or.comm⟩
theorem Left.nil {p q : List Int} {i j : Nat} (h : Left p q [] i j) : p.length ≤ i ∧ q.length ≤ j := by
  constructor
  · rcases Nat.lt_or_ge i p.length with c | c
    · have := (h.mem _).mpr (.inl (mem_at c)); cases this
    · exact c
  · rcases Nat.lt_or_ge j q.length with c | c
    · have := (h.mem _).mpr (.inr (mem_at c)); cases this
    · exact c
theorem Left.le {p q t : List Int} {i j : Nat} {x : Int} (h : Left p q (x :: t) i j) : (∀ hi : i < p.length, x ≤ p[i]) ∧ ∀ hj : j < q.length, x ≤ q[j] := by
  constructor
  · intro hi
    rcases List.mem_cons.mp ((h.mem _).mpr (.inl (mem_at hi))) with e | e
    · omega
    · have := RG.Rise.lt h.rise _ e; omega
  · intro hj
    rcases List.mem_cons.mp ((h.mem _).mpr (.inr (mem_at hj))) with e | e
    · omega
    · have := RG.Rise.lt h.rise _ e; omega
theorem Left.is {p q t : List Int} {i j : Nat} {x : Int} (hp : RG.Rise p) (hq : RG.Rise q) (h : Left p q (x :: t) i j) : (∃ hi : i < p.length, p[i] = x) ∨ ∃ hj : j < q.length, q[j] = x := by
  obtain ⟨h1, h2⟩ := h.le
  rcases (h.mem x).mp List.mem_cons_self with e | e
  · obtain ⟨hi, e2⟩ := drop_ge hp e
    exact .inl ⟨hi, by have := h1 hi; omega⟩
  · obtain ⟨hj, e2⟩ := drop_ge hq e
    exact .inr ⟨hj, by have := h2 hj; omega⟩
def big : Int := 1099511627776
def hdB (t : List Int) : Int := match t with | [] => big | x :: _ => x
theorem head_both {p q t : List Int} {i j : Nat} (hp : RG.Rise p) (hq : RG.Rise q) (h : Left p q t i j) (hi : i < p.length) (hj : j < q.length) : mn p[i] q[j] = hdB t := by
  cases t with
  | nil => have := h.nil; omega
  | cons x t =>
    obtain ⟨h1, h2⟩ := h.le
    have a := h1 hi
    have b := h2 hj
    show mn p[i] q[j] = x
    unfold mn
    rcases h.is hp hq with ⟨_, e⟩ | ⟨_, e⟩ <;> split <;> omega
theorem head_left {p q t : List Int} {i j : Nat} (hp : RG.Rise p) (hq : RG.Rise q) (h : Left p q t i j) (hi : i < p.length) (hj : ¬ j < q.length) : p[i] = hdB t := by
  cases t with
  | nil => have := h.nil; omega
  | cons x t =>
    rcases h.is hp hq with ⟨_, e⟩ | ⟨hj', e⟩
    · exact e
    · exact absurd hj' hj
theorem head_right {p q t : List Int} {i j : Nat} (hp : RG.Rise p) (hq : RG.Rise q) (hb : ∀ z ∈ q, z < big) (h : Left p q t i j) (hi : ¬ i < p.length) (hj : j < q.length) : mn big q[j] = hdB t := by
  have e := head_left hq hp h.swap hj hi
  have := hb q[j] (List.getElem_mem hj)
  unfold mn
  rw [if_pos this, e]
theorem head_none {p q t : List Int} {i j : Nat} (hp : RG.Rise p) (hq : RG.Rise q) (h : Left p q t i j) (hi : ¬ i < p.length) (hj : ¬ j < q.length) : big = hdB t := by
  cases t with
  | nil => rfl
  | cons x t =>
    rcases h.is hp hq with ⟨h', _⟩ | ⟨h', _⟩
    · exact absurd h' hi
    · exact absurd h' hj
def skp (p : List Int) (i : Nat) (x : Int) : Nat := if h : i < p.length then (if p[i] = x then i + 1 else i) else i
theorem skp_le {p : List Int} {i : Nat} {x : Int} (h : i ≤ p.length) : skp p i x ≤ p.length := by
  unfold skp; split
  · split <;> omega
  · omega
theorem skp_ge (p : List Int) (i : Nat) (x : Int) : i ≤ skp p i x ∧ skp p i x ≤ i + 1 := by
  unfold skp; split
  · split <;> omega
  · omega
theorem skp_drop {p : List Int} (hp : RG.Rise p) {i : Nat} {x : Int} (hx : ∀ h : i < p.length, x ≤ p[i]) : (∀ z ∈ p.drop (skp p i x), x < z) ∧ (∀ z, z ∈ p.drop (skp p i x) ↔ z ∈ p.drop i ∧ z ≠ x) ∧ (∀ z ∈ p.take (skp p i x), z ∈ p.take i ∨ z = x) := by
  unfold skp
  by_cases c : i < p.length
  · rw [dif_pos c]
    by_cases c2 : p[i] = x
    · rw [if_pos c2]
      have a : ∀ z ∈ p.drop (i + 1), x < z := fun z hz => by
        obtain ⟨h, e⟩ := drop_ge hp hz
        have := rise_lt hp i (i + 1) h (Nat.lt_succ_self i)
        omega
      refine ⟨a, fun z => ?_, fun z hz => ?_⟩
      · rw [List.drop_eq_getElem_cons c, List.mem_cons]
        constructor
        · intro h; exact ⟨.inr h, by have := a z h; omega⟩
        · rintro ⟨h | h, h2⟩
          · exact absurd (h.trans c2) h2
          · exact h
      · rw [List.take_succ_eq_append_getElem c, List.mem_append, List.mem_singleton] at hz
        rcases hz with h | h
        · exact .inl h
        · exact .inr (h.trans c2)
    · rw [if_neg c2]
      have a : ∀ z ∈ p.drop i, x < z := fun z hz => by
        obtain ⟨h, e⟩ := drop_ge hp hz
        have := hx c
        omega
      exact ⟨a, fun z => ⟨fun h => ⟨h, by have := a z h; omega⟩, fun h => h.1⟩, fun z hz => .inl hz⟩
  · rw [dif_neg c]
    have e : p.drop i = [] := List.drop_of_length_le (by omega)
    rw [e]
    exact ⟨(fun z hz => by cases hz), (fun z => by simp), fun z hz => .inl hz⟩
theorem Left.next {p q t : List Int} {i j : Nat} {x : Int} (hp : RG.Rise p) (hq : RG.Rise q) (h : Left p q (x :: t) i j) : Left p q t (skp p i x) (skp q j x) := by
  obtain ⟨h1, h2⟩ := h.le
  refine ⟨h.rise.tail, fun z => ?_⟩
  rw [(skp_drop hp h1).2.1, (skp_drop hq h2).2.1]
  have := h.mem z
  rw [List.mem_cons] at this
  constructor
  · intro hz
    have hne : z ≠ x := by have := RG.Rise.lt h.rise z hz; omega
    rcases this.mp (.inr hz) with e | e
    · exact .inl ⟨e, hne⟩
    · exact .inr ⟨e, hne⟩
  · rintro (⟨e, hne⟩ | ⟨e, hne⟩)
    · exact (this.mpr (.inl e)).resolve_left hne
    · exact (this.mpr (.inr e)).resolve_left hne
section
variable {way : Int} {p q : List Int} (hp : RG.Rise p) (hq : RG.Rise q) (lp : p.length ≤ 200000) (lq : q.length ≤ 200000) (bp : ∀ z ∈ p, z < big) (bq : ∀ z ∈ q, z < big)
include hp hq lp lq bp bq
theorem put_first {t : List Int} {i j : Nat} {out : List S99} {R} (h : Left p q t i j) (hne : t ≠ []) (hR : Ev (fun k => Ah.j3 k way p q out (i : Int) (j : Int) (hdB t)) R) : Ev (fun k => Ah.l0 k way p q out (i : Int) (j : Int)) R := by
  by_cases ci : i < p.length
  · refine Ev.step (fun k => by rw [Ah.l0, if_pos (by omega)]) (Ev.step (fun k => by rw [Ah.j1, if_pos rfl, if_pos (by omega), if_pos (by omega), rdI p i ci]) ?_)
    by_cases cj : j < q.length
    · rw [← head_both hp hq h ci cj] at hR
      exact Ev.step (fun k => by rw [Ah.j2, if_pos (by omega), if_pos (by omega), rdI q j cj]) hR
    · rw [← head_left hp hq h ci cj] at hR
      exact Ev.step (fun k => by rw [Ah.j2, if_neg (by omega)]) hR
  · by_cases cj : j < q.length
    · rw [← head_right hp hq bq h ci cj] at hR
      refine Ev.step (fun k => by rw [Ah.l0, if_neg (by omega), decide_eq_true (by omega)]) (Ev.step (fun k => by rw [Ah.j1, if_pos rfl, if_neg (by omega)]) ?_)
      exact Ev.step (fun k => by rw [Ah.j2, if_pos (by omega), if_pos (by omega), rdI q j cj]; rfl) hR
    · exfalso
      cases t with
      | nil => exact hne rfl
      | cons x t =>
        rcases h.is hp hq with ⟨h', _⟩ | ⟨h', _⟩
        · exact ci h'
        · exact cj h'
theorem put_second {t : List Int} {i j : Nat} {out : List S99} {x : Int} {R} (h : Left p q t i j) (hR : Ev (fun k => Ah.j9 k way p q out (i : Int) (j : Int) x (hdB t)) R) : Ev (fun k => Ah.j7 k way p q out (i : Int) (j : Int) x) R := by
  by_cases ci : i < p.length
  · refine Ev.step (fun k => by rw [Ah.j7, if_pos (by omega), if_pos (by omega), rdI p i ci]) ?_
    by_cases cj : j < q.length
    · rw [← head_both hp hq h ci cj] at hR
      exact Ev.step (fun k => by rw [Ah.j8, if_pos (by omega), if_pos (by omega), rdI q j cj]) hR
    · rw [← head_left hp hq h ci cj] at hR
      exact Ev.step (fun k => by rw [Ah.j8, if_neg (by omega)]) hR
  · refine Ev.step (fun k => by rw [Ah.j7, if_neg (by omega)]) ?_
    by_cases cj : j < q.length
    · rw [← head_right hp hq bq h ci cj] at hR
      exact Ev.step (fun k => by rw [Ah.j8, if_pos (by omega), if_pos (by omega), rdI q j cj]; rfl) hR
    · rw [← head_none hp hq h ci cj] at hR
      exact Ev.step (fun k => by rw [Ah.j8, if_neg (by omega)]; rfl) hR
theorem put_skip2 {i j : Nat} {out : List S99} {x : Int} {R} (hR : Ev (fun k => Ah.j7 k way p q out (i : Int) (skp q j x : Nat) x) R) : Ev (fun k => Ah.l2 k way p q out (i : Int) (j : Int) x) R := by
  unfold skp at hR
  by_cases c : j < q.length
  · rw [dif_pos c] at hR
    by_cases c2 : q[j] = x
    · rw [if_pos c2] at hR
      refine Ev.step (fun k => by rw [Ah.l2, if_pos (by omega), if_pos (by omega), rdI q j c, if_pos c2, wrs j (by omega)]) ?_
      by_cases c3 : j + 1 < q.length
      · have := rise_lt hq j (j + 1) c3 (Nat.lt_succ_self j)
        exact Ev.step (fun k => by rw [Ah.l2, if_pos (by omega), if_pos (by omega), rdI q (j + 1) c3, if_neg (by omega)]) hR
      · exact Ev.step (fun k => by rw [Ah.l2, if_neg (by omega)]) hR
    · rw [if_neg c2] at hR
      exact Ev.step (fun k => by rw [Ah.l2, if_pos (by omega), if_pos (by omega), rdI q j c, if_neg c2]) hR
  · rw [dif_neg c] at hR
    exact Ev.step (fun k => by rw [Ah.l2, if_neg (by omega)]) hR
theorem put_skip1 {i j : Nat} {out : List S99} {x : Int} {R} (hR : Ev (fun k => Ah.l2 k way p q out (skp p i x : Nat) (j : Int) x) R) : Ev (fun k => Ah.l1 k way p q out (i : Int) (j : Int) x) R := by
  have h5 : Ev (fun k => Ah.j5 k way p q out (skp p i x : Nat) (j : Int) x) R := Ev.step (fun k => by rw [Ah.j5]) hR
  unfold skp at h5
  by_cases c : i < p.length
  · rw [dif_pos c] at h5
    by_cases c2 : p[i] = x
    · rw [if_pos c2] at h5
      refine Ev.step (fun k => by rw [Ah.l1, if_pos (by omega), if_pos (by omega), rdI p i c, if_pos c2, wrs i (by omega)]) ?_
      by_cases c3 : i + 1 < p.length
      · have := rise_lt hp i (i + 1) c3 (Nat.lt_succ_self i)
        exact Ev.step (fun k => by rw [Ah.l1, if_pos (by omega), if_pos (by omega), rdI p (i + 1) c3, if_neg (by omega)]) h5
      · exact Ev.step (fun k => by rw [Ah.l1, if_neg (by omega)]) h5
    · rw [if_neg c2] at h5
      exact Ev.step (fun k => by rw [Ah.l1, if_pos (by omega), if_pos (by omega), rdI p i c, if_neg c2]) h5
  · rw [dif_neg c] at h5
    exact Ev.step (fun k => by rw [Ah.l1, if_neg (by omega)]) h5
theorem put_loop {keep : Bool → Bool → Bool} (hk : ∀ x y, Cv.f way x y = some (keep x y)) (kf : Int → Bool) (hkf : ∀ x, kf x = keep (RG.cle p x % 2 == 1) (RG.cle q x % 2 == 1)) : ∀ n i j t (out : List RG.Sp), (p.length - i) + (q.length - j) ≤ n → i ≤ p.length → j ≤ q.length → Left p q t i j →
    (∀ z ∈ p.take i, ∀ w ∈ t, z < w) → (∀ z ∈ q.take j, ∀ w ∈ t, z < w) → (∀ s ∈ out, ∀ w ∈ t, s.2 ≤ w) → out.length ≤ i + j →
    Ev (fun k => Ah.l0 k way p q (out.map p6) (i : Int) (j : Int)) ((RG.buildS kf t out).map p6) := by
  intro n
  induction n with
  | zero =>
    intro i j t out hn hi hj ht h1 h2 h3 ho
    cases t with
    | nil =>
      exact Ev.step (fun k => by rw [Ah.l0, if_neg (by omega), decide_eq_false (by omega)]) (one_round fun k => by rw [Ah.j1, if_neg (by decide)]; rfl)
    | cons x t =>
      exfalso
      rcases ht.is hp hq with ⟨h', _⟩ | ⟨h', _⟩ <;> omega
  | succ n ih =>
    intro i j t out hn hi hj ht h1 h2 h3 ho
    cases t with
    | nil =>
      have := ht.nil
      exact Ev.step (fun k => by rw [Ah.l0, if_neg (by omega), decide_eq_false (by omega)]) (one_round fun k => by rw [Ah.j1, if_neg (by decide)]; rfl)
    | cons x t =>
      refine put_first hp hq lp lq bp bq ht (by simp) (Ev.step (fun k => by rw [Ah.j3]) ?_)
      show Ev (fun k => Ah.l1 k way p q (out.map p6) (i : Int) (j : Int) x) _
      refine put_skip1 hp hq lp lq bp bq (put_skip2 hp hq lp lq bp bq ?_)
      have hnx := ht.next hp hq
      obtain ⟨le1, le2⟩ := ht.le
      obtain ⟨d1, d2, d3⟩ := skp_drop hp le1
      obtain ⟨f1, f2, f3⟩ := skp_drop hq le2
      have gi := skp_ge p i x
      have gj := skp_ge q j x
      have li := skp_le (x := x) hi
      have lj := skp_le (x := x) hj
      have t1 : ∀ z ∈ p.take (skp p i x), z ≤ x := fun z hz => by
        rcases d3 z hz with h | h
        · have := h1 z h x List.mem_cons_self; omega
        · omega
      have t2 : ∀ z ∈ q.take (skp q j x), z ≤ x := fun z hz => by
        rcases f3 z hz with h | h
        · have := h2 z h x List.mem_cons_self; omega
        · omega
      have less : (p.length - skp p i x) + (q.length - skp q j x) ≤ n := by
        rcases ht.is hp hq with ⟨h', e⟩ | ⟨h', e⟩
        · have : skp p i x = i + 1 := by unfold skp; rw [dif_pos h', if_pos e]
          omega
        · have : skp q j x = j + 1 := by unfold skp; rw [dif_pos h', if_pos e]
          omega
      have n1 : ∀ z ∈ p.take (skp p i x), ∀ w ∈ t, z < w := fun z hz w hw => by have := t1 z hz; have := RG.Rise.lt ht.rise w hw; omega
      have n2 : ∀ z ∈ q.take (skp q j x), ∀ w ∈ t, z < w := fun z hz w hw => by have := t2 z hz; have := RG.Rise.lt ht.rise w hw; omega
      refine put_second hp hq lp lq bp bq hnx ?_
      cases t with
      | nil =>
        refine Ev.step (fun k => by rw [Ah.j9, if_neg (show ¬ hdB [] < 1099511627776 by decide)]) ?_
        exact ih _ _ [] out less li lj hnx n1 n2 (fun s hs w hw => by cases hw) (by omega)
      | cons x' t =>
        have hx : x < x' := RG.Rise.lt ht.rise x' List.mem_cons_self
        have hbx : x' < 1099511627776 := by
          rcases hnx.is hp hq with ⟨h', e⟩ | ⟨h', e⟩
          · rw [← e]; exact bp _ (List.getElem_mem h')
          · rw [← e]; exact bq _ (List.getElem_mem h')
        have tm : ∀ m : Nat, (Int.tmod (m : Int) 2 == 1) = (m % 2 == 1) := fun m => by
          rw [show Int.tmod (m : Int) 2 = ((m % 2 : Nat) : Int) from rfl]
          rcases Nat.mod_two_eq_zero_or_one m with h | h <;> rw [h] <;> rfl
        have hkx : kf x = keep (skp p i x % 2 == 1) (skp q j x % 2 == 1) := by
          rw [hkf, RG.cle_split _ li t1 d1, RG.cle_split _ lj t2 f1]
        have hout : ∀ s ∈ out, s.2 ≤ x := fun s hs => h3 s hs x List.mem_cons_self
        have e9 : RG.buildS kf (x :: x' :: t) out = RG.buildS kf (x' :: t) (if kf x = true then RG.addS out x x' else out) := rfl
        rw [e9]
        by_cases ck : kf x = true
        · rw [if_pos ck, ← RG.joined_addS hx hout]
          have hjl := RG.joined_len out (x, x')
          refine Ev.step (fun k => by
            show Ah.j9 (k + 1) way p q (out.map p6) (skp p i x : Nat) (skp q j x : Nat) x x' = _
            rw [Ah.j9, if_pos hbx, hk, Option.bind_some, tm, tm, ← hkx, if_pos ck, joined6 _ _ _ (by omega), Option.bind_some]) ?_
          refine ih _ _ (x' :: t) (RG.joined out (x, x')) less li lj hnx n1 n2 (fun s hs w hw => ?_) ?_
          · rw [RG.joined_addS hx hout] at hs
            have := RG.addS_hi hx hout s hs
            rcases List.mem_cons.mp hw with rfl | hw
            · exact this
            · have := RG.Rise.lt hnx.rise w hw; omega
          · rcases ht.is hp hq with ⟨h', e⟩ | ⟨h', e⟩
            · have : skp p i x = i + 1 := by unfold skp; rw [dif_pos h', if_pos e]
              omega
            · have : skp q j x = j + 1 := by unfold skp; rw [dif_pos h', if_pos e]
              omega
        · rw [if_neg ck]
          refine Ev.step (fun k => by
            show Ah.j9 (k + 1) way p q (out.map p6) (skp p i x : Nat) (skp q j x : Nat) x x' = _
            rw [Ah.j9, if_pos hbx, hk, Option.bind_some, tm, tm, ← hkx, if_neg ck]) ?_
          exact ih _ _ (x' :: t) out less li lj hnx n1 n2 (fun s hs w hw => by have := hout s hs; rcases List.mem_cons.mp hw with rfl | hw; omega; have := RG.Rise.lt hnx.rise w hw; omega) (by omega)
end
theorem put_val {way : Int} {keep : Bool → Bool → Bool} (hk : ∀ x y, Cv.f way x y = some (keep x y)) (a b : List RG.Sp) (ha : RG.SNF a) (hb : RG.SNF b) (la : a.length ≤ 100000) (lb : b.length ≤ 100000) (ba : ∀ z ∈ RG.endsOf a, z < big) (bb : ∀ z ∈ RG.endsOf b, z < big) :
    Ev (fun k => Ah.f k (a.map p6) (b.map p6) way) ((RG.mergeP a b keep).map p6) := by
  unfold Ah.f
  refine Ev.bind (ends6_val a la) (Ev.bind (ends6_val b lb) ?_)
  have pa := RG.snf_ends a ha
  have pb := RG.snf_ends b hb
  have la2 := RG.ends_len a
  have lb2 := RG.ends_len b
  unfold RG.mergeP
  refine put_loop pa pb (by omega) (by omega) ba bb hk _ (fun x => ?_) _ 0 0 _ [] (Nat.le_refl _) (Nat.zero_le _) (Nat.zero_le _) ⟨RG.dist_rise _, fun z => ?_⟩ (fun z hz => by simp at hz) (fun z hz => by simp at hz) (fun s hs => by cases hs) (Nat.zero_le _)
  · rw [RG.scov_par a ha, RG.scov_par b hb]
  · rw [RG.mem_dist, RG.ends_append, List.mem_append, List.drop_zero, List.drop_zero]
end VR
end Go.Proofs.Ytobdfiglgdbecaa
end
