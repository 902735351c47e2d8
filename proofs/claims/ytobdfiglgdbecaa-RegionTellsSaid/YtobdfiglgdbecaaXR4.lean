import Derived.Test.YtobdfiglgdbecaaXPGRx0
import Derived.Test.YtobdfiglgdbecaaXUQ
import Derived.Test.YtobdfiglgdbecaaXPGRx2
import Derived.Test.YtobdfiglgdbecaaXPGRx4
import Derived.Test.YtobdfiglgdbecaaXPGRx5
import Derived.Test.YtobdfiglgdbecaaXPGHx2
import Derived.Test.YtobdfiglgdbecaaXPGIx1
import Derived.Test.YtobdfiglgdbecaaXV6
import Derived.Test.YtobdfiglgdbecaaXR1
import Derived.Test.YtobdfiglgdbecaaXCP
import Derived.Test.YtobdfiglgdbecaaXPGRx11
import Derived.Test.YtobdfiglgdbecaaXPGRx10
import Derived.Test.YtobdfiglgdbecaaXPGRx8
section
namespace Go.Proofs.Ytobdfiglgdbecaa.PGR
open Go.Proofs.Ytobdfiglgdbecaa.PGA Go.Proofs.Ytobdfiglgdbecaa.PGB Go.Proofs.Ytobdfiglgdbecaa.PGH Go.Proofs.Ytobdfiglgdbecaa.PGI
open Go.RowKit Go.Proofs.YtobdfiglgdbecaaW.PrintWords Go.Proofs.YtobdfiglgdbecaaW.PrintLast Go.Proofs.YtobdfiglgdbecaaW.PrintMore
attribute [local go_sem] max2_int min2_int max_two min_two max_three min_three max_four min_four
set_option linter.unusedVariables false
set_option linter.unusedSimpArgs false

theorem eqA99 (d : Nat) (w : World) (x0 y0 : Int) (x1 y1 : Int) :
  (Op.equalIn (d + 2) 99 (.agg #[.int .i64 x0, .int .i64 x1]) (.agg #[.int .i64 y0, .int .i64 y1])).run Try.prog w = .ok (x0 == y0 && (x1 == y1)) w := by
 refine eqA_of Try.underlying99 (by kernel_rfl) ?_; refine eqf_cons (by rfl) (by go_simp; rfl) (by go_simp; rfl) (by go_simp) ?_; exact eqf_last (by rfl) (by go_simp; rfl) (by go_simp; rfl) (by go_simp)
end Go.Proofs.Ytobdfiglgdbecaa.PGR
end
section
namespace Go.Proofs.Ytobdfiglgdbecaa.PGR
open Go.Proofs.Ytobdfiglgdbecaa.PGA Go.Proofs.Ytobdfiglgdbecaa.PGB Go.Proofs.Ytobdfiglgdbecaa.PGH Go.Proofs.Ytobdfiglgdbecaa.PGI
open Go.RowKit Go.Proofs.YtobdfiglgdbecaaW.PrintWords Go.Proofs.YtobdfiglgdbecaaW.PrintLast Go.Proofs.YtobdfiglgdbecaaW.PrintMore
attribute [local go_sem] max2_int min2_int max_two min_two max_three min_three max_four min_four
set_option linter.unusedVariables false
set_option linter.unusedSimpArgs false

attribute [local go_sem high] eqA99
end Go.Proofs.Ytobdfiglgdbecaa.PGR
end
section
namespace Go.Proofs.Ytobdfiglgdbecaa.PGR
open Go.Proofs.Ytobdfiglgdbecaa.PGA Go.Proofs.Ytobdfiglgdbecaa.PGB Go.Proofs.Ytobdfiglgdbecaa.PGH Go.Proofs.Ytobdfiglgdbecaa.PGI
open Go.RowKit Go.Proofs.YtobdfiglgdbecaaW.PrintWords Go.Proofs.YtobdfiglgdbecaaW.PrintLast Go.Proofs.YtobdfiglgdbecaaW.PrintMore
attribute [local go_sem] max2_int min2_int max_two min_two max_three min_three max_four min_four
set_option linter.unusedVariables false
set_option linter.unusedSimpArgs false

def Cy.T7 : Bool × List (List Nat × List Nat) := (true, [([], []), ([], []), ([], []), ([1, 2], [1, 2]), ([3], [3]), ([4], [4]), ([0, 5], [0, 5]), ([], []), ([], []), ([7, 8], [7, 8]), ([9], [9]), ([10], [10]), ([6, 11, 6], [6, 11]), ([12, 12, 0, 1, 2, 3, 4, 5, 6, 7, 8, 9, 10, 11, 12], [0, 12])])
def Cy.B7 : List Nat := [0, 0, 0, 6, 14, 30, 63, 0, 0, 384, 896, 1920, 4095, 8191]
theorem Cy.tab7 : rtab .any (opsOf Try.f53 7) = Cy.T7 := by kernel_rfl
theorem Cy.bits7 : waitsOk Cy.T7.2 Cy.B7 = true := by kernel_rfl
def Cy.T12 : Bool × List (List Nat × List Nat) := (true, [([], []), ([], []), ([], []), ([1, 2], [1, 2]), ([3], [3]), ([4], [4]), ([0, 5], [0, 5]), ([], []), ([], []), ([7, 8], [7, 8]), ([9], [9]), ([10], [10]), ([6, 11, 6], [6, 11]), ([12, 12, 0, 1, 2, 3, 4, 5, 6, 7, 8, 9, 10, 11, 12], [0, 12])])
def Cy.B12 : List Nat := [0, 0, 0, 6, 14, 30, 63, 0, 0, 384, 896, 1920, 4095, 8191]
theorem Cy.tab12 : rtab .any (opsOf Try.f53 12) = Cy.T12 := by kernel_rfl
theorem Cy.bits12 : waitsOk Cy.T12.2 Cy.B12 = true := by kernel_rfl
end Go.Proofs.Ytobdfiglgdbecaa.PGR
end
section
namespace Go.Proofs.Ytobdfiglgdbecaa.PGR
open Go.Proofs.Ytobdfiglgdbecaa.PGA Go.Proofs.Ytobdfiglgdbecaa.PGB Go.Proofs.Ytobdfiglgdbecaa.PGH Go.Proofs.Ytobdfiglgdbecaa.PGI
open Go.RowKit Go.Proofs.YtobdfiglgdbecaaW.PrintWords Go.Proofs.YtobdfiglgdbecaaW.PrintLast Go.Proofs.YtobdfiglgdbecaaW.PrintMore
attribute [local go_sem] max2_int min2_int max_two min_two max_three min_three max_four min_four
set_option linter.unusedVariables false
set_option linter.unusedSimpArgs false

end Go.Proofs.Ytobdfiglgdbecaa.PGR
end
section
set_option linter.unusedVariables false
set_option linter.unusedSimpArgs false
open Go Go.RowKit Go.Proofs.YtobdfiglgdbecaaW.PrintWords Go.Proofs.YtobdfiglgdbecaaW.PrintMore
namespace Go.Proofs.Ytobdfiglgdbecaa
open PGA PGB PGH PGK PGI PGR
namespace VR
def p6 (p : RG.Sp) : S99 := ⟨p.1, p.2⟩
theorem rd6 (l : List S99) (i : Nat) (h : i < l.length) : rd_T99 l (i : Int) = l[i] := by
  unfold rd_T99; rw [Int.toNat_natCast, List.getD_eq_getElem?_getD, List.getElem?_eq_getElem h]; rfl
theorem joined6 (l : List RG.Sp) (x y : Int) (hl : l.length ≤ 1000000) : Bv.f (l.map p6) x y = some ((RG.joined l (x, y)).map p6) := by
  unfold Bv.f RG.joined
  rcases RG.last_split l with rfl | ⟨i, p, rfl⟩
  · rw [if_neg (by simp)]; rfl
  · have e : (((i ++ [p]).map p6).length : Int) - 1 = (i.length : Int) := by simp
    have hw : wrap64 ((((i ++ [p]).map p6).length : Int) - 1) = (i.length : Int) := by
      rw [e]; unfold wrap64; simp only [List.length_append, List.length_singleton] at hl; omega
    have hlt : i.length < ((i ++ [p]).map p6).length := by simp
    have hg : ((i ++ [p]).map p6)[i.length] = p6 p := by simp
    rw [if_pos (by simp), hw, if_pos (by omega), if_pos (by omega), rd6 _ i.length hlt, hg]
    simp only [List.getLast?_concat, List.dropLast_concat]
    by_cases c : x ≤ p.2
    · rw [if_pos (show x ≤ (p6 p).f1 from c), if_pos c]
      congr 1
      rw [Int.toNat_natCast]; have em : mx p.2 y = max p.2 y := by unfold mx; omega
      rw [List.map_append, List.map_append, List.set_append, if_neg (by simp), List.length_map, Nat.sub_self]; show _ ++ [_] = _ ++ [_]; rw [show (p6 p).f1 = p.2 from rfl, em]; rfl
    · rw [if_neg (show ¬ x ≤ (p6 p).f1 from c), if_neg c, if_pos (by simp only [List.length_map]; omega)]
      rw [List.map_append (l₂ := [(x, y)])]; rfl
def selR (d : List S58) (y : Int) : List RG.Sp := (d.filter fun r => decide (r.f1 ≤ y) && decide (y < r.f3)).map fun r => (r.f0, r.f2)
theorem row6_l0 (d : List S58) (y : Int) (hd : d.length ≤ 100000) : ∀ e i (out : List RG.Sp), i + e = d.length → out.length ≤ i → Ev (fun k => Bz.l0 k d y (out.map p6) (i : Int)) (((selR (d.drop i) y).foldl RG.joined out).map p6) := by
  intro e
  induction e with
  | zero =>
    intro i out hi ho; refine one_round fun k => ?_
    rw [Bz.l0, if_neg (by omega), List.drop_of_length_le (by omega)]; rfl
  | succ e ih =>
    intro i out hi ho; have hlt : i < d.length := by omega
    rw [List.drop_eq_getElem_cons hlt]
    by_cases c1 : d[i].f1 ≤ y
    · by_cases c2 : y < d[i].f3
      · have hs : selR (d[i] :: d.drop (i + 1)) y = (d[i].f0, d[i].f2) :: selR (d.drop (i + 1)) y := by
          unfold selR; rw [List.filter_cons, if_pos (by simp [c1, c2])]; rfl
        rw [hs, List.foldl_cons]; have := RG.joined_len out (d[i].f0, d[i].f2); refine Ev.step (fun k => ?_) (ih (i + 1) (RG.joined out (d[i].f0, d[i].f2)) (by omega) (by omega)); rw [Bz.l0, if_pos (by omega), if_pos (by omega), rdR d i hlt, if_pos c1, if_pos c2, joined6 _ _ _ (by omega), Option.bind_some, wrs i (by omega)]
      · have hs : selR (d[i] :: d.drop (i + 1)) y = selR (d.drop (i + 1)) y := by
          unfold selR; rw [List.filter_cons, if_neg (by simp [c1, c2])]
        rw [hs]; refine Ev.step (fun k => ?_) (ih (i + 1) out (by omega) (by omega)); rw [Bz.l0, if_pos (by omega), if_pos (by omega), rdR d i hlt, if_pos c1, if_neg c2, wrs i (by omega)]
    · have hs : selR (d[i] :: d.drop (i + 1)) y = selR (d.drop (i + 1)) y := by
        unfold selR; rw [List.filter_cons, if_neg (by simp [c1])]
      rw [hs]; refine Ev.step (fun k => ?_) (ih (i + 1) out (by omega) (by omega)); rw [Bz.l0, if_pos (by omega), if_pos (by omega), rdR d i hlt, if_neg c1, wrs i (by omega)]
structure Ord (d l : List S58) : Prop where
  mem : ∀ q, q ∈ d ↔ q ∈ l ∧ RG.some1 (rc q) = true
  sort : d.Pairwise fun p q => p.f0 ≤ q.f0
  len : d.length ≤ l.length
theorem row6_val {d l : List S58} (h : Ord d l) (y : Int) (hl : l.length ≤ 100000) : Ev (fun k => Bz.f k d y) ((RG.rowP (l.map rc) y).map p6) := by
  have h1 := row6_l0 d y (by have := h.len; omega) d.length 0 [] (Nat.zero_add _) (Nat.le_refl _)
  have e : RG.joinAll (selR d y) = RG.rowP (l.map rc) y := by
    refine RG.row_of (fun p => ?_) ?_
    · unfold selR RG.act
      simp only [List.mem_map, List.mem_filter, Bool.and_eq_true, decide_eq_true_eq, RG.acts]
      constructor
      · rintro ⟨r, ⟨hr, h2, h3⟩, rfl⟩
        obtain ⟨h4, h5⟩ := (h.mem r).mp hr; exact ⟨rc r, ⟨⟨r, h4, rfl⟩, ⟨h5, h2⟩, h3⟩, rfl⟩
      · rintro ⟨_, ⟨⟨r, hr, rfl⟩, ⟨h5, h2⟩, h3⟩, rfl⟩
        exact ⟨r, ⟨(h.mem r).mpr ⟨hr, h5⟩, h2, h3⟩, rfl⟩
    · unfold selR
      rw [List.pairwise_map]; exact (h.sort.filter _)
  rw [← e]; exact h1
theorem ends6_l0 (s : List RG.Sp) (hs : s.length ≤ 100000) : ∀ e i (out : List Int), i + e = s.length → out.length ≤ 2 * i → Ev (fun k => B4.l0 k (s.map p6) out (i : Int)) (out ++ RG.endsOf (s.drop i)) := by
  intro e
  induction e with
  | zero =>
    intro i out hi ho; refine one_round fun k => ?_
    rw [B4.l0, if_neg (by simp; omega), List.drop_of_length_le (by omega)]; show some out = some (out ++ []); rw [List.append_nil]
  | succ e ih =>
    intro i out hi ho; have hlt : i < s.length := by omega
    rw [List.drop_eq_getElem_cons hlt]; have hs2 : RG.endsOf (s[i] :: s.drop (i + 1)) = [s[i].1, s[i].2] ++ RG.endsOf (s.drop (i + 1)) := rfl; rw [hs2, ← List.append_assoc]; refine Ev.step (fun k => ?_) (ih (i + 1) (out ++ [s[i].1, s[i].2]) (by omega) (by simp; omega)); rw [B4.l0, if_pos (by simp; omega), if_pos (by omega), rd6 _ i (by simp; omega)]
    simp only [Option.bind_some, List.length_cons, List.length_nil, List.getElem_map]
    rw [if_pos (by omega), wrs i (by omega)]; rfl
theorem ends6_val (s : List RG.Sp) (hs : s.length ≤ 100000) : Ev (fun k => B4.f k (s.map p6)) (RG.endsOf s) := ends6_l0 s hs s.length 0 [] (Nat.zero_add _) (Nat.zero_le _)
end VR
end Go.Proofs.Ytobdfiglgdbecaa
end
section
set_option linter.unusedVariables false
set_option linter.unusedSimpArgs false
open Go Go.RowKit Go.Proofs.YtobdfiglgdbecaaW.PrintWords Go.Proofs.YtobdfiglgdbecaaW.PrintMore
namespace Go.Proofs.Ytobdfiglgdbecaa
open PGA PGB PGH PGK PGI PGR
namespace VR
theorem rise_lt {l : List Int} (hr : RG.Rise l) (i j : Nat) (hj : j < l.length) (h : i < j) : l[i] < l[j] := List.pairwise_iff_getElem.mp (RG.rise_pairwise l hr) i j (by omega) hj h
theorem shl_set (l : List Int) (i : Nat) (n : Int) (hi : i ≤ l.length) : (shl (l ++ [0]) i).set i n = l.take i ++ n :: l.drop i := by
  unfold shl
  have e1 : (l ++ [0]).take (i + 1) = l.take i ++ [(l ++ [0]).getD i 0] := by
    rw [List.take_succ_eq_append_getElem (by simp; omega), List.take_append_of_le_length hi, List.getD_eq_getElem?_getD, List.getElem?_eq_getElem (by simp; omega)]; rfl
  have e2 : ((l ++ [0]).drop i).take ((l ++ [0]).length - (i + 1)) = l.drop i := by
    rw [List.drop_append_of_le_length hi, List.length_append, List.length_singleton, show l.length + 1 - (i + 1) = (l.drop i).length by rw [List.length_drop]; omega, List.take_append_of_le_length (Nat.le_refl _), List.take_length]
  rw [e1, e2, List.append_assoc, List.set_append, if_neg (by rw [List.length_take]; omega), List.length_take, Nat.min_eq_left hi, Nat.sub_self]; rfl
theorem insert_l0 (l : List Int) (hr : RG.Rise l) (hl : l.length ≤ 100000) (n : Int) : ∀ d i j, j - i ≤ d → i ≤ j → j ≤ l.length → (∀ t (h : t < l.length), t < i → l[t] < n) → (∀ t (h : t < l.length), j ≤ t → n ≤ l[t]) →
    Ev (fun k => Bh.l0 k l n (i : Int) (j : Int)) (RG.ins n l) := by
  intro d
  induction d with
  | zero =>
    intro i j hd hij hj h1 h2; obtain rfl : i = j := by omega
    refine one_round fun k => ?_
    rw [Bh.l0, if_neg (by omega)]
    by_cases c : i < l.length
    · rw [if_pos (by omega), if_pos (by omega), rdI l i c]
      by_cases c2 : l[i] = n
      · rw [if_pos c2, RG.ins_there hr (by rw [← c2]; exact List.getElem_mem c)]
      · rw [if_neg c2, if_pos (by omega)]
        simp only [Option.bind_some]
        rw [if_pos (by simp; omega), Int.toNat_natCast, shl_set l i n (by omega)]; rw [RG.ins_at i hr (fun z hz => ?_) (fun z hz => ?_)]
        · obtain ⟨t, ht, rfl⟩ := List.mem_iff_getElem.mp hz
          rw [List.length_take] at ht; rw [List.getElem_take]; exact h1 t (by omega) (by omega)
        · obtain ⟨t, ht, rfl⟩ := List.mem_iff_getElem.mp hz
          rw [List.length_drop] at ht; rw [List.getElem_drop]; have h3 := h2 i c (Nat.le_refl _)
          rcases Nat.eq_zero_or_pos t with rfl | hp
          · have e : i + 0 = i := rfl
            simp only [Nat.add_zero]
            omega
          · have := rise_lt hr i (i + t) (by omega) (by omega)
            omega
    · rw [if_neg (by omega), if_pos (by omega)]
      simp only [Option.bind_some]
      rw [if_pos (by omega), if_pos (by simp; omega), Int.toNat_natCast, shl_set l i n (by omega)]; rw [RG.ins_at i hr (fun z hz => ?_) (fun z hz => ?_)]
      · obtain ⟨t, ht, rfl⟩ := List.mem_iff_getElem.mp hz
        rw [List.length_take] at ht; rw [List.getElem_take]; exact h1 t (by omega) (by omega)
      · rw [List.drop_of_length_le (by omega)] at hz; cases hz
  | succ d ih =>
    intro i j hd hij hj h1 h2
    by_cases c : i = j
    · subst c
      exact ih i i (by omega) (Nat.le_refl _) hj h1 h2
    · have hm : wrap64 (Int.tdiv (wrap64 ((i : Int) + (j : Int))) 2) = (((i + j) / 2 : Nat) : Int) := by
        have e1 : wrap64 ((i : Int) + (j : Int)) = ((i + j : Nat) : Int) := by unfold wrap64; omega
        rw [e1, show Int.tdiv ((i + j : Nat) : Int) 2 = (((i + j) / 2 : Nat) : Int) from rfl]; unfold wrap64; omega
      have hml : (i + j) / 2 < l.length := by omega
      have hw : wrap64 ((((i + j) / 2 : Nat) : Int) + 1) = (((i + j) / 2 + 1 : Nat) : Int) := by unfold wrap64; omega
      by_cases c2 : l[(i + j) / 2] < n
      · refine Ev.step (fun k => ?_) (ih ((i + j) / 2 + 1) j (by omega) (by omega) hj (fun t ht h => ?_) h2)
        · rw [Bh.l0, if_pos (by omega), hm, if_pos (by omega), if_pos (by omega), rdI l _ hml, if_pos c2, hw]
        · rcases Nat.lt_or_ge t ((i + j) / 2) with h3 | h3
          · have := rise_lt hr t ((i + j) / 2) hml h3; omega
          · have e : t = (i + j) / 2 := by omega
            subst e; exact c2
      · refine Ev.step (fun k => ?_) (ih i ((i + j) / 2) (by omega) (by omega) (by omega) h1 (fun t ht h => ?_))
        · rw [Bh.l0, if_pos (by omega), hm, if_pos (by omega), if_pos (by omega), rdI l _ hml, if_neg c2]
        · rcases Nat.lt_or_ge ((i + j) / 2) t with h3 | h3
          · have := rise_lt hr ((i + j) / 2) t ht h3; omega
          · have e : t = (i + j) / 2 := by omega
            subst e; omega
theorem insert_val (l : List Int) (hr : RG.Rise l) (hl : l.length ≤ 100000) (n : Int) : Ev (fun k => Bh.f k l n) (RG.ins n l) :=
  insert_l0 l hr hl n l.length 0 l.length (by omega) (Nat.zero_le _) (Nat.le_refl _) (fun t _ h => by omega) (fun t h1 h => by omega)
end VR
end Go.Proofs.Ytobdfiglgdbecaa
end
section
set_option linter.unusedVariables false
set_option linter.unusedSimpArgs false
open Go Go.RowKit Go.Proofs.YtobdfiglgdbecaaW.PrintWords Go.Proofs.YtobdfiglgdbecaaW.PrintMore
namespace Go.Proofs.Ytobdfiglgdbecaa
open PGA PGB PGH PGK PGI PGR
namespace VR
structure Mrg (a b e : List S58) : Prop where
  mem : ∀ q, q ∈ e ↔ q ∈ a ∨ q ∈ b
  sort : e.Pairwise fun p q => p.f0 ≤ q.f0
  len : e.length = a.length + b.length
theorem order_merge (a b : List S58) (ha : a.Pairwise fun p q => p.f0 ≤ q.f0) (hb : b.Pairwise fun p q => p.f0 ≤ q.f0) (hl : a.length + b.length ≤ 100000) : ∀ d i j, (a.length - i) + (b.length - j) ≤ d → i ≤ a.length → j ≤ b.length → ∀ out : List S58, out.length ≤ i + j →
    (∃ e, Ev (fun k => As.l0 k a b out (i : Int) (j : Int)) (out ++ e) ∧ Mrg (a.drop i) (b.drop j) e) ∧ (j < b.length → ∃ e, Ev (fun k => As.l1 k a b out (i : Int) (j : Int)) (out ++ e) ∧ Mrg (a.drop i) (b.drop j) e) := by
  intro d
  induction d with
  | zero =>
    intro i j hd hi hj out ho; refine ⟨⟨[], one_round fun k => ?_, ?_⟩, fun h => by omega⟩
    · rw [As.l0, if_neg (by omega), if_pos (by omega), if_pos (by omega), Int.toNat_natCast, Option.bind_some, List.drop_of_length_le (by omega), if_pos (by simp; omega)]
    · rw [List.drop_of_length_le (by omega), List.drop_of_length_le (by omega)]
      exact ⟨fun q => by simp, List.Pairwise.nil, rfl⟩
  | succ d ih =>
    intro i j hd hi hj out ho
    have one : j < b.length → ∃ e, Ev (fun k => As.l1 k a b out (i : Int) (j : Int)) (out ++ e) ∧ Mrg (a.drop i) (b.drop j) e := fun hjb => by
      have hbj := List.drop_eq_getElem_cons hjb; have hbs := (List.pairwise_cons.mp (hbj ▸ (hb.sublist (List.drop_sublist j b)))).1
      have takeB : (∀ q ∈ a.drop i, b[j].f0 ≤ q.f0) → (∀ k, As.l1 (k + 1) a b out (i : Int) (j : Int) = As.l0 k a b (out ++ [b[j]]) (i : Int) ((j + 1 : Nat) : Int)) → ∃ e, Ev (fun k => As.l1 k a b out (i : Int) (j : Int)) (out ++ e) ∧ Mrg (a.drop i) (b.drop j) e := fun hmin hstep => by
        obtain ⟨⟨e, h1, h2⟩, _⟩ := ih i (j + 1) (by omega) hi (by omega) (out ++ [b[j]]) (by simp; omega); refine ⟨b[j] :: e, ?_, ⟨fun q => ?_, List.Pairwise.cons (fun q hq => ?_) h2.sort, ?_⟩⟩
        · rw [show out ++ b[j] :: e = out ++ [b[j]] ++ e by simp]
          exact Ev.step hstep h1
        · rw [hbj, List.mem_cons, List.mem_cons, h2.mem]
          constructor
          · rintro (h | h | h) <;> simp [h]
          · rintro (h | h | h) <;> simp [h]
        · rcases (h2.mem q).mp hq with h | h
          · exact hmin q h
          · exact hbs q h
        · rw [hbj, List.length_cons, List.length_cons, h2.len]; omega
      by_cases c : i < a.length
      · have haj := List.drop_eq_getElem_cons c
        have has := (List.pairwise_cons.mp (haj ▸ (ha.sublist (List.drop_sublist i a)))).1
        by_cases c2 : a[i].f0 ≤ b[j].f0
        · obtain ⟨_, h0⟩ := ih (i + 1) j (by omega) (by omega) hj (out ++ [a[i]]) (by simp; omega)
          obtain ⟨e, h1, h2⟩ := h0 hjb; refine ⟨a[i] :: e, ?_, ⟨fun q => ?_, List.Pairwise.cons (fun q hq => ?_) h2.sort, ?_⟩⟩
          · rw [show out ++ a[i] :: e = out ++ [a[i]] ++ e by simp]
            refine Ev.step (fun k => ?_) h1; rw [As.l1, if_pos (by omega), if_pos (by omega), if_pos (by omega), if_pos (by omega), rdR a i c, rdR b j hjb, if_pos c2, if_pos (by omega), wrs i (by omega)]
          · rw [haj, List.mem_cons, List.mem_cons, h2.mem]
            constructor
            · rintro (h | h | h) <;> simp [h]
            · rintro ((h | h) | h) <;> simp [h]
          · rcases (h2.mem q).mp hq with h | h
            · exact has q h
            · rw [hbj] at h
              rcases List.mem_cons.mp h with rfl | h
              · exact c2
              · have := hbs q h; omega
          · rw [haj, List.length_cons, List.length_cons, h2.len]; omega
        · refine takeB (fun q hq => ?_) (fun k => ?_)
          · rw [haj] at hq
            rcases List.mem_cons.mp hq with rfl | h
            · omega
            · have := has q h; omega
          · rw [As.l1, if_pos (by omega), if_pos (by omega), if_pos (by omega), if_pos (by omega), rdR a i c, rdR b j hjb, if_neg c2, if_pos (by omega), wrs j (by omega)]
      · refine takeB (fun q hq => ?_) (fun k => ?_)
        · rw [List.drop_of_length_le (by omega)] at hq; cases hq
        · rw [As.l1, if_neg (by omega), if_pos (by omega), if_pos (by omega), rdR b j hjb, if_pos (by omega), wrs j (by omega)]
    refine ⟨?_, one⟩
    by_cases c : j < b.length
    · obtain ⟨e, h1, h2⟩ := one c
      exact ⟨e, Ev.step (fun k => by rw [As.l0, if_pos (by omega)]) h1, h2⟩
    · refine ⟨a.drop i, one_round fun k => ?_, ?_⟩
      · rw [As.l0, if_neg (by omega), if_pos (by omega), if_pos (by omega), Int.toNat_natCast, Option.bind_some, if_pos (by rw [List.length_drop]; omega)]
      · have hb0 : b.drop j = [] := List.drop_of_length_le (by omega)
        rw [hb0]; exact ⟨fun q => by simp, ha.sublist (List.drop_sublist i a), by simp⟩
theorem order_val : ∀ n (l : List S58), l.length ≤ n → n ≤ 50000 → ∃ d, Ev (fun k => As.f k l) d ∧ Ord d l := by
  intro n
  induction n with
  | zero =>
    intro l hl _; obtain rfl : l = [] := List.length_eq_zero_iff.mp (by omega); refine ⟨[], one_round fun k => ?_, ⟨fun q => by simp, List.Pairwise.nil, Nat.le_refl _⟩⟩; rw [As.f, if_pos (by simp), if_neg (by simp)]
  | succ n ih =>
    intro l hl hn
    by_cases c : l.length < 2
    · match l, c with
      | [], _ =>
        refine ⟨[], one_round fun k => ?_, ⟨fun q => by simp, List.Pairwise.nil, Nat.le_refl _⟩⟩; rw [As.f, if_pos (by simp), if_neg (by simp)]
      | [x], _ =>
        have h0 : rd_T58 [x] 0 = x := rfl
        by_cases c2 : RG.some1 (rc x) = true
        · refine ⟨[x], one_round fun k => ?_, ⟨fun q => ?_, by simp, Nat.le_refl _⟩⟩
          · rw [As.f, if_pos (by simp), if_pos (by simp), if_pos (by simp), h0, someH, Option.bind_some, if_pos c2, if_pos (by simp)]; rfl
          · rw [List.mem_singleton]
            constructor
            · rintro rfl; exact ⟨rfl, c2⟩
            · exact fun h => h.1
        · refine ⟨[], one_round fun k => ?_, ⟨fun q => ?_, List.Pairwise.nil, by simp⟩⟩
          · rw [As.f, if_pos (by simp), if_pos (by simp), if_pos (by simp), h0, someH, Option.bind_some, if_neg c2]
          · rw [List.mem_singleton]
            constructor
            · intro h; cases h
            · rintro ⟨rfl, h⟩; exact absurd h c2
    · have hw : wrap64 ((l.length : Int) / 2) = ((l.length / 2 : Nat) : Int) := by unfold wrap64; omega
      obtain ⟨a, a1, a2⟩ := ih (l.take (l.length / 2)) (by rw [List.length_take]; omega) (by omega); obtain ⟨b, b1, b2⟩ := ih (l.drop (l.length / 2)) (by rw [List.length_drop]; omega) (by omega); have la := a2.len; have lb := b2.len; rw [List.length_take] at la; rw [List.length_drop] at lb; obtain ⟨⟨e, h1, h2⟩, _⟩ := order_merge a b a2.sort b2.sort (by omega) (a.length + b.length) 0 0 (by omega) (Nat.zero_le _) (Nat.zero_le _) [] (Nat.zero_le _); refine ⟨e, Ev.step (fun k => by rw [As.f, if_neg (by omega), hw, if_pos (by omega), if_pos (by omega), Int.toNat_natCast]) (Ev.bind a1 (Ev.bind b1 h1)), ⟨fun q => ?_, h2.sort, ?_⟩⟩
      · rw [h2.mem, List.drop_zero, List.drop_zero, a2.mem, b2.mem]
        have e1 : q ∈ l ↔ q ∈ l.take (l.length / 2) ∨ q ∈ l.drop (l.length / 2) := by rw [← List.mem_append, List.take_append_drop]
        rw [e1]
        constructor
        · rintro (⟨h, h'⟩ | ⟨h, h'⟩)
          · exact ⟨.inl h, h'⟩
          · exact ⟨.inr h, h'⟩
        · rintro ⟨h | h, h'⟩
          · exact .inl ⟨h, h'⟩
          · exact .inr ⟨h, h'⟩
      · rw [h2.len, List.drop_zero, List.drop_zero]; omega
end VR
end Go.Proofs.Ytobdfiglgdbecaa
end
