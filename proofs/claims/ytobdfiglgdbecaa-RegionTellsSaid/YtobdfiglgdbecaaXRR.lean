import Derived.Test.YtobdfiglgdbecaaXPGAx0
import Derived.Laws.IdiomCopy
import Derived.Deep.DrawnRows
section
open Go Go.RowKit Go.Proofs.YtobdfiglgdbecaaW.PrintWords Go.Proofs.YtobdfiglgdbecaaW.PrintLast Go.Proofs.YtobdfiglgdbecaaW.PrintMore
set_option linter.unusedVariables false
set_option linter.unusedSimpArgs false
namespace Go.Proofs.Ytobdfiglgdbecaa
section
variable {P : Program}
theorem run_copy_many (w : World) (dT sT ty elem : TypeId) (s b o dLen dCap : Nat) (a : Addr) (sLen sCap : Nat) (cs : List Value)
    (hu : P.underlying dT = some (.slice elem)) (hs : (P.info? elem).map (·.size) = some s) (hn : cs.length = Nat.min sLen dLen * s)
    (hsrc : ∀ j v, cs[j]? = some v → w.cell? (a.add j) = some v) (hc : ∀ j, j < cs.length → (w.cell? ⟨b, o + j, none⟩).isSome = true) (hf : ∀ j, j < cs.length → w.frozen? ⟨b, o + j, none⟩ = false) (h1 : ∀ v ∈ cs, v.oneCell' = true) :
    (Builtin.copy_ #[dT, sT] ty #[.slice (some ⟨b, o, none⟩) dLen dCap, .slice (some a) sLen sCap]).run P w = .ok (goInt ((Nat.min sLen dLen : Nat) : Int)) (w.setCells b o cs) := by
  have hl := run_loadCells_list (P := P) w a cs hsrc; have hst := run_storeCells_cells (P := P) b o cs 0 w (by simpa using hc) (by simpa using hf) h1; rw [hn] at hl; cases hq : P.info? elem with
  | none => simp [hq] at hs
  | some i =>
    have hi : i.size = s := by simpa [hq] using hs
    simp [Builtin.copy_, run_underlying hu, Builtin.lenOf, Builtin.firstCells, sizeOf, typeInfo, hq, hi, hl, hst]
theorem run_copy_zero (w : World) (dT sT ty elem : TypeId) (s : Nat) (d a : Option Addr) (dLen dCap sLen sCap : Nat) (hu : P.underlying dT = some (.slice elem)) (hs : (P.info? elem).map (·.size) = some s) (hn : Nat.min sLen dLen = 0) :
    (Builtin.copy_ #[dT, sT] ty #[.slice d dLen dCap, .slice a sLen sCap]).run P w = .ok (goInt 0) w := by
  cases hq : P.info? elem with
  | none => simp [hq] at hs
  | some i =>
    have hl : ∀ (x : Addr), (loadCells x 0).run P w = .ok #[] w := fun x => by simpa using run_loadCells_list (P := P) w x [] (by simp)
    cases d <;> cases a <;> simp [Builtin.copy_, run_underlying hu, Builtin.lenOf, Builtin.firstCells, sizeOf, typeInfo, hq, hn, storeCells, hl]
end
def rcell (x : PGA.S58) : List Value := [.int .i64 x.f0, .int .i64 x.f1, .int .i64 x.f2, .int .i64 x.f3]
def rcells (l : List PGA.S58) : List Value := l.flatMap rcell
theorem rcells_len : ∀ l : List PGA.S58, (rcells l).length = l.length * 4
  | [] => rfl
  | x :: t => by
    have ih := rcells_len t; have e : rcells (x :: t) = rcell x ++ rcells t := rfl; rw [e, List.length_append, ih, List.length_cons]; show 4 + _ = _; omega
theorem rcells_append (a b : List PGA.S58) : rcells (a ++ b) = rcells a ++ rcells b := by unfold rcells; rw [List.flatMap_append]
theorem rcells_one (l : List PGA.S58) : ∀ v ∈ rcells l, v.oneCell' = true := by
  intro v hv; obtain ⟨x, _, hx⟩ := List.mem_flatMap.mp hv
  simp only [rcell, List.mem_cons, List.not_mem_nil, or_false] at hx
  rcases hx with rfl | rfl | rfl | rfl <;> rfl
theorem rcells_at (l : List PGA.S58) (i j : Nat) (hi : i < l.length) (hj : j < 4) : (rcells l)[i * 4 + j]? = (rcell l[i])[j]? := by
  induction l generalizing i with
  | nil => cases hi
  | cons x t ih =>
    have e : rcells (x :: t) = rcell x ++ rcells t := rfl; rw [e]; cases i with
    | zero => rw [List.getElem?_append_left (by show 0 * 4 + j < 4; omega)]; simp
    | succ i =>
      rw [List.getElem?_append_right (by show 4 ≤ _; omega)]; have e2 : (i + 1) * 4 + j - (rcell x).length = i * 4 + j := by show (i + 1) * 4 + j - 4 = _; omega
      rw [e2, ih i (by simpa using hi)]; rfl
end Go.Proofs.Ytobdfiglgdbecaa
end
section
open Go Go.RowKit Go.Proofs.YtobdfiglgdbecaaW.PrintWords Go.Proofs.YtobdfiglgdbecaaW.PrintLast Go.Proofs.YtobdfiglgdbecaaW.PrintMore
set_option linter.unusedVariables false
set_option linter.unusedSimpArgs false
namespace Go.Proofs.Ytobdfiglgdbecaa
open PGA PGB
namespace BR
def tvR (i : Nat) : S58 := ⟨-(i : Int), -(i : Int), (i : Int) + 9, (i : Int) + 9⟩
def lentR (l : List S58) (j : Nat) : List S58 := l ++ (List.range j).map (fun t => tvR (l.length + t)) ++ List.replicate (5 - j) z58
theorem lentR_len (l : List S58) (j : Nat) (h : j ≤ 5) : (lentR l j).length = l.length + 5 := by simp [lentR]; omega
theorem lentR_take (l : List S58) (j : Nat) : (lentR l j).take l.length = l := by simp [lentR]
theorem lentR_set (l : List S58) (j : Nat) (h : j < 5) : (lentR l j).set (l.length + j) (tvR (l.length + j)) = lentR l (j + 1) := by
  unfold lentR; rw [List.set_append_right _ _ (by simp), List.length_append, List.length_map, List.length_range, Nat.sub_self, show 5 - j = (5 - (j + 1)) + 1 by omega, List.replicate_succ, List.set_cons_zero, List.range_succ]
  simp
theorem rcells_set : ∀ (l : List S58) (i : Nat) (x : S58), i < l.length →
    ((((rcells l).set (i * 4) (.int .i64 x.f0)).set (i * 4 + 1) (.int .i64 x.f1)).set (i * 4 + 2) (.int .i64 x.f2)).set (i * 4 + 3) (.int .i64 x.f3) = rcells (l.set i x)
  | y :: t, 0, x, _ => rfl
  | y :: t, i + 1, x, h => by
    have ih := rcells_set t i x (by simpa using h); have e : rcells (y :: t) = rcell y ++ rcells t := rfl; have e2 : rcells ((y :: t).set (i + 1) x) = rcell y ++ rcells (t.set i x) := rfl; rw [e, e2, ← ih]; have hl : (rcell y).length = 4 := rfl; rw [List.set_append_right _ _ (by rw [hl]; omega), List.set_append_right _ _ (by rw [hl]; omega), List.set_append_right _ _ (by rw [hl]; omega), List.set_append_right _ _ (by rw [hl]; omega), hl]; rw [show (i + 1) * 4 - 4 = i * 4 by omega, show (i + 1) * 4 + 1 - 4 = i * 4 + 1 by omega, show (i + 1) * 4 + 2 - 4 = i * 4 + 2 by omega, show (i + 1) * 4 + 3 - 4 = i * 4 + 3 by omega]
theorem rcells_seg : ∀ (l : List S58) (j : Nat) (h : j < l.length), ((rcells l).drop (j * 4)).take 4 = rcell l[j]
  | x :: t, 0, _ => rfl
  | x :: t, j + 1, h => by
    have ih := rcells_seg t j (by simpa using h)
    have e : (rcells (x :: t)).drop ((j + 1) * 4) = (rcells t).drop (j * 4) := by
      rw [show (j + 1) * 4 = j * 4 + 4 by omega]; rfl
    rw [e, ih]; rfl
theorem reps_rects (w : World) (base : Nat) (ok : Nat → Prop) (l : List S58) : Reps (k58.M w base ok) 4 l (rcells l) := by
  refine ⟨rcells_len l, fun j p hp => ?_⟩; obtain ⟨hj, rfl⟩ := List.getElem?_eq_some_iff.mp hp; rw [rcells_seg l j hj]; exact k58_mkM w base ok l[j]
theorem R_rects {w : World} {base g : Nat} {ok : Nat → Prop} (l : List S58) (h : w.heap[g]? = some (.cells (rcells l).toArray 58 (0, 0))) (hb : base ≤ g) (hm : l.length ≤ 9223372036854775807) (hok : ok g) : k58.R 58 w base ok (.slice (some ⟨g, 0, none⟩) l.length l.length) l := by
  refine ⟨fun k hk => ?_, rcells l, ⟨?_, .inr ⟨g, l.length, (rcells l).toArray, rfl, hb, h, Nat.le_refl _, hm, ?_, ?_⟩⟩, ?_⟩
  · have : g = k := by simpa [Value.ownBlock] using hk
    exact this ▸ hok
  · exact rcells_len l
  · rw [List.size_toArray, rcells_len]; rfl
  · rw [List.toList_toArray]
    exact List.take_of_length_le (by rw [rcells_len]; exact Nat.le_refl _)
  · exact reps_rects _ _ _ l
structure RM (w : World) (rb : Nat) (sv swv : Value) (L : List (List S58)) : Prop where
  b : w.heap[rb]? = some (.cells #[.slice none 0 0, .slice none 0 0, .slice none 0 0, .slice none 0 0, sv, swv, .slice none 0 0, .slice none 0 0] 35 (0, 0))
  r : (Kd.slice 58 k58).R 22 w rb (fun k => k ≠ rb ∧ some k ≠ swv.ownBlock) sv L
  q : (Kd.slice 58 k58).R 22 w rb (fun k => k ≠ rb ∧ some k ≠ sv.ownBlock) swv L
theorem RM.move {w W : World} {rb : Nat} {sv swv : Value} {L : List (List S58)} (h : RM w rb sv swv L) (hm : ∀ k, rb ≤ k → k < w.heap.size → W.heap[k]? = w.heap[k]?) : RM W rb sv swv L :=
  ⟨(hm rb (Nat.le_refl _) (Cx h.b)).trans h.b, Kd.Bs (Kd.R_step (Kd.Df h.r) (fun k hk hl => hm k hk.2.1 hl)) (fun k hk => hk.1), Kd.Bs (Kd.R_step (Kd.Df h.q) (fun k hk hl => hm k hk.2.1 hl)) (fun k hk => hk.1)⟩
end BR
end Go.Proofs.Ytobdfiglgdbecaa
end
section
open Go Go.RowKit Go.Proofs.YtobdfiglgdbecaaW.PrintWords Go.Proofs.YtobdfiglgdbecaaW.PrintLast Go.Proofs.YtobdfiglgdbecaaW.PrintMore
attribute [local go_sem ↓] Go.wp_at_zero Go.wp_at_succ
set_option linter.unusedVariables false
set_option linter.unusedSimpArgs false
namespace Go.Proofs.Ytobdfiglgdbecaa
open PGA PGB
namespace BR
theorem infoR : (Try.prog.info? 58).map (fun i => (i.zero, i.size, i.bytes)) = some (some (.agg #[.int .i64 0, .int .i64 0, .int .i64 0, .int .i64 0]), 4, 32) := by kernel_rfl
structure Wr (g : Nat) (w W : World) : Prop where
  blk : ∀ b, b ≠ g → W.heap[b]? = w.heap[b]?
  sz : W.heap.size = w.heap.size
  below : Below g w W
theorem Wr.refl (g : Nat) (w : World) : Wr g w w := ⟨fun _ _ => rfl, rfl, Below.refl _ _⟩
theorem Wr.set {g : Nat} {w W : World} (h : Wr g w W) (i : Nat) (u : Value) : Wr g w (W.setCell ⟨g, i, none⟩ u) :=
  ⟨fun b hb => (Below.heap_setCell W ⟨g, i, none⟩ u b hb).trans (h.blk b hb), by show (W.heap.modify _ _).size = _; rw [Array.size_modify]; exact h.sz, h.below.setCell (Nat.le_refl _) _⟩
theorem Wr.cells {g : Nat} : ∀ (vs : List Value) (o : Nat) {w W : World}, Wr g w W → Wr g w (W.setCells g o vs)
  | [], _, _, _, h => h
  | v :: r, o, _, _, h => Wr.cells r (o + 1) (h.set o v)
theorem rcells_take (r : List S58) (n : Nat) : (rcells r).drop (n * 4) = rcells (r.drop n) := by
  induction n generalizing r with
  | zero => rfl
  | succ n ih =>
    cases r with
    | nil => simp [rcells]
    | cons x t =>
      rw [show (n + 1) * 4 = n * 4 + 4 by omega]; exact ih t
theorem copy_rects {w : World} (g n m : Nat) (A : Option Addr) (c d : Nat) (l r : List S58) (hg : w.heap[g]? = some (.cells (rcells r).toArray 58 (0, 0))) (hr : r.length = n + m) (hC : k58.C w A n l) :
    ∃ w2, (Builtin.copy_ #[22, 22] 3 #[.slice (some ⟨g, 0, none⟩) (n + m) d, .slice A n c]).run Try.prog w = .ok (goInt (n : Int)) w2 ∧ w2.heap[g]? = some (.cells (rcells (l ++ r.drop n)).toArray 58 (0, 0)) ∧ Wr g w w2 := by
  have hln : l.length = n := hC.1; have sz4 : (Try.prog.info? 58).map (·.size) = some 4 := by kernel_rfl
  rcases Nat.eq_zero_or_pos n with rfl | hp
  · refine ⟨w, run_copy_zero w 22 22 3 58 4 _ _ _ _ _ _ Try.underlying22 sz4 (Nat.zero_min _), ?_, Wr.refl g w⟩
    rw [List.length_eq_zero_iff.mp hln]; exact hg
  · obtain ⟨ad, rfl, hc⟩ := hC.2.2 hp
    have hmin : Nat.min n (n + m) = n := Nat.min_eq_left (by omega)
    have hsrc : ∀ j v, (rcells l)[j]? = some v → w.cell? (ad.add j) = some v := by
      intro j v hv; have hj : j < (rcells l).length := (List.getElem?_eq_some_iff.mp hv).1; rw [rcells_len] at hj; have hi : j / 4 < l.length := by omega
      obtain ⟨cs, h4, hK, hcell⟩ := hc (j / 4) l[j / 4] (List.getElem?_eq_getElem hi); obtain rfl := k58_open hK; have h5 := rcells_at l (j / 4) (j % 4) hi (Nat.mod_lt _ (by omega)); rw [show j / 4 * 4 + j % 4 = j by omega, hv] at h5; have h6 := hcell (j % 4) v h5.symm; have e : j / 4 * k58.sz + j % 4 = j := by show j / 4 * 4 + j % 4 = j; omega
      rw [e] at h6; exact h6
    have hrun := run_copy_many (P := Try.prog) w 22 22 3 58 4 g 0 (n + m) d ad n c (rcells l) Try.underlying22 sz4 (by rw [rcells_len, hln, hmin]) hsrc
      (fun j hj => by rw [cell_of_row w g _ (rcells r).toArray 58 (0, 0) hg]; rw [rcells_len] at hj; simp [rcells_len]; omega) (fun j _ => Ae hg _) (rcells_one l)
    rw [hmin] at hrun; obtain ⟨cur', h3, h4, h5⟩ := setCells_row (rcells l) 0 w (rcells r).toArray hg (by rw [rcells_len, List.size_toArray, rcells_len]; omega); refine ⟨_, hrun, ?_, Wr.cells _ _ (Wr.refl g w)⟩; rw [h3]
    have e : cur' = (rcells (l ++ r.drop n)).toArray := by
      apply Array.toList_inj.mp
      rw [h5, List.take_zero, List.nil_append, Nat.zero_add, rcells_len, hln, rcells_append, ← rcells_take]
    rw [e]
set_option maxRecDepth 100000 in
set_option maxHeartbeats 4000000 in
theorem Rects_calls (w0 w : World) (rb : Nat) (sv swv : Value) (L : List (List S58)) (hR : RM w rb sv swv L) (hb0 : Below rb w0 w) (A : Option Addr) (c : Nat) (l : List S58) (hC : k58.C w A l.length l) (hl : l.length ≤ 4398046510976) (hL : L.length ≤ 1000) :
    Calls Try.prog 11 #[.pointer (some ⟨rb, 0, none⟩), .slice A l.length c] w fun e w' => ∃ A' c', e = .returned (.slice A' l.length c') ∧ k58.R 58 w' rb (fun k => k ≠ rb) (.slice A' l.length c') l ∧ (∃ sv' swv', RM w' rb sv' swv' (L ++ [lentR l 5])) ∧ Below rb w0 w' ∧ ∀ k, k < w.heap.size → k ≠ rb → some k ≠ sv.ownBlock → some k ≠ swv.ownBlock → w'.heap[k]? = w.heap[k]? := by
  obtain ⟨i0, hi, hz0, hz1, hz2⟩ := info_parts infoR; obtain ⟨n, hn⟩ : ∃ n, n = l.length := ⟨_, rfl⟩; rw [← hn] at hC hl ⊢
  have hmk : ∀ W0 : World, (Instr.makeSlice 22 (.int .i64 ((n : Int) + 5)) (.int .i64 ((n : Int) + 5))).run Try.prog W0 = .ok (.slice (some ⟨W0.heap.size, 0, none⟩) (n + 5) (n + 5)) (W0.alloc (.cells (rcells (List.replicate (n + 5) z58)).toArray 58)) := by
    intro W0; have h := run_make (P := Try.prog) W0 22 58 i0 _ Try.underlying22 hi hz0 .i64 .i64 ((n : Int) + 5) ((n : Int) + 5) (by omega) (by omega) (by rw [hz2]; omega) (by omega); rw [hz1] at h
    have e : madeCells (Value.agg #[.int .i64 0, .int .i64 0, .int .i64 0, .int .i64 0]).cells (((n : Int) + 5).toNat * 4) = (rcells (List.replicate (n + 5) z58)).toArray := by
      rw [show ((n : Int) + 5).toNat = n + 5 by omega]
      apply Array.toList_inj.mp
      apply List.ext_getElem
      · simp [madeCells, rcells_len]
      · intro i h1 h2
        have h3 : i < (n + 5) * 4 := by rw [rcells_len, List.length_replicate] at h2; exact h2
        have h4 := rcells_at (List.replicate (n + 5) z58) (i / 4) (i % 4) (by rw [List.length_replicate]; omega) (Nat.mod_lt _ (by omega)); rw [show i / 4 * 4 + i % 4 = i by omega, List.getElem?_eq_getElem h2, List.getElem_replicate] at h4; have h5 : i % 4 = 0 ∨ i % 4 = 1 ∨ i % 4 = 2 ∨ i % 4 = 3 := by omega
        have h6 : (rcells (List.replicate (n + 5) z58))[i] = .int .i64 0 := by rcases h5 with h | h | h | h <;> rw [h] at h4 <;> exact Option.some.inj h4
        rw [h6]
        simp only [madeCells, Array.toList_map, Array.toList_range, List.getElem_map, List.getElem_range]
        rcases h5 with h | h | h | h <;> (show (#[Value.int .i64 0, .int .i64 0, .int .i64 0, .int .i64 0] : Array Value)[i % 4]! = _; rw [h]; rfl)
    rw [e, show ((n : Int) + 5).toNat = n + 5 by omega] at h; exact h
  have HC := Aa.mk hC; have HR := Aa.mk hR; have HB0 := Aa.mk hb0; have HN := Aa.mk hn; clear hC hR hb0 hz0 hz1 hz2 hn; go_enter Try.func11, Try.ntmps11
  go_upto_region 2 with fail
  obtain ⟨w1, hw1⟩ : ∃ y, y = w.alloc (.cells (rcells (List.replicate (n + 5) z58)).toArray 58) := ⟨_, rfl⟩; rw [← hw1]; have hg1 : w1.heap[w.heap.size]? = some (.cells (rcells (List.replicate (n + 5) z58)).toArray 58 (0, 0)) := by rw [hw1]; exact Dt _ _
  have hb1 : Below w.heap.size w w1 := by rw [hw1]; exact Ad (Below.refl _ _) _
  obtain ⟨w2, hcp, hg2, hwr⟩ := copy_rects w.heap.size n 5 A c (n + 5) l (List.replicate (n + 5) z58) hg1 (by simp) (Kd.Cs HC.out hb1)
  have e2 : l ++ (List.replicate (n + 5) z58).drop n = lentR l 0 := by
    unfold lentR; rw [List.drop_replicate, show n + 5 - n = 5 by omega]; simp
  rw [e2] at hg2; have HB2 := Aa.mk (hb1.trans (hwr.below)); have HW2 := Aa.mk (fun k (hk : k < w.heap.size) => (hwr.blk k (by omega)).trans (hb1.block k hk)); have HZ2 := Aa.mk hwr.sz; have HS1 := Aa.mk hb1.size; have HG2 := Aa.mk hg2; have HST : Aa (w2.heap[w.heap.size]? = some (.cells (rcells (lentR l 0)).toArray 58 (0, 0)) ∧ Wr w.heap.size w2 w2) := ⟨HG2.out, Wr.refl _ _⟩; clear hmk hg1 hb1 hg2 hwr hw1 e2
  go_wp2
  go_loopw [6] (fun i wr => ∃ j : Nat, j ≤ 5 ∧ i = .int .i64 ((n : Int) + (j : Int)) ∧ Aa (wr.heap[w.heap.size]? = some (.cells (rcells (lentR l j)).toArray 58 (0, 0)) ∧ Wr w.heap.size w2 wr)) (fun i _ => n + 5 - (intOf i).toNat)
  case atStart => exact ⟨0, Nat.zero_le _, by simp, HST⟩
  case round =>
    obtain ⟨j, hj, rfl, hs⟩ := hrel; clear HST
    by_cases hlt : j < 5
    · obtain ⟨hh, hw⟩ := hs.out
      have hln := lentR_len l j hj
      have hcell : ∀ t, t < 4 → ∃ x, wr.cell? ⟨w.heap.size, (n + j) * 4 + t, none⟩ = some x := fun t ht => by
        have h0 := HN.out; have h1 : (n + j) * 4 + t < (rcells (lentR l j)).length := by rw [rcells_len]; omega
        exact ⟨_, (Ag hh ((n + j) * 4 + t)).trans (by rw [List.getElem?_toArray]; exact List.getElem?_eq_getElem h1)⟩
      obtain ⟨x0, c0⟩ := hcell 0 (by omega); obtain ⟨x1, c1⟩ := hcell 1 (by omega); obtain ⟨x2, c2⟩ := hcell 2 (by omega); obtain ⟨x3, c3⟩ := hcell 3 (by omega); have f0 : wr.frozen? ⟨w.heap.size, (n + j) * 4, none⟩ = false := Ae hh _; have f1 : wr.frozen? ⟨w.heap.size, (n + j) * 4 + 1, none⟩ = false := Ae hh _; have f2 : wr.frozen? ⟨w.heap.size, (n + j) * 4 + 2, none⟩ = false := Ae hh _; have f3 : wr.frozen? ⟨w.heap.size, (n + j) * 4 + 3, none⟩ = false := Ae hh _; rw [Nat.add_zero] at c0; have hij : ((n : Int) + (j : Int)).toNat = n + j := by omega
      have hnew : Aa (((((wr.setCell ⟨w.heap.size, (n + j) * 4, none⟩ (.int .i64 (-((n : Int) + (j : Int))))).setCell ⟨w.heap.size, (n + j) * 4 + 1, none⟩ (.int .i64 (-((n : Int) + (j : Int))))).setCell ⟨w.heap.size, (n + j) * 4 + 2, none⟩ (.int .i64 ((n : Int) + (j : Int) + 9))).setCell ⟨w.heap.size, (n + j) * 4 + 3, none⟩ (.int .i64 ((n : Int) + (j : Int) + 9))).heap[w.heap.size]? = some (.cells (rcells (lentR l (j + 1))).toArray 58 (0, 0)) ∧
          Wr w.heap.size w2 ((((wr.setCell ⟨w.heap.size, (n + j) * 4, none⟩ (.int .i64 (-((n : Int) + (j : Int))))).setCell ⟨w.heap.size, (n + j) * 4 + 1, none⟩ (.int .i64 (-((n : Int) + (j : Int))))).setCell ⟨w.heap.size, (n + j) * 4 + 2, none⟩ (.int .i64 ((n : Int) + (j : Int) + 9))).setCell ⟨w.heap.size, (n + j) * 4 + 3, none⟩ (.int .i64 ((n : Int) + (j : Int) + 9)))) := by
        refine ⟨Bg (Bg (Bg (Bg hh _ _ rfl) _ _ rfl) _ _ rfl) _ _ ?_, (((hw.set _ _).set _ _).set _ _).set _ _⟩; have hlj := HN.out; rw [← lentR_set l j hlt, ← rcells_set _ _ _ (by rw [hln]; omega)]; rw [List.setIfInBounds_toArray, List.setIfInBounds_toArray, List.setIfInBounds_toArray, List.setIfInBounds_toArray]; have ev : ((l.length + j : Nat) : Int) = (n : Int) + (j : Int) := by omega
        show _ = (((((rcells (lentR l j)).set ((l.length + j) * 4) (.int .i64 (-((l.length + j : Nat) : Int)))).set ((l.length + j) * 4 + 1) (.int .i64 (-((l.length + j : Nat) : Int)))).set ((l.length + j) * 4 + 2) (.int .i64 (((l.length + j : Nat) : Int) + 9))).set ((l.length + j) * 4 + 3) (.int .i64 (((l.length + j : Nat) : Int) + 9))).toArray; rw [ev, ← hlj]
      clear hh hw hs hln hcell
      go_wp2
      exact ⟨⟨j + 1, by omega, by congr 1, hnew⟩, by simp [intOf]; omega⟩
    · obtain rfl : j = 5 := by omega
      rw [show ((n : Int) + ((5 : Nat) : Int)) = (n : Int) + 5 from rfl]; obtain ⟨hh, hw⟩ := hs.out; have hwl : ∀ k, k < w.heap.size → wr.heap[k]? = w.heap[k]? := fun k hk => (hw.blk k (by omega)).trans (HW2.out k hk)
      have hR2 : RM wr rb sv swv L := HR.out.move (fun k _ hk => hwl k hk); have hz : w.heap.size ≤ wr.heap.size := by have h2 := HB2.out.size; have h3 := hw.sz; omega
      have hbw : Below rb w0 wr := by
        have h1 := Cx HR.out.b; exact (HB0.out.trans ((HB2.out).mono (show rb ≤ w.heap.size by omega))).trans (hw.below.mono (show rb ≤ w.heap.size by omega))
      have hrl : rb < w.heap.size := Cx HR.out.b; have hll := lentR_len l 5 (by omega); have hln := HN.out
      have hRall : k58.R 58 wr rb (fun k => w.heap.size ≤ k) (.slice (some ⟨w.heap.size, 0, none⟩) (n + 5) (n + 5)) (lentR l 5) := by
        have h := R_rects (base := rb) (ok := fun k => w.heap.size ≤ k) (lentR l 5) hh (by omega) (by omega) (Nat.le_refl _); rw [hll, ← hln] at h; exact h
      have hsvb : ∀ j, sv.ownBlock = some j → j < w.heap.size := fun j hj => ((Kd.Df HR.out.r).1 j hj).2.2.1
      have hswb : ∀ j, swv.ownBlock = some j → j < w.heap.size := fun j hj => ((Kd.Df HR.out.q).1 j hj).2.2.1
      have c0 : wr.cell? ⟨rb, 4, none⟩ = some sv := (Ag hR2.b 4).trans rfl; have HR2 := Aa.mk hR2; have HBW := Aa.mk hbw; have HALL := Aa.mk hRall; have HWL := Aa.mk hwl; clear hR2 hbw hRall hwl hs hh hw HR HB0 hlt hj HB2 HW2 HZ2 HS1 HG2 hln
      go_wp2_with (at_builtin; refine Kd.Dd (Kd.slice 58 k58) (w0 := w0) rb rfl (.tmp 38) (.tmp 40) 27 22 (.slice none 0 0) 24 rfl Try.underlying27 info22 rfl (by decide) (by omega) sv L (lentR l 5) [.slice (some ⟨w.heap.size, 0, none⟩) (n + 5) (n + 5)] (fun j => j ≠ rb ∧ some j ≠ swv.ownBlock) (fun j => w.heap.size ≤ j) rfl rfl ?aP ?aO ?aF HR2.out.r HBW.out (by omega) (by omega) ?_)
      case aP => exact ⟨_, rfl, HALL.out⟩
      case aO => exact fun j hj => ⟨⟨by omega, fun e => by have := hswb j e.symm; omega⟩, fun e => by have := hsvb j e.symm; omega⟩
      case aF => exact fun j hj => ⟨by omega, fun e => by have := hswb j e.symm; omega⟩
      intro v1 w3 hR1 hB1 hg1 hat1; obtain ⟨Av, cv, ev⟩ := Kd.Bk hR1; subst ev; have e1 : (L ++ [lentR l 5]).length = L.length + 1 := by simp
      rw [e1] at hR1 hat1; rw [e1]; have hrv : some rb ≠ sv.ownBlock := fun e => (HR2.out.r.1 rb e.symm).1 rfl
      have hrw : some rb ≠ swv.ownBlock := fun e => (HR2.out.q.1 rb e.symm).1 rfl
      have hb1 := Dh HR2.out.b hg1 hrv; have hq1 := Kd.R_grown HR2.out.q hg1 (fun k hk => hk.2); have hvb1 : ∀ j, (Value.slice Av (L.length + 1) cv).ownBlock = some j → j < w3.heap.size := fun j hj => ((Kd.Df hR1).1 j hj).2.2.1
      have hc0 : w3.cell? ⟨rb, 4, none⟩ = some sv := (Ag hb1 4).trans rfl; have hf0 := Ae hb1 4; have hb3 := Bg hb1 4 (.slice Av (L.length + 1) cv) rfl; have hq3 := Kd.Cv hq1 (p := ⟨rb, 4, none⟩) (fun k hk e => hk.1 (show k = rb from e)) (.slice Av (L.length + 1) cv); have hr3 := Kd.Cv hR1 (p := ⟨rb, 4, none⟩) (fun k hk e => hk.1 (show k = rb from e)) (.slice Av (L.length + 1) cv); have hB3 := hB1.setCell (p := ⟨rb, 4, none⟩) (Nat.le_refl rb) (.slice Av (L.length + 1) cv); have hall1 := Kd.Cv (Kd.R_grown HALL.out hg1 (fun k hk e => by have := hsvb k e.symm; omega)) (p := ⟨rb, 4, none⟩) (fun k hk e => by have e2 : k = rb := e; omega) (.slice Av (L.length + 1) cv)
      have hz3 : wr.heap.size ≤ (w3.setCell ⟨rb, 4, none⟩ (.slice Av (L.length + 1) cv)).heap.size := by
        show _ ≤ (w3.heap.modify _ _).size; rw [Array.size_modify]; exact hg1.size
      have hvb3 : ∀ j, (Value.slice Av (L.length + 1) cv).ownBlock = some j → j < (w3.setCell ⟨rb, 4, none⟩ (.slice Av (L.length + 1) cv)).heap.size := fun j hj => by
        show _ < (w3.heap.modify _ _).size; rw [Array.size_modify]; exact hvb1 j hj
      have hswv3 : ∀ j, swv.ownBlock = some j → j < wr.heap.size := fun j hj => by have := hswb j hj; omega
      have hne3 : ∀ j, swv.ownBlock = some j → (Value.slice Av (L.length + 1) cv).ownBlock ≠ some j := fun j hj e => (hR1.1 j e).2 hj.symm
      have hq3' : (Kd.slice 58 k58).R 22 (w3.setCell ⟨rb, 4, none⟩ (.slice Av (L.length + 1) cv)) rb (fun k => k ≠ rb ∧ some k ≠ (Value.slice Av (L.length + 1) cv).ownBlock) swv L := by
        have h9 := Kd.Cv (Kd.R_grown (Kd.Df HR2.out.q) hg1 (fun k hk => hk.1.2)) (p := ⟨rb, 4, none⟩) (fun k hk e => hk.1.1 (show k = rb from e)) (.slice Av (L.length + 1) cv); refine Kd.Bs h9 (fun k hk => ⟨hk.1.1, fun e => ?_⟩)
        rcases hat1 with h | ⟨b, h, hb9⟩
        · exact hk.1.2 (e.trans h)
        · have e3 := e.trans h
          injection e3 with e3
          have := hk.2.2.1
          omega
      have hF3 : ∀ j, j < w.heap.size → j ≠ rb → some j ≠ sv.ownBlock → (w3.setCell ⟨rb, 4, none⟩ (.slice Av (L.length + 1) cv)).heap[j]? = w.heap[j]? := fun j hj hk h1 => by
        rw [Below.heap_setCell _ _ _ _ hk, hg1.block j (by omega) h1, HWL.out j hj]
      have HF3 := Aa.mk hF3; have HB3 := Aa.mk hb3; have HQ3 := Aa.mk hq3'; have HR3 := Aa.mk hr3; have HW3 := Aa.mk hB3; have HA3 := Aa.mk hall1; clear hR1 hB1 hg1 hat1 hb1 hq1 hb3 hq3 hq3' hr3 hB3 hall1 hF3 HR2 HBW HALL HWL
      go_upto_region 8 with fail
      generalize w3.setCell ⟨rb, 4, none⟩ (.slice Av (L.length + 1) cv) = w4 at HB3 HQ3 HR3 HW3 HA3 HF3 hz3 hvb3 ⊢; clear hc0 hf0 c0; refine start_ (n := 12) (S := fun w' => w'.cell? ⟨rb, 5, none⟩ = some swv ∧ True) (ds := [11]) #[false, false, false, false, false, false, false, false, false, false, false, false] (by kernel_rfl) rfl rfl ⟨(Ag HB3.out 5).trans rfl, trivial⟩ (fun hHeld => ?_); have hb4 : w4.drew.heap[rb]? = _ := HB3.out; have hq4 : (Kd.slice 58 k58).R 22 w4.drew rb (fun k => k ≠ rb ∧ some k ≠ (Value.slice Av (L.length + 1) cv).ownBlock) swv L := HQ3.out; have hr4 : (Kd.slice 58 k58).R 22 w4.drew rb (fun k => k ≠ rb ∧ some k ≠ swv.ownBlock) (.slice Av (L.length + 1) cv) (L ++ [lentR l 5]) := HR3.out; have hw4 : Below rb w0 w4.drew := Ac HW3.out; have ha4 : k58.R 58 w4.drew rb (fun k => w.heap.size ≤ k) (.slice (some ⟨w.heap.size, 0, none⟩) (n + 5) (n + 5)) (lentR l 5) := HA3.out; have hz4 : wr.heap.size ≤ w4.drew.heap.size := hz3; have hvb4 : ∀ j, (Value.slice Av (L.length + 1) cv).ownBlock = some j → j < w4.drew.heap.size := hvb3; have hF4 : ∀ j, j < w.heap.size → j ≠ rb → some j ≠ sv.ownBlock → w4.drew.heap[j]? = w.heap[j]? := HF3.out; have HF4 := Aa.mk hF4; have HB4 := Aa.mk hb4; have HQ4 := Aa.mk hq4; have HR4 := Aa.mk hr4; have HW4 := Aa.mk hw4; have HA4 := Aa.mk ha4; clear hb4 hq4 hr4 hw4 ha4 hF4 hz3 hvb3 HB3 HQ3 HR3 HW3 HA3 HF3; generalize w4.drew = w5 at HB4 HQ4 HR4 HW4 HA4 HF4 hz4 hvb4 hHeld ⊢; have hll5 : (lentR l 5).length = n + 5 := by rw [hll, HN.out]
      have hcr : ReadsRow (k58.K w5) 4 w5 (some ⟨w.heap.size, 0, none⟩) (lentR l 5).length (lentR l 5) := (Kd.Ax HA4.out).2.2; rw [hll5] at hcr; have e6 : ([] ++ lentR l 5).length = n + 5 := hll5; refine pure_ (i := 0) (N := (some 44)) (v := ?_) (a' := ?_) #[true, false, false, false, false, false, false, false, false, false, false, false] rfl rfl (by kernel_rfl) (fun _ _ _ h => h) (Or.inl ⟨by rfl, ?_⟩) ?_ ?_; rotate_left
      · intro w'
        go_simp
        with_reducible rfl
      rotate_left
      · simp only [Act.put, List.setIfInBounds_toArray, List.set_cons_zero, List.set_cons_succ, i64_w, i32_w]
        rfl
      refine pure_ (i := 1) (N := (some 45)) (v := ?_) (a' := ?_) #[true, true, false, false, false, false, false, false, false, false, false, false] rfl rfl (by kernel_rfl) (fun _ _ _ h => h) (Or.inl ⟨by rfl, ?_⟩) ?_ ?_; rotate_left
      · intro w'
        go_simp
        with_reducible rfl
      rotate_left
      · simp only [Act.put, List.setIfInBounds_toArray, List.set_cons_zero, List.set_cons_succ, i64_w, i32_w]
        rfl
      refine pure_ (i := 2) (N := (some 46)) (v := ?_) (a' := ?_) #[true, true, true, false, false, false, false, false, false, false, false, false] rfl rfl (by kernel_rfl) (fun _ _ _ h => h) (Or.inl ⟨by rfl, ?_⟩) ?_ ?_; rotate_left
      · intro w'
        go_simp
        with_reducible rfl
      rotate_left
      · simp only [Act.put, List.setIfInBounds_toArray, List.set_cons_zero, List.set_cons_succ, i64_w, i32_w]
        rfl
      refine pure_ (i := 3) (N := (some 47)) (v := ?_) (a' := ?_) #[true, true, true, true, false, false, false, false, false, false, false, false] rfl rfl (by kernel_rfl) (fun _ _ _ h => h) (Or.inl ⟨by rfl, ?_⟩) ?_ ?_; rotate_left
      · intro w'
        go_simp
        with_reducible rfl
      rotate_left
      · simp only [Act.put, List.setIfInBounds_toArray, List.set_cons_zero, List.set_cons_succ, i64_w, i32_w]
        rfl
      refine pure_ (i := 5) (N := (some 49)) (v := ?_) (a' := ?_) #[true, true, true, true, false, true, false, false, false, false, false, false] rfl rfl (by kernel_rfl) (fun _ _ _ h => h) (Or.inl ⟨by rfl, ?_⟩) ?_ ?_; rotate_left
      · intro w'
        go_simp
        with_reducible rfl
      rotate_left
      · simp only [Act.put, List.setIfInBounds_toArray, List.set_cons_zero, List.set_cons_succ, i64_w, i32_w]
        rfl
      refine take_ (i := 4) (N := (some 48)) (v := ?_) (a' := ?_) #[true, true, true, true, true, true, false, false, false, false, false, false] rfl rfl (by kernel_rfl) (fun _ _ _ h => h) (Or.inl ⟨by rfl, ?_⟩) hHeld ?_ ?_; rotate_left
      · rintro w' ⟨s0, _⟩
        go_simp
        with_reducible rfl
      rotate_left
      · simp only [Act.put, List.setIfInBounds_toArray, List.set_cons_zero, List.set_cons_succ, i64_w, i32_w]
        rfl
      refine one_ (i := 6) (N := (some 50)) #[true, true, true, true, true, true, true, false, false, false, false, false] rfl rfl (by kernel_rfl) (by decide) (fun K hK => ?_); refine Kd.R_append_rows_step k58 (Rr := k58.K w5) (w0 := w0) rb (by rfl) (.const (.slice none 0 0)) (.tmp 49) 22 58 (.agg #[.int .i64 0, .int .i64 0, .int .i64 0, .int .i64 0]) 32 rfl Try.underlying22 infoR rfl (by decide) (by omega) (.slice none 0 0) [] (lentR l 5) (some ⟨w.heap.size, 0, none⟩) (n + 5) (n + 5) (fun j => w5.heap.size ≤ j) (fun _ => False) rfl rfl (Kd.De _ _ _ _ _) hcr (fun x cs h => h) (fun _ hk => hk.elim) (fun j hj => hj) HW4.out (by omega) (by simp; omega) ?_; intro v2 w6 hR6 hB6 hg6 hat6; obtain ⟨A2, c2, e2⟩ := Kd.Bk hR6; subst e2; rw [e6] at hR6 hat6 ⊢; rw [List.nil_append] at hR6; have hb6 := Dh HB4.out hg6 (by simp [Value.ownBlock]); have hq6 := Kd.R_grown HQ4.out hg6 (fun k hk => by simp [Value.ownBlock]); have hr6 := Kd.R_grown HR4.out hg6 (fun k hk => by simp [Value.ownBlock]); have ha6 := Kd.R_grown HA4.out hg6 (fun k hk => by simp [Value.ownBlock]); have hz6 := hg6.size; show K (Act.put _ (some 50) (.slice A2 (n + 5) c2)) w6; refine hK.out _ _ ⟨(Ag hb6 5).trans rfl, trivial⟩ (fun hHeld => ?_); clear hK K; refine norm_ (a' := ?_) ?_ ?_; rotate_left
      · simp only [Act.put, List.setIfInBounds_toArray, List.set_cons_zero, List.set_cons_succ]
        rfl
      refine one_ (i := 7) (N := (some 51)) #[true, true, true, true, true, true, true, true, false, false, false, false] rfl rfl (by kernel_rfl) (by decide) (fun K hK => ?_); refine value_ (v := .slice (some ⟨w6.heap.size, 0, none⟩) 1 1) (w1 := w6.alloc (.cells #[.slice A2 (n + 5) c2] 22)) (by rfl) rfl (by go_simp) ?_; refine hK.out _ _ ⟨(Ag (Ah hb6 _) 5).trans rfl, trivial⟩ (fun hHeld => ?_); clear hK K; refine norm_ (a' := ?_) ?_ ?_; rotate_left
      · simp only [Act.put, List.setIfInBounds_toArray, List.set_cons_zero, List.set_cons_succ]
        rfl
      refine one_ (i := 8) (N := (some 52)) #[true, true, true, true, true, true, true, true, true, false, false, false] rfl rfl (by kernel_rfl) (by decide) (fun K hK => ?_); refine Kd.R_append_step (Kd.slice 58 k58) (w0 := w0) rb (by rfl) (.tmp 48) (.tmp 51) 27 22 (.slice none 0 0) 24 rfl Try.underlying27 info22 rfl (by decide) (by omega) swv L (lentR l 5) [.slice A2 (n + 5) c2] (fun j => j ≠ rb ∧ some j ≠ (Value.slice Av (L.length + 1) cv).ownBlock) (fun j => w5.heap.size ≤ j) rfl rfl ⟨_, rfl, hR6⟩ (fun j hj => ⟨⟨by omega, fun e => by have := hvb4 j e.symm; omega⟩, fun e => by have := hswv3 j e.symm; omega⟩) (fun j hj => ⟨by omega, fun e => by have := hvb4 j e.symm; omega⟩) hq6 hB6 (by omega) (by omega) ?_; intro v3 w7 hR7 hB7 hg7 hat7; obtain ⟨A3, c3, e3⟩ := Kd.Bk hR7; subst e3; have e5 : (L ++ [lentR l 5]).length = L.length + 1 := by simp
      rw [e5] at hR7 hat7 ⊢; show K (Act.put _ (some 52) (.slice A3 (L.length + 1) c3)) w7; have hb7 := Dh hb6 hg7 hrw; have ha7 := Kd.R_grown ha6 hg7 (fun k hk e => by have := hswb k e.symm; omega)
      have hr7 : (Kd.slice 58 k58).R 22 w7 rb (fun k => k ≠ rb ∧ some k ≠ (Value.slice A3 (L.length + 1) c3).ownBlock) (.slice Av (L.length + 1) cv) (L ++ [lentR l 5]) := by
        refine Kd.Bs (Kd.R_grown (Kd.Df hr6) hg7 (fun k hk => hk.1.2)) (fun k hk => ⟨hk.1.1, fun e => ?_⟩)
        rcases hat7 with h | ⟨b, h, hb9⟩
        · exact hk.1.2 (e.trans h)
        · have e3 := e.trans h
          injection e3 with e3
          have := hk.2.2.1
          omega
      refine hK.out _ _ ⟨(Ag hb7 5).trans rfl, trivial⟩ (fun hHeld => ?_); clear hK K; refine norm_ (a' := ?_) ?_ ?_; rotate_left
      · simp only [Act.put, List.setIfInBounds_toArray, List.set_cons_zero, List.set_cons_succ]
        rfl
      refine pure_ (i := 9) (N := (some 53)) (v := ?_) (a' := ?_) #[true, true, true, true, true, true, true, true, true, true, false, false] rfl rfl (by kernel_rfl) (fun _ _ _ h => h) (Or.inl ⟨by rfl, ?_⟩) ?_ ?_; rotate_left
      · intro w'
        go_simp
        with_reducible rfl
      rotate_left
      · simp only [Act.put, List.setIfInBounds_toArray, List.set_cons_zero, List.set_cons_succ, i64_w, i32_w]
        rfl
      refine pure_ (i := 10) (N := (some 54)) (v := ?_) (a' := ?_) #[true, true, true, true, true, true, true, true, true, true, true, false] rfl rfl (by kernel_rfl) (fun _ _ _ h => h) (Or.inl ⟨by rfl, ?_⟩) ?_ ?_; rotate_left
      · intro w'
        go_simp
        with_reducible rfl
      rotate_left
      · simp only [Act.put, List.setIfInBounds_toArray, List.set_cons_zero, List.set_cons_succ, i64_w, i32_w]
        rfl
      refine last_ (i := 11) (N := none) #[true, true, true, true, true, true, true, true, true, true, true, true] rfl rfl (by kernel_rfl) (by decide) (fun K hK => ?_); have cv7 : w7.cell? ⟨rb, 5, none⟩ = some swv := (Ag hb7 5).trans rfl; have fv7 := Ae hb7 5; refine skip_ (w1 := ?_) (by rfl) rfl ?_ ?_; rotate_left
      · go_simp
        rfl
      refine hK.out _ _ ?_; clear hK K; refine done_ (by kernel_rfl) ?_; have hcut := cut_to (P := Try.prog) 22 58 .i64 Try.underlying22 hi (some ⟨w.heap.size, 0, none⟩) (n + 5) (n + 5) (n : Int) (by omega) (by omega) (by omega); rw [Int.toNat_natCast] at hcut; have ha8 := Kd.Cv ha7 (p := ⟨rb, 5, none⟩) (fun k hk e => by have e2 : k = rb := e; omega) (.slice A3 (L.length + 1) c3); have hr8 := Kd.Cv hr7 (p := ⟨rb, 5, none⟩) (fun k hk e => hk.1 (show k = rb from e)) (.slice A3 (L.length + 1) c3); have hq8 := Kd.Cv hR7 (p := ⟨rb, 5, none⟩) (fun k hk e => hk.1 (show k = rb from e)) (.slice A3 (L.length + 1) c3); have hb8 := Bg hb7 5 (.slice A3 (L.length + 1) c3) rfl; have hB8 := hB7.setCell (p := ⟨rb, 5, none⟩) (Nat.le_refl rb) (.slice A3 (L.length + 1) c3); have hln := HN.out
      have hfin : k58.R 58 (w7.setCell ⟨rb, 5, none⟩ (.slice A3 (L.length + 1) c3)) rb (fun k => k ≠ rb) (.slice (some ⟨w.heap.size, 0, none⟩) n (n + 5)) l := by
        have h := Kd.R_take (m := n) ha8 (by omega); rw [hln, lentR_take, ← hln] at h; exact Kd.Bs h (fun k hk => by omega)
      have HF8 : Aa (∀ j, j < w.heap.size → j ≠ rb → some j ≠ sv.ownBlock → some j ≠ swv.ownBlock → (w7.setCell ⟨rb, 5, none⟩ (.slice A3 (L.length + 1) c3)).heap[j]? = w.heap[j]?) := ⟨fun j hj hk h1 h2 => by
        rw [Below.heap_setCell _ _ _ _ hk, hg7.block j (by omega) h2, hg6.block j (by omega) (by simp [Value.ownBlock]), HF4.out j hj hk h1]⟩
      have HFIN := Aa.mk hfin; have HB8 := Aa.mk hB8; have HRM : Aa (RM (w7.setCell ⟨rb, 5, none⟩ (.slice A3 (L.length + 1) c3)) rb (.slice Av (L.length + 1) cv) (.slice A3 (L.length + 1) c3) (L ++ [lentR l 5])) := ⟨hb8, hr8, hq8⟩; clear ha8 hr8 hq8 hb8 hB8 hfin ha7 hr7 hR7 hb7 hg7 hat7 hB7 HN hln hcr hll hll5 e6 e5 e1 HA4 HB4 HQ4 HR4 HW4 HF4 hB6 hg6 hat6 hb6 hq6 hr6 ha6 hR6
      go_wp2
      go_ret
      exact ⟨_, _, rfl, HFIN.out, ⟨_, _, HRM.out⟩, HB8.out, HF8.out⟩
end BR
end Go.Proofs.Ytobdfiglgdbecaa
end
