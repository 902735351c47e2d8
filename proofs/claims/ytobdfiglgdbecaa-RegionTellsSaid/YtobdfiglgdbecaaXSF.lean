import Derived.Test.YtobdfiglgdbecaaXNR
import Derived.Shelf.SlicesQ.IndexFunc
import Derived.Test.YtobdfiglgdbecaaXPGAx0
import Derived.Test.YtobdfiglgdbecaaXPGCx1
import Derived.Test.YtobdfiglgdbecaaXDI
import Derived.Shelf.SlSortCmp.NoneTotal
import Derived.Shelf.Lay
import Derived.Ground.SlsfProg
import Derived.WalkKit
section
namespace Go.Proofs
open Go.Shelf
shelf_lay_g SlLaysH0.n8 Slgf 8 at Try 95 as Try.lCS
end Go.Proofs
namespace Go.Proofs.Ytobdfiglgdbecaa
open Go Go.RowKit Go.Shelf Go.Lib Go.Proofs.YtobdfiglgdbecaaW.PrintWords Go.Proofs.YtobdfiglgdbecaaW.PrintLast Go.Proofs.YtobdfiglgdbecaaW.PrintMore
open PGB
set_option linter.unusedVariables false
set_option linter.unusedSimpArgs false
instance : Inhabited S93 := ⟨z93⟩
def encSp (x : S93) : List Value := [.int .i64 x.f0, .int .i64 x.f1]
theorem cell_lt {w : World} {a : Addr} {v : Value} (h : w.cell? a = some v) : a.block < w.heap.size := by
  unfold World.cell? at h; cases e : w.heap[a.block]? with
  | none => rw [e] at h; cases h
  | some o => exact Cx e
theorem spans_cells {w : World} {A : Option Addr} {l : List S93} (h : Kd.C k93 w A l.length l) : l = [] ∨ ∃ b o, A = some ⟨b, o, none⟩ ∧ b < w.heap.size ∧ ∀ j, j < l.length → ∀ i v, (encSp l[j]!)[i]? = some v → w.cell? ⟨b, o + j * 2 + i, none⟩ = some v := by
  obtain ⟨_, _, hh⟩ := h
  by_cases hl : 0 < l.length
  · obtain ⟨ad, e, hc⟩ := hh hl
    have hcc : ∀ j, j < l.length → ∀ i v, (encSp l[j]!)[i]? = some v → w.cell? (ad.add (j * 2 + i)) = some v := fun j hj i v hv => by
      obtain ⟨c, _, hK, hc2⟩ := hc j l[j] (List.getElem?_eq_getElem hj); have hK := k93_open hK; subst hK; rw [getElem!_pos l j hj] at hv; exact hc2 i v hv
    have h0 := hcc 0 hl 0 (.int .i64 (l[0]!).f0) rfl; have h0' : w.cell? ad = some (.int .i64 (l[0]!).f0) := h0; have hp := addr_plain h0'; refine .inr ⟨ad.block, ad.off, by rw [e, ← hp], cell_lt h0', fun j hj i v hv => ?_⟩; have := hcc j hj i v hv; rw [hp, add_none] at this; rw [Nat.add_assoc]; exact this
  · exact .inl (List.length_eq_zero_iff.mp (by omega))
def inSp (x : Int) (s : S93) : Bool := decide (s.f0 ≤ x) && decide (x < s.f1)
theorem pred_in (x : Int) (B : Nat) (w : World) (hB : B < w.heap.size) (hcell : w.cell? ⟨B, 0, none⟩ = some (.int .i64 x)) :
    PredBelow Try.prog 96 #[.pointer (some ⟨B, 0, none⟩)] (fun s => .agg (encSp s).toArray) (inSp x) w := fun W s hb => by
  have hc : W.cell? ⟨B, 0, none⟩ = some (.int .i64 x) := (hb.cell (p := ⟨B, 0, none⟩) hB).trans hcell; have hBW : B < W.heap.size := Nat.lt_of_lt_of_le hB hb.size; have hne : B ≠ W.heap.size := by omega
  have HB := Aa.mk hb; clear hb hcell; show Calls Try.prog 96 #[.agg #[.int .i64 s.f0, .int .i64 s.f1], .pointer (some ⟨B, 0, none⟩)] W fun e w' => e = .returned (.bool (decide (s.f0 ≤ x) && decide (x < s.f1))) ∧ _
  generalize s.f0 = a; generalize s.f1 = b
  by_cases h1 : a ≤ x
  · have hb1 : decide (a ≤ x) = true := decide_eq_true h1
    rw [hb1, Bool.true_and]
    by_cases h2 : x < b
    · have hb2 : decide (x < b) = true := decide_eq_true h2
      rw [hb2]; go_enter Try.func96, Try.ntmps96
      go_wp2
      go_ret
      exact ⟨rfl, HB.out.alloc HB.out.size _⟩
    · have hb2 : decide (x < b) = false := decide_eq_false h2
      rw [hb2]; go_enter Try.func96, Try.ntmps96
      go_wp2
      go_ret
      exact ⟨rfl, HB.out.alloc HB.out.size _⟩
  · have hb1 : decide (a ≤ x) = false := decide_eq_false h1
    rw [hb1, Bool.false_and]; go_enter Try.func96, Try.ntmps96
    go_wp2
    go_ret
    exact ⟨rfl, HB.out.alloc HB.out.size _⟩
theorem idxS_none (A : Option Addr) (c : Nat) (fv : Value) (w : World) : Calls Try.prog 110 #[.slice A 0 c, fv] w fun e w' => e = .returned (.int .i64 (-1)) ∧ w' = w := by
  go_enter Try.func110, Try.ntmps110
  go_wp2
  go_loop [8] (fun s => s = .int .i64 0) (fun _ => 0)
  case atStart => rfl
  case round =>
    obtain rfl := hrel
    go_wp2
    go_ret
    exact ⟨rfl, rfl⟩
theorem conS_none (A : Option Addr) (c : Nat) (fv : Value) (w : World) : Calls Try.prog 95 #[.slice A 0 c, fv] w fun e w' => e = .returned (.bool false) ∧ w' = w := by
  go_enter Try.func95, Try.ntmps95
  go_wp2_with (go_at_call 110; refine (idxS_none A c fv _).mono ?_; rintro e w' ⟨rfl, rfl⟩)
  go_ret
  exact ⟨rfl, rfl⟩
def C7.f (l0 : List S93) (a1 : Int) : Option Bool := some (l0.any (inSp a1))
theorem C7.calls (A0 : Option Addr) (c0 : Nat) (l0 : List S93) (a1 : Int) (r : Bool) (w : World) (hr0 : Kd.C k93 w A0 l0.length l0) (hc0 : l0.length ≤ c0) (h : C7.f l0 a1 = some r) :
    Calls Try.prog 86 #[.slice A0 l0.length c0, .int .i64 a1] w fun e w' => e = .returned (.bool r) ∧ Below w.heap.size w w' := by
  obtain rfl := Option.some.inj h; have hlen := hr0.2.1
  have hcall : ∀ W, W = w.alloc (.cells #[.int .i64 a1] 3) → Calls Try.prog 95 #[.slice A0 l0.length c0, .func (.func 96) #[] #[.pointer (some ⟨w.heap.size, 0, none⟩)]] W fun e w' => e = .returned (.bool (l0.any (inSp a1))) ∧ Below w.heap.size w w' := fun W hW => by
    subst hW; have hb := (Ad (Below.refl _ w) (.cells #[.int .i64 a1] 3) : Below w.heap.size w _)
    rcases spans_cells hr0 with rfl | ⟨b, o, rfl, hlt, hc⟩
    · exact (conS_none A0 c0 _ _).mono fun e w' ⟨h1, h2⟩ => ⟨h1, by rw [h2]; exact hb⟩
    · have eg : ∀ args w, (callFunc 96 args).run Try.prog w = .ok (.enter 96 args) w := fun args w => enters_ Try.func96 (by kernel_rfl) rfl args w
      have hS := AnyQ.slices_ContainsFunc Try.lCS 2 Try.isAgg93 Try.sizeOf93 encSp (fun _ => rfl) (inSp a1) 96 #[.pointer (some ⟨w.heap.size, 0, none⟩)] eg b o l0.length c0 l0 (w.alloc (.cells #[.int .i64 a1] 3))
        (pred_in a1 w.heap.size _ (by simp) (by simp)) (Nat.le_refl _) hlen (by simp; omega) (fun j hj i v hv => Lib.cell?_alloc_some _ (hc j hj i v hv))
      change Calls Try.prog 95 _ _ _ at hS
      rw [List.take_length] at hS; exact hS.mono fun e w' ⟨h1, h2⟩ => ⟨h1, hb.trans (h2.mono (by simp))⟩
  generalize l0.any (inSp a1) = b at hcall ⊢; have HC := Aa.mk hcall; clear hcall hr0; go_enter Try.func86, Try.ntmps86
  go_wp2_with (go_at_call 95; refine (HC.out _ rfl).mono ?_; rintro e w' ⟨rfl, hb⟩; have HB := Aa.mk hb; clear hb)
  go_ret
  exact ⟨rfl, HB.out⟩
end Go.Proofs.Ytobdfiglgdbecaa
end
section
namespace Go.Proofs
open Go.Shelf
shelf_lay_g SlLaysF0.n6 Slsf 6 at Try 87 as Try.sortSp
end Go.Proofs
namespace Go.Proofs.Ytobdfiglgdbecaa
open Go Go.RowKit Go.Shelf Go.Lib Go.Sort Go.Proofs.YtobdfiglgdbecaaW.PrintWords Go.Proofs.YtobdfiglgdbecaaW.PrintLast Go.Proofs.YtobdfiglgdbecaaW.PrintMore
open PGB PGC
set_option linter.unusedVariables false
set_option linter.unusedSimpArgs false
def cfSp (x y : S93) : Int := if x.f0 < y.f0 then -1 else if y.f0 < x.f0 then 1 else 0
theorem ltSp (x y : S93) : ltOf cfSp x y = decide (x.f0 < y.f0) := by
  unfold ltOf cfSp
  by_cases h1 : x.f0 < y.f0
  · simp [h1]
  · by_cases h2 : y.f0 < x.f0 <;> simp [h1, h2]
theorem swoSp : SWO (ltOf cfSp) where
  irrefl x := by rw [ltSp]; simp
  trans x y z h1 h2 := by rw [ltSp] at *; simp at *; omega
  ntrans x y z h1 h2 := by rw [ltSp] at *; simp at *; omega
theorem cmp_eqI (s t : Int) : cmp_Compare_int.f s t = some (if s < t then -1 else if t < s then 1 else 0) := by
  unfold cmp_Compare_int.f cmp_isNaN_int.f
  simp
  by_cases h1 : s < t
  · simp [h1]
  · by_cases h2 : t < s <;> simp [h1, h2]
set_option maxHeartbeats 1000000 in
theorem closureSp (x y : S93) (W : World) : Calls Try.prog 88 #[.agg #[.int .i64 x.f0, .int .i64 x.f1], .agg #[.int .i64 y.f0, .int .i64 y.f1]] W fun e w' => e = .returned (.int .i64 (cfSp x y)) ∧ ∃ q os', w' = grow (W.drewN q) os' := by
  have hc : cmp_Compare_int.f x.f0 y.f0 = some (cfSp x y) := cmp_eqI _ _; generalize cfSp x y = r at hc ⊢; generalize x.f0 = a at hc ⊢; generalize y.f0 = b at hc ⊢; have HC := Aa.mk hc; clear hc; go_enter Try.func88, Try.ntmps88
  go_wp2_with (go_at_call 89; refine (cmp_Compare_int.calls a b r _ HC.out).mono ?_; rintro e w' ⟨rfl, ⟨nd, rfl⟩⟩)
  go_ret
  exact ⟨rfl, nd, _, by rw [alloc_eq_grow, alloc_eq_grow, grow_grow]; rfl⟩
theorem cmpLaysSp (blk off size : Nat) (w : World) : CmpLays Try.prog 88 #[] encSp 2 cfSp blk off size w := fun _ _ _ _ x y => closureSp x y _
theorem sortS_none (A : Option Addr) (c : Nat) (fv : Value) (w : World) : Calls Try.prog 87 #[.slice A 0 c, fv] w fun e w' => e = .returned (.tuple #[]) ∧ w' = w := by
  have h := AnyF.slices_SortFunc_none (P := Try.prog) (ρ := Try.sortSp_ren) { Try.sortSp with } A c fv w
  change Calls Try.prog 87 _ _ _ at h
  exact h
def srtSp (l : List S93) : List S93 := (pdq (ltOf cfSp) l.toArray 0 l.length (Lib.bitLen l.length) true true).toList
def Dj.f (l0 : List S93) : Option (List S93) := if l0.length < 4611686018427387904 then some (srtSp l0) else none
theorem srt_ok (l : List S93) : (srtSp l).Perm l ∧ (srtSp l).Pairwise (fun p q => p.f0 ≤ q.f0) := by
  have h := pdq_sorts (ltOf cfSp) swoSp l.toArray 0 l.length (Lib.bitLen l.length) true true (Nat.zero_le _) (by simp) (Or.inl rfl); obtain ⟨⟨h1, _, h2⟩, h3⟩ := h; have hs : (pdq (ltOf cfSp) l.toArray 0 l.length (Lib.bitLen l.length) true true).size = l.length := by simpa using h1
  refine ⟨?_, ?_⟩
  · have e1 : ((pdq (ltOf cfSp) l.toArray 0 l.length (Lib.bitLen l.length) true true).extract 0 l.length).toList = srtSp l := by
      have hx : ∀ (D : Array S93) (n : Nat), D.size = n → (D.extract 0 n).toList = D.toList := by rintro D _ rfl; simp
      exact hx _ _ hs
    have e2 : (l.toArray.extract 0 l.length).toList = l := by simp
    rw [e1, e2] at h2; exact h2
  · unfold srtSp
    rw [List.pairwise_iff_getElem]; intro i j hi hj hij; rw [Array.length_toList] at hi hj; have := h3 i j (Nat.zero_le _) hij (by omega); rw [ltSp, getElem!_pos _ j hj, getElem!_pos _ i hi] at this
    simp only [decide_eq_false_iff_not] at this
    simp only [Array.getElem_toList]
    omega
def flatS (l : List S93) : List Value := l.flatMap encSp
theorem flatS_cons (x : S93) (t : List S93) : flatS (x :: t) = encSp x ++ flatS t := rfl
theorem flatS_len : ∀ l : List S93, (flatS l).length = l.length * 2
  | [] => rfl
  | x :: t => by rw [flatS_cons, List.length_append, flatS_len t, List.length_cons]; show 2 + _ = _; omega
theorem reps_flat {w : World} {base : Nat} {ok : Nat → Prop} : ∀ l : List S93, Reps (k93.M w base ok) 2 l (flatS l)
  | [] => Reps.none _ _
  | x :: t => by
    obtain ⟨h1, h2⟩ := reps_flat (w := w) (base := base) (ok := ok) t; refine ⟨flatS_len _, fun j p hp => ?_⟩; cases j with
    | zero =>
      obtain rfl := Option.some.inj hp; exact k93_mkM w base ok x
    | succ j =>
      have := h2 j p hp; rw [flatS_cons, show (j + 1) * 2 = 2 + j * 2 by omega, ← List.drop_drop, List.drop_left' (by rfl)]; exact this
theorem flat_of_reps {w : World} {base : Nat} {ok : Nat → Prop} : ∀ {l : List S93} {cs : List Value}, Reps (k93.M w base ok) 2 l cs → cs = flatS l
  | [], cs, h => List.length_eq_zero_iff.mp (by simpa using h.1)
  | x :: t, cs, h => by
    have h0 := k93_openM (h.2 0 x rfl); have hl := h.1; rw [List.length_cons] at hl
    have ht : Reps (k93.M w base ok) 2 t (cs.drop 2) := ⟨by rw [List.length_drop]; omega, fun j p hp => by
      have := h.2 (j + 1) p hp; rw [show (j + 1) * 2 = 2 + j * 2 by omega, ← List.drop_drop] at this; exact this⟩
    rw [flatS_cons, ← flat_of_reps ht]; rw [Nat.zero_mul, List.drop_zero] at h0; show cs = encSp x ++ cs.drop 2; rw [show encSp x = cs.take 2 from h0.symm, List.take_append_drop]
theorem flatS_get : ∀ (l : List S93) (t : Nat), t < l.length * 2 → (flatS l)[t]! = (encSp l[t / 2]!)[t % 2]!
  | x :: r, 0, _ => rfl
  | x :: r, 1, _ => rfl
  | x :: r, t + 2, h => by
    have ih := flatS_get r t (by simp only [List.length_cons] at h; omega); rw [show (t + 2) / 2 = t / 2 + 1 by omega, show (t + 2) % 2 = t % 2 by omega]; exact ih
theorem flatK_eq (l : List S93) : flatK encSp 2 l.toArray = (flatS l).toArray := by
  apply ext_get!
  · simp [flatK, flatS_len]
  · intro t ht
    have ht' : t < l.length * 2 := by simpa [flatK] using ht
    rw [get_flatK _ _ _ _ (by simpa using ht')]; have := flatS_get l t ht'
    simp only [List.getElem!_toArray] at this ⊢
    exact this.symm
theorem holds2 {w : World} {base g n cap : Nat} {e : TypeId} {xs : List Value} (h : w.ownsRow base e 2 (.slice (some ⟨g, 0, none⟩) n cap) n xs) : Holds id w g 0 xs.toArray := by
  obtain ⟨hl, hh⟩ := h
  rcases hh with ⟨e0, _⟩ | ⟨g', cap', cur, e0, _, hg, hn, _, hs, ht⟩
  · cases e0
  · injection e0 with e1 _ e3
    injection e1 with e1
    injection e1 with e1
    subst e1 e3; intro j hj; have hj' : j < xs.length := by simpa using hj
    refine ⟨?_, by simp [World.frozen?, hg]⟩; have e1 : (cur.toList.take (n * 2))[j]? = xs[j]? := by rw [ht]
    rw [List.getElem?_take, if_pos (by omega), Array.getElem?_toList, List.getElem?_eq_getElem hj'] at e1
    simp only [World.cell?, hg, Nat.zero_add, Option.isSome_none, Bool.false_eq_true, if_false, id]
    rw [e1]
    simp [getElem!_pos, hj']
theorem own2_put {w : World} {base g n cap q : Nat} {e : TypeId} {xs ys : List Value} (h : w.ownsRow base e 2 (.slice (some ⟨g, 0, none⟩) n cap) n xs) (hy : ys.length = n * 2) :
    (putRow id (Sort.ahead w q) g 0 ys.toArray).ownsRow base e 2 (.slice (some ⟨g, 0, none⟩) n cap) n ys := by
  obtain ⟨hl, hh⟩ := h
  rcases hh with ⟨e0, _⟩ | ⟨g', cap', cur, e0, hb, hg, hn, hm, hs, ht⟩
  · cases e0
  · injection e0 with e1 _ e3
    injection e1 with e1
    injection e1 with e1
    subst e1 e3; refine ⟨hy, .inr ⟨g, cap, putCells id 0 ys.toArray cur, rfl, hb, ?_, hn, hm, by simpa [putCells] using hs, ?_⟩⟩
    · simp [putRow, mapBlock, Sort.ahead, Array.getElem?_modify, hg, onCells]
    · apply List.ext_getElem?
      intro j; rw [List.getElem?_take, Array.getElem?_toList]
      by_cases hj : j < n * 2
      · have hjc : j < cur.size := by omega
        simp only [if_pos hj, putCells, Array.getElem?_mapIdx, Array.getElem?_eq_getElem hjc, Option.map_some]
        rw [if_pos (by simp; omega), List.getElem?_eq_getElem (by omega)]
        simp [getElem!_pos, show j < ys.length by omega]
      · rw [if_neg hj, List.getElem?_eq_none (by omega)]
theorem size_putV (w : World) (q g : Nat) (d : Array Value) : (putRow id (Sort.ahead w q) g 0 d).heap.size = w.heap.size := by simp [putRow, mapBlock, Sort.ahead]
theorem heap_putV (w : World) (q g : Nat) (d : Array Value) (k : Nat) (hk : k ≠ g) : (putRow id (Sort.ahead w q) g 0 d).heap[k]? = w.heap[k]? := by
  simp [putRow, mapBlock, Sort.ahead, Array.getElem?_modify, show g ≠ k from fun e => hk e.symm]
set_option maxHeartbeats 1000000 in
theorem Dj.calls (P0_ : Nat → Prop) (u9000_ : Value) (l0 : List S93) (r : List S93) (w0 w : World) (hB : Below w0.heap.size w0 w) (ho0 : Kd.R k93 93 w w0.heap.size P0_ u9000_ l0) (h : Dj.f l0 = some r) :
    Calls Try.prog 87 #[u9000_, .func (.func 88) #[] #[]] w fun e w' => e = .returned (.tuple #[]) ∧ Kd.R k93 93 w' w0.heap.size (fun k_ => (P0_ k_ ∨ w.heap.size ≤ k_)) u9000_ r ∧ Below w0.heap.size w0 w' ∧ Kept w w' (fun k_ => P0_ k_) := by
  unfold Dj.f at h
  split at h
  rotate_left
  · cases h
  rename_i hlen
  obtain rfl := Option.some.inj h; have hperm := (srt_ok l0).1
  by_cases hl : l0 = []
  · subst hl
    obtain ⟨A, c, rfl⟩ := Kd.Bk ho0; have e0 : srtSp [] = [] := List.Perm.eq_nil hperm; rw [e0]; exact (sortS_none A c _ w).mono fun e w' ⟨h1, h2⟩ => ⟨h1, by rw [h2]; exact Kd.Bs ho0 (fun k hk => .inl hk), by rw [h2]; exact hB, by rw [h2]; exact Kept.refl _ _⟩
  · obtain ⟨hP0, inner, hown, hreps⟩ := ho0
    obtain rfl := flat_of_reps hreps
    obtain ⟨g, cap, rfl, hbg, hg⟩ : ∃ g cap, u9000_ = .slice (some ⟨g, 0, none⟩) l0.length cap ∧ w0.heap.size ≤ g ∧ g < w.heap.size := by
      rcases hown.2 with ⟨_, h0⟩ | ⟨g, cap, cur, h1, h2, h3, _⟩
      · exact absurd (List.length_eq_zero_iff.mp h0) hl
      · exact ⟨g, cap, h1, h2, Cx h3⟩
    have hP : P0_ g := hP0 g rfl
    have hH : HoldsK encSp 2 w g 0 l0.toArray := by
      unfold HoldsK; rw [flatK_eq]; exact holds2 hown
    have eg : ∀ args w, (callFunc 88 args).run Try.prog w = .ok (.enter 88 args) w := fun args w => enters_ Try.func88 (by kernel_rfl) rfl args w
    have hS := AnyQ.slices_SortFunc_eq Try.sortSp 2 Try.isAgg93 Try.sizeOf93 encSp (fun _ => rfl) (fun x v hv => by simp [encSp] at hv; rcases hv with rfl | rfl <;> rfl) cfSp swoSp 88 #[] g 0 cap l0.toArray w eg (cmpLaysSp g 0 l0.toArray.size w) hH hg (by simpa using hlen)
    change Calls Try.prog 87 _ _ _ at hS
    rw [List.size_toArray] at hS; refine hS.mono fun e w' ⟨h1, n, os, h2⟩ => ⟨h1, ?_⟩
    have e2 : w' = grow (putRow id (Sort.ahead w n) g 0 (flatS (srtSp l0)).toArray) os := by
      rw [h2]; unfold sortWorldK putRowK; rw [← flatK_eq]; rfl
    have hlen2 : (srtSp l0).length = l0.length := hperm.length_eq; have o1 := own_grow (own2_put (q := n) (ys := flatS (srtSp l0)) hown (by rw [flatS_len, hlen2])) os; rw [e2]; refine ⟨⟨fun k hk => .inl (hP0 k hk), flatS (srtSp l0), by rw [hlen2]; exact o1, reps_flat _⟩, ?_, ?_, fun i hi hn => ?_⟩
    · exact below_grow (below_putRow (enc := id) hB hbg) (by rw [size_putV]; exact hB.size) os
    · simp [grow, size_putV]
    · have hig : i ≠ g := fun e => hn (e ▸ hP)
      rw [grow_heap _ _ _ (by rw [size_putV]; exact hi), heap_putV _ _ _ _ _ hig]
end Go.Proofs.Ytobdfiglgdbecaa
end
