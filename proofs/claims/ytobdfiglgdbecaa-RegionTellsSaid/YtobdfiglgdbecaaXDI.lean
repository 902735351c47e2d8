import Derived.Test.YtobdfiglgdbecaaXM2
import Derived.Test.YtobdfiglgdbecaaXPGAx0
import Derived.Shelf.SortM.Plain
import Derived.Shelf.SortM.SortNone
import Derived.Shelf.SlicesE.Compact
import Derived.Shelf.SlicesE.Kit
import Derived.Shelf.SlicesE.Equal
import Derived.Shelf.Lay
import Derived.Ground.SlgmProg
import Derived.Ground.SlgnProg
import Derived.Lib.OwnBridge
import Derived.WalkKit
section
set_option linter.unusedVariables false
set_option linter.unusedSimpArgs false
namespace Go.Proofs.Ytobdfiglgdbecaa
namespace RG
theorem joined_len (l : List Sp) (s : Sp) : (joined l s).length ≤ l.length + 1 := by
  rcases last_split l with rfl | ⟨i, p, rfl⟩
  · exact Nat.le_refl _
  · unfold joined
    rw [show (i ++ [p]).getLast? = some p by simp]; dsimp only
    split <;> simp
theorem joinAll_len (l : List Sp) : (joinAll l).length ≤ l.length := by
  have h : ∀ (l out : List Sp), (l.foldl joined out).length ≤ out.length + l.length := by
    intro l
    induction l with
    | nil => intro out; simp
    | cons s t ih => intro out; rw [List.foldl_cons]; have := ih (joined out s); have := joined_len out s; simp only [List.length_cons]; omega
  have := h l []
  simpa [joinAll] using this
theorem sins_len (s : Sp) : ∀ l : List Sp, (sins s l).length = l.length + 1
  | [] => rfl
  | p :: t => by
    simp only [sins]
    split
    · rfl
    · simp [sins_len s t]
theorem ssrt_len (l : List Sp) : (ssrt l).length = l.length := by
  unfold ssrt
  induction l with
  | nil => rfl
  | cons s t ih => rw [List.foldr_cons, sins_len, ih]; rfl
theorem row_len (l : List Rc) (y : Int) : (rowP l y).length ≤ (act l y).length := by
  have := joinAll_len (ssrt (act l y)); rw [ssrt_len] at this; exact this
theorem ends_len (s : List Sp) : (endsOf s).length = 2 * s.length := by
  unfold endsOf
  induction s with
  | nil => rfl
  | cons p t ih => rw [List.flatMap_cons, List.length_append, ih]; simp; omega
theorem snf_ends : ∀ s : List Sp, SNF s → Rise (endsOf s)
  | [], _ => trivial
  | [p], h => ⟨h, trivial⟩
  | p :: q :: t, h => by
    have h1 : p.1 < p.2 := h.1; have h2 : p.2 ≤ q.1 := h.2.1; have h3 : p.2 ≠ q.1 := fun e => h.2.2.1 e rfl
    have h4 := snf_ends (q :: t) h.2.2.2; exact ⟨h1, by show p.2 < q.1; omega, h4⟩
theorem rise_nodup : ∀ a : List Int, Rise a → a.Nodup
  | [], _ => List.nodup_nil
  | x :: t, h => List.nodup_cons.mpr ⟨fun hx => by have := h.lt x hx; omega, rise_nodup t h.tail⟩
theorem nodup_sub : ∀ (a b : List Int), a.Nodup → (∀ z ∈ a, z ∈ b) → a.length ≤ b.length
  | [], b, _, _ => Nat.zero_le _
  | x :: t, b, h, hs => by
    obtain ⟨h1, h2⟩ := List.nodup_cons.mp h; have hx := hs x List.mem_cons_self; have := nodup_sub t (b.erase x) h2 (fun z hz => (List.mem_erase_of_ne (fun e : z = x => h1 (by rw [← e]; exact hz))).mpr (hs z (List.mem_cons_of_mem _ hz))); rw [List.length_erase_of_mem hx] at this; have := List.length_pos_of_mem hx
    simp only [List.length_cons]
    omega
theorem ins_len (x : Int) : ∀ l : List Int, (ins x l).length ≤ l.length + 1
  | [] => Nat.le_refl _
  | y :: t => by
    simp only [ins]
    split
    · exact Nat.le_refl _
    · split
      · exact Nat.le_succ _
      · have := ins_len x t
        simp only [List.length_cons]; omega
theorem dist_len (l : List Int) : (dist l).length ≤ l.length := by
  unfold dist
  induction l with
  | nil => exact Nat.le_refl _
  | cons x t ih => rw [List.foldr_cons]; have := ins_len x (t.foldr ins []); simp only [List.length_cons]; omega
theorem ends_append (a b : List Sp) : endsOf (a ++ b) = endsOf a ++ endsOf b := by unfold endsOf; rw [List.flatMap_append]
theorem addS_ends (out : List Sp) (x x' z : Int) (h : z ∈ endsOf (addS out x x')) : z = x ∨ z = x' ∨ z ∈ endsOf out := by
  rcases last_split out with rfl | ⟨i, p, rfl⟩
  · simp [addS, endsOf] at h
    rcases h with h | h <;> simp [h]
  · unfold addS at h
    rw [show (i ++ [p]).getLast? = some p by simp] at h; dsimp only at h
    split at h
    · rw [List.dropLast_concat, ends_append, List.mem_append] at h
      rw [ends_append, List.mem_append]
      rcases h with h | h
      · exact .inr (.inr (.inl h))
      · simp [endsOf] at h
        rcases h with h | h
        · exact .inr (.inr (.inr (by simp [endsOf, h])))
        · exact .inr (.inl h)
    · rw [ends_append, List.mem_append] at h
      rcases h with h | h
      · exact .inr (.inr h)
      · simp [endsOf] at h
        rcases h with h | h <;> simp [h]
theorem buildS_ends (k : Int → Bool) : ∀ (t : List Int) (out : List Sp) (z : Int), z ∈ endsOf (buildS k t out) → z ∈ t ∨ z ∈ endsOf out
  | [], out, z, h => .inr h
  | [x], out, z, h => .inr h
  | x :: x' :: t, out, z, h => by
    simp only [buildS] at h
    rcases buildS_ends k (x' :: t) _ z h with h | h
    · exact .inl (List.mem_cons_of_mem _ h)
    · split at h
      · rcases addS_ends out x x' z h with h | h | h
        · exact .inl (h ▸ List.mem_cons_self)
        · exact .inl (h ▸ List.mem_cons_of_mem _ List.mem_cons_self)
        · exact .inr h
      · exact .inr h
theorem merge_len (a b : List Sp) (keep : Bool → Bool → Bool) (hk : keep false false = false) : (mergeP a b keep).length ≤ a.length + b.length := by
  have h1 := nodup_sub _ (dist (endsOf (a ++ b))) (rise_nodup _ (snf_ends _ (merge_ok a b keep hk).1)) (fun z hz => by
    rcases buildS_ends _ _ _ z hz with h | h
    · exact h
    · simp [endsOf] at h)
  have h2 := dist_len (endsOf (a ++ b)); rw [ends_len] at h1 h2; rw [List.length_append] at h2
  omega
def rects (l : List Bd) : Nat := (l.map fun b => b.2.2.length).sum
theorem rects_append (a b : List Bd) : rects (a ++ b) = rects a + rects b := by unfold rects; rw [List.map_append, List.sum_append]
theorem rise_pairwise : ∀ a : List Int, Rise a → a.Pairwise (· < ·)
  | [], _ => List.Pairwise.nil
  | x :: t, h => List.pairwise_cons.mpr ⟨h.lt, rise_pairwise t h.tail⟩
def sumN (f : Int → Nat) (lo : Int) : Nat → Nat
  | 0 => 0
  | n + 1 => sumN f lo n + f (lo + n)
theorem sumN_add (f g : Int → Nat) (lo : Int) : ∀ n, sumN (fun x => f x + g x) lo n = sumN f lo n + sumN g lo n
  | 0 => rfl
  | n + 1 => by simp only [sumN]; rw [sumN_add f g lo n]; omega
theorem sumN_zero (lo : Int) : ∀ n, sumN (fun _ => 0) lo n = 0
  | 0 => rfl
  | n + 1 => by simp only [sumN]; rw [sumN_zero lo n]
theorem sumN_mul (f : Int → Nat) (k : Nat) (lo : Int) : ∀ n, sumN (fun x => f x * k) lo n = sumN f lo n * k
  | 0 => by simp [sumN]
  | n + 1 => by simp only [sumN]; rw [sumN_mul f k lo n, Nat.add_mul]
theorem sumN_le {f : Int → Nat} {k : Nat} {lo : Int} (h : ∀ x, f x ≤ k) : ∀ n, sumN f lo n ≤ n * k
  | 0 => by simp [sumN]
  | n + 1 => by simp only [sumN]; rw [Nat.add_mul]; have := sumN_le (lo := lo) h n; have := h (lo + n); omega
def ivl (p q x : Int) : Nat := if p ≤ x ∧ x < q then 1 else 0
theorem sumN_ivl (p q lo : Int) : ∀ n : Nat, sumN (ivl p q) lo n = (min q (lo + n) - max p lo).toNat
  | 0 => by simp only [sumN]; omega
  | n + 1 => by
    simp only [sumN]
    rw [sumN_ivl p q lo n]; unfold ivl
    split <;> omega
theorem sumN_in {p q lo : Int} {n : Nat} (h1 : lo ≤ p) (h2 : q ≤ lo + n) : sumN (ivl p q) lo n = (q - p).toNat := by
  rw [sumN_ivl]; omega
def spl (s : List Sp) : Nat := (s.map fun p => (p.2 - p.1).toNat).sum
def ind (b : Bool) : Nat := if b = true then 1 else 0
theorem scov_head {p : Sp} {t : List Sp} (h : SNF (p :: t)) (x : Int) : ind (scov (p :: t) x) = ivl p.1 p.2 x + ind (scov t x) := by
  rw [scov_cons]; unfold ivl
  by_cases c : p.1 ≤ x ∧ x < p.2
  · have h0 : pval (up t) x = none := pval_tail_low (p := (p.1, p.2, ())) h c.2
    rw [pval_up] at h0
    have : scov t x = false := by
      cases e : scov t x with
      | false => rfl
      | true => rw [e] at h0; simp at h0
    rw [if_pos c, this]
    simp [c.1, c.2, ind]
  · rw [if_neg c]
    have : (decide (p.1 ≤ x) && decide (x < p.2)) = false := by
      rw [Bool.and_eq_false_iff]; simp; omega
    rw [this, Bool.false_or, Nat.zero_add]
theorem sum_scov (lo : Int) (n : Nat) : ∀ s : List Sp, SNF s → (∀ p ∈ s, lo ≤ p.1 ∧ p.2 ≤ lo + n) → sumN (fun x => ind (scov s x)) lo n = spl s
  | [], _, _ => sumN_zero lo n
  | p :: t, h, hr => by
    have hp := hr p List.mem_cons_self; rw [show (fun x => ind (scov (p :: t) x)) = fun x => ivl p.1 p.2 x + ind (scov t x) from funext (scov_head h), sumN_add, sumN_in hp.1 hp.2, sum_scov lo n t h.tail (fun q hq => hr q (List.mem_cons_of_mem _ hq))]; rfl
def areaB (l : List Bd) : Nat := (l.map fun b => (b.2.1 - b.1).toNat * spl b.2.2).sum
def cnt (c : Int → Int → Bool) (lo : Int) (n : Nat) : Nat := sumN (fun y => sumN (fun x => ind (c x y)) lo n) lo n
theorem area_cnt (lo : Int) (n : Nat) : ∀ l : List Bd, BNF l → (∀ b ∈ l, lo ≤ b.1 ∧ b.2.1 ≤ lo + n ∧ ∀ p ∈ b.2.2, lo ≤ p.1 ∧ p.2 ≤ lo + n) → cnt (bcov l) lo n = areaB l
  | [], _, _ => by
    unfold cnt; have : (fun y => sumN (fun x => ind (bcov [] x y)) lo n) = fun _ => 0 := funext fun y => sumN_zero lo n
    rw [this]; exact sumN_zero lo n
  | b :: t, h, hr => by
    have hb := hr b List.mem_cons_self
    have hrow : ∀ y, sumN (fun x => ind (bcov (b :: t) x y)) lo n = ivl b.1 b.2.1 y * spl b.2.2 + sumN (fun x => ind (bcov t x y)) lo n := fun y => by
      by_cases c : b.1 ≤ y ∧ y < b.2.1
      · have e1 : ∀ x, bcov (b :: t) x y = scov b.2.2 x := fun x => by unfold bcov; rw [pval_head h.p c.1 c.2]
        have e2 : ∀ x, bcov t x y = false := fun x => by unfold bcov; rw [pval_tail_low h.p c.2]
        unfold ivl; rw [if_pos c, Nat.one_mul]
        simp only [e1, e2]
        rw [sum_scov lo n b.2.2 (h.s b List.mem_cons_self).1 hb.2.2]; show _ = _ + sumN (fun _ => 0) lo n; rw [sumN_zero]; rfl
      · have e1 : ∀ x, bcov (b :: t) x y = bcov t x y := fun x => by
          unfold bcov; rw [show pval (b :: t) y = pval t y from by simp only [pval]; rw [if_neg c]]
        unfold ivl; rw [if_neg c, Nat.zero_mul, Nat.zero_add]
        simp only [e1]
    unfold cnt; rw [show (fun y => sumN (fun x => ind (bcov (b :: t) x y)) lo n) = fun y => ivl b.1 b.2.1 y * spl b.2.2 + sumN (fun x => ind (bcov t x y)) lo n from funext hrow, sumN_add, sumN_mul, sumN_in hb.1 hb.2.1]; have ih := area_cnt lo n t ⟨h.p.tail, fun q hq => h.s q (List.mem_cons_of_mem _ hq)⟩ (fun q hq => hr q (List.mem_cons_of_mem _ hq)); unfold cnt at ih; rw [ih]; rfl
theorem cnt_le (c : Int → Int → Bool) (lo : Int) (n : Nat) : cnt c lo n ≤ n * n :=
  sumN_le (fun y => by have := sumN_le (f := fun x => ind (c x y)) (k := 1) (lo := lo) (fun x => by unfold ind; split <;> omega) n; omega) n
end RG
end Go.Proofs.Ytobdfiglgdbecaa
end
section
namespace Go.Proofs
open Go.Shelf
shelf_lay_g SlLaysM.n5 Slgm 5 at Try 83 as Try.sortI
shelf_lay_g SlLaysE.n43 Slgn 43 at Try 84 as Try.compI
end Go.Proofs
namespace Go.Proofs.Ytobdfiglgdbecaa
open Go Go.RowKit Go.Shelf Go.Lib Go.Sort Go.Proofs.YtobdfiglgdbecaaW.PrintWords Go.Proofs.YtobdfiglgdbecaaW.PrintLast Go.Proofs.YtobdfiglgdbecaaW.PrintMore
open PGB
set_option linter.unusedVariables false
set_option linter.unusedSimpArgs false
theorem rise_of : ∀ a : List Int, a.Pairwise (· < ·) → RG.Rise a
  | [], _ => trivial
  | x :: t, h => RG.rise_cons.mpr ⟨rise_of t (List.pairwise_cons.mp h).2, (List.pairwise_cons.mp h).1⟩
theorem comp_mem (d : Array Int) (z : Int) : z ∈ compactUpTo d d.size ↔ z ∈ d.toList := by
  unfold compactUpTo; rw [List.mem_map]
  constructor
  · rintro ⟨j, hj, rfl⟩
    have hj := List.mem_range.mp (List.mem_filter.mp hj).1; rw [getElem!_pos d j hj]; exact Array.mem_toList_iff.mpr (Array.getElem_mem hj)
  · intro hz
    obtain ⟨j, hj, rfl⟩ := Array.getElem_of_mem (Array.mem_toList_iff.mp hz)
    have hk : ∀ j, j < d.size → ∃ i, i ∈ (List.range d.size).filter (keeps d) ∧ d[i]! = d[j]! := by
      intro j
      induction j using Nat.strongRecOn with
      | _ j ih =>
        intro hj
        by_cases hk : keeps d j = true
        · exact ⟨j, List.mem_filter.mpr ⟨List.mem_range.mpr hj, hk⟩, rfl⟩
        · unfold keeps at hk
          simp only [decide_eq_true_eq, not_or, Decidable.not_not, ne_eq] at hk
          obtain ⟨i, hi, e⟩ := ih (j - 1) (by omega) (by omega); exact ⟨i, hi, e.trans hk.2.symm⟩
    obtain ⟨i, hi, e⟩ := hk j hj; exact ⟨i, hi, by rw [e, getElem!_pos d j hj]⟩
theorem comp_rise (d : Array Int) (hs : ∀ i j, i ≤ j → j < d.size → d[i]! ≤ d[j]!) : RG.Rise (compactUpTo d d.size) := by
  refine rise_of _ ?_; unfold compactUpTo; rw [List.pairwise_map]; refine List.Pairwise.imp_of_mem (fun {i j} hi hj hij => ?_) (List.Pairwise.filter _ (List.pairwise_lt_range (n := d.size))); have h1 := List.mem_range.mp (List.mem_filter.mp hj).1; have h2 := (List.mem_filter.mp hj).2; unfold keeps at h2
  simp only [decide_eq_true_eq, ne_eq] at h2
  have h3 := hs i (j - 1) (by omega) (by omega); have h4 := hs (j - 1) j (by omega) h1
  rcases h2 with h2 | h2
  · omega
  · have : d[j - 1]! ≠ d[j]! := fun e => h2 e.symm
    omega
theorem sort_dist (l : List Int) : compactUpTo (l.mergeSort fun x y => decide (x ≤ y)).toArray (l.mergeSort fun x y => decide (x ≤ y)).toArray.size = RG.dist l := by
  have hp : (l.mergeSort fun x y => decide (x ≤ y)).Pairwise (fun x y => x ≤ y) := by
    have h := List.pairwise_mergeSort (le := fun x y : Int => decide (x ≤ y)) (fun a b c h1 h2 => by simp at *; omega) (fun a b => by simp; omega) l; exact h.imp (fun h => by simpa using h)
  refine RG.rise_unique _ _ (comp_rise _ (fun i j hij hj => ?_)) (RG.dist_rise l) (fun z => ?_)
  · rcases Nat.lt_or_ge i j with h | h
    · have hj' : j < (l.mergeSort fun x y => decide (x ≤ y)).length := by simpa using hj
      have := List.pairwise_iff_getElem.mp hp i j (by omega) hj' h; rw [getElem!_pos _ i (by simpa using (by omega : i < (l.mergeSort fun x y => decide (x ≤ y)).length)), getElem!_pos _ j hj]
      simpa using this
    · have : i = j := by omega
      subst this; exact Int.le_refl _
  · rw [comp_mem, RG.mem_dist]
    simp
theorem grow_heap (w : World) (os : Array Obj) (k : Nat) (hk : k < w.heap.size) : (grow w os).heap[k]? = w.heap[k]? := by
  simp [grow, Array.getElem?_append, hk]
theorem own_grow {w : World} {base : Nat} {e : TypeId} {size n : Nat} {v : Value} {xs : List Value} (h : w.ownsRow base e size v n xs) (os : Array Obj) : (grow w os).ownsRow base e size v n xs :=
  own_move h (fun k hk => by
    obtain ⟨cells, hc⟩ := own_typed h k hk; exact grow_heap w os k (Cx hc))
theorem below_grow {B : Nat} {w0 w : World} (h : Below B w0 w) (hB : B ≤ w.heap.size) (os : Array Obj) : Below B w0 (grow w os) :=
  ⟨h.os, h.tape, h.output, by have := h.size; simp [grow]; omega, fun k hk => by rw [grow_heap w os k (by omega)]; exact h.block k hk⟩
theorem size_putR (enc : Int → Value) (w : World) (q g : Nat) (d : Array Int) : (putRow enc (Sort.ahead w q) g 0 d).heap.size = w.heap.size := by simp [putRow, mapBlock, Sort.ahead]
theorem heap_putR (enc : Int → Value) (w : World) (q g : Nat) (d : Array Int) (k : Nat) (hk : k ≠ g) : (putRow enc (Sort.ahead w q) g 0 d).heap[k]? = w.heap[k]? := by
  simp [putRow, mapBlock, Sort.ahead, Array.getElem?_modify, show g ≠ k from fun e => hk e.symm]
theorem comp_none (A : Option Addr) (c : Nat) (w : World) : Calls Try.prog 84 #[.slice A 0 c] w fun e w' => e = .returned (.slice A 0 c) ∧ w' = w := by
  go_enter Try.func84, Try.ntmps84
  go_wp2
  go_ret
  exact ⟨rfl, rfl⟩
theorem dist_none (A : Option Addr) (c : Nat) (w : World) : Calls Try.prog 71 #[.slice A 0 c] w fun e w' => e = .returned (.slice A 0 c) ∧ w' = w := by
  have hS := fun W => AnyM.slices_Sort_int_none (P := Try.prog) (ρ := Try.sortI_ren) { Try.sortI with } A c W
  change ∀ W, Calls Try.prog 83 _ _ _ at hS
  go_enter Try.func71, Try.ntmps71
  go_wp2_with (first | (go_at_call 83; refine (hS _).mono ?_; rintro e w' ⟨rfl, rfl⟩) | (go_at_call 84; refine (comp_none A c _).mono ?_; rintro e w' ⟨rfl, rfl⟩))
  go_ret
  exact ⟨rfl, rfl⟩
def C0.f (l0 : List Int) : Option (List Int) := if l0.length < 4611686018427387904 then some (RG.dist l0) else none
set_option maxHeartbeats 1000000 in
theorem C0.calls (P0_ : Nat → Prop) (u9000_ : Value) (l0 : List Int) (r : List Int) (w0 w : World) (hB : Below w0.heap.size w0 w) (ho0 : Kd.R (Kd.int .i64) 3 w w0.heap.size P0_ u9000_ l0) (h : C0.f l0 = some r) :
    Calls Try.prog 71 #[u9000_] w fun e w' => ∃ v0_ : Value, e = .returned (v0_) ∧ Kd.R (Kd.int .i64) 3 w' w0.heap.size (fun k_ => (P0_ k_ ∨ w.heap.size ≤ k_)) v0_ r ∧ Below w0.heap.size w0 w' ∧ Kept w w' (fun k_ => P0_ k_) := by
  unfold C0.f at h
  split at h
  rotate_left
  · cases h
  rename_i hlen
  obtain rfl := Option.some.inj h
  by_cases hl : l0 = []
  · subst hl
    obtain ⟨A, c, rfl⟩ := Kd.Bk ho0; exact (dist_none A c w).mono fun e w' ⟨h1, h2⟩ => ⟨_, h1, by rw [h2]; exact Kd.Bs ho0 (fun k hk => .inl hk), by rw [h2]; exact hB, by rw [h2]; exact Kept.refl _ _⟩
  · have hown := Kd.own_of_R (enc := Value.int .i64) ho0
    have hne : u9000_ ≠ .slice none 0 0 := fun e => by
      rcases hown.2 with ⟨_, h0⟩ | ⟨g, cap, cur, h1, _⟩
      · exact hl (List.length_eq_zero_iff.mp h0)
      · rw [e] at h1; cases h1
    obtain ⟨g, cap, rfl, hbg, hg, hnc, hcm, _, hH⟩ := holds_of_ownsRow (zs := l0) hown hne; have hP : P0_ g := ho0.1 g rfl; obtain ⟨S, hS⟩ : ∃ S, S = l0.mergeSort fun x y => decide (x ≤ y) := ⟨_, rfl⟩
    have hSl : S.length = l0.length := by rw [hS, List.length_mergeSort]
    have h1 := AnyM.slices_Sort_int Try.sortI g 0 cap l0 w hH hg hlen
    change Calls Try.prog 83 _ _ _ at h1
    rw [← hS] at h1; have hsd : compactUpTo S.toArray S.toArray.size = RG.dist l0 := by rw [hS]; exact sort_dist l0
    have hcl : (RG.dist l0).length ≤ l0.length := RG.dist_len l0
    have hk : ∀ n os, Calls Try.prog 84 #[.slice (some ⟨g, 0, none⟩) l0.length cap] (grow (putRow (Value.int .i64) (Sort.ahead w n) g 0 S.toArray) os) fun e w' => e = .returned (.slice (some ⟨g, 0, none⟩) (RG.dist l0).length cap) ∧
        ∃ q, w' = putRow (Value.int .i64) (Sort.ahead (grow (putRow (Value.int .i64) (Sort.ahead w n) g 0 S.toArray) os) q) g 0 (RG.dist l0 ++ List.replicate (l0.length - (RG.dist l0).length) 0).toArray := fun n os => by
      have o1 := own_grow (ownsRow_putRow (q := n) (ys := S) hown hSl (Nat.le_refl _)) os; rw [List.take_of_length_le (by omega)] at o1; obtain ⟨g', cap', e1, _, _, _, _, _, hH1⟩ := holds_of_ownsRow (zs := S) o1 (by simp); injection e1 with e1 _ e3
      injection e1 with e1
      injection e1 with e1
      subst e1 e3; have h2 := AnyE.slices_Compact Try.compI (Value.int .i64) (fun _ => rfl) (EqlAt.intD _ _ _) (NeqAt.intD _ _ _) 0 Try.zeroValue3 g 0 cap S.toArray (grow (putRow (Value.int .i64) (Sort.ahead w n) g 0 S.toArray) os) hH1 (by simp; omega) (by simp; omega)
      change Calls Try.prog 84 _ _ _ at h2
      rw [hsd, List.size_toArray, hSl] at h2; exact h2
    have HK := Aa.mk hk; have HS1 := Aa.mk h1; have HO := Aa.mk hown; have HBb := Aa.mk hB; have HCL := Aa.mk hcl; have HSL := Aa.mk hSl; clear hk h1 hown hB hcl hSl hsd hS hH ho0 hlen; go_enter Try.func71, Try.ntmps71
    go_wp2_with (first | (go_at_call 83; refine HS1.out.mono ?_; rintro e w' ⟨rfl, n, os, rfl⟩) | (go_at_call 84; refine (HK.out n os).mono ?_; rintro e w' ⟨rfl, q, rfl⟩))
    go_ret
    have o1 := own_grow (ownsRow_putRow (q := n) (ys := S) HO.out HSL.out (Nat.le_refl _)) os; rw [List.take_of_length_le (by have := HSL.out; omega)] at o1; have o2 := ownsRow_putRow (q := q) (zs := S) (ys := RG.dist l0 ++ List.replicate (l0.length - (RG.dist l0).length) 0) o1 (by have := HCL.out; simp; omega) HCL.out; rw [List.take_left] at o2; refine ⟨_, rfl, Kd.R_of_own (enc := Value.int .i64) o2 (fun k hk => ?_), ?_, ?_⟩
    · have : g = k := by simpa [Value.ownBlock] using hk
      exact .inl (this ▸ hP)
    · have hb1 := below_putRow (enc := Value.int .i64) (q := n) (d := S.toArray) HBb.out hbg
      have hb2 := below_grow hb1 (by rw [size_putR]; exact HBb.out.size) os; exact below_putRow (enc := Value.int .i64) hb2 hbg
    · refine ⟨?_, fun i hi hn => ?_⟩
      · rw [size_putR]; simp [grow, size_putR]
      · have hig : i ≠ g := fun e => hn (e ▸ hP)
        rw [heap_putR _ _ _ _ _ _ hig, grow_heap _ _ _ (by rw [size_putR]; exact hi), heap_putR _ _ _ _ _ _ hig]
end Go.Proofs.Ytobdfiglgdbecaa
end
