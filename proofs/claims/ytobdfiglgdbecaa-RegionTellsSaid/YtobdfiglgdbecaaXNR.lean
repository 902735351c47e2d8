import Derived.Test.YtobdfiglgdbecaaXDI
import Derived.Test.YtobdfiglgdbecaaXPGAx0
import Derived.Shelf.SlicesE.IndexFunc
import Derived.Shelf.Lay
import Derived.Ground.SlgfProg
import Derived.WalkKit
section
set_option linter.unusedVariables false
set_option linter.unusedSimpArgs false
namespace Go.Proofs.Ytobdfiglgdbecaa
namespace RG
def nearB (n : Int) : Bool := decide (-8192 ≤ n) && decide (n ≤ 8192)
def near4 (r : Rc) : Bool := nearB r.1 && nearB r.2.1 && nearB r.2.2.1 && nearB r.2.2.2
def okR (r : Rc) : Bool := !some1 r || near4 r
def rightP (l : List Rc) : Int := if 4096 < l.length then 60 else if l.all okR then 0 else 61
def toldP (l : List Bd) : List Rc × Int := if (flat l).all near4 then (if 4096 < (flat l).length then ([], 60) else (flat l, 0)) else ([], 61)
def twoP (a b : List Rc) (keep : Bool → Bool → Bool) : List Rc × Int := if rightP a = 0 then (if rightP b = 0 then toldP (sweepP a b keep) else ([], rightP b)) else ([], rightP a)
def firstB (a _b : Bool) : Bool := a
def withoutB (a b : Bool) : Bool := a && !b
def unlikeB (a b : Bool) : Bool := a != b
def movedP (a : List Rc) (l t r b : Int) : List Rc := (a.filter some1).map fun q => (q.1 - l, q.2.1 - t, q.2.2.1 + r, q.2.2.2 + b)
def shiftP (a : List Rc) (dx dy : Int) : List Rc × Int :=
  if rightP a = 0 then (if (cutsP a []) = [] then ([], 0) else if (dx ≤ 32768 ∧ -32768 ≤ dx) ∧ (dy ≤ 32768 ∧ -32768 ≤ dy) then toldP (sweepP (movedP a (-dx) (-dy) dx dy) [] firstB) else ([], 61)) else ([], rightP a)
def growP (a : List Rc) (l t r b : Int) : List Rc × Int :=
  if rightP a = 0 then (if [l, t, r, b].all (fun n => decide (0 ≤ n) && decide (n ≤ 16384)) then toldP (sweepP (movedP a l t r b) [] firstB) else ([], 61)) else ([], rightP a)
def noneP (a b : List Rc) (keep : Bool → Bool → Bool) : Bool × Int := if rightP a = 0 then (if rightP b = 0 then ((sweepP a b keep).isEmpty, 0) else (false, rightP b)) else (false, rightP a)
def areaI (l : List Bd) : Int := (l.map fun b => (b.2.2.map fun s => (s.2 - s.1) * (b.2.1 - b.1)).sum).sum
def countP (a : List Rc) : Int × Int := if rightP a = 0 then (areaI (sweepP a [] firstB), 0) else (0, rightP a)
theorem right_le {l : List Rc} (h : rightP l = 0) : l.length ≤ 4096 ∧ ∀ r ∈ l, some1 r = true → near4 r = true := by
  unfold rightP at h
  split at h
  · cases h
  · split at h
    · rename_i c1 c2
      refine ⟨by omega, fun r hr hs => ?_⟩; have := List.all_eq_true.mp c2 r hr; unfold okR at this; rw [hs] at this
      simpa using this
    · cases h
theorem buildP_ends {V : Type} [DecidableEq V] (g : Int → Option V) : ∀ (t : List Int) (out : List (Int × Int × V)), ∀ p ∈ buildP g t out, (p.1 ∈ t ∨ ∃ q ∈ out, p.1 = q.1) ∧ (p.2.1 ∈ t ∨ ∃ q ∈ out, p.2.1 = q.2.1)
  | [], out, p, hp => ⟨.inr ⟨p, hp, rfl⟩, .inr ⟨p, hp, rfl⟩⟩
  | [x], out, p, hp => ⟨.inr ⟨p, hp, rfl⟩, .inr ⟨p, hp, rfl⟩⟩
  | x :: x' :: t, out, p, hp => by
    simp only [buildP] at hp
    have ih := buildP_ends g (x' :: t) _ p hp
    have hst : ∀ q ∈ stepP out x x' (g x), (q.1 = x ∨ ∃ r ∈ out, q.1 = r.1) ∧ (q.2.1 = x' ∨ ∃ r ∈ out, q.2.1 = r.2.1) := fun q hq => by
      cases e : g x with
      | none =>
        rw [e] at hq; exact ⟨.inr ⟨q, hq, rfl⟩, .inr ⟨q, hq, rfl⟩⟩
      | some v =>
        rw [e] at hq; have hq : q ∈ addP out x x' v := hq
        rcases last_split out with rfl | ⟨i, r, rfl⟩
        · simp [addP] at hq
          rw [hq]; exact ⟨.inl rfl, .inl rfl⟩
        · unfold addP at hq
          rw [show (i ++ [r]).getLast? = some r by simp] at hq; dsimp only at hq
          split at hq
          · rw [List.dropLast_concat, List.mem_append, List.mem_singleton] at hq
            rcases hq with hq | rfl
            · exact ⟨.inr ⟨q, by simp [hq], rfl⟩, .inr ⟨q, by simp [hq], rfl⟩⟩
            · exact ⟨.inr ⟨r, by simp, rfl⟩, .inl rfl⟩
          · rw [List.mem_append, List.mem_singleton] at hq
            rcases hq with hq | rfl
            · exact ⟨.inr ⟨q, hq, rfl⟩, .inr ⟨q, hq, rfl⟩⟩
            · exact ⟨.inl rfl, .inl rfl⟩
    refine ⟨?_, ?_⟩
    · rcases ih.1 with h | ⟨q, hq, h⟩
      · exact .inl (List.mem_cons_of_mem _ h)
      · rcases (hst q hq).1 with h2 | ⟨r, hr, h2⟩
        · exact .inl (by rw [h, h2]; exact List.mem_cons_self)
        · exact .inr ⟨r, hr, h.trans h2⟩
    · rcases ih.2 with h | ⟨q, hq, h⟩
      · exact .inl (List.mem_cons_of_mem _ h)
      · rcases (hst q hq).2 with h2 | ⟨r, hr, h2⟩
        · exact .inl (by rw [h, h2]; exact List.mem_cons_of_mem _ List.mem_cons_self)
        · exact .inr ⟨r, hr, h.trans h2⟩
theorem joined_ends {l : List Sp} {s : Sp} {z : Int} (h : z ∈ endsOf (joined l s)) : z ∈ endsOf l ∨ z = s.1 ∨ z = s.2 := by
  rcases last_split l with rfl | ⟨i, p, rfl⟩
  · simp [joined, endsOf] at h
    rcases h with h | h <;> simp [h]
  · unfold joined at h
    rw [show (i ++ [p]).getLast? = some p by simp] at h; dsimp only at h; rw [ends_append, List.mem_append]
    split at h
    · rw [List.dropLast_concat, ends_append, List.mem_append] at h
      rcases h with h | h
      · exact .inl (.inl h)
      · simp [endsOf] at h
        rcases h with h | h
        · exact .inl (.inr (by simp [endsOf, h]))
        · by_cases c : p.2 ≤ s.2
          · exact .inr (.inr (by omega))
          · exact .inl (.inr (by simp [endsOf]; right; omega))
    · rw [ends_append, List.mem_append, ends_append, List.mem_append] at h
      rcases h with (h | h) | h
      · exact .inl (.inl h)
      · exact .inl (.inr h)
      · simp [endsOf] at h
        rcases h with h | h <;> simp [h]
theorem joinAll_ends {l : List Sp} {z : Int} (h : z ∈ endsOf (joinAll l)) : z ∈ endsOf l := by
  have hg : ∀ (l out : List Sp), z ∈ endsOf (l.foldl joined out) → z ∈ endsOf out ∨ z ∈ endsOf l := by
    intro l
    induction l with
    | nil => intro out h; exact .inl h
    | cons s t ih =>
      intro out h; have hs : endsOf (s :: t) = [s.1, s.2] ++ endsOf t := rfl; rw [hs, List.mem_append]
      rcases ih _ h with h | h
      · rcases joined_ends h with h | h | h
        · exact .inl h
        · exact .inr (.inl (by simp [h]))
        · exact .inr (.inl (by simp [h]))
      · exact .inr (.inr h)
  rcases hg l [] h with h | h
  · simp [endsOf] at h
  · exact h
theorem row_ends {l : List Rc} {y z : Int} (h : z ∈ endsOf (rowP l y)) : ∃ r ∈ l, some1 r = true ∧ (z = r.1 ∨ z = r.2.2.1) := by
  have h := joinAll_ends h; unfold endsOf at h; rw [List.mem_flatMap] at h; obtain ⟨s, hs, hz⟩ := h; rw [mem_ssrt] at hs; unfold act at hs; obtain ⟨r, hr, rfl⟩ := List.mem_map.mp hs; obtain ⟨hr, ha⟩ := List.mem_filter.mp hr; unfold acts at ha
  simp only [Bool.and_eq_true] at ha
  simp at hz
  exact ⟨r, hr, ha.1.1, hz⟩
theorem cuts_from {l : List Rc} {z : Int} (h : z ∈ cutsOf l) : ∃ r ∈ l, some1 r = true ∧ (z = r.2.1 ∨ z = r.2.2.2) := by
  unfold cutsOf at h; rw [List.mem_flatMap] at h; obtain ⟨r, hr, hz⟩ := h; obtain ⟨hr, ha⟩ := List.mem_filter.mp hr
  simp at hz
  exact ⟨r, hr, ha, hz⟩
theorem sweep_from {a b : List Rc} {keep : Bool → Bool → Bool} {p : Bd} (hp : p ∈ sweepP a b keep) :
    (p.1 ∈ cutsOf a ∨ p.1 ∈ cutsOf b) ∧ (p.2.1 ∈ cutsOf a ∨ p.2.1 ∈ cutsOf b) ∧ ∀ s ∈ p.2.2, (∃ r, (r ∈ a ∨ r ∈ b) ∧ some1 r = true ∧ (s.1 = r.1 ∨ s.1 = r.2.2.1)) ∧ (∃ r, (r ∈ a ∨ r ∈ b) ∧ some1 r = true ∧ (s.2 = r.1 ∨ s.2 = r.2.2.1)) := by
  have hc : ∀ d, d ∈ cutsP a b → d ∈ cutsOf a ∨ d ∈ cutsOf b := fun d hd => by
    unfold cutsP at hd; rw [mem_dist, List.mem_append] at hd; exact hd
  have he := buildP_ends (rowOf a b keep) (cutsP a b) [] p hp; refine ⟨?_, ?_, ?_⟩
  · rcases he.1 with h | ⟨q, hq, _⟩
    · exact hc _ h
    · simp at hq
  · rcases he.2 with h | ⟨q, hq, _⟩
    · exact hc _ h
    · simp at hq
  · have hv := build_vals (P := fun s => ∀ z ∈ endsOf s, ∃ r, (r ∈ a ∨ r ∈ b) ∧ some1 r = true ∧ (z = r.1 ∨ z = r.2.2.1)) (rowOf a b keep) (fun y v hv => by
      unfold rowOf at hv
      split at hv
      · cases hv
      · obtain rfl := Option.some.inj hv
        intro z hz
        rcases buildS_ends _ _ _ z hz with h | h
        · rw [mem_dist, ends_append, List.mem_append] at h
          rcases h with h | h
          · obtain ⟨r, h1, h2⟩ := row_ends h; exact ⟨r, .inl h1, h2⟩
          · obtain ⟨r, h1, h2⟩ := row_ends h; exact ⟨r, .inr h1, h2⟩
        · simp [endsOf] at h) (cutsP a b) [] (by simp) p hp
    intro s hs; exact ⟨hv s.1 (by unfold endsOf; rw [List.mem_flatMap]; exact ⟨s, hs, by simp⟩), hv s.2 (by unfold endsOf; rw [List.mem_flatMap]; exact ⟨s, hs, by simp⟩)⟩
theorem near4_iff (r : Rc) : near4 r = true ↔ (-8192 ≤ r.1 ∧ r.1 ≤ 8192) ∧ (-8192 ≤ r.2.1 ∧ r.2.1 ≤ 8192) ∧ (-8192 ≤ r.2.2.1 ∧ r.2.2.1 ≤ 8192) ∧ (-8192 ≤ r.2.2.2 ∧ r.2.2.2 ≤ 8192) := by
  unfold near4 nearB
  simp only [Bool.and_eq_true, decide_eq_true_eq]
  omega
theorem flat_near {a b : List Rc} {keep : Bool → Bool → Bool} (ha : ∀ r ∈ a, some1 r = true → near4 r = true) (hb : ∀ r ∈ b, some1 r = true → near4 r = true) : (flat (sweepP a b keep)).all near4 = true := by
  have hn : ∀ r, (r ∈ a ∨ r ∈ b) → some1 r = true → near4 r = true := fun r h hs => h.elim (fun h => ha r h hs) (fun h => hb r h hs)
  have hcc : ∀ z, (z ∈ cutsOf a ∨ z ∈ cutsOf b) → -8192 ≤ z ∧ z ≤ 8192 := fun z hz => by
    obtain ⟨r, h1, h2, h3⟩ : ∃ r, (r ∈ a ∨ r ∈ b) ∧ some1 r = true ∧ (z = r.2.1 ∨ z = r.2.2.2) := by
      rcases hz with h | h
      · obtain ⟨r, h1, h2⟩ := cuts_from h; exact ⟨r, .inl h1, h2⟩
      · obtain ⟨r, h1, h2⟩ := cuts_from h; exact ⟨r, .inr h1, h2⟩
    have := (near4_iff r).mp (hn r h1 h2)
    omega
  rw [List.all_eq_true]; intro q hq; unfold flat at hq; rw [List.mem_flatMap] at hq; obtain ⟨p, hp, hq⟩ := hq; obtain ⟨s, hs, rfl⟩ := List.mem_map.mp hq; obtain ⟨h1, h2, h3⟩ := sweep_from hp; obtain ⟨⟨r1, i1, s1, e1⟩, ⟨r2, i2, s2, e2⟩⟩ := h3 s hs; have n1 := (near4_iff r1).mp (hn r1 i1 s1); have n2 := (near4_iff r2).mp (hn r2 i2 s2); have n3 := hcc _ h1; have n4 := hcc _ h2; rw [near4_iff]; dsimp only
  omega
theorem two_val {a b : List Rc} {keep : Bool → Bool → Bool} (ha : rightP a = 0) (hb : rightP b = 0) : twoP a b keep = if 4096 < (flat (sweepP a b keep)).length then ([], 60) else (flat (sweepP a b keep), 0) := by
  unfold twoP toldP; rw [if_pos ha, if_pos hb, if_pos (flat_near (right_le ha).2 (right_le hb).2)]
end RG
end Go.Proofs.Ytobdfiglgdbecaa
end
section
namespace Go.Proofs
open Go.Shelf
shelf_lay_g SlLaysH.n8 Slgf 8 at Try 44 as Try.lCI
end Go.Proofs
namespace Go.Proofs.Ytobdfiglgdbecaa
open Go Go.RowKit Go.Shelf Go.Lib Go.Proofs.YtobdfiglgdbecaaW.PrintWords Go.Proofs.YtobdfiglgdbecaaW.PrintLast Go.Proofs.YtobdfiglgdbecaaW.PrintMore
set_option linter.unusedVariables false
set_option linter.unusedSimpArgs false
theorem addr_plain {w : World} {ad : Addr} {v : Value} (h : w.cell? ad = some v) : ad = ⟨ad.block, ad.off, none⟩ := by
  obtain ⟨b, o, s⟩ := ad; cases s with
  | none => rfl
  | some x =>
    unfold World.cell? at h
    split at h
    · simp at h
    · cases h
theorem add_none (b o j : Nat) : (⟨b, o, none⟩ : Addr).add j = ⟨b, o + j, none⟩ := by
  unfold Addr.add
  split
  · rename_i h; rw [h]; rfl
  · rfl
theorem ints_cells {w : World} {A : Option Addr} {l : List Int} (h : Kd.C (Kd.int .i64) w A l.length l) : l = [] ∨ ∃ b o, A = some ⟨b, o, none⟩ ∧ ∀ j, j < l.length → w.cell? ⟨b, o + j, none⟩ = some (.int .i64 l[j]!) := by
  have hr := Kd.reads_of_C (d := (0 : Int)) h
  by_cases hl : 0 < l.length
  · obtain ⟨ad, e, hc⟩ := hr.2.2 hl
    have h0 := hc 0 hl
    have hp := addr_plain (ad := ad) (by
      have : ad.add 0 = ad := rfl; rw [← this]; exact h0)
    refine .inr ⟨ad.block, ad.off, by rw [e, ← hp], fun j hj => ?_⟩; have := hc j hj; rw [hp, add_none] at this; rw [this, getElem!_pos l j hj, List.getD_eq_getElem?_getD, List.getElem?_eq_getElem hj]; rfl
  · exact .inl (List.length_eq_zero_iff.mp (by omega))
theorem pred_near (w : World) : PredAt Try.prog 82 #[] (Value.int .i64) (fun n => !RG.nearB n) w := fun W n _ => by
  unfold FnGives
  have e : (!RG.nearB n) = (decide (n < -8192) || decide (8192 < n)) := by
    unfold RG.nearB; rw [Bool.eq_iff_iff]
    simp only [Bool.not_eq_true', Bool.and_eq_false_iff, Bool.or_eq_true, decide_eq_true_eq, decide_eq_false_iff_not]
    omega
  show Calls Try.prog 82 #[.int .i64 n] W fun e w' => e = .returned (.bool (!RG.nearB n)) ∧ ∃ q, w' = W.drewN q
  rw [e]
  by_cases h1 : n < -8192
  · have hb : decide (n < -8192) = true := decide_eq_true h1
    rw [hb]; go_enter Try.func82, Try.ntmps82
    go_wp2
    go_ret
    exact ⟨rfl, 0, rfl⟩
  · have hb : decide (n < -8192) = false := decide_eq_false h1
    rw [hb, Bool.false_or]
    by_cases h2 : 8192 < n
    · have hb2 : decide (8192 < n) = true := decide_eq_true h2
      rw [hb2]; go_enter Try.func82, Try.ntmps82
      go_wp2
      go_ret
      exact ⟨rfl, 0, rfl⟩
    · have hb2 : decide (8192 < n) = false := decide_eq_false h2
      rw [hb2]; go_enter Try.func82, Try.ntmps82
      go_wp2
      go_ret
      exact ⟨rfl, 0, rfl⟩
theorem any_near (l : List Int) : l.any (fun n => !RG.nearB n) = !l.all RG.nearB := by rw [List.not_all_eq_any_not]
def C2.f (l0 : List Int) : Option Bool := some (l0.all RG.nearB)
theorem C2.calls (A0 : Option Addr) (c0 : Nat) (l0 : List Int) (r : Bool) (w : World) (hr0 : Kd.C (Kd.int .i64) w A0 l0.length l0) (hc0 : l0.length ≤ c0) (h : C2.f l0 = some r) :
    Calls Try.prog 70 #[.slice A0 l0.length c0] w fun e w' => e = .returned (.bool r) ∧ Drawn0 w w' := by
  obtain rfl := Option.some.inj h; have hlen := (Kd.reads_of_C (d := (0 : Int)) hr0).2.1
  have hcall : ∀ W, W = w → Calls Try.prog 44 #[.slice A0 l0.length c0, .func (.func 82) #[] #[]] W fun e w' => e = .returned (.bool (!l0.all RG.nearB)) ∧ ∃ q, w' = W.drewN q := fun W hW => by
    subst hW
    rcases ints_cells hr0 with rfl | ⟨b, o, rfl, hc⟩
    · have h0 := AnyE.slices_ContainsFunc_empty (P := Try.prog) (ρ := Try.lCI_ren) { Try.lCI with } A0 c0 (.func (.func 82) #[] #[]) W
      change Calls Try.prog 44 _ _ _ at h0
      exact h0.mono fun e w' ⟨h1, h2⟩ => ⟨h1, 0, h2⟩
    · have eg : ∀ args w, (callFunc 82 args).run Try.prog w = .ok (.enter 82 args) w := fun args w => enters_ Try.func82 (by kernel_rfl) rfl args w
      have hS := AnyE.slices_ContainsFunc Try.lCI (Value.int .i64) (fun n => !RG.nearB n) 82 #[] eg b o l0.length c0 l0 W (pred_near W) (Nat.le_refl _) hlen hc
      change Calls Try.prog 44 _ _ _ at hS
      rw [List.take_length, any_near] at hS; exact hS
  generalize l0.all RG.nearB = b at hcall ⊢; have HC := Aa.mk hcall; clear hcall hr0; cases b with
  | true =>
    go_enter Try.func70, Try.ntmps70
    go_wp2_with (go_at_call 44; refine (HC.out _ rfl).mono ?_; rintro e w' ⟨rfl, ⟨q, rfl⟩⟩)
    go_ret
    exact ⟨rfl, ⟨q, rfl⟩⟩
  | false =>
    go_enter Try.func70, Try.ntmps70
    go_wp2_with (go_at_call 44; refine (HC.out _ rfl).mono ?_; rintro e w' ⟨rfl, ⟨q, rfl⟩⟩)
    go_ret
    exact ⟨rfl, ⟨q, rfl⟩⟩
end Go.Proofs.Ytobdfiglgdbecaa
end
