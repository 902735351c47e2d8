import Derived.Test.YthpmkelcjlljmaaXRT6
open Go Go.RowKit Go.Proofs.YthpmkelcjlljmaaW.PrintWords Go.Proofs.YthpmkelcjlljmaaW.PrintLast Go.Proofs.YthpmkelcjlljmaaW.PrintMore
set_option linter.unusedVariables false
set_option linter.unusedSimpArgs false
namespace Go.Proofs.Ythpmkelcjlljmaa
open PRA PRB PRK
namespace RT
def u32B (s : Int) : Bool := decide (0 ≤ s) && decide (s < 4294967296)
theorem u32B_iff (s : Int) : u32B s = true ↔ u32 s := by unfold u32B u32; rw [Bool.and_eq_true, decide_eq_true_iff, decide_eq_true_iff]
theorem u32B_wf {s : Int} (h : (Lit.int .u32 s).wf = true) : u32B s = true := by
  have := u32_all (l := [s]) (fun x hx => by rw [List.mem_singleton] at hx; subst hx; exact h) s (List.mem_singleton.mpr rfl)
  exact (u32B_iff s).mpr this
def turned.f (k : Nat) (a b : Int) (l : List Int) (bk m n q lo hi dr : Int) : Option Bool := if (l.all u32B && u32B lo && u32B hi) = true then some true else none
theorem turned_ok (a b : Int) (l : List Int) (bk m n q lo hi dr : Int) (_ : (Lit.int .i64 a).wf = true) (_ : (Lit.int .i64 b).wf = true) (hw : ∀ x ∈ l, (Lit.int .u32 x).wf = true) (_ : (Lit.int .i64 bk).wf = true) (_ : (Lit.int .i64 m).wf = true) (_ : (Lit.int .i64 n).wf = true) (_ : (Lit.int .i64 q).wf = true)
    (h1 : (Lit.int .u32 lo).wf = true) (h2 : (Lit.int .u32 hi).wf = true) (_ : (Lit.int .i64 dr).wf = true) : ∃ k, turned.f k a b l bk m n q lo hi dr = some true := by
  refine ⟨0, ?_⟩
  unfold turned.f
  rw [if_pos]
  rw [Bool.and_eq_true, Bool.and_eq_true, List.all_eq_true]
  exact ⟨⟨fun x hx => u32B_wf (hw x hx), u32B_wf h1⟩, u32B_wf h2⟩
theorem turned.calls (k : Nat) (a b : Int) (A0 : Option Addr) (c0 : Nat) (l : List Int) (bk m n q lo hi dr : Int) (r : Bool) (w : World) (hr0 : Kd.C (Kd.int .u32) w A0 l.length l) (hc0 : l.length ≤ c0) (h : turned.f k a b l bk m n q lo hi dr = some r) :
    Calls Try.prog 8 #[.agg #[.int .i64 a, .int .i64 b, .slice A0 l.length c0], .int .i64 bk, .int .i64 m, .int .i64 n, .int .i64 q, .int .u32 lo, .int .u32 hi, .int .i64 dr] w fun e w' => e = .returned (.bool r) ∧ Below w.heap.size w w' := by
  unfold turned.f at h
  by_cases hb : (l.all u32B && u32B lo && u32B hi) = true
  case neg => rw [if_neg hb] at h; cases h
  rw [if_pos hb] at h
  obtain rfl := Option.some.inj h
  clear h
  rw [Bool.and_eq_true, Bool.and_eq_true, List.all_eq_true] at hb
  obtain ⟨⟨h1, h2⟩, h3⟩ := hb
  have hu : U32 l := fun s hs => (u32B_iff s).mp (h1 s hs)
  have hlo := (u32B_iff lo).mp h2
  have hhi := (u32B_iff hi).mp h3
  obtain ⟨bb, hs, hsm⟩ : ∃ bb, B2.f a b l = some bb ∧ (bb = true → l.length ≤ 2000) := by
    unfold B2.f
    by_cases c1 : (l.length : Int) ≤ 2000
    · by_cases c2 : a ≤ 4000
      · exact ⟨_, by rw [if_pos c1, if_pos c2], fun _ => by omega⟩
      · exact ⟨false, by rw [if_pos c1, if_neg c2], fun h => by cases h⟩
    · exact ⟨false, by rw [if_neg c1], fun h => by cases h⟩
  cases bb
  · exact turned_small a b bk m n q lo hi dr A0 c0 l w hr0 hc0 hs
  · rcases plane_split a b l bk m n q hu (hsm rfl) with ⟨e, he, hp⟩ | ⟨W, H, m', n', q', g, hq1, hq⟩
    · exact turned_bad 10000 a b bk m n q lo hi dr e A0 c0 l w hr0 hc0 hs he (hp 10000 (Nat.le_refl _))
    · have e1 := g.a
      have e2 := g.b
      have e3 := g.w
      have e4 := g.h
      subst e1 e2 e3 e4 hq1
      exact turned_good W H m' n' q' bk lo hi dr A0 c0 l w hr0 hc0 g hq hu hlo hhi hs
end RT
end Go.Proofs.Ythpmkelcjlljmaa

