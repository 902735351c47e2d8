import Derived.Test.YtbfimplajocmmaaXH1
import Derived.Test.YtbfimplajocmmaaXPFAx2
open Go Go.RowKit Go.Proofs.YtbfimplajocmmaaW.PrintWords Go.Proofs.YtbfimplajocmmaaW.PrintLast Go.Proofs.YtbfimplajocmmaaW.PrintMore
attribute [local go_sem ↓] Go.wp_at_zero Go.wp_at_succ
set_option linter.unusedVariables false
set_option linter.unusedSimpArgs false
namespace Go.Proofs.Ytbfimplajocmmaa
open PFA
def Full (v : Value) : Prop := ∀ A n c, v = .slice A n c → c = n
theorem full_nil : Full (.slice none 0 0) := fun A n c e => by injection e with _ e1 e2; omega
theorem R_bools {w : World} {base g : Nat} {ok : Nat → Prop} (l : List Bool) (h : w.heap[g]? = some (.cells (bools l).toArray 4 (0, 0))) (hb : base ≤ g) (hm : l.length ≤ 9223372036854775807) (hok : ok g) : Kd.bool.R 4 w base ok (.slice (some ⟨g, 0, none⟩) l.length l.length) l := by
  refine Kd.Dq (enc := Value.bool) ⟨by simp [encs], .inr ⟨g, l.length, (bools l).toArray, rfl, hb, h, Nat.le_refl _, hm, by simp [bools], ?_⟩⟩ (fun k hk => ?_)
  · simp only [Nat.mul_one, List.toList_toArray]
    exact List.take_of_length_le (by simp [bools])
  · have : g = k := by simpa [Value.ownBlock] using hk
    exact this ▸ hok
theorem info4e : (Try.prog.info? 4).map (fun i => (i.zero, i.size, i.bytes)) = some (some (.bool false), 1, 1) := by kernel_rfl
set_option maxRecDepth 100000 in
set_option maxHeartbeats 4000000 in
theorem fill_empty_full (a0 a1 r1 r2 : Int) (r3 : List Bool) (w : World) (h : Cz.f a0 a1 = some (r1, r2, r3)) :
    Calls Try.prog 45 #[.int .i64 a0, .int .i64 a1] w fun e w' => ∃ v2_ : Value, e = .returned (.agg #[.int .i64 r1, .int .i64 r2, v2_]) ∧ Kd.R Kd.bool 4 w' w.heap.size (fun _ => True) v2_ r3 ∧ Below w.heap.size w w' ∧ Full v2_ := by
  unfold Cz.f at h; obtain ⟨m, hm⟩ : ∃ m, m = wrap64 (a0 * a1) := ⟨_, rfl⟩; rw [← hm] at h
  by_cases c1 : 0 ≤ m
  · rw [if_pos c1] at h
    by_cases c2 : m.toNat ≤ 281474976710656
    · rw [if_pos c2] at h
      simp only [Option.some.injEq, Prod.mk.injEq] at h
      obtain ⟨rfl, rfl, rfl⟩ := h; obtain ⟨n, rfl⟩ := Int.eq_ofNat_of_zero_le c1; obtain ⟨i0, hi, hz0, hz1, hz2⟩ := info_parts info4e; have hwm : IntKind.i64.wrap (a0 * a1) = (n : Int) := by rw [i64_w]; exact hm.symm
      have hn : n ≤ 281474976710656 := by simpa using c2
      have hmk : ∀ W0 : World, (Instr.makeSlice 25 (.int .i64 (n : Int)) (.int .i64 (n : Int))).run Try.prog W0 = .ok (.slice (some ⟨W0.heap.size, 0, none⟩) n n) (W0.alloc (.cells (bools (List.replicate n false)).toArray 4)) := by
        intro W0; have h := run_make (P := Try.prog) W0 25 4 i0 _ Try.underlying25 hi hz0 .i64 .i64 (n : Int) (n : Int) (by omega) (by omega) (by rw [hz2]; omega) (by omega); rw [hz1, Nat.mul_one] at h
        have e : madeCells (Value.bool false).cells ((n : Int).toNat) = (bools (List.replicate n false)).toArray := by
          rw [Int.toNat_natCast]
          apply Array.toList_inj.mp
          apply List.ext_getElem
          · simp [madeCells, bools, Value.cells]
          · intro i h1 h2
            simp [madeCells, bools, Value.cells, Nat.mod_one]
        rw [e, Int.toNat_natCast] at h; exact h
      have HM := Ae.mk hm; clear hm c1 c2 hz0 hz1 hz2; go_enter Try.func45, Try.ntmps45
      go_wp2
      refine bodyPost_ret (results_cell_row rfl _ _ w.heap.size 27 #[.int .i64 a0, .int .i64 a1, .slice (some ⟨w.heap.size + 1, 0, none⟩) n n] (0, 0) _ rfl (An (Cr _ _) _) Try.underlying27 rfl (by kernel_rfl)) rfl ?_; refine ⟨_, rfl, ?_, Ah (Ah (Below.refl _ _) _) _, fun A m c e => by injection e with _ e1 e2; rw [← e1, ← e2]⟩; have h := R_bools (w := (w.alloc (.cells #[.int .i64 a0, .int .i64 a1, .slice (some ⟨w.heap.size + 1, 0, none⟩) n n] 27)).alloc (.cells (bools (List.replicate n false)).toArray 4)) (base := w.heap.size) (g := w.heap.size + 1) (ok := fun _ => True) (List.replicate n false) (Go.Proofs.Ytbfimplajocmmaa.H.bnew _ (by simp)) (by omega) (by simp; omega) trivial; rw [List.length_replicate] at h
      simpa using h
    · rw [if_neg c2] at h
      cases h
  · rw [if_neg c1] at h
    cases h
end Go.Proofs.Ytbfimplajocmmaa

