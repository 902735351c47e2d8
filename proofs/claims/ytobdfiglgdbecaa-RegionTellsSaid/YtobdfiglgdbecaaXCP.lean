import Derived.Test.YtobdfiglgdbecaaXPGAx0
import Derived.Laws.IdiomCopy
open Go Go.RowKit Go.Proofs.YtobdfiglgdbecaaW.PrintWords Go.Proofs.YtobdfiglgdbecaaW.PrintLast Go.Proofs.YtobdfiglgdbecaaW.PrintMore
set_option linter.unusedVariables false
set_option linter.unusedSimpArgs false
namespace Go.Proofs.Ytobdfiglgdbecaa
def shl (xs : List Int) (i : Nat) : List Int := xs.take (i + 1) ++ (xs.drop i).take (xs.length - (i + 1))
theorem shl_len (xs : List Int) (i : Nat) (h : i < xs.length) : (shl xs i).length = xs.length := by
  unfold shl; rw [List.length_append, List.length_take, List.length_take, List.length_drop]
  omega
open Kd in
theorem copy_down {P : Program} {w : World} {base e g n cap : Nat} {ok : Nat → Prop} {xs : List Int} (HO : (Kd.int .i64).R e w base ok (.slice (some ⟨g, 0, none⟩) n cap) xs) (i : Nat) (hi : i < n) (t ty : TypeId) (ht : P.underlying t = some (.slice e)) (hinfo : (P.info? e).map (·.size) = some 1)
    (A : Option Addr) (c c2 : Nat) (hA : i + 1 < n → A = some ⟨g, i + 1, none⟩) :
    ∃ w1, (Builtin.copy_ #[t, t] ty #[.slice A (n - (i + 1)) c, .slice (some ⟨g, i, none⟩) (n - i) c2]).run P w = .ok (goInt ((n - (i + 1) : Nat) : Int)) w1 ∧
      (Kd.int .i64).R e w1 base ok (.slice (some ⟨g, 0, none⟩) n cap) (shl xs i) ∧ w.grownBy w1 (some g) := by
  have hrd := Kd.Ax HO; obtain ⟨rfl, _⟩ := hrd
  by_cases hlt : i + 1 < xs.length
  · obtain rfl := hA hlt
    have hown := own_of_R HO
    rcases hown.2 with ⟨h0, _⟩ | ⟨g', cap', cur, hv, hb, hh, hnc, hcm, hcs, htake⟩
    · cases h0
    · obtain ⟨rfl, rfl⟩ : g' = g ∧ cap' = cap := by
        injection hv with h1 h2 h3
        injection h1 with h1
        injection h1 with h1
        exact ⟨h1.symm, h3.symm⟩
      have htk : cur.toList.take xs.length = encs (Value.int .i64) xs := by rw [← htake, Nat.mul_one]
      have hcs1 : cur.size = cap' := by omega
      have hl : (encs (Value.int .i64) ((xs.drop i).take (xs.length - (i + 1)))).length = xs.length - (i + 1) := by
        rw [encs_length, List.length_take, List.length_drop]; omega
      have hsrc : ∀ j v, (encs (Value.int .i64) ((xs.drop i).take (xs.length - (i + 1))))[j]? = some v → w.cell? ((⟨g', i, none⟩ : Addr).add j) = some v := by
        intro j v hv
        have hj : j < xs.length - (i + 1) := by
          rcases Nat.lt_or_ge j (xs.length - (i + 1)) with h | h
          · exact h
          · rw [List.getElem?_eq_none (by omega)] at hv; cases hv
        rw [show (⟨g', i, none⟩ : Addr).add j = ⟨g', i + j, none⟩ by unfold Addr.add; split <;> simp_all, cell_of_row w g' _ cur e (0, 0) hh]
        have h1 : cur.toList[i + j]? = (encs (Value.int .i64) xs)[i + j]? := by
          rw [← htk, List.getElem?_take, if_pos (by omega)]
        rw [← Array.getElem?_toList, h1, ← hv]
        simp only [encs, List.getElem?_map, List.getElem?_take, List.getElem?_drop]
        rw [if_pos hj]
      have hr := run_copy_cells (P := P) w t t ty e g' (i + 1) (xs.length - (i + 1)) c ⟨g', i, none⟩ (xs.length - i) c2 _ ht hinfo (by rw [hl]; exact (Nat.min_eq_right (by omega)).symm) hsrc
        (fun j hj => by rw [cell_of_row w g' _ cur e (0, 0) hh]; simp; omega) (fun j _ => Ae hh _) (by intro u hu; simp only [encs, List.mem_map] at hu; obtain ⟨q, _, rfl⟩ := hu; rfl)
      obtain ⟨cur', h3, h4, h5⟩ := setCells_row (encs (Value.int .i64) ((xs.drop i).take (xs.length - (i + 1)))) (i + 1) w cur hh (by rw [hl]; omega); obtain ⟨s1, s2, s3, s4⟩ := setCells_same g' (encs (Value.int .i64) ((xs.drop i).take (xs.length - (i + 1)))) (i + 1) w; have hln := shl_len xs i (by omega); refine ⟨_, by rw [hr, hl], ?_, ⟨s1, s2, s3, by rw [s4]; exact Nat.le_refl _, fun k _ hk => setCells_far _ _ k (fun he => hk (by rw [he]))⟩⟩; rw [← hln]; refine Kd.R_of_own ?_ (by rw [hln]; exact HO.1); rw [hln]; refine ⟨by rw [encs_length, hln, Nat.mul_one], .inr ⟨g', cap', cur', rfl, hb, h3, hnc, hcm, by rw [h4, hcs], ?_⟩⟩; rw [h5, hl, Nat.mul_one]; unfold shl; rw [encs_append]
      have e1 : cur.toList.take (i + 1) = encs (Value.int .i64) (xs.take (i + 1)) := by
        have : (cur.toList.take xs.length).take (i + 1) = (encs (Value.int .i64) xs).take (i + 1) := by rw [htk]
        rw [List.take_take, Nat.min_eq_left (by omega)] at this; rw [this]; simp [encs, List.map_take]
      have la : (encs (Value.int .i64) (xs.take (i + 1))).length = i + 1 := by rw [encs_length, List.length_take]; omega
      rw [e1, List.append_assoc, List.take_append, la, List.take_of_length_le (l := encs (Value.int .i64) (xs.take (i + 1))) (by rw [la]; omega)]; rw [List.take_append, hl, show xs.length - (i + 1) - (xs.length - (i + 1)) = 0 by omega, List.take_zero, List.append_nil]; rw [List.take_of_length_le (l := encs (Value.int .i64) ((xs.drop i).take (xs.length - (i + 1)))) (by rw [hl]; omega)]
  · have e0 : xs.length - (i + 1) = 0 := by omega
    refine ⟨w, ?_, ?_, World.grownBy.refl w _⟩
    · rw [e0]; exact run_copy_none w t t ty e A _ 0 c _ c2 ht hinfo (Nat.min_zero _)
    · unfold shl
      rw [e0, List.take_zero, List.append_nil, List.take_of_length_le (by omega)]; exact HO
theorem slice_on {P : Program} (t e : TypeId) {i : TypeInfo} (ht : P.underlying t = some (.slice e)) (hi : P.info? e = some i) (hs : i.size = 1) (g n c : Nat) (j : Int) (m : Nat) (hj : j = (m : Int)) (hm : m ≤ n) (W : World) :
    (Instr.slice t (.slice (some ⟨g, 0, none⟩) n c) (some (.int .i64 j)) none none).run P W = .ok (.slice (if c = m then some ⟨g, 0, none⟩ else some ⟨g, m, none⟩) (n - m) (c - m)) W := by
  subst hj; have hel : P.elem t = e := by simp [Program.elem, ht]
  have hu : P.underlying t = some (.slice (P.elem t)) := by rw [hel]; exact ht
  rw [run_slice_l W t (some ⟨g, 0, none⟩) n c hu .i64 (m : Int) (by omega) (by omega), hel]; have e1 : (⟨g, 0, none⟩ : Addr).add m = ⟨g, m, none⟩ := by unfold Addr.add; split <;> simp_all
  simp [sizeOf, typeInfo, hi, sliced, Result.andThen, hs, e1]
end Go.Proofs.Ytobdfiglgdbecaa

