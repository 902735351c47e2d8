import Derived.Test.YtobdfiglgdbecaaXPGAx0
import Derived.Deep.DrawnRows
import Derived.Test.YtobdfiglgdbecaaXR9
section
open Go Go.RowKit Go.Proofs.YtobdfiglgdbecaaW.PrintWords Go.Proofs.YtobdfiglgdbecaaW.PrintLast Go.Proofs.YtobdfiglgdbecaaW.PrintMore
attribute [local go_sem ↓] Go.wp_at_zero Go.wp_at_succ
set_option linter.unusedVariables false
set_option linter.unusedSimpArgs false
namespace Go.Proofs.Ytobdfiglgdbecaa
open PGA PGB
namespace HS
def inR (r : S58) (x y : Int) : Bool := decide (r.f0 ≤ x) && decide (x < r.f2) && decide (r.f1 ≤ y) && decide (y < r.f3)
set_option maxRecDepth 100000 in
set_option maxHeartbeats 4000000 in
theorem one_calls (w : World) (gx gy : Nat) (x y : Int) (r : S58) (hx : w.cell? ⟨gx, 0, none⟩ = some (.int .i64 x)) (hy : w.cell? ⟨gy, 0, none⟩ = some (.int .i64 y)) :
    Calls Try.prog 69 #[.agg #[.int .i64 r.f0, .int .i64 r.f1, .int .i64 r.f2, .int .i64 r.f3], .pointer (some ⟨gx, 0, none⟩), .pointer (some ⟨gy, 0, none⟩)] w fun e w' => e = .returned (.bool (inR r x y)) ∧ Below w.heap.size w w' := by
  have hx' : ∀ o, (w.alloc o).cell? ⟨gx, 0, none⟩ = some (.int .i64 x) := fun o => (World.cell?_alloc_lt _ _ _ (World.block_lt_of_cell? _ _ hx)).trans hx
  have hy' : ∀ o, (w.alloc o).cell? ⟨gy, 0, none⟩ = some (.int .i64 y) := fun o => (World.cell?_alloc_lt _ _ _ (World.block_lt_of_cell? _ _ hy)).trans hy
  obtain ⟨w1, hw1⟩ : ∃ w1, w.alloc (.cells #[.int .i64 r.f0, .int .i64 r.f1, .int .i64 r.f2, .int .i64 r.f3] 58) = w1 := ⟨_, rfl⟩; have n0 : w1.cell? ⟨w.heap.size, 0, none⟩ = some (.int .i64 r.f0) := by rw [← hw1]; exact (Ag (Dt _ _) 0).trans rfl
  have n1 : w1.cell? ⟨w.heap.size, 1, none⟩ = some (.int .i64 r.f1) := by rw [← hw1]; exact (Ag (Dt _ _) 1).trans rfl
  have n2 : w1.cell? ⟨w.heap.size, 2, none⟩ = some (.int .i64 r.f2) := by rw [← hw1]; exact (Ag (Dt _ _) 2).trans rfl
  have n3 : w1.cell? ⟨w.heap.size, 3, none⟩ = some (.int .i64 r.f3) := by rw [← hw1]; exact (Ag (Dt _ _) 3).trans rfl
  have hx1 : w1.cell? ⟨gx, 0, none⟩ = some (.int .i64 x) := by rw [← hw1]; exact hx' _
  have hy1 : w1.cell? ⟨gy, 0, none⟩ = some (.int .i64 y) := by rw [← hw1]; exact hy' _
  have hb : Aa (Below w.heap.size w w1) := ⟨by rw [← hw1]; exact Ad (Below.refl _ _) _⟩; have HW := Aa.mk hw1; clear hx hy hx' hy'; go_enter Try.func69, Try.ntmps69
  go_upto_region 1 with fail
  clear hw1
  by_cases a1 : r.f0 ≤ x <;> by_cases a2 : x < r.f2 <;> by_cases a3 : r.f1 ≤ y <;> by_cases a4 : y < r.f3
  all_goals go_wp2
  all_goals go_ret
  all_goals exact ⟨by simp [inR, a1, a2, a3, a4], hb.out⟩
set_option maxRecDepth 100000 in
set_option maxHeartbeats 4000000 in
theorem idx_calls (w : World) (gx gy : Nat) (x y : Int) (A : Option Addr) (c : Nat) (l : List S58) (hC : k58.C w A l.length l) (hx : w.cell? ⟨gx, 0, none⟩ = some (.int .i64 x)) (hy : w.cell? ⟨gy, 0, none⟩ = some (.int .i64 y)) :
    Calls Try.prog 81 #[.slice A l.length c, .func (.func 69) #[] #[.pointer (some ⟨gx, 0, none⟩), .pointer (some ⟨gy, 0, none⟩)]] w fun e w' => (∃ n : Int, e = .returned (.int .i64 n) ∧ (decide (n ≥ 0)) = l.any (fun r => inR r x y)) ∧ Below w.heap.size w w' := by
  have HC := Aa.mk hC; clear hC; go_enter Try.func81, Try.ntmps81
  go_wp2
  go_loopw [5, 8] (fun _ v wr => ∃ j : Nat, j ≤ l.length ∧ v = .int .i64 (j : Int) ∧ Aa (Below w.heap.size w wr ∧ (l.take j).any (fun r => inR r x y) = false)) (fun _ v _ => l.length - (intOf v).toNat)
  case atStart => exact ⟨0, Nat.zero_le _, by simp, ⟨Below.refl _ _, rfl⟩⟩
  case round =>
    obtain ⟨j, hj, rfl, hs⟩ := hrel
    by_cases hlt : j < l.length
    · obtain ⟨ad, rfl, k0, k1, k2, k3⟩ := at_T58 HC.out (j : Int) (by omega) (by omega)
      have HB := Aa.mk hs.out.1; have HA := Aa.mk hs.out.2; clear hs; have hlt2 := HB.out; have q0 : wr.cell? (ad.add (j * 4)) = some (.int .i64 (rd_T58 l (j : Int)).f0) := by rw [Int.toNat_natCast] at k0; exact C9 HB.out k0
      rw [Int.toNat_natCast] at k1 k2 k3; have q1 := C9 HB.out k1; have q2 := C9 HB.out k2; have q3 := C9 HB.out k3; clear k0 k1 k2 k3 hlt2; have hx9 : wr.cell? ⟨gx, 0, none⟩ = some (.int .i64 x) := C9 HB.out hx; have hy9 : wr.cell? ⟨gy, 0, none⟩ = some (.int .i64 y) := C9 HB.out hy; obtain ⟨bb, hbv⟩ : ∃ bb, inR (rd_T58 l (j : Int)) x y = bb := ⟨_, rfl⟩; have hone := one_calls wr gx gy x y (rd_T58 l (j : Int)) hx9 hy9; rw [hbv] at hone; have HONE := Aa.mk hone; have HBV := Aa.mk hbv; have hrd : rd_T58 l (j : Int) = l[j] := by unfold rd_T58; rw [Int.toNat_natCast, List.getD_eq_getElem?_getD, List.getElem?_eq_getElem hlt]; rfl
      have HRD := Aa.mk hrd; clear hone hbv hx9 hy9 hrd hx hy; have hlm := HC.out.2.1; cases bb
      · go_wp2_with (go_at_call 69; refine HONE.out.mono ?_; rintro e w1 ⟨rfl, hb1⟩; have HB1 := Aa.mk hb1; clear hb1)
        go_roundw
        case rel =>
          refine ⟨j + 1, by omega, by go_num, ⟨HB.out.trans (HB1.out.mono HB.out.size), ?_⟩⟩; rw [List.take_succ_eq_append_getElem hlt, List.any_append, HA.out, Bool.false_or, List.any_cons, ← HRD.out, HBV.out]; rfl
        case measure => simp [intOf]; omega
      · go_wp2_with (go_at_call 69; refine HONE.out.mono ?_; rintro e w1 ⟨rfl, hb1⟩; have HB1 := Aa.mk hb1; clear hb1)
        go_ret
        refine ⟨⟨(j : Int), rfl, ?_⟩, HB.out.trans (HB1.out.mono HB.out.size)⟩; rw [decide_eq_true (by omega)]; exact (List.any_eq_true.mpr ⟨l[j], List.getElem_mem hlt, by rw [← HRD.out]; exact HBV.out⟩).symm
    · obtain rfl : j = l.length := by omega
      have HB := Aa.mk hs.out.1; have HA := Aa.mk hs.out.2; clear hs hx hy
      go_wp2
      go_ret
      refine ⟨⟨-1, rfl, ?_⟩, HB.out⟩; have h := HA.out; rw [List.take_length] at h; rw [h]; rfl
def Has.f (l : List S58) (x y : Int) : Bool := l.any fun r => inR r x y
set_option maxRecDepth 100000 in
set_option maxHeartbeats 4000000 in
theorem contains_calls (w : World) (gx gy : Nat) (x y : Int) (A : Option Addr) (c : Nat) (l : List S58) (hC : k58.C w A l.length l) (hx : w.cell? ⟨gx, 0, none⟩ = some (.int .i64 x)) (hy : w.cell? ⟨gy, 0, none⟩ = some (.int .i64 y)) :
    Calls Try.prog 68 #[.slice A l.length c, .func (.func 69) #[] #[.pointer (some ⟨gx, 0, none⟩), .pointer (some ⟨gy, 0, none⟩)]] w fun e w' => e = .returned (.bool (Has.f l x y)) ∧ Below w.heap.size w w' := by
  have h := idx_calls w gx gy x y A c l hC hx hy; have HI := Aa.mk h; clear h hx hy hC; go_enter Try.func68, Try.ntmps68
  go_wp2_with (go_at_call 81; refine HI.out.mono ?_; rintro e w1 ⟨⟨n, rfl, hn1⟩, hb1⟩; have HN := Aa.mk hn1; have HB1 := Aa.mk hb1; clear hn1 hb1)
  go_ret
  exact ⟨by rw [Has.f, ← HN.out]; first | rfl | (simp; done), HB1.out⟩
set_option maxRecDepth 100000 in
set_option maxHeartbeats 4000000 in
theorem Has_calls (w : World) (A : Option Addr) (c : Nat) (l : List S58) (x y : Int) (hC : k58.C w A l.length l) :
    Calls Try.prog 41 #[.slice A l.length c, .int .i64 x, .int .i64 y] w fun e w' => e = .returned (.bool (Has.f l x y)) ∧ Below w.heap.size w w' := by
  have HC := Aa.mk hC; clear hC; go_enter Try.func41, Try.ntmps41
  go_upto_region 1 with fail
  obtain ⟨w2, hw2⟩ : ∃ w2, (w.alloc (.cells #[.int .i64 x] 3)).alloc (.cells #[.int .i64 y] 3) = w2 := ⟨_, rfl⟩; rw [hw2]; have hb2 : Below w.heap.size w w2 := by rw [← hw2]; exact Ad (Ad (Below.refl _ _) _) _
  have b1 : (w.alloc (.cells #[.int .i64 x] 3)).cell? ⟨w.heap.size, 0, none⟩ = some (.int .i64 x) := (Ag (Dt _ _) 0).trans rfl; have c1 : w2.cell? ⟨w.heap.size, 0, none⟩ = some (.int .i64 x) := by rw [← hw2]; exact (World.cell?_alloc_lt _ _ _ (World.block_lt_of_cell? _ _ b1)).trans b1
  have c2 : w2.cell? ⟨(w.alloc (.cells #[.int .i64 x] 3)).heap.size, 0, none⟩ = some (.int .i64 y) := by rw [← hw2]; exact (Ag (Dt _ _) 0).trans rfl
  have hh := contains_calls w2 _ _ x y A c l (Kd.Cs HC.out hb2) c1 c2; have HH := Aa.mk hh; have HB := Aa.mk hb2; clear hw2 hb2 b1 c1 c2 hh
  go_wp2_with (go_at_call 68; refine (by simpa using HH.out : Calls _ _ _ _ _).mono ?_; rintro e w3 ⟨rfl, hb3⟩; have HB3 := Aa.mk hb3; clear hb3)
  go_ret
  exact ⟨rfl, HB.out.trans (HB3.out.mono HB.out.size)⟩
end HS
end Go.Proofs.Ytobdfiglgdbecaa
end
section
set_option linter.unusedVariables false
set_option linter.unusedSimpArgs false
open Go Go.RowKit Go.Proofs.YtobdfiglgdbecaaW.PrintWords Go.Proofs.YtobdfiglgdbecaaW.PrintMore
namespace Go.Proofs.Ytobdfiglgdbecaa
open PGA PGB PGH PGK PGI PGR
namespace VR
theorem has6_l0 (l : List S58) (hl : l.length < 9223372036854775806) (x y : Int) : ∀ d i, i + d = l.length → Ev (fun k => Co.l0 k l x y (i : Int)) ((l.drop i).any fun r => HS.inR r x y) := by
  intro d
  induction d with
  | zero =>
    intro i hi; refine one_round fun k => ?_
    rw [Co.l0, if_neg (by omega), List.drop_of_length_le (by omega)]; rfl
  | succ d ih =>
    intro i hi; have hlt : i < l.length := by omega
    have hd : l.drop i = l[i] :: l.drop (i + 1) := List.drop_eq_getElem_cons hlt
    have go : HS.inR l[i] x y = false → Ev (fun k => Co.l0 k l x y ((i + 1 : Nat) : Int)) ((l.drop i).any fun r => HS.inR r x y) := fun h => by
      rw [hd, List.any_cons, h, Bool.false_or]; exact ih (i + 1) (by omega)
    by_cases c1 : l[i].f0 ≤ x
    · by_cases c2 : x < l[i].f2
      · by_cases c3 : l[i].f1 ≤ y
        · by_cases c4 : y < l[i].f3
          · have h : HS.inR l[i] x y = true := by unfold HS.inR; rw [decide_eq_true c1, decide_eq_true c2, decide_eq_true c3, decide_eq_true c4]; rfl
            rw [hd, List.any_cons, h, Bool.true_or]; exact one_round fun k => by rw [Co.l0, if_pos (by omega), if_pos (by omega), rdR l i hlt, if_pos c1, if_pos c2, if_pos c3, if_pos c4]
          · exact Ev.step (fun k => by rw [Co.l0, if_pos (by omega), if_pos (by omega), rdR l i hlt, if_pos c1, if_pos c2, if_pos c3, if_neg c4, wrs i (by omega)]) (go (by unfold HS.inR; rw [decide_eq_false c4, Bool.and_false]))
        · exact Ev.step (fun k => by rw [Co.l0, if_pos (by omega), if_pos (by omega), rdR l i hlt, if_pos c1, if_pos c2, if_neg c3, wrs i (by omega)]) (go (by unfold HS.inR; rw [decide_eq_false c3, Bool.and_false, Bool.false_and]))
      · exact Ev.step (fun k => by rw [Co.l0, if_pos (by omega), if_pos (by omega), rdR l i hlt, if_pos c1, if_neg c2, wrs i (by omega)]) (go (by unfold HS.inR; rw [decide_eq_false c2, Bool.and_false, Bool.false_and, Bool.false_and]))
    · exact Ev.step (fun k => by rw [Co.l0, if_pos (by omega), if_pos (by omega), rdR l i hlt, if_neg c1, wrs i (by omega)]) (go (by unfold HS.inR; rw [decide_eq_false c1, Bool.false_and, Bool.false_and, Bool.false_and]))
theorem has6_val (l : List S58) (hl : l.length < 9223372036854775806) (x y : Int) : Ev (fun k => Co.f k l x y) (HS.Has.f l x y) := has6_l0 l hl x y l.length 0 (Nat.zero_add _)
end VR
end Go.Proofs.Ytobdfiglgdbecaa
end
