/- Table of the program: walked by hand over tableOf. -/
import Derived.Test.YtmipbbkieadecaaH4
import Derived.Test.YtmipbbkieadecaaPDAx6
open Go Go.RowKit Go.Proofs.YtmipbbkieadecaaW.PrintWords Go.Proofs.YtmipbbkieadecaaW.PrintLast Go.Proofs.YtmipbbkieadecaaW.PrintMore
set_option linter.unusedVariables false
set_option linter.unusedSimpArgs false
namespace Go.Proofs.Ytmipbbkieadecaa
open PDA

/-- A table's side, as a power of two. -/
def sideE (n : Int) : Option Nat := if n = 1 then some 0 else if n = 2 then some 1 else if n = 4 then some 2 else if n = 8 then some 3 else if n = 16 then some 4 else none
theorem sideE_some {n : Int} {E : Nat} (h : sideE n = some E) : E ≤ 4 ∧ n = ((2 ^ E : Nat) : Int) := by
  unfold sideE at h
  repeat' (split at h)
  all_goals first
    | (obtain rfl := Option.some.inj h; rename_i hh; exact ⟨by omega, by rw [hh]; rfl⟩)
    | cases h
theorem side_eq (n : Int) : dither_side.f n = some (sideE n).isSome := by
  unfold dither_side.f
  by_cases h1 : n ≥ 1
  · by_cases h2 : n ≤ 16
    · rw [if_pos h1, if_pos h2]
      have : n = 1 ∨ n = 2 ∨ n = 3 ∨ n = 4 ∨ n = 5 ∨ n = 6 ∨ n = 7 ∨ n = 8 ∨ n = 9 ∨ n = 10 ∨ n = 11 ∨ n = 12 ∨ n = 13 ∨ n = 14 ∨ n = 15 ∨ n = 16 := by omega
      rcases this with rfl | rfl | rfl | rfl | rfl | rfl | rfl | rfl | rfl | rfl | rfl | rfl | rfl | rfl | rfl | rfl <;> decide +kernel
    · rw [if_pos h1, if_neg h2]
      have : sideE n = none := by unfold sideE; rw [if_neg (by omega), if_neg (by omega), if_neg (by omega), if_neg (by omega), if_neg (by omega)]
      rw [this]; rfl
  · rw [if_neg h1]
    have : sideE n = none := by unfold sideE; rw [if_neg (by omega), if_neg (by omega), if_neg (by omega), if_neg (by omega), if_neg (by omega)]
    rw [this]; rfl

def tabRow (E y : Nat) : List Int := (List.range (2 ^ E)).map (fun x => tb E y x)
def tabRows (E n : Nat) : List (List Int) := (List.range n).map (tabRow E)
theorem tabRow_length (E y : Nat) : (tabRow E y).length = 2 ^ E := by simp [tabRow]
theorem tabRows_length (E n : Nat) : (tabRows E n).length = n := by simp [tabRows]
theorem tabRows_succ (E n : Nat) : tabRows E n ++ [tabRow E n] = tabRows E (n + 1) := by simp [tabRows, List.range_succ]

def dither_Table.f (a0 : Int) : Option (List (List Int) × Int) :=
  match sideE a0 with
  | some E => some (tabRows E (2 ^ E), 0)
  | none => some ([], 131)

theorem row_reads {W : World} {g E y : Nat} (hE : E ≤ 4) (hy : y < 2 ^ E) (hg : W.heap[g]? = some (.cells (arr (tf E)) 83 (0, 0))) :
    Kd.C (Kd.int .i64) W (some ⟨g, y * 16, none⟩) (2 ^ E) (tabRow E y) := by
  have h16 : 2 ^ E ≤ 16 := Nat.le_trans (Nat.pow_le_pow_right (by omega) hE) (Nat.le_refl 16)
  refine Kd.C_of_reads (d := 0) ⟨tabRow_length E y, by omega, fun _ => ⟨_, rfl, fun j hj => ?_⟩⟩
  rw [show (⟨g, y * 16, none⟩ : Addr).add j = ⟨g, y * 16 + j, none⟩ from by unfold Addr.add; split <;> simp_all]
  refine (blk_cell hg _).trans ((arr_get _ _ (by omega)).trans ?_)
  rw [tf_at E (2 ^ E) y j rfl hy hj h16]
  simp [tabRow, hj]

def StopHere (p : Prop) : Prop := p
theorem stopHere {p : Prop} (h : StopHere p) : p := h
set_option maxHeartbeats 8000000 in
set_option maxRecDepth 100000 in
theorem dither_Table.calls (a0 : Int) (r1 : List (List Int)) (r2 : Int) (w : World) (h : dither_Table.f a0 = some (r1, r2)) :
    Calls Try.prog 12 #[.int .i64 a0] w fun e w' => ∃ v0_ : Value, e = .returned (.tuple #[v0_, .int .i64 r2]) ∧ Kd.S (Kd.slice 3 (Kd.int .i64)) 31 w' w.heap.size (fun _ => True) v0_ r1 ∧ Below w.heap.size w w' := by
  unfold dither_Table.f at h
  have hs := side_eq a0
  split at h
  · rename_i E hE
    rw [hE] at hs
    simp only [Option.some.injEq, Prod.mk.injEq] at h
    obtain ⟨rfl, rfl⟩ := h
    obtain ⟨hE4, ha⟩ := sideE_some hE
    clear hE
    subst ha
    have h16 : 2 ^ E ≤ 16 := Nat.le_trans (Nat.pow_le_pow_right (by omega) hE4) (Nat.le_refl 16)
    obtain ⟨hz83, hs83⟩ := zero_of_info info83
    obtain ⟨n, hn⟩ : ∃ n, n = 2 ^ E := ⟨_, rfl⟩
    have htab := fun w => tableOf E hE4 w
    rw [← hn] at hs h16 htab ⊢
    have HN := Lib.hid hn
    clear hn
    go_enter Try.func12, Try.ntmps12
    go_wp2_with fail
    refine (dither_side.calls _ true _ hs).mono ?_
    rintro e w1 ⟨rfl, ⟨nd, rfl⟩⟩
    go_wp2_with fail
    refine (htab _).mono ?_
    rintro e w1 ⟨c, rfl, hc, hb⟩
    have hcs : c.size = 256 := by rw [hc]; exact arr_size _
    have hco : c.all (·.oneCell') = true := by rw [hc]; exact arr_one _
    have hzs := arr_size (fun _ => 0)
    have HC := Lib.hid hc
    have HB := Lib.hid (below_step (below_drewN (Below.refl w.heap.size w) nd) hb)
    clear hc hb htab
    generalize arr (fun _ => 0) = c0 at hz83 hzs
    go_wp2_with (first
      | (with_reducible refine gate_store (t := 83) (p := 4) rfl ?_
         refine wpList_store_row rfl 83 (.tmp 4) (.tmp 11) rfl w1.heap.size c rfl rfl 83 c0 (bnew' _) (by rw [hs83, hcs]) (by rw [hzs, hcs]) hco ?_))
    have b1 : ((w1.alloc (.cells c0 83)).setRow w1.heap.size c).heap[w1.heap.size]? = some (.cells c 83 (0, 0)) := setRow_heap _ _ _ _ _ _ (bnew' _)
    have hb2 : Below w.heap.size w ((w1.alloc (.cells c0 83)).setRow w1.heap.size c) := below_setRow (below_alloc HB.out _) (HB.out.size) c
    have hge : w.heap.size ≤ w1.heap.size := HB.out.size
    generalize (w1.alloc (.cells c0 83)).setRow w1.heap.size c = W2 at b1 hb2 ⊢
    generalize w1.heap.size = g at b1 hge ⊢
    rw [HC.out] at b1
    have B1 := Aside0.mk b1
    have HB2 := Aside0.mk hb2
    clear b1 hb2 HB
    have HE := Lib.hid hE4
    go_loopw [5, 13] (fun v5 v13 wr => ∃ y : Nat, y ≤ n ∧ v13 = .int .i64 y ∧ Kd.S (Kd.slice 3 (Kd.int .i64)) 31 wr w.heap.size (fun _ => True) v5 (tabRows E y) ∧ wr.heap[g]? = some (.cells (arr (tf E)) 83 (0, 0)) ∧ Below w.heap.size w wr) (fun _ v13 _ => n - (intOf v13).toNat)
    case atStart => exact ⟨0, Nat.zero_le _, rfl, Kd.S_nil _ _ _ _ _, B1.out, HB2.out⟩
    case round =>
      obtain ⟨y, hy, rfl, ho, hg, hb⟩ := hrel
      clear B1 HB2
      have HO := Aside0.mk ho
      have HG := Aside0.mk hg
      have HB := Aside0.mk hb
      clear ho hg hb
      by_cases hlt : y < n
      · have iy0 : (0 : Int) ≤ (y : Int) := by omega
        have iy1 : (y : Int) < 16 := by omega
        have iy2 : y < 16 := by omega
        have in0 : (0 : Int) ≤ (n : Int) := by omega
        have in1 : (n : Int) ≤ 16 := by omega
        have in2 : n ≤ 16 := by omega
        obtain ⟨row, hrow⟩ : ∃ row, row = tabRow E y := ⟨_, rfl⟩
        obtain ⟨rows, hrows⟩ : ∃ rows, rows = tabRows E y := ⟨_, rfl⟩
        have hrd : Kd.C (Kd.int .i64) wr (some ⟨g, y * 16, none⟩) n row := by
          rw [hrow, HN.out]
          exact row_reads HE.out (by rw [← HN.out]; exact hlt) HG.out
        rw [← hrows] at HO
        have hlr : row.length = n := by rw [hrow, tabRow_length, HN.out]
        have hlrs : rows.length = y := by rw [hrows, tabRows_length]
        have HR := Aside0.mk hrd
        have HROW := Aside0.mk hrow
        have HROWS := Aside0.mk hrows
        have hLR := Aside0.mk hlr
        have hLRS := Aside0.mk hlrs
        clear hrd hrow hrows hlr hlrs
        go_wp2_with (first
          | (with_reducible refine gate_builtin (b := .append) (xs := #[.const (.slice none 0 0), .tmp 20]) rfl ?_
             at_builtin
             refine Kd.R_append_rows (Kd.int .i64) (w0 := w) w.heap.size rfl (.const (.slice none 0 0)) (.tmp 20) 31 3 (.int .i64 0) 8 rfl Try.underlying31 info3 rfl (by decide) (by omega) (.slice none 0 0) [] row (some ⟨g, y * 16, none⟩) n 16 (fun _ => True) (fun _ => False) rfl rfl (Kd.R_nil _ _ _ _ _) HR.out (fun _ _ h => h) (fun _ h => h.elim) (fun _ _ => trivial) HB.out HB.out.size (by simp only [List.length_nil]; omega) ?_
             intro v1 w2 ho1 hb1 hg1 hat1
             rw [List.nil_append] at ho1
             have n0_ := Aside0.mk (Kd.S_after (ok := (fun _ => True)) (Kd.S_mono HO.out (fun k_ hk => ⟨trivial, by simp [Value.ownBlock]⟩)) hg1 hat1)
             have n1_ := Aside0.mk (blk_grown HG.out hg1 (by simp [Value.ownBlock]))
             have n2_ := Aside0.mk hb1
             have HO6 := Aside0.mk ho1
             clear HO HG HB HR ho1 hb1 hg1 hat1
             have HO := n0_
             have HG := n1_
             have HB := n2_
             clear n0_ n1_ n2_
             obtain ⟨Ao, co, eo⟩ := Kd.R_slice HO6.out
             subst eo)
          | (with_reducible refine gate_builtin (b := .append) (xs := #[.tmp 16, .tmp 22]) rfl ?_
             refine stopHere ?_))
        unfold StopHere
        at_builtin
        refine Kd.S_append (Kd.slice 3 (Kd.int .i64)) (w0 := w) w.heap.size rfl (.tmp 16) (.tmp 22) 23 31 (.slice none 0 0) 24 rfl Try.underlying23 info31 rfl (by decide) (by omega) u5 rows row [.slice Ao row.length co] (fun _ => True) (fun k_ => some k_ = (.slice Ao row.length co : Value).ownBlock) rfl rfl ?aP (fun k_ hk_ => ((Kd.R_mono (ok' := fun k_ => ((fun _ => True)) k_ ∧ some k_ ≠ (u5 : Value).ownBlock) (Kd.R_apart' (HO6.out) (Kd.S_typed HO.out) (by decide)) (fun k_ hk => ⟨trivial, hk.2⟩))).1 k_ hk_.symm) ?aF ?aO ?aB ?aS ?aL ?_
        (case aP => exact Kd.M_row (Kd.R_mono (Kd.R_tight rfl (Kd.R_mono (ok' := fun k_ => ((fun _ => True)) k_ ∧ some k_ ≠ (u5 : Value).ownBlock) (Kd.R_apart' (HO6.out) (Kd.S_typed HO.out) (by decide)) (fun k_ hk => ⟨trivial, hk.2⟩))) (fun _ h_ => h_)))
        (case aB => exact (by repeat (first | (with_reducible first | exact HB.out | apply below_alloc | apply pw_below_drewN | apply below_drew1) | exact HB.out)))
        (case aF => exact (fun _ _ => trivial))
        (case aO => exact (by (with_reducible repeat (first | apply Kd.S_alloc | apply Kd.S_drewN | apply Kd.S_drew)); exact Kd.S_mono HO.out (fun k_ hk => ⟨trivial, fun e_ => hk.2 e_⟩)))
        (case aS => exact (below_size (by repeat (first | (with_reducible first | exact HB.out | apply below_alloc | apply pw_below_drewN | apply below_drew1) | exact HB.out))))
        (case aL => have := hLRS.out; omega)
        intro v2 w3 ho hb hg hat
        have n1_ := Aside0.mk (blk_grown HG.out hg (Kd.S_ne HO.out HG.out (by decide)))
        have n0_ := Aside0.mk hb
        have HO7 := Aside0.mk ho
        clear HB HO HO6 HG ho hb hg hat
        have HB := n0_
        have HG := n1_
        clear n0_ n1_
        go_wp2
        go_roundw
        case rel => exact ⟨y + 1, by omega, by go_num, by rw [← tabRows_succ, ← HROWS.out, ← HROW.out]; exact HO7.out, HG.out, HB.out⟩
        case measure => simp [intOf]; omega
      · obtain rfl : y = n := by omega
        go_wp2
        go_ret2
        exact ⟨_, rfl, HO.out, HB.out⟩
  · rename_i hE
    rw [hE] at hs
    simp only [Option.some.injEq, Prod.mk.injEq] at h
    obtain ⟨rfl, rfl⟩ := h
    clear hE
    go_enter Try.func12, Try.ntmps12
    go_wp2_with fail
    refine (dither_side.calls _ false _ hs).mono ?_
    rintro e w1 ⟨rfl, ⟨nd, rfl⟩⟩
    go_wp2
    go_ret2
    exact ⟨_, rfl, Kd.S_nil _ _ _ _ _, below_drewN (Below.refl w.heap.size w) nd⟩
end Go.Proofs.Ytmipbbkieadecaa
