-- Written by a program of this session (hprint.py: the kit's printer, with this session's contracts beside it). Lean checks it.
import Derived.Test.YtmipbbkieadecaaPDBx0
import Derived.Test.YtmipbbkieadecaaPDBx1
import Derived.Test.YtmipbbkieadecaaPDAx1
namespace Go.Proofs.Ytmipbbkieadecaa.PDB
open Go.Proofs.Ytmipbbkieadecaa.PDA
open Go.RowKit Go.Proofs.YtmipbbkieadecaaW.PrintWords Go.Proofs.YtmipbbkieadecaaW.PrintLast Go.Proofs.YtmipbbkieadecaaW.PrintMore
attribute [local go_sem] max2_int min2_int max_two min_two max_three min_three max_four min_four   -- for this text's walks alone
set_option linter.unusedVariables false
set_option linter.unusedSimpArgs false

attribute [local go_sem high] eqA103
/-! ### bits_Class: function 61 -/
def bits_Class.f (a0 : Int) : Option (Int) := (bits_split.f a0).bind fun bt101 => (if (bt101.2.1 == 0 && (bt101.2.2 == 0)) = true then (some 5) else (if (bt101.2.1 == 255 && (bt101.2.2 == 0)) = true then (some 2) else (if bt101.2.1 = 255 then (some 1) else (if bt101.2.1 = 0 then (some 4) else (some 3)))))
set_option maxHeartbeats 8000000 in
set_option maxRecDepth 100000 in
theorem bits_Class.calls (a0 : Int) (r : Int) (w : World) (h : bits_Class.f a0 = some r) :
    Calls Try.prog 61 #[.int .u32 a0] w fun e w' => e = .returned (.int .i64 r) ∧ Below w.heap.size w w' := by
  have hu103 := Try.underlying103
  have HB := Aside0.mk (Below.refl w.heap.size w)
  have H : ((bits_split.f a0).bind fun bt101 => (if (bt101.2.1 == 0 && (bt101.2.2 == 0)) = true then (some 5) else (if (bt101.2.1 == 255 && (bt101.2.2 == 0)) = true then (some 2) else (if bt101.2.1 = 255 then (some 1) else (if bt101.2.1 = 0 then (some 4) else (some 3)))))) = some r := h
  clear h
  replace H := Option.bind_eq_some_iff.mp H
  obtain ⟨⟨t101, t102, t103⟩, A20, H⟩ := H
  replace H : (if (t102 == 0 && (t103 == 0)) = true then (some 5) else (if (t102 == 255 && (t103 == 0)) = true then (some 2) else (if t102 = 255 then (some 1) else (if t102 = 0 then (some 4) else (some 3))))) = some r := H
  have A2 := Aside0.mk A20
  clear A20
  by_cases c3 : (t102 == 0 && (t103 == 0)) = true
  · rw [if_pos c3] at H
    have c3b0 : (t102 == 0 && (t103 == 0)) = true := c3
    (try (have c3b1 : decide (t102 = 0 && (t103 == 0)) = true := by simpa using c3))
    (try (have c3b2 : (t102 == 0 && (t103 == 0)) = true := by simpa using c3))
    clear c3
    obtain rfl := Option.some.inj H
    go_enter Try.func61, Try.ntmps61
    go_wp2_with (first | ((with_reducible refine gate_callee (f := 63) rfl ?_); refine goesL_ (some 5) rfl rfl Try.func63 (by kernel_rfl) rfl #[.int .u32 a0] rfl (by (try simp only [List.map_toArray, List.map_cons, List.map_nil]); first | done | rfl | (simp only [List.length_drop, List.length_take]; rfl)) ?_; (with_reducible refine (bits_split.calls a0 t101 t102 t103 _ A2.out).mono ?_); rintro e w4 ⟨rfl, hb⟩; refine ⟨_, rfl, ?_⟩; have n0_ := Aside0.mk (below_step (by repeat (first | (with_reducible first | exact HB.out | apply below_alloc | apply pw_below_drewN | apply below_drew1) | exact HB.out)) hb); clear HB; have HB := n0_; clear n0_; (try clear hb); (try clear hb2); (try clear hk); (try clear hi)) | ((with_reducible refine gate_dst (N := 3) rfl ?_); refine box_event ?hg (N := 3) ?hd (cs := #[.bool false, .int .i64 0, .int .i64 0]) (t := 103) ?hr ?_; (case hd => rfl); (case hg => rfl); (case hr => first | (go_simp; done) | (go_simp; rfl)); intro gb104 hg w5 hbox hb; have n0_ := Aside0.mk (below_step (by repeat (first | (with_reducible first | exact HB.out | apply below_alloc | apply pw_below_drewN | apply below_drew1) | exact HB.out)) hb); have n1_ := Aside0.mk (hbox); have n2_ := Aside0.mk ((by rw [hg]; exact (below_size (by repeat (first | (with_reducible first | exact HB.out | apply below_alloc | apply pw_below_drewN | apply below_drew1) | exact HB.out))) : w.heap.size ≤ gb104)); have n3_ := Aside0.mk ((by rw [hg]; exact (below_size (by repeat (first | (with_reducible first | exact HB.out | apply below_alloc | apply pw_below_drewN | apply below_drew1) | exact HB.out))) : w.heap.size ≤ gb104)); clear HB; have HB := n0_; have BK104 := n1_; have GW104 := n2_; have GE104 := n3_; clear n0_ n1_ n2_ n3_; clear hb hbox hg; have hcz6_0 : w5.cell? ⟨gb104, 0, none⟩ = some (.bool false) := (blk_cell BK104.out 0).trans rfl; have hcz6_1 : w5.cell? ⟨gb104, 1, none⟩ = some (.int .i64 0) := (blk_cell BK104.out 1).trans rfl; have hcz6_2 : w5.cell? ⟨gb104, 2, none⟩ = some (.int .i64 0) := (blk_cell BK104.out 2).trans rfl; have hfz6_0 := blk_frozen BK104.out 0; have hfz6_1 := blk_frozen BK104.out 1; have hfz6_2 := blk_frozen BK104.out 2))
    go_ret
    exact ⟨by first | rfl | (simp [errW_none, errW_some] <;> rfl) | (simp [*, errW_none, errW_some] <;> rfl), by repeat (first | (with_reducible first | exact HB.out | apply below_alloc | apply pw_below_drewN | apply below_drew1 | refine below_set ?_ GE104.out) | exact HB.out)⟩
  · rw [if_neg c3] at H
    have c3b0 : (t102 == 0 && (t103 == 0)) = false := by simpa using c3
    (try (have c3b1 : decide (t102 = 0 && (t103 == 0)) = false := by simpa using c3))
    (try (have c3b2 : (t102 == 0 && (t103 == 0)) = false := by simpa using c3))
    (try (have c3b3 : ¬ (t102 = 0 && (t103 == 0)) := by simpa using c3))
    clear c3
    by_cases c7 : (t102 == 255 && (t103 == 0)) = true
    · rw [if_pos c7] at H
      have c7b0 : (t102 == 255 && (t103 == 0)) = true := c7
      (try (have c7b1 : decide (t102 = 255 && (t103 == 0)) = true := by simpa using c7))
      (try (have c7b2 : (t102 == 255 && (t103 == 0)) = true := by simpa using c7))
      clear c7
      obtain rfl := Option.some.inj H
      go_enter Try.func61, Try.ntmps61
      go_wp2_with (first | ((with_reducible refine gate_callee (f := 63) rfl ?_); refine goesL_ (some 5) rfl rfl Try.func63 (by kernel_rfl) rfl #[.int .u32 a0] rfl (by (try simp only [List.map_toArray, List.map_cons, List.map_nil]); first | done | rfl | (simp only [List.length_drop, List.length_take]; rfl)) ?_; (with_reducible refine (bits_split.calls a0 t101 t102 t103 _ A2.out).mono ?_); rintro e w8 ⟨rfl, hb⟩; refine ⟨_, rfl, ?_⟩; have n0_ := Aside0.mk (below_step (by repeat (first | (with_reducible first | exact HB.out | apply below_alloc | apply pw_below_drewN | apply below_drew1) | exact HB.out)) hb); clear HB; have HB := n0_; clear n0_; (try clear hb); (try clear hb2); (try clear hk); (try clear hi)) | ((with_reducible refine gate_dst (N := 3) rfl ?_); refine box_event ?hg (N := 3) ?hd (cs := #[.bool false, .int .i64 0, .int .i64 0]) (t := 103) ?hr ?_; (case hd => rfl); (case hg => rfl); (case hr => first | (go_simp; done) | (go_simp; rfl)); intro gb104 hg w9 hbox hb; have n0_ := Aside0.mk (below_step (by repeat (first | (with_reducible first | exact HB.out | apply below_alloc | apply pw_below_drewN | apply below_drew1) | exact HB.out)) hb); have n1_ := Aside0.mk (hbox); have n2_ := Aside0.mk ((by rw [hg]; exact (below_size (by repeat (first | (with_reducible first | exact HB.out | apply below_alloc | apply pw_below_drewN | apply below_drew1) | exact HB.out))) : w.heap.size ≤ gb104)); have n3_ := Aside0.mk ((by rw [hg]; exact (below_size (by repeat (first | (with_reducible first | exact HB.out | apply below_alloc | apply pw_below_drewN | apply below_drew1) | exact HB.out))) : w.heap.size ≤ gb104)); clear HB; have HB := n0_; have BK104 := n1_; have GW104 := n2_; have GE104 := n3_; clear n0_ n1_ n2_ n3_; clear hb hbox hg; have hcz10_0 : w9.cell? ⟨gb104, 0, none⟩ = some (.bool false) := (blk_cell BK104.out 0).trans rfl; have hcz10_1 : w9.cell? ⟨gb104, 1, none⟩ = some (.int .i64 0) := (blk_cell BK104.out 1).trans rfl; have hcz10_2 : w9.cell? ⟨gb104, 2, none⟩ = some (.int .i64 0) := (blk_cell BK104.out 2).trans rfl; have hfz10_0 := blk_frozen BK104.out 0; have hfz10_1 := blk_frozen BK104.out 1; have hfz10_2 := blk_frozen BK104.out 2))
      go_ret
      exact ⟨by first | rfl | (simp [errW_none, errW_some] <;> rfl) | (simp [*, errW_none, errW_some] <;> rfl), by repeat (first | (with_reducible first | exact HB.out | apply below_alloc | apply pw_below_drewN | apply below_drew1 | refine below_set ?_ GE104.out) | exact HB.out)⟩
    · rw [if_neg c7] at H
      have c7b0 : (t102 == 255 && (t103 == 0)) = false := by simpa using c7
      (try (have c7b1 : decide (t102 = 255 && (t103 == 0)) = false := by simpa using c7))
      (try (have c7b2 : (t102 == 255 && (t103 == 0)) = false := by simpa using c7))
      (try (have c7b3 : ¬ (t102 = 255 && (t103 == 0)) := by simpa using c7))
      clear c7
      by_cases c11 : t102 = 255
      · rw [if_pos c11] at H
        have c11b0 : (t102 == 255) = true := beq_iff_eq.mpr c11
        rw [c11b0, Bool.true_and] at c7b0
        have c11b1 : (t102 != 255) = false := bne_eq_false_iff_eq.mpr c11
        clear c11
        obtain rfl := Option.some.inj H
        go_enter Try.func61, Try.ntmps61
        go_wp2_with (first | ((with_reducible refine gate_callee (f := 63) rfl ?_); refine goesL_ (some 5) rfl rfl Try.func63 (by kernel_rfl) rfl #[.int .u32 a0] rfl (by (try simp only [List.map_toArray, List.map_cons, List.map_nil]); first | done | rfl | (simp only [List.length_drop, List.length_take]; rfl)) ?_; (with_reducible refine (bits_split.calls a0 t101 t102 t103 _ A2.out).mono ?_); rintro e w12 ⟨rfl, hb⟩; refine ⟨_, rfl, ?_⟩; have n0_ := Aside0.mk (below_step (by repeat (first | (with_reducible first | exact HB.out | apply below_alloc | apply pw_below_drewN | apply below_drew1) | exact HB.out)) hb); clear HB; have HB := n0_; clear n0_; (try clear hb); (try clear hb2); (try clear hk); (try clear hi)) | ((with_reducible refine gate_dst (N := 3) rfl ?_); refine box_event ?hg (N := 3) ?hd (cs := #[.bool false, .int .i64 0, .int .i64 0]) (t := 103) ?hr ?_; (case hd => rfl); (case hg => rfl); (case hr => first | (go_simp; done) | (go_simp; rfl)); intro gb104 hg w13 hbox hb; have n0_ := Aside0.mk (below_step (by repeat (first | (with_reducible first | exact HB.out | apply below_alloc | apply pw_below_drewN | apply below_drew1) | exact HB.out)) hb); have n1_ := Aside0.mk (hbox); have n2_ := Aside0.mk ((by rw [hg]; exact (below_size (by repeat (first | (with_reducible first | exact HB.out | apply below_alloc | apply pw_below_drewN | apply below_drew1) | exact HB.out))) : w.heap.size ≤ gb104)); have n3_ := Aside0.mk ((by rw [hg]; exact (below_size (by repeat (first | (with_reducible first | exact HB.out | apply below_alloc | apply pw_below_drewN | apply below_drew1) | exact HB.out))) : w.heap.size ≤ gb104)); clear HB; have HB := n0_; have BK104 := n1_; have GW104 := n2_; have GE104 := n3_; clear n0_ n1_ n2_ n3_; clear hb hbox hg; have hcz14_0 : w13.cell? ⟨gb104, 0, none⟩ = some (.bool false) := (blk_cell BK104.out 0).trans rfl; have hcz14_1 : w13.cell? ⟨gb104, 1, none⟩ = some (.int .i64 0) := (blk_cell BK104.out 1).trans rfl; have hcz14_2 : w13.cell? ⟨gb104, 2, none⟩ = some (.int .i64 0) := (blk_cell BK104.out 2).trans rfl; have hfz14_0 := blk_frozen BK104.out 0; have hfz14_1 := blk_frozen BK104.out 1; have hfz14_2 := blk_frozen BK104.out 2))
        go_ret
        exact ⟨by first | rfl | (simp [errW_none, errW_some] <;> rfl) | (simp [*, errW_none, errW_some] <;> rfl), by repeat (first | (with_reducible first | exact HB.out | apply below_alloc | apply pw_below_drewN | apply below_drew1 | refine below_set ?_ GE104.out) | exact HB.out)⟩
      · rw [if_neg c11] at H
        have c11b0 : (t102 == 255) = false := beq_eq_false_iff_ne.mpr c11
        have c11b1 : (t102 != 255) = true := bne_iff_ne.mpr c11
        by_cases c15 : t102 = 0
        · rw [if_pos c15] at H
          have c15b0 : (t102 == 0) = true := beq_iff_eq.mpr c15
          rw [c15b0, Bool.true_and] at c3b0
          have c15b1 : (t102 != 0) = false := bne_eq_false_iff_eq.mpr c15
          clear c15
          obtain rfl := Option.some.inj H
          go_enter Try.func61, Try.ntmps61
          go_wp2_with (first | ((with_reducible refine gate_callee (f := 63) rfl ?_); refine goesL_ (some 5) rfl rfl Try.func63 (by kernel_rfl) rfl #[.int .u32 a0] rfl (by (try simp only [List.map_toArray, List.map_cons, List.map_nil]); first | done | rfl | (simp only [List.length_drop, List.length_take]; rfl)) ?_; (with_reducible refine (bits_split.calls a0 t101 t102 t103 _ A2.out).mono ?_); rintro e w16 ⟨rfl, hb⟩; refine ⟨_, rfl, ?_⟩; have n0_ := Aside0.mk (below_step (by repeat (first | (with_reducible first | exact HB.out | apply below_alloc | apply pw_below_drewN | apply below_drew1) | exact HB.out)) hb); clear HB; have HB := n0_; clear n0_; (try clear hb); (try clear hb2); (try clear hk); (try clear hi)) | ((with_reducible refine gate_dst (N := 3) rfl ?_); refine box_event ?hg (N := 3) ?hd (cs := #[.bool false, .int .i64 0, .int .i64 0]) (t := 103) ?hr ?_; (case hd => rfl); (case hg => rfl); (case hr => first | (go_simp; done) | (go_simp; rfl)); intro gb104 hg w17 hbox hb; have n0_ := Aside0.mk (below_step (by repeat (first | (with_reducible first | exact HB.out | apply below_alloc | apply pw_below_drewN | apply below_drew1) | exact HB.out)) hb); have n1_ := Aside0.mk (hbox); have n2_ := Aside0.mk ((by rw [hg]; exact (below_size (by repeat (first | (with_reducible first | exact HB.out | apply below_alloc | apply pw_below_drewN | apply below_drew1) | exact HB.out))) : w.heap.size ≤ gb104)); have n3_ := Aside0.mk ((by rw [hg]; exact (below_size (by repeat (first | (with_reducible first | exact HB.out | apply below_alloc | apply pw_below_drewN | apply below_drew1) | exact HB.out))) : w.heap.size ≤ gb104)); clear HB; have HB := n0_; have BK104 := n1_; have GW104 := n2_; have GE104 := n3_; clear n0_ n1_ n2_ n3_; clear hb hbox hg; have hcz18_0 : w17.cell? ⟨gb104, 0, none⟩ = some (.bool false) := (blk_cell BK104.out 0).trans rfl; have hcz18_1 : w17.cell? ⟨gb104, 1, none⟩ = some (.int .i64 0) := (blk_cell BK104.out 1).trans rfl; have hcz18_2 : w17.cell? ⟨gb104, 2, none⟩ = some (.int .i64 0) := (blk_cell BK104.out 2).trans rfl; have hfz18_0 := blk_frozen BK104.out 0; have hfz18_1 := blk_frozen BK104.out 1; have hfz18_2 := blk_frozen BK104.out 2))
          go_ret
          exact ⟨by first | rfl | (simp [errW_none, errW_some] <;> rfl) | (simp [*, errW_none, errW_some] <;> rfl), by repeat (first | (with_reducible first | exact HB.out | apply below_alloc | apply pw_below_drewN | apply below_drew1 | refine below_set ?_ GE104.out) | exact HB.out)⟩
        · rw [if_neg c15] at H
          have c15b0 : (t102 == 0) = false := beq_eq_false_iff_ne.mpr c15
          have c15b1 : (t102 != 0) = true := bne_iff_ne.mpr c15
          obtain rfl := Option.some.inj H
          go_enter Try.func61, Try.ntmps61
          go_wp2_with (first | ((with_reducible refine gate_callee (f := 63) rfl ?_); refine goesL_ (some 5) rfl rfl Try.func63 (by kernel_rfl) rfl #[.int .u32 a0] rfl (by (try simp only [List.map_toArray, List.map_cons, List.map_nil]); first | done | rfl | (simp only [List.length_drop, List.length_take]; rfl)) ?_; (with_reducible refine (bits_split.calls a0 t101 t102 t103 _ A2.out).mono ?_); rintro e w19 ⟨rfl, hb⟩; refine ⟨_, rfl, ?_⟩; have n0_ := Aside0.mk (below_step (by repeat (first | (with_reducible first | exact HB.out | apply below_alloc | apply pw_below_drewN | apply below_drew1) | exact HB.out)) hb); clear HB; have HB := n0_; clear n0_; (try clear hb); (try clear hb2); (try clear hk); (try clear hi)) | ((with_reducible refine gate_dst (N := 3) rfl ?_); refine box_event ?hg (N := 3) ?hd (cs := #[.bool false, .int .i64 0, .int .i64 0]) (t := 103) ?hr ?_; (case hd => rfl); (case hg => rfl); (case hr => first | (go_simp; done) | (go_simp; rfl)); intro gb104 hg w20 hbox hb; have n0_ := Aside0.mk (below_step (by repeat (first | (with_reducible first | exact HB.out | apply below_alloc | apply pw_below_drewN | apply below_drew1) | exact HB.out)) hb); have n1_ := Aside0.mk (hbox); have n2_ := Aside0.mk ((by rw [hg]; exact (below_size (by repeat (first | (with_reducible first | exact HB.out | apply below_alloc | apply pw_below_drewN | apply below_drew1) | exact HB.out))) : w.heap.size ≤ gb104)); have n3_ := Aside0.mk ((by rw [hg]; exact (below_size (by repeat (first | (with_reducible first | exact HB.out | apply below_alloc | apply pw_below_drewN | apply below_drew1) | exact HB.out))) : w.heap.size ≤ gb104)); clear HB; have HB := n0_; have BK104 := n1_; have GW104 := n2_; have GE104 := n3_; clear n0_ n1_ n2_ n3_; clear hb hbox hg; have hcz21_0 : w20.cell? ⟨gb104, 0, none⟩ = some (.bool false) := (blk_cell BK104.out 0).trans rfl; have hcz21_1 : w20.cell? ⟨gb104, 1, none⟩ = some (.int .i64 0) := (blk_cell BK104.out 1).trans rfl; have hcz21_2 : w20.cell? ⟨gb104, 2, none⟩ = some (.int .i64 0) := (blk_cell BK104.out 2).trans rfl; have hfz21_0 := blk_frozen BK104.out 0; have hfz21_1 := blk_frozen BK104.out 1; have hfz21_2 := blk_frozen BK104.out 2))
          go_ret
          exact ⟨by first | rfl | (simp [errW_none, errW_some] <;> rfl) | (simp [*, errW_none, errW_some] <;> rfl), by repeat (first | (with_reducible first | exact HB.out | apply below_alloc | apply pw_below_drewN | apply below_drew1 | refine below_set ?_ GE104.out) | exact HB.out)⟩

/-! ### bits_IsNaN: function 53 -/
def bits_IsNaN.f (a0 : Int) : Option (Bool) := (bits_Class.f a0).bind fun t105 => (some (t105 == 1))
set_option maxHeartbeats 8000000 in
set_option maxRecDepth 100000 in
theorem bits_IsNaN.calls (a0 : Int) (r : Bool) (w : World) (h : bits_IsNaN.f a0 = some r) :
    Calls Try.prog 53 #[.int .u32 a0] w fun e w' => e = .returned (.bool r) ∧ Below w.heap.size w w' := by
  have HB := Aside0.mk (Below.refl w.heap.size w)
  have H : ((bits_Class.f a0).bind fun t105 => (some (t105 == 1))) = some r := h
  clear h
  replace H := Option.bind_eq_some_iff.mp H
  obtain ⟨t105, A20, H⟩ := H
  replace H : (some (t105 == 1)) = some r := H
  have A2 := Aside0.mk A20
  clear A20
  obtain rfl := Option.some.inj H
  go_enter Try.func53, Try.ntmps53
  go_wp2_with (first | ((with_reducible refine gate_callee (f := 61) rfl ?_); refine goesL_ (some 4) rfl rfl Try.func61 (by kernel_rfl) rfl #[.int .u32 a0] rfl (by (try simp only [List.map_toArray, List.map_cons, List.map_nil]); first | done | rfl | (simp only [List.length_drop, List.length_take]; rfl)) ?_; (with_reducible refine (bits_Class.calls a0 t105 _ A2.out).mono ?_); rintro e w3 ⟨rfl, hb⟩; refine ⟨_, rfl, ?_⟩; have n0_ := Aside0.mk (below_step (by repeat (first | (with_reducible first | exact HB.out | apply below_alloc | apply pw_below_drewN | apply below_drew1) | exact HB.out)) hb); clear HB; have HB := n0_; clear n0_; (try clear hb); (try clear hb2); (try clear hk); (try clear hi)))
  go_ret
  exact ⟨by first | rfl | (simp [errW_none, errW_some] <;> rfl) | (simp [*, errW_none, errW_some] <;> rfl), by repeat (first | (with_reducible first | exact HB.out | apply below_alloc | apply pw_below_drewN | apply below_drew1) | exact HB.out)⟩

/-! ### halideref13_Units: function 37 -/
mutual
def halideref13_Units.j0 : Nat → Int → Int → Bool → Option (Int)
  | 0, _, _, _ => none
  | k + 1, x3, x4, x24 => if x24 = true then (some 0) else (if x3 ≥ 127 then (some 16777216) else (if x3 = 0 then (halideref13_Units.j1 k 1 x4) else (halideref13_Units.j1 k x3 (wrap64 (x4 + 8388608)))))
def halideref13_Units.j1 : Nat → Int → Int → Option (Int)
  | 0, _, _ => none
  | k + 1, x3, x4 => if (wrap64 (126 - x3)) > 40 then (some 0) else (if 0 ≤ (wrap64 (126 - x3)) then (if (wrap64 (126 - x3)) > 0 then (if 0 ≤ (wrap64 ((wrap64 (126 - x3)) - 1)) then (if (wrap64 (x4 - (shl .i64 (shr .i64 x4 (wrap64 (126 - x3))) (wrap64 (126 - x3))))) > (shl .i64 1 (wrap64 ((wrap64 (126 - x3)) - 1))) then (some (wrap64 ((shr .i64 x4 (wrap64 (126 - x3))) + 1))) else (if (wrap64 (x4 - (shl .i64 (shr .i64 x4 (wrap64 (126 - x3))) (wrap64 (126 - x3))))) = (shl .i64 1 (wrap64 ((wrap64 (126 - x3)) - 1))) then (if (Int.tmod (shr .i64 x4 (wrap64 (126 - x3))) 2) = 1 then (some (wrap64 ((shr .i64 x4 (wrap64 (126 - x3))) + 1))) else (some (shr .i64 x4 (wrap64 (126 - x3))))) else (some (shr .i64 x4 (wrap64 (126 - x3)))))) else (none)) else (some (shr .i64 x4 (wrap64 (126 - x3))))) else (none))
end
def halideref13_Units.f (k : Nat) (a0 : Int) : Option (Int) := if a0 ≥ 2147483648 then (halideref13_Units.j0 k (wrap64 (Go.bits .and .u32 (a0 / 8388608) 255)) (wrap64 (Go.bits .and .u32 a0 8388607)) true) else (if (wrap64 (Go.bits .and .u32 (a0 / 8388608) 255)) = 255 then (halideref13_Units.j0 k (wrap64 (Go.bits .and .u32 (a0 / 8388608) 255)) (wrap64 (Go.bits .and .u32 a0 8388607)) (decide ((wrap64 (Go.bits .and .u32 a0 8388607)) > 0))) else (halideref13_Units.j0 k (wrap64 (Go.bits .and .u32 (a0 / 8388608) 255)) (wrap64 (Go.bits .and .u32 a0 8388607)) false))
theorem halideref13_Units.mono_l : ∀ k, (∀ y0 y1 y2, LeO (halideref13_Units.j0 k y0 y1 y2) (halideref13_Units.j0 (k + 1) y0 y1 y2)) ∧ (∀ y0 y1, LeO (halideref13_Units.j1 k y0 y1) (halideref13_Units.j1 (k + 1) y0 y1))
  | 0 => ⟨fun _ _ _ r h => by simp [halideref13_Units.j0] at h, fun _ _ r h => by simp [halideref13_Units.j1] at h⟩
  | k + 1 => by
    obtain ⟨ih0, ih1⟩ := halideref13_Units.mono_l k
    refine ⟨?_, ?_⟩
    · intro y0 y1 y2
      unfold halideref13_Units.j0
      repeat' first
      | (with_reducible exact ih0 _ _ _)
      | (with_reducible exact ih1 _ _)
      | (with_reducible exact LeO.refl _)
      | (with_reducible exact LeO.none _)
      | (with_reducible refine LeO.ite ?_ ?_)
      | (with_reducible refine LeO.bind ?_ (fun _ => ?_))
      | exact ih0 _ _ _
      | exact ih1 _ _
      | exact LeO.none _
      | refine LeO.ite ?_ ?_
      | refine LeO.bind ?_ (fun _ => ?_)
    · intro y0 y1
      unfold halideref13_Units.j1
      repeat' first
      | (with_reducible exact ih0 _ _ _)
      | (with_reducible exact ih1 _ _)
      | (with_reducible exact LeO.refl _)
      | (with_reducible exact LeO.none _)
      | (with_reducible refine LeO.ite ?_ ?_)
      | (with_reducible refine LeO.bind ?_ (fun _ => ?_))
      | exact ih0 _ _ _
      | exact ih1 _ _
      | exact LeO.none _
      | refine LeO.ite ?_ ?_
      | refine LeO.bind ?_ (fun _ => ?_)
theorem halideref13_Units.mono : ∀ a0 k, LeO (halideref13_Units.f k a0) (halideref13_Units.f (k + 1) a0) := by
  intro a0 k
  obtain ⟨ih0, ih1⟩ := halideref13_Units.mono_l k
  unfold halideref13_Units.f
  repeat' first
      | (with_reducible exact ih0 _ _ _)
      | (with_reducible exact ih1 _ _)
      | (with_reducible exact LeO.refl _)
      | (with_reducible exact LeO.none _)
      | (with_reducible refine LeO.ite ?_ ?_)
      | (with_reducible refine LeO.bind ?_ (fun _ => ?_))
      | exact ih0 _ _ _
      | exact ih1 _ _
      | exact LeO.none _
      | refine LeO.ite ?_ ?_
      | refine LeO.bind ?_ (fun _ => ?_)
set_option maxHeartbeats 8000000 in
set_option maxRecDepth 100000 in
theorem halideref13_Units.calls (k : Nat) (a0 : Int) (r : Int) (w : World) (h : halideref13_Units.f k a0 = some r) :
    Calls Try.prog 37 #[.int .u32 a0] w fun e w' => e = .returned (.int .i64 r) ∧ Drawn0 w w' := by
  have H : (if a0 ≥ 2147483648 then (halideref13_Units.j0 k (wrap64 (Go.bits .and .u32 (a0 / 8388608) 255)) (wrap64 (Go.bits .and .u32 a0 8388607)) true) else (if (wrap64 (Go.bits .and .u32 (a0 / 8388608) 255)) = 255 then (halideref13_Units.j0 k (wrap64 (Go.bits .and .u32 (a0 / 8388608) 255)) (wrap64 (Go.bits .and .u32 a0 8388607)) (decide ((wrap64 (Go.bits .and .u32 a0 8388607)) > 0))) else (halideref13_Units.j0 k (wrap64 (Go.bits .and .u32 (a0 / 8388608) 255)) (wrap64 (Go.bits .and .u32 a0 8388607)) false))) = some r := h
  clear h
  have HC2 := Aside0.mk H
  clear H
  go_enter Try.func37, Try.ntmps37
  go_upto_region 3 with (fail)
  go_cut [24] (fun v24 wc => ∃ (kq : Nat) (x24_1 : Bool), v24 = .bool x24_1 ∧ Aside0 (halideref13_Units.j0 kq (wrap64 (Go.bits .and .u32 (a0 / 8388608) 255)) (wrap64 (Go.bits .and .u32 a0 8388607)) x24_1 = some r) ∧ Aside0 (kq ≤ k) ∧ Drawn0 w wc)
  case first =>
    have H := HC2.out
    clear HC2
    by_cases c3 : a0 ≥ 2147483648
    · rw [if_pos c3] at H
      have c3b0 : decide (2147483648 ≤ a0) = true := decide_eq_true c3
      clear c3
      (first | rw [c3b0] | (simp only [i64_w, i32_w]; rw [c3b0]) | skip)
      have H' := Aside0.mk H
      clear H
      go_wp2
      go_meet
      case rel => exact ⟨_, (true), (by first | rfl | (simp; done) | (simp [*]; done)), H', ⟨by first | omega | exact Nat.le_refl _⟩, by repeat (first | exact Drawn0.refl _ | apply Drawn0.step)⟩
    · rw [if_neg c3] at H
      have c3b0 : decide (2147483648 ≤ a0) = false := decide_eq_false c3
      clear c3
      (first | rw [c3b0] | (simp only [i64_w, i32_w]; rw [c3b0]) | skip)
      by_cases c4 : (wrap64 (Go.bits .and .u32 (a0 / 8388608) 255)) = 255
      · rw [if_pos c4] at H
        have c4b0 : ((wrap64 (Go.bits .and .u32 (a0 / 8388608) 255)) == 255) = true := beq_iff_eq.mpr c4
        have c4b1 : ((wrap64 (Go.bits .and .u32 (a0 / 8388608) 255)) != 255) = false := bne_eq_false_iff_eq.mpr c4
        clear c4
        have H' := Aside0.mk H
        clear H
        go_wp2
        go_meet
        case rel => exact ⟨_, (decide ((wrap64 (Go.bits .and .u32 a0 8388607)) > 0)), (by first | rfl | (simp; done) | (simp [*]; done)), H', ⟨by first | omega | exact Nat.le_refl _⟩, by repeat (first | exact Drawn0.refl _ | apply Drawn0.step)⟩
      · rw [if_neg c4] at H
        have c4b0 : ((wrap64 (Go.bits .and .u32 (a0 / 8388608) 255)) == 255) = false := beq_eq_false_iff_ne.mpr c4
        have c4b1 : ((wrap64 (Go.bits .and .u32 (a0 / 8388608) 255)) != 255) = true := bne_iff_ne.mpr c4
        have H' := Aside0.mk H
        clear H
        go_wp2
        go_meet
        case rel => exact ⟨_, (false), (by first | rfl | (simp; done) | (simp [*]; done)), H', ⟨by first | omega | exact Nat.le_refl _⟩, by repeat (first | exact Drawn0.refl _ | apply Drawn0.step)⟩
  case rest =>
    clear HC2
    try clear p2
    try clear c3
    try clear c3b0
    try clear c4
    try clear c4b0
    try clear c4b1
    obtain ⟨kq, x24_1, rfl, HA, HJ1, ⟨mc1, rfl⟩⟩ := hcut
    cases kq with
    | zero => exact absurd HA.out (by simp [halideref13_Units.j0])
    | succ kj1 =>
      have H := HA.out
      clear HA
      simp only [halideref13_Units.j0] at H
      by_cases c5 : x24_1 = true
      · subst c5
        have H1 : (some 0) = some r := by rw [if_pos rfl] at H; exact H
        clear H
        have H := H1
        clear H1
        obtain rfl := Option.some.inj H
        go_wp2
        go_ret
        exact ⟨by first | rfl | (simp; done) | (simp [*]; done), by repeat (first | exact Drawn0.refl _ | apply Drawn0.step)⟩
      · replace c5 := Bool.eq_false_iff.mpr c5
        subst c5
        have H1 : (if (wrap64 (Go.bits .and .u32 (a0 / 8388608) 255)) ≥ 127 then (some 16777216) else (if (wrap64 (Go.bits .and .u32 (a0 / 8388608) 255)) = 0 then (halideref13_Units.j1 kj1 1 (wrap64 (Go.bits .and .u32 a0 8388607))) else (halideref13_Units.j1 kj1 (wrap64 (Go.bits .and .u32 (a0 / 8388608) 255)) (wrap64 ((wrap64 (Go.bits .and .u32 a0 8388607)) + 8388608))))) = some r := by rw [if_neg (show ¬ (false = true) by decide)] at H; exact H
        clear H
        have H := H1
        clear H1
        by_cases c6 : (wrap64 (Go.bits .and .u32 (a0 / 8388608) 255)) ≥ 127
        · rw [if_pos c6] at H
          have c6b0 : decide (127 ≤ (wrap64 (Go.bits .and .u32 (a0 / 8388608) 255))) = true := decide_eq_true c6
          clear c6
          obtain rfl := Option.some.inj H
          go_wp2
          go_ret
          exact ⟨by first | rfl | (simp; done) | (simp [*]; done), by repeat (first | exact Drawn0.refl _ | apply Drawn0.step)⟩
        · rw [if_neg c6] at H
          have c6b0 : decide (127 ≤ (wrap64 (Go.bits .and .u32 (a0 / 8388608) 255))) = false := decide_eq_false c6
          clear c6
          have HC7 := Aside0.mk H
          clear H
          go_upto_if 28 with (fail)
          go_cut [3, 4] (fun v3 v4 wc => ∃ (kq : Nat) (x3_6 : Int) (x4_6 : Int), v3 = .int .i64 x3_6 ∧ v4 = .int .i64 x4_6 ∧ Aside0 (halideref13_Units.j1 kq x3_6 x4_6 = some r) ∧ Aside0 (kq ≤ kj1) ∧ Drawn0 w wc)
          case first =>
            have H := HC7.out
            clear HC7
            by_cases c8 : (wrap64 (Go.bits .and .u32 (a0 / 8388608) 255)) = 0
            · rw [if_pos c8] at H
              have c8b0 : ((wrap64 (Go.bits .and .u32 (a0 / 8388608) 255)) == 0) = true := beq_iff_eq.mpr c8
              have c8b1 : ((wrap64 (Go.bits .and .u32 (a0 / 8388608) 255)) != 0) = false := bne_eq_false_iff_eq.mpr c8
              clear c8
              (first | rw [c8b0] | (simp only [i64_w, i32_w]; rw [c8b0]) | skip)
              have H' := Aside0.mk H
              clear H
              go_wp2
              go_meet
              case rel => exact ⟨_, (1), ((wrap64 (Go.bits .and .u32 a0 8388607))), (by first | rfl | (simp; done) | (simp [*]; done)), (by first | rfl | (simp; done) | (simp [*]; done)), H', ⟨by have := HJ1.out; first | omega | exact Nat.le_refl _⟩, by repeat (first | exact Drawn0.refl _ | apply Drawn0.step)⟩
            · rw [if_neg c8] at H
              have c8b0 : ((wrap64 (Go.bits .and .u32 (a0 / 8388608) 255)) == 0) = false := beq_eq_false_iff_ne.mpr c8
              have c8b1 : ((wrap64 (Go.bits .and .u32 (a0 / 8388608) 255)) != 0) = true := bne_iff_ne.mpr c8
              (first | rw [c8b0] | (simp only [i64_w, i32_w]; rw [c8b0]) | skip)
              have H' := Aside0.mk H
              clear H
              go_wp2
              go_meet
              case rel => exact ⟨_, ((wrap64 (Go.bits .and .u32 (a0 / 8388608) 255))), (wrap64 ((wrap64 (Go.bits .and .u32 a0 8388607)) + 8388608)), (by first | rfl | (simp; done) | (simp [*]; done)), (by first | rfl | (simp; done) | (simp [*]; done)), H', ⟨by have := HJ1.out; first | omega | exact Nat.le_refl _⟩, by repeat (first | exact Drawn0.refl _ | apply Drawn0.step)⟩
          case rest =>
            clear HC7
            try clear c1
            try clear p2
            try clear c3
            try clear c3b0
            try clear c4
            try clear c4b0
            try clear c4b1
            try clear c5
            try clear c6
            try clear c6b0
            try clear p6
            try clear c8
            try clear c8b0
            try clear c8b1
            try clear p2
            obtain ⟨kq, x3_6, x4_6, rfl, rfl, HA, HJ6, ⟨mc6, rfl⟩⟩ := hcut
            cases kq with
            | zero => exact absurd HA.out (by simp [halideref13_Units.j1])
            | succ kj6 =>
              have H := HA.out
              clear HA
              simp only [halideref13_Units.j1] at H
              by_cases c9 : (wrap64 (126 - x3_6)) > 40
              · rw [if_pos c9] at H
                have c9b0 : decide (40 < (wrap64 (126 - x3_6))) = true := decide_eq_true c9
                clear c9
                obtain rfl := Option.some.inj H
                go_wp2
                go_ret
                exact ⟨by first | rfl | (simp; done) | (simp [*]; done), by repeat (first | exact Drawn0.refl _ | apply Drawn0.step)⟩
              · rw [if_neg c9] at H
                have c9b0 : decide (40 < (wrap64 (126 - x3_6))) = false := decide_eq_false c9
                clear c9
                obtain ⟨ji10, hji10⟩ : ∃ j_ : Int, (wrap64 (126 - x3_6)) = j_ := ⟨_, rfl⟩
                replace H : (if 0 ≤ (ji10) then (if (ji10) > 0 then (if 0 ≤ (wrap64 ((ji10) - 1)) then (if (wrap64 (x4_6 - (shl .i64 (shr .i64 x4_6 (ji10)) (ji10)))) > (shl .i64 1 (wrap64 ((ji10) - 1))) then (some (wrap64 ((shr .i64 x4_6 (ji10)) + 1))) else (if (wrap64 (x4_6 - (shl .i64 (shr .i64 x4_6 (ji10)) (ji10)))) = (shl .i64 1 (wrap64 ((ji10) - 1))) then (if (Int.tmod (shr .i64 x4_6 (ji10)) 2) = 1 then (some (wrap64 ((shr .i64 x4_6 (ji10)) + 1))) else (some (shr .i64 x4_6 (ji10)))) else (some (shr .i64 x4_6 (ji10))))) else (none)) else (some (shr .i64 x4_6 (ji10)))) else (none)) = some r := by first | (rw [hji10] at H; exact H) | (simp only [hji10] at H ⊢; exact H)
                (try rw [hji10] at c9b0)
                have hji10w : (IntKind.i64.wrap (126 - x3_6)) = ji10 := (i64_w _).trans hji10
                by_cases c11 : 0 ≤ (ji10)
                · rw [if_pos c11] at H
                  have c11b0 := eq_true c11
                  have c11b1 : decide (0 ≤ (ji10)) = true := decide_eq_true c11
                  clear c11
                  obtain ⟨ji12, hji12⟩ : ∃ j_ : Int, (shr .i64 x4_6 (ji10)) = j_ := ⟨_, rfl⟩
                  replace H : (if (ji10) > 0 then (if 0 ≤ (wrap64 ((ji10) - 1)) then (if (wrap64 (x4_6 - (shl .i64 (ji12) (ji10)))) > (shl .i64 1 (wrap64 ((ji10) - 1))) then (some (wrap64 ((ji12) + 1))) else (if (wrap64 (x4_6 - (shl .i64 (ji12) (ji10)))) = (shl .i64 1 (wrap64 ((ji10) - 1))) then (if (Int.tmod (ji12) 2) = 1 then (some (wrap64 ((ji12) + 1))) else (some ji12)) else (some ji12))) else (none)) else (some ji12)) = some r := by first | (rw [hji12] at H; exact H) | (simp only [hji12] at H ⊢; exact H)
                  have hji12_ : (x4_6 / 2 ^ min (ji10).toNat 64) = ji12 := hji12
                  have hji12z : (ji10) ≤ 64 → (x4_6 / 2 ^ (ji10).toNat) = ji12 := shr_small hji12
                  have c13b0 := eq_true (of_decide_eq_true (by first | (with_reducible assumption) | assumption) : 0 ≤ (ji10))
                  obtain ⟨ji14, hji14⟩ : ∃ j_ : Int, (shl .i64 (ji12) (ji10)) = j_ := ⟨_, rfl⟩
                  replace H : (if (ji10) > 0 then (if 0 ≤ (wrap64 ((ji10) - 1)) then (if (wrap64 (x4_6 - (ji14))) > (shl .i64 1 (wrap64 ((ji10) - 1))) then (some (wrap64 ((ji12) + 1))) else (if (wrap64 (x4_6 - (ji14))) = (shl .i64 1 (wrap64 ((ji10) - 1))) then (if (Int.tmod (ji12) 2) = 1 then (some (wrap64 ((ji12) + 1))) else (some ji12)) else (some ji12))) else (none)) else (some ji12)) = some r := by first | (rw [hji14] at H; exact H) | (simp only [hji14] at H ⊢; exact H)
                  have hji14_ : (IntKind.i64.wrap ((ji12) * 2 ^ min (ji10).toNat 64)) = ji14 := hji14
                  have hji14z : (ji10) ≤ 64 → (IntKind.i64.wrap ((ji12) * 2 ^ (ji10).toNat)) = ji14 := shl_small hji14
                  have hji14y : (wrap64 ((ji12) * 2 ^ min (ji10).toNat 64)) = ji14 := (i64_w _).symm.trans hji14_
                  have hji14x : (ji10) ≤ 64 → (wrap64 ((ji12) * 2 ^ (ji10).toNat)) = ji14 := fun h_ => (i64_w _).symm.trans (hji14z h_)
                  by_cases c15 : (ji10) > 0
                  · rw [if_pos c15] at H
                    have c15b0 : decide (0 < (ji10)) = true := decide_eq_true c15
                    clear c15
                    obtain ⟨ji16, hji16⟩ : ∃ j_ : Int, (wrap64 ((ji10) - 1)) = j_ := ⟨_, rfl⟩
                    replace H : (if 0 ≤ (ji16) then (if (wrap64 (x4_6 - (ji14))) > (shl .i64 1 (ji16)) then (some (wrap64 ((ji12) + 1))) else (if (wrap64 (x4_6 - (ji14))) = (shl .i64 1 (ji16)) then (if (Int.tmod (ji12) 2) = 1 then (some (wrap64 ((ji12) + 1))) else (some ji12)) else (some ji12))) else (none)) = some r := by first | (rw [hji16] at H; exact H) | (simp only [hji16] at H ⊢; exact H)
                    have hji16w : (IntKind.i64.wrap ((ji10) - 1)) = ji16 := (i64_w _).trans hji16
                    by_cases c17 : 0 ≤ (ji16)
                    · rw [if_pos c17] at H
                      have c17b0 := eq_true c17
                      have c17b1 : decide (0 ≤ (ji16)) = true := decide_eq_true c17
                      clear c17
                      obtain ⟨ji18, hji18⟩ : ∃ j_ : Int, (shl .i64 1 (ji16)) = j_ := ⟨_, rfl⟩
                      replace H : (if (wrap64 (x4_6 - (ji14))) > (ji18) then (some (wrap64 ((ji12) + 1))) else (if (wrap64 (x4_6 - (ji14))) = (ji18) then (if (Int.tmod (ji12) 2) = 1 then (some (wrap64 ((ji12) + 1))) else (some ji12)) else (some ji12))) = some r := by first | (rw [hji18] at H; exact H) | (simp only [hji18] at H ⊢; exact H)
                      have hji18_ : (IntKind.i64.wrap (1 * 2 ^ min (ji16).toNat 64)) = ji18 := hji18
                      have hji18z : (ji16) ≤ 64 → (IntKind.i64.wrap (1 * 2 ^ (ji16).toNat)) = ji18 := shl_small hji18
                      have hji18u : (IntKind.i64.wrap (2 ^ min (ji16).toNat 64)) = ji18 := by have h_ := hji18_; rw [Int.one_mul] at h_; exact h_
                      have hji18v : (ji16) ≤ 64 → (IntKind.i64.wrap (2 ^ (ji16).toNat)) = ji18 := fun hle_ => by have h_ := hji18z hle_; rw [Int.one_mul] at h_; exact h_
                      have hji18y : (wrap64 (1 * 2 ^ min (ji16).toNat 64)) = ji18 := (i64_w _).symm.trans hji18_
                      have hji18x : (ji16) ≤ 64 → (wrap64 (1 * 2 ^ (ji16).toNat)) = ji18 := fun h_ => (i64_w _).symm.trans (hji18z h_)
                      by_cases c19 : (wrap64 (x4_6 - (ji14))) > (ji18)
                      · rw [if_pos c19] at H
                        have c19b0 : decide ((ji18) < (wrap64 (x4_6 - (ji14)))) = true := decide_eq_true c19
                        clear c19
                        obtain rfl := Option.some.inj H
                        go_wp2
                        go_ret
                        exact ⟨by first | rfl | (simp; done) | (simp only [← hji10, ← hji12, ← hji14, ← hji16, ← hji18] <;> (first | rfl | simp)) | (simp [*]; done), by repeat (first | exact Drawn0.refl _ | apply Drawn0.step)⟩
                      · rw [if_neg c19] at H
                        have c19b0 : decide ((ji18) < (wrap64 (x4_6 - (ji14)))) = false := decide_eq_false c19
                        clear c19
                        have c20b0 := eq_true (of_decide_eq_true (by first | (with_reducible assumption) | assumption) : 0 ≤ (ji16))
                        by_cases c22 : (wrap64 (x4_6 - (ji14))) = (ji18)
                        · rw [if_pos c22] at H
                          have c22b0 : ((wrap64 (x4_6 - (ji14))) == (ji18)) = true := beq_iff_eq.mpr c22
                          have c22b1 : ((wrap64 (x4_6 - (ji14))) != (ji18)) = false := bne_eq_false_iff_eq.mpr c22
                          clear c22
                          by_cases c23 : (Int.tmod (ji12) 2) = 1
                          · rw [if_pos c23] at H
                            have c23b0 : ((Int.tmod (ji12) 2) == 1) = true := beq_iff_eq.mpr c23
                            have c23b1 : ((Int.tmod (ji12) 2) != 1) = false := bne_eq_false_iff_eq.mpr c23
                            clear c23
                            obtain rfl := Option.some.inj H
                            go_wp2
                            go_ret
                            exact ⟨by first | rfl | (simp; done) | (simp only [← hji10, ← hji12, ← hji14, ← hji16, ← hji18] <;> (first | rfl | simp)) | (simp [*]; done), by repeat (first | exact Drawn0.refl _ | apply Drawn0.step)⟩
                          · rw [if_neg c23] at H
                            have c23b0 : ((Int.tmod (ji12) 2) == 1) = false := beq_eq_false_iff_ne.mpr c23
                            have c23b1 : ((Int.tmod (ji12) 2) != 1) = true := bne_iff_ne.mpr c23
                            obtain rfl := Option.some.inj H
                            go_wp2
                            go_ret
                            exact ⟨by first | rfl | (simp; done) | (simp only [← hji10, ← hji12, ← hji14, ← hji16, ← hji18] <;> (first | rfl | simp)) | (simp [*]; done), by repeat (first | exact Drawn0.refl _ | apply Drawn0.step)⟩
                        · rw [if_neg c22] at H
                          have c22b0 : ((wrap64 (x4_6 - (ji14))) == (ji18)) = false := beq_eq_false_iff_ne.mpr c22
                          have c22b1 : ((wrap64 (x4_6 - (ji14))) != (ji18)) = true := bne_iff_ne.mpr c22
                          obtain rfl := Option.some.inj H
                          go_wp2
                          go_ret
                          exact ⟨by first | rfl | (simp; done) | (simp only [← hji10, ← hji12, ← hji14, ← hji16, ← hji18] <;> (first | rfl | simp)) | (simp [*]; done), by repeat (first | exact Drawn0.refl _ | apply Drawn0.step)⟩
                    · rw [if_neg c17] at H
                      exact absurd H (by simp)
                  · rw [if_neg c15] at H
                    have c15b0 : decide (0 < (ji10)) = false := decide_eq_false c15
                    clear c15
                    obtain rfl := Option.some.inj H
                    go_wp2
                    go_ret
                    exact ⟨by first | rfl | (simp; done) | (simp only [← hji10, ← hji12, ← hji14] <;> (first | rfl | simp)) | (simp [*]; done), by repeat (first | exact Drawn0.refl _ | apply Drawn0.step)⟩
                · rw [if_neg c11] at H
                  exact absurd H (by simp)

end Go.Proofs.Ytmipbbkieadecaa.PDB
