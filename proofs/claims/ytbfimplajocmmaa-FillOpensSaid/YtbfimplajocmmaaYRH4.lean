import Derived.Test.YtbfimplajocmmaaYRM1
import Derived.Test.YtbfimplajocmmaaYPRAx2
open Go Go.RowKit Go.Shelf Go.Proofs.YtbfimplajocmmaaW.PrintWords Go.Proofs.YtbfimplajocmmaaW.PrintLast Go.Proofs.YtbfimplajocmmaaW.PrintMore
attribute [local go_sem] max2_int min2_int max_two min_two max_three min_three max_four min_four
attribute [local go_sem ↓] Go.wp_at_zero Go.wp_at_succ
set_option linter.unusedVariables false
set_option linter.unusedSimpArgs false
namespace Go.Proofs.Ytbfimplajocmmaa
open PFA PFC PRA
theorem infoWW : (Try.prog.info? 28).map (fun i => (i.zero, i.size, i.bytes)) = some (some (.int .u32 0), 1, 4) := by kernel_rfl

def StopHere (p : Prop) : Prop := p
theorem stopHere {p : Prop} (h : StopHere p) : p := h
theorem refKey_eq (s : Int) (h0 : 0 ≤ s) (h1 : s < 4294967296) : Cy.f s = some (keyN s.toNat : Int) := by
  unfold Cy.f keyN
  by_cases h2 : s.toNat < 2147483648
  · rw [if_pos (by omega), if_pos h2, show (s + 2147483648) % 4294967296 = ((s.toNat + 2147483648 : Nat) : Int) by omega]
  · rw [if_neg (by omega), if_neg h2, show ((4294967295 : Int) - s) % 4294967296 = ((4294967295 - s.toNat : Nat) : Int) by omega]

def lenOf : Value → Nat
  | .slice _ n _ => n
  | _ => 0
def C3.f (l0 : List Int) : Option (List Int) := if l0.length < 35184372088832 ∧ (∀ s ∈ l0, 0 ≤ s ∧ s < 4294967296) then some (isrt l0) else none

set_option maxHeartbeats 8000000 in
set_option maxRecDepth 100000 in
theorem C3.calls (A0 : Option Addr) (c0 : Nat) (l0 : List Int) (r : List Int) (w : World) (hr0 : Kd.C (Kd.int .u32) w A0 l0.length l0) (hc0 : l0.length ≤ c0) (h : C3.f l0 = some r) :
    Calls Try.prog 98 #[.slice A0 l0.length c0] w fun e w' => ∃ v0_ : Value, e = .returned (v0_) ∧ Kd.R (Kd.int .u32) 28 w' w.heap.size (fun _ => True) v0_ r ∧ Below w.heap.size w w' := by
  unfold C3.f at h
  split at h
  · rename_i hc
    obtain ⟨hl, hu⟩ := hc; rw [isrt_eq l0 hu] at h; obtain rfl := Option.some.inj h; have HU := Ac.mk hu; have HR0 := Ac.mk hr0; have HL := Ac.mk hl; clear hr0 h hu; go_enter Try.func98, Try.ntmps98
    go_wp2_with (first
      | ((with_reducible refine C5 (b := .append) (xs := #[.const (.slice none 0 0), .tmp 9]) rfl ?_)
         at_builtin
         refine Kd.R_append_rows (Kd.int .u32) (w0 := w) w.heap.size rfl (.const (.slice none 0 0)) (.tmp 9) 22 28 (.int .u32 0) 4 rfl Try.underlying22 infoWW rfl (by decide) (by omega) (.slice none 0 0) [] l0 A0 l0.length c0 (fun _ => True) (fun _ => False) rfl rfl (Kd.Ct _ _ _ _ _) HR0.out (fun _ _ h => h) (fun _ h => h.elim) (fun _ _ => trivial) (Below.refl _ _) (Nat.le_refl _) (by simp only [List.length_nil]; omega) ?_; intro v3 w1 ho hb hg hat; rw [List.nil_append] at ho; have HO := Ac.mk ho; have HB := Ac.mk hb; clear ho hb hg hat; refine stopHere ?_))
    unfold StopHere
    go_wp2
    clear HR0
    go_loopw [3, 4] (fun v3 v4 wr => ∃ (n : Nat) (out : List Int), v4 = .int .i64 (n : Int) ∧ 1 ≤ n ∧ n < 140737488355328 ∧ Ac (out.length = l0.length) ∧ Ac (out.Perm l0) ∧ Ac (Runs n out) ∧ Ac (Kd.R (Kd.int .u32) 28 wr w.heap.size (fun _ => True) v3 out) ∧ Ac (Below w.heap.size w wr)) (fun _ v4 _ => l0.length - (intOf v4).toNat)
    case atStart => exact ⟨1, l0, rfl, Nat.le_refl _, by omega, ⟨rfl⟩, ⟨List.Perm.refl _⟩, ⟨runs_one _⟩, HO, HB⟩
    case round =>
      obtain ⟨n, out, rfl, hn1, hn2, HLN, HP, HRUN, HOO, HBB⟩ := hrel; clear HO HB; obtain ⟨A3, c3, hv3⟩ := Kd.B0 HOO.out; subst hv3
      by_cases hlt : n < out.length
      · have hown := Kd.own_of_R HOO.out
        rcases hown.2 with ⟨e0, e1⟩ | ⟨g, cap, cur, e0, hg1, hg2, hg3, hg4, hg5, hg6⟩
        · omega
        · injection e0 with e1 e2 e3
          subst e1 e3; have hglt : g < wr.heap.size := Bh hg2; have HCR := Ac.mk (Kd.Bn HOO.out).2.2; have hlen : out.length < 35184372088832 := by rw [HLN.out]; exact HL.out
          clear hown hg2 hg5 hg6 e2
          go_wp2
          obtain ⟨wp, hwp⟩ : ∃ wp : World, wp = wr := ⟨_, rfl⟩; subst hwp
          go_loopw [5, 6] (fun v5 v6 wx => ∃ (at_ k : Nat) (nx : List Int), v6 = .int .i64 (at_ : Int) ∧ at_ < 1125899906842624 ∧ out.length ≤ at_ + k ∧ Ac (nx ++ passK n k (out.drop at_) = passK n out.length out) ∧ Ac (Kd.R (Kd.int .u32) 28 wx wp.heap.size (fun _ => True) v5 nx) ∧ Ac (Below wp.heap.size wp wx)) (fun _ v6 _ => out.length - (intOf v6).toNat)
          case atStart => exact ⟨0, out.length, [], rfl, by omega, by omega, ⟨by rw [List.drop_zero]; rfl⟩, ⟨Kd.Ct _ _ _ _ _⟩, ⟨Below.refl _ _⟩⟩
          case round =>
            obtain ⟨at_, k, nx, rfl, hat1, hat2, HT, HNX, HBX⟩ := hrel
            by_cases hla : at_ < out.length
            · obtain ⟨k, rfl⟩ : ∃ q, k = q + 1 := ⟨k - 1, by omega⟩
              have hpl : (passK n out.length out).length = out.length := (passK_perm n hn1 out.length out (Nat.le_refl _)).length_eq; obtain ⟨e1, he1⟩ : ∃ e1 : Nat, e1 = min (at_ + n) out.length := ⟨_, rfl⟩; obtain ⟨e2, he2⟩ : ∃ e2 : Nat, e2 = min (at_ + 2 * n) out.length := ⟨_, rfl⟩; obtain ⟨s1, hs1⟩ : ∃ s1 : Nat, s1 = at_ + n := ⟨_, rfl⟩; obtain ⟨s2, hs2⟩ : ∃ s2 : Nat, s2 = 2 * n := ⟨_, rfl⟩; obtain ⟨s3, hs3⟩ : ∃ s3 : Nat, s3 = at_ + 2 * n := ⟨_, rfl⟩; have w1 : IntKind.i64.wrap ((at_ : Int) + (n : Int)) = (s1 : Int) := by rw [IntKind.wrap_i64]; omega
              have w2 : IntKind.i64.wrap (2 * (n : Int)) = (s2 : Int) := by rw [IntKind.wrap_i64]; omega
              have w3 : IntKind.i64.wrap ((at_ : Int) + (s2 : Int)) = (s3 : Int) := by rw [IntKind.wrap_i64]; omega
              have m1 : (if (out.length : Int) < (s1 : Int) then (out.length : Int) else (s1 : Int)) = (e1 : Int) := by split <;> omega
              have m2 : (if (out.length : Int) < (s3 : Int) then (out.length : Int) else (s3 : Int)) = (e2 : Int) := by split <;> omega
              have m3 : (if out.length < s1 then (out.length : Int) else (s1 : Int)) = (e1 : Int) := by split <;> omega
              have m4 : (if out.length < s3 then (out.length : Int) else (s3 : Int)) = (e2 : Int) := by split <;> omega
              have i0 : (0 : Int) ≤ (at_ : Int) := by omega
              have i1 : (at_ : Int) ≤ (e1 : Int) := by omega
              have i2 : (0 : Int) ≤ (e1 : Int) := by omega
              have i3 : (e1 : Int) ≤ (c3 : Int) := by omega
              have i4 : (e1 : Int) ≤ (e2 : Int) := by omega
              have i5 : (e2 : Int) ≤ (c3 : Int) := by omega
              have i6 : at_ ≤ e1 := by omega
              have i7 : e1 ≤ c3 := by omega
              have i8 : e1 ≤ e2 := by omega
              have i9 : e2 ≤ c3 := by omega
              have HPL := Ac.mk hpl; have HE1 := Ac.mk he1; have HE2 := Ac.mk he2; have HS1 := Ac.mk hs1; have HS2 := Ac.mk hs2; have HS3 := Ac.mk hs3; clear hpl he1 he2 hs1 hs2 hs3; obtain ⟨cq, hcq, HCAP⟩ : ∃ cq : Prop, (c3 = e1) = cq ∧ (cq = True ∨ cq = False) ∧ Ac (cq = (c3 = e1)) := ⟨_, rfl, by by_cases h : c3 = e1 <;> simp [h], ⟨rfl⟩⟩; obtain ⟨hcq2, HCAP⟩ := HCAP
              rcases hcq2 with rfl | rfl
              all_goals (
                go_upto_region 9 with fail
                go_quiet (fail)
                go_wp2
                clear w1 m1 m2 m3 m4 i0 i1 i2 i3 i4 i5; obtain ⟨wm, hwm⟩ : ∃ wm : World, wm = wr := ⟨_, rfl⟩; subst hwm
                go_loopw [5, 7, 8] (fun v5 v7 v8 wy => ∃ (ia na ca ib nb cb : Nat) (nx2 : List Int), v7 = .slice (some ⟨g, ia, none⟩) na ca ∧ v8 = .slice (some ⟨g, ib, none⟩) nb cb ∧ ia + na ≤ out.length ∧ ib + nb ≤ out.length ∧ na ≤ ca ∧ nb ≤ cb ∧ Ac (nx2 ++ mrg (view out ia na) (view out ib nb) = nx ++ mrg (view out at_ (e1 - at_)) (view out e1 (e2 - e1))) ∧ Ac (Kd.R (Kd.int .u32) 28 wy wp.heap.size (fun _ => True) v5 nx2) ∧ Ac (Below wp.heap.size wp wy)) (fun _ v7 v8 _ => lenOf v7 + lenOf v8)
                case atStart =>
                  have he1 := HE1.out; have he2 := HE2.out; have hcap := HCAP.out
                  simp only [true_iff, false_iff, eq_iff_iff] at hcap
                  refine ⟨_, _, _, _, _, _, nx, rfl, rfl, by omega, by omega, by omega, by omega, ⟨?_⟩, ⟨Kd.R_drewN HNX.out _⟩, ⟨below_drewN HBX.out _⟩⟩; rw [view_eq out _ e1 (e2 - e1) (by omega)]
                case round =>
                  obtain ⟨ia, na, ca, ib, nb, cb, nx2, rfl, rfl, ha1, hb1, ha2, hb2, HT2, HNX2, HBY⟩ := hrel; obtain ⟨A5, c5, hv5⟩ := Kd.B0 HNX2.out; subst hv5
                  have HLEN : Ac (nx2.length + (na + nb) ≤ out.length) := ⟨by
                    have h1 := congrArg List.length HT2.out; have h2 := congrArg List.length HT.out; have he1 := HE1.out; have he2 := HE2.out; rw [passK_view n k at_ e1 e2 out HE1.out HE2.out (by omega), List.length_append, List.length_append, HPL.out] at h2; rw [List.length_append, List.length_append, mrg_length, mrg_length, view_length _ _ _ ha1, view_length _ _ _ hb1] at h1; rw [mrg_length] at h2
                    omega⟩
                  by_cases hz : na + nb = 0
                  · obtain rfl : na = 0 := by omega
                    obtain rfl : nb = 0 := by omega
                    have hs3 := HS3.out
                    have ht : nx2 ++ passK n k (out.drop (at_ + 2 * n)) = passK n out.length out := by
                      have h1 := HT2.out; rw [view_zero, view_zero] at h1; have h0 : mrg [] [] = [] := by unfold mrg; simp
                      rw [h0, List.append_nil] at h1; rw [← HT.out, passK_view n k at_ e1 e2 out HE1.out HE2.out (by omega), ← List.append_assoc, ← h1]
                    rw [← hs3] at ht; have HTT := Ac.mk ht; have hs3' : s3 < 1125899906842624 := by omega
                    have hs3'' : out.length ≤ s3 + k := by omega
                    have hs3m : at_ < s3 := by omega
                    clear ht hs3
                    go_wp2
                    go_roundw
                    case rel => exact ⟨s3, k, nx2, rfl, hs3', hs3'', HTT, HNX2, HBY⟩
                    case measure => simp [intOf]; omega
                  · rcases Nat.eq_zero_or_pos nb with hnb | hnb
                    · subst hnb
                      have hna : 0 < na := by omega
                      obtain ⟨xa, hxa⟩ : ∃ xa, xa = out.getD ia 0 := ⟨_, rfl⟩
                      have hcA : wr.cell? ⟨g, ia, none⟩ = some (.int .u32 xa) := by
                        obtain ⟨ad, hA, hcell⟩ := (Kd.Cx (enc := Value.int .u32) (d := (0 : Int)) (h1 := fun _ => rfl) (Kd.B2 HCR.out HBY.out)).at_ (ia : Int) (by omega) (by omega); cases hA; have hcell2 : wr.cell? ((⟨g, 0, none⟩ : Addr).add ia) = some (.int .u32 xa) := by rw [hxa]; exact hcell
                        rw [YtbfimplajocmmaaW.PrintWords.add_plain] at hcell2; exact hcell2
                      have huA : 0 ≤ xa ∧ xa < 4294967296 := by
                        rw [hxa, List.getD_eq_getElem?_getD, List.getElem?_eq_getElem (by omega)]; exact HU.out _ (HP.out.mem_iff.mp (List.getElem_mem _))
                      have hkA := refKey_eq xa huA.1 huA.2; obtain ⟨kxa, hkA2⟩ : ∃ k, k = keyN xa.toNat := ⟨_, rfl⟩; rw [← hkA2] at hkA; have HXA := Ac.mk hxa; have HUA := Ac.mk huA; have HKA := Ac.mk hkA; have HKA2 := Ac.mk hkA2; clear hxa huA hkA hkA2; have jA1 : (1 : Int) ≤ (na : Int) := by omega
                      have jA2 : (na : Int) ≤ (ca : Int) := by omega
                      have jA3 : (0 : Int) < (na : Int) := by omega
                      have jA4 : (na = 0) = False := eq_false (by omega); have jA5 : ((na : Int) = 0) = False := eq_false (by omega); have jA6 : 1 ≤ na := by omega
                      have jA7 : 0 < na := by omega
                      have jA8 : ((na : Int) == 0) = false := beq_eq_false_iff_ne.mpr (by omega); have jA9 : (na == 0) = false := beq_eq_false_iff_ne.mpr (by omega); have jAa : decide (0 < (na : Int)) = true := decide_eq_true (by omega); have jAb : decide (0 < na) = true := decide_eq_true (by omega); have jAc : decide ((na : Int) = 0) = false := decide_eq_false (by omega)
                      go_upto_region 11 with fail
                      go_quiet (first | with_reducible exact Calls.quiet_of ((Cy.calls xa _ _ HKA.out).mono (by rintro e w' ⟨rfl, ⟨m, rfl⟩⟩; exact ⟨rfl, m, rfl⟩)))
                      go_wp2_with (first | (with_reducible refine C5 (b := .append) (xs := #[.tmp 74, .tmp 78]) rfl ?_; refine stopHere ?_))
                      unfold StopHere
                      at_builtin
                      refine Kd.Ds (Kd.int .u32) (w0 := wp) wp.heap.size rfl (.tmp 74) (.tmp 78) 22 28 (.int .u32 0) 4 rfl Try.underlying22 infoWW rfl (by decide) (by omega) (.slice A5 nx2.length c5) nx2 xa [.int .u32 xa] (fun _ => True) (fun _ => False) rfl rfl rfl (fun _ hk => hk.elim) (fun _ _ => trivial) (Kd.R_drewN HNX2.out _) (below_drewN HBY.out _) (below_drewN HBY.out nq).size (by have := HLEN.out; omega) ?_; intro v9 w9 ho hb hg hat; have HO9 := Ac.mk ho; have HB9 := Ac.mk hb; clear ho hb hg hat
                      by_cases hcc : ca = 1
                      · obtain rfl : na = 1 := by omega
                        subst hcc
                        go_wp2
                        go_roundw
                        case rel =>
                          exact ⟨_, _, _, _, _, _, nx2 ++ [xa], rfl, rfl, by omega, by omega, by omega, by omega, ⟨take_a HT2.out ha1 hb1 (by omega) (.inl rfl) (by omega) (by omega) HXA.out⟩, HO9, HB9⟩
                        case measure => (first | (simp [lenOf]; done) | (simp [lenOf]; omega))
                      · skip
                        go_wp2
                        go_roundw
                        case rel =>
                          exact ⟨_, _, _, _, _, _, nx2 ++ [xa], rfl, rfl, by omega, by omega, by omega, by omega, ⟨take_a HT2.out ha1 hb1 (by omega) (.inl rfl) (by omega) (by omega) HXA.out⟩, HO9, HB9⟩
                        case measure => (first | (simp [lenOf]; done) | (simp [lenOf]; omega))
                    · rcases Nat.eq_zero_or_pos na with hna | hna
                      · subst hna
                        obtain ⟨xb, hxb⟩ : ∃ xb, xb = out.getD ib 0 := ⟨_, rfl⟩
                        have hcB : wr.cell? ⟨g, ib, none⟩ = some (.int .u32 xb) := by
                          obtain ⟨ad, hA, hcell⟩ := (Kd.Cx (enc := Value.int .u32) (d := (0 : Int)) (h1 := fun _ => rfl) (Kd.B2 HCR.out HBY.out)).at_ (ib : Int) (by omega) (by omega); cases hA; have hcell2 : wr.cell? ((⟨g, 0, none⟩ : Addr).add ib) = some (.int .u32 xb) := by rw [hxb]; exact hcell
                          rw [YtbfimplajocmmaaW.PrintWords.add_plain] at hcell2; exact hcell2
                        have huB : 0 ≤ xb ∧ xb < 4294967296 := by
                          rw [hxb, List.getD_eq_getElem?_getD, List.getElem?_eq_getElem (by omega)]; exact HU.out _ (HP.out.mem_iff.mp (List.getElem_mem _))
                        have hkB := refKey_eq xb huB.1 huB.2; obtain ⟨kxb, hkB2⟩ : ∃ k, k = keyN xb.toNat := ⟨_, rfl⟩; rw [← hkB2] at hkB; have HXB := Ac.mk hxb; have HUB := Ac.mk huB; have HKB := Ac.mk hkB; have HKB2 := Ac.mk hkB2; clear hxb huB hkB hkB2; have jB1 : (1 : Int) ≤ (nb : Int) := by omega
                        have jB2 : (nb : Int) ≤ (cb : Int) := by omega
                        have jB3 : (0 : Int) < (nb : Int) := by omega
                        have jB4 : (nb = 0) = False := eq_false (by omega); have jB5 : ((nb : Int) = 0) = False := eq_false (by omega); have jB6 : 1 ≤ nb := by omega
                        have jB7 : 0 < nb := by omega
                        have jB8 : ((nb : Int) == 0) = false := beq_eq_false_iff_ne.mpr (by omega); have jB9 : (nb == 0) = false := beq_eq_false_iff_ne.mpr (by omega); have jBa : decide (0 < (nb : Int)) = true := decide_eq_true (by omega); have jBb : decide (0 < nb) = true := decide_eq_true (by omega); have jBc : decide ((nb : Int) = 0) = false := decide_eq_false (by omega)
                        go_upto_region 11 with fail
                        go_quiet (first | with_reducible exact Calls.quiet_of ((Cy.calls xb _ _ HKB.out).mono (by rintro e w' ⟨rfl, ⟨m, rfl⟩⟩; exact ⟨rfl, m, rfl⟩)))
                        go_wp2_with (first | (with_reducible refine C5 (b := .append) (xs := #[.tmp 82, .tmp 86]) rfl ?_; refine stopHere ?_))
                        unfold StopHere
                        at_builtin
                        refine Kd.Ds (Kd.int .u32) (w0 := wp) wp.heap.size rfl (.tmp 82) (.tmp 86) 22 28 (.int .u32 0) 4 rfl Try.underlying22 infoWW rfl (by decide) (by omega) (.slice A5 nx2.length c5) nx2 xb [.int .u32 xb] (fun _ => True) (fun _ => False) rfl rfl rfl (fun _ hk => hk.elim) (fun _ _ => trivial) (Kd.R_drewN HNX2.out _) (below_drewN HBY.out _) (below_drewN HBY.out nq).size (by have := HLEN.out; omega) ?_; intro v9 w9 ho hb hg hat; have HO9 := Ac.mk ho; have HB9 := Ac.mk hb; clear ho hb hg hat
                        by_cases hcc : cb = 1
                        · obtain rfl : nb = 1 := by omega
                          subst hcc
                          go_wp2
                          go_roundw
                          case rel =>
                            exact ⟨_, _, _, _, _, _, nx2 ++ [xb], rfl, rfl, by omega, by omega, by omega, by omega, ⟨take_b HT2.out ha1 hb1 (by omega) (.inl rfl) (by omega) (by omega) HXB.out⟩, HO9, HB9⟩
                          case measure => (first | (simp [lenOf]; done) | (simp [lenOf]; omega))
                        · skip
                          go_wp2
                          go_roundw
                          case rel =>
                            exact ⟨_, _, _, _, _, _, nx2 ++ [xb], rfl, rfl, by omega, by omega, by omega, by omega, ⟨take_b HT2.out ha1 hb1 (by omega) (.inl rfl) (by omega) (by omega) HXB.out⟩, HO9, HB9⟩
                          case measure => (first | (simp [lenOf]; done) | (simp [lenOf]; omega))
                      · skip
                        obtain ⟨xa, hxa⟩ : ∃ xa, xa = out.getD ia 0 := ⟨_, rfl⟩
                        have hcA : wr.cell? ⟨g, ia, none⟩ = some (.int .u32 xa) := by
                          obtain ⟨ad, hA, hcell⟩ := (Kd.Cx (enc := Value.int .u32) (d := (0 : Int)) (h1 := fun _ => rfl) (Kd.B2 HCR.out HBY.out)).at_ (ia : Int) (by omega) (by omega); cases hA; have hcell2 : wr.cell? ((⟨g, 0, none⟩ : Addr).add ia) = some (.int .u32 xa) := by rw [hxa]; exact hcell
                          rw [YtbfimplajocmmaaW.PrintWords.add_plain] at hcell2; exact hcell2
                        have huA : 0 ≤ xa ∧ xa < 4294967296 := by
                          rw [hxa, List.getD_eq_getElem?_getD, List.getElem?_eq_getElem (by omega)]; exact HU.out _ (HP.out.mem_iff.mp (List.getElem_mem _))
                        have hkA := refKey_eq xa huA.1 huA.2; obtain ⟨kxa, hkA2⟩ : ∃ k, k = keyN xa.toNat := ⟨_, rfl⟩; rw [← hkA2] at hkA; have HXA := Ac.mk hxa; have HUA := Ac.mk huA; have HKA := Ac.mk hkA; have HKA2 := Ac.mk hkA2; clear hxa huA hkA hkA2; have jA1 : (1 : Int) ≤ (na : Int) := by omega
                        have jA2 : (na : Int) ≤ (ca : Int) := by omega
                        have jA3 : (0 : Int) < (na : Int) := by omega
                        have jA4 : (na = 0) = False := eq_false (by omega); have jA5 : ((na : Int) = 0) = False := eq_false (by omega); have jA6 : 1 ≤ na := by omega
                        have jA7 : 0 < na := by omega
                        have jA8 : ((na : Int) == 0) = false := beq_eq_false_iff_ne.mpr (by omega); have jA9 : (na == 0) = false := beq_eq_false_iff_ne.mpr (by omega); have jAa : decide (0 < (na : Int)) = true := decide_eq_true (by omega); have jAb : decide (0 < na) = true := decide_eq_true (by omega); have jAc : decide ((na : Int) = 0) = false := decide_eq_false (by omega); obtain ⟨xb, hxb⟩ : ∃ xb, xb = out.getD ib 0 := ⟨_, rfl⟩
                        have hcB : wr.cell? ⟨g, ib, none⟩ = some (.int .u32 xb) := by
                          obtain ⟨ad, hA, hcell⟩ := (Kd.Cx (enc := Value.int .u32) (d := (0 : Int)) (h1 := fun _ => rfl) (Kd.B2 HCR.out HBY.out)).at_ (ib : Int) (by omega) (by omega); cases hA; have hcell2 : wr.cell? ((⟨g, 0, none⟩ : Addr).add ib) = some (.int .u32 xb) := by rw [hxb]; exact hcell
                          rw [YtbfimplajocmmaaW.PrintWords.add_plain] at hcell2; exact hcell2
                        have huB : 0 ≤ xb ∧ xb < 4294967296 := by
                          rw [hxb, List.getD_eq_getElem?_getD, List.getElem?_eq_getElem (by omega)]; exact HU.out _ (HP.out.mem_iff.mp (List.getElem_mem _))
                        have hkB := refKey_eq xb huB.1 huB.2; obtain ⟨kxb, hkB2⟩ : ∃ k, k = keyN xb.toNat := ⟨_, rfl⟩; rw [← hkB2] at hkB; have HXB := Ac.mk hxb; have HUB := Ac.mk huB; have HKB := Ac.mk hkB; have HKB2 := Ac.mk hkB2; clear hxb huB hkB hkB2; have jB1 : (1 : Int) ≤ (nb : Int) := by omega
                        have jB2 : (nb : Int) ≤ (cb : Int) := by omega
                        have jB3 : (0 : Int) < (nb : Int) := by omega
                        have jB4 : (nb = 0) = False := eq_false (by omega); have jB5 : ((nb : Int) = 0) = False := eq_false (by omega); have jB6 : 1 ≤ nb := by omega
                        have jB7 : 0 < nb := by omega
                        have jB8 : ((nb : Int) == 0) = false := beq_eq_false_iff_ne.mpr (by omega); have jB9 : (nb == 0) = false := beq_eq_false_iff_ne.mpr (by omega); have jBa : decide (0 < (nb : Int)) = true := decide_eq_true (by omega); have jBb : decide (0 < nb) = true := decide_eq_true (by omega); have jBc : decide ((nb : Int) = 0) = false := decide_eq_false (by omega)
                        by_cases hkk : kxa ≤ kxb
                        · have hkk2 : (kxa : Int) ≤ (kxb : Int) := by omega
                          have hkk3 : decide ((kxa : Int) ≤ (kxb : Int)) = true := decide_eq_true (by omega); have hkk4 : decide (kxa ≤ kxb) = true := decide_eq_true (by omega)
                          go_upto_region 11 with fail
                          go_quiet (first | (with_reducible exact Calls.quiet_of ((Cy.calls xa _ _ HKA.out).mono (by rintro e w' ⟨rfl, ⟨m, rfl⟩⟩; exact ⟨rfl, m, rfl⟩))) | (with_reducible exact Calls.quiet_of ((Cy.calls xb _ _ HKB.out).mono (by rintro e w' ⟨rfl, ⟨m, rfl⟩⟩; exact ⟨rfl, m, rfl⟩))))
                          go_wp2_with (first | (with_reducible refine C5 (b := .append) (xs := #[.tmp 74, .tmp 78]) rfl ?_; refine stopHere ?_))
                          unfold StopHere
                          at_builtin
                          refine Kd.Ds (Kd.int .u32) (w0 := wp) wp.heap.size rfl (.tmp 74) (.tmp 78) 22 28 (.int .u32 0) 4 rfl Try.underlying22 infoWW rfl (by decide) (by omega) (.slice A5 nx2.length c5) nx2 xa [.int .u32 xa] (fun _ => True) (fun _ => False) rfl rfl rfl (fun _ hk => hk.elim) (fun _ _ => trivial) (Kd.R_drewN HNX2.out _) (below_drewN HBY.out _) (below_drewN HBY.out nq).size (by have := HLEN.out; omega) ?_; intro v9 w9 ho hb hg hat; have HO9 := Ac.mk ho; have HB9 := Ac.mk hb; clear ho hb hg hat
                          by_cases hcc : ca = 1
                          · obtain rfl : na = 1 := by omega
                            subst hcc
                            go_wp2
                            go_roundw
                            case rel =>
                              exact ⟨_, _, _, _, _, _, nx2 ++ [xa], rfl, rfl, by omega, by omega, by omega, by omega, ⟨take_a HT2.out ha1 hb1 (by omega) (.inr (by unfold leK; rw [← HXA.out, ← HXB.out, ← HKA2.out, ← HKB2.out]; exact decide_eq_true hkk)) (by omega) (by omega) HXA.out⟩, HO9, HB9⟩
                            case measure => (first | (simp [lenOf]; done) | (simp [lenOf]; omega))
                          · skip
                            go_wp2
                            go_roundw
                            case rel =>
                              exact ⟨_, _, _, _, _, _, nx2 ++ [xa], rfl, rfl, by omega, by omega, by omega, by omega, ⟨take_a HT2.out ha1 hb1 (by omega) (.inr (by unfold leK; rw [← HXA.out, ← HXB.out, ← HKA2.out, ← HKB2.out]; exact decide_eq_true hkk)) (by omega) (by omega) HXA.out⟩, HO9, HB9⟩
                            case measure => (first | (simp [lenOf]; done) | (simp [lenOf]; omega))
                        · have hkk2 : ¬(kxa : Int) ≤ (kxb : Int) := by omega
                          have hkk3 : decide ((kxa : Int) ≤ (kxb : Int)) = false := decide_eq_false (by omega); have hkk4 : decide (kxa ≤ kxb) = false := decide_eq_false (by omega)
                          go_upto_region 11 with fail
                          go_quiet (first | (with_reducible exact Calls.quiet_of ((Cy.calls xa _ _ HKA.out).mono (by rintro e w' ⟨rfl, ⟨m, rfl⟩⟩; exact ⟨rfl, m, rfl⟩))) | (with_reducible exact Calls.quiet_of ((Cy.calls xb _ _ HKB.out).mono (by rintro e w' ⟨rfl, ⟨m, rfl⟩⟩; exact ⟨rfl, m, rfl⟩))))
                          go_wp2_with (first | (with_reducible refine C5 (b := .append) (xs := #[.tmp 82, .tmp 86]) rfl ?_; refine stopHere ?_))
                          unfold StopHere
                          at_builtin
                          refine Kd.Ds (Kd.int .u32) (w0 := wp) wp.heap.size rfl (.tmp 82) (.tmp 86) 22 28 (.int .u32 0) 4 rfl Try.underlying22 infoWW rfl (by decide) (by omega) (.slice A5 nx2.length c5) nx2 xb [.int .u32 xb] (fun _ => True) (fun _ => False) rfl rfl rfl (fun _ hk => hk.elim) (fun _ _ => trivial) (Kd.R_drewN HNX2.out _) (below_drewN HBY.out _) (below_drewN HBY.out nq).size (by have := HLEN.out; omega) ?_; intro v9 w9 ho hb hg hat; have HO9 := Ac.mk ho; have HB9 := Ac.mk hb; clear ho hb hg hat
                          by_cases hcc : cb = 1
                          · obtain rfl : nb = 1 := by omega
                            subst hcc
                            go_wp2
                            go_roundw
                            case rel =>
                              exact ⟨_, _, _, _, _, _, nx2 ++ [xb], rfl, rfl, by omega, by omega, by omega, by omega, ⟨take_b HT2.out ha1 hb1 (by omega) (.inr (by unfold leK; rw [← HXA.out, ← HXB.out, ← HKA2.out, ← HKB2.out]; exact decide_eq_false hkk)) (by omega) (by omega) HXB.out⟩, HO9, HB9⟩
                            case measure => (first | (simp [lenOf]; done) | (simp [lenOf]; omega))
                          · skip
                            go_wp2
                            go_roundw
                            case rel =>
                              exact ⟨_, _, _, _, _, _, nx2 ++ [xb], rfl, rfl, by omega, by omega, by omega, by omega, ⟨take_b HT2.out ha1 hb1 (by omega) (.inr (by unfold leK; rw [← HXA.out, ← HXB.out, ← HKA2.out, ← HKB2.out]; exact decide_eq_false hkk)) (by omega) (by omega) HXB.out⟩, HO9, HB9⟩
                            case measure => (first | (simp [lenOf]; done) | (simp [lenOf]; omega)))
            · have hk0 : out.drop at_ = [] := List.drop_of_length_le (by omega)
              have hT := HT.out; rw [hk0, passK_nil, List.append_nil] at hT; subst hT; have hperm := passK_perm n hn1 out.length out (Nat.le_refl _); have hrun := passK_runs n out.length out HRUN.out; have hln := hperm.length_eq; have hn3 : 2 * n < 140737488355328 := by have := HL.out; have := HLN.out; omega
              obtain ⟨s2, hs2⟩ : ∃ s2 : Nat, s2 = 2 * n := ⟨_, rfl⟩; have w2 : IntKind.i64.wrap (2 * (n : Int)) = (s2 : Int) := by rw [IntKind.wrap_i64]; omega
              have hs4 : 1 ≤ s2 := by omega
              have hs5 : s2 < 140737488355328 := by omega
              have hs6 : n < s2 := by omega
              rw [← hs2] at hrun; have HPE := Ac.mk (hperm.trans HP.out); have HRU := Ac.mk hrun; have HLE := Ac.mk (hln.trans HLN.out); have HNR := Ac.mk (Kd.B9 HNX.out HBB.out.size); have HBZ := Ac.mk (HBB.out.trans (HBX.out.mono HBB.out.size)); have HLN3 := HLN.out; clear hperm hrun hln hs2 hk0
              go_wp2
              go_roundw
              case rel => exact ⟨s2, _, rfl, hs4, hs5, HLE, HPE, HRU, HNR, HBZ⟩
              case measure => simp [intOf]; omega
      · go_wp2
        go_ret
        have hfin : out = srtI l0 := srtI_unique l0 out HU.out HP.out (by
          have := HRUN.out 0; rw [Nat.zero_mul, List.drop_zero, List.take_of_length_le (by omega)] at this; exact this)
        have hR := HOO.out; rw [hfin] at hR ⊢; exact ⟨_, rfl, hR, HBB.out⟩
  · cases h
end Go.Proofs.Ytbfimplajocmmaa


