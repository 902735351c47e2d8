import Derived.Test.YtobdfiglgdbecaaXCP
import Derived.Test.YtobdfiglgdbecaaXPGRx0
namespace Go.Proofs.Ytobdfiglgdbecaa.PGI
open Go.Proofs.Ytobdfiglgdbecaa.PGA Go.Proofs.Ytobdfiglgdbecaa.PGB
open Go.RowKit Go.Proofs.YtobdfiglgdbecaaW.PrintWords Go.Proofs.YtobdfiglgdbecaaW.PrintLast Go.Proofs.YtobdfiglgdbecaaW.PrintMore
attribute [local go_sem] max2_int min2_int max_two min_two max_three min_three max_four min_four
set_option linter.unusedVariables false
set_option linter.unusedSimpArgs false

def Bh.l0 : Nat → List Int → Int → Int → Int → Option (List Int)
 | 0, _, _, _, _ => none
 | k + 1, x0, x1, x5, x6 => if x5 < x6 then (if 0 ≤ (wrap64 (Int.tdiv (wrap64 (x5 + x6)) 2)) then (if (wrap64 (Int.tdiv (wrap64 (x5 + x6)) 2)) < (x0.length : Int) then (if (rd x0 (wrap64 (Int.tdiv (wrap64 (x5 + x6)) 2))) < x1 then (Bh.l0 k x0 x1 (wrap64 ((wrap64 (Int.tdiv (wrap64 (x5 + x6)) 2)) + 1)) x6) else (Bh.l0 k x0 x1 x5 (wrap64 (Int.tdiv (wrap64 (x5 + x6)) 2)))) else (none)) else (none)) else (if x5 < (x0.length : Int) then (if 0 ≤ x5 then (if (rd x0 x5) = x1 then (some x0) else (if x0.length < 17592186044416 then ((some (x0 ++ [0] : List Int)).bind fun ae => (if x5 < (ae.length : Int) then (some ((shl ae (x5 : Int).toNat).set (x5 : Int).toNat x1)) else (none))) else (none))) else (none)) else (if x0.length < 17592186044416 then ((some (x0 ++ [0] : List Int)).bind fun af => (if 0 ≤ x5 then (if x5 < (af.length : Int) then (some ((shl af (x5 : Int).toNat).set (x5 : Int).toNat x1)) else (none)) else (none))) else (none)))
def Bh.f (k : Nat) (l0 : List Int) (a1 : Int) : Option (List Int) := Bh.l0 k l0 a1 0 (l0.length : Int)
set_option maxHeartbeats 8000000 in
set_option maxRecDepth 100000 in
theorem Bh.calls (k : Nat) (P0_ : Nat → Prop) (u9000_ : Value) (l0 : List Int) (a1 : Int) (r : List Int) (w0 w : World) (hB : Below w0.heap.size w0 w) (ho0 : Kd.R (Kd.int .i64) 3 w w0.heap.size P0_ u9000_ l0) (h : Bh.f k l0 a1 = some r) :
  Calls Try.prog 65 #[u9000_, .int .i64 a1] w fun e w' => ∃ v0_ : Value, e = .returned (v0_) ∧ Kd.R (Kd.int .i64) 3 w' w0.heap.size (fun k_ => (P0_ k_ ∨ w.heap.size ≤ k_)) v0_ r ∧ Below w0.heap.size w0 w' ∧ Kept w w' (fun k_ => P0_ k_) := by
 have HO0 := Aa.mk (show Kd.R (Kd.int .i64) 3 w w0.heap.size (fun k_ => (P0_ k_ ∨ w.heap.size ≤ k_)) u9000_ l0 from Kd.Bs ho0 (fun k_ hk => (.inl hk))); have HK := Aa.mk (Kept.refl w (fun k_ => P0_ k_)); have HW0 := Aa.mk hB.size; have HB := Aa.mk hB; clear hB; have H : (Bh.l0 k l0 a1 0 (l0.length : Int)) = some r := h; clear h; have H' := Aa.mk H; clear H; obtain ⟨Ao3, co3, eo3⟩ := Kd.Bk HO0.out; subst eo3; go_enter Try.func65, Try.ntmps65
 go_wp2
 go_loopg [5, 6] k (fun kq v5 v6 w' => ∃ (aa : Int) (ah : Int), v5 = .int .i64 aa ∧ v6 = .int .i64 ah ∧ Aa (Bh.l0 kq l0 a1 aa ah = some r) ∧ Aa (kq ≤ k) ∧ Aa (Kd.R (Kd.int .i64) 3 w' w0.heap.size (fun k_ => (P0_ k_ ∨ w.heap.size ≤ k_)) (.slice Ao3 l0.length co3) l0) ∧ Aa (Kept w w' (fun k_ => P0_ k_)) ∧ Aa (Below w0.heap.size w0 w'))
 case atStart => exact ⟨(0), ((l0.length : Int)), (by first | rfl | (simp; done) | (simp [*]; done)), (by first | rfl | (simp; done) | (simp [*]; done)), H', ⟨Nat.le_refl _⟩, ⟨by exact rU <| HO0.out⟩, ⟨by repeat (first | (with_reducible first | exact HK.out | apply Kept.alloc | apply Kept.drewN | apply Kept.drew) | exact HK.out)⟩, ⟨by repeat (first | (with_reducible first | exact HB.out | apply Ad | apply Ab | apply Ac) | exact HB.out)⟩⟩
 case round =>
  clear H'; (try clear p2); obtain ⟨aa, ah, rfl, rfl, HA, HK1, ag, HK, HB⟩ := hrel; cases gk with
  | zero => exact absurd HA.out (by simp [Bh.l0])
  | succ k1 =>
   have H := HA.out; clear HA
   simp only [Bh.l0] at H
   by_cases c4 : aa < ah
   ·rw [if_pos c4] at H
    have aQ : decide (aa < ah) = true := decide_eq_true c4; clear c4; obtain ⟨ji5, ao⟩ : ∃ j_ : Int, (wrap64 (Int.tdiv (wrap64 (aa + ah)) 2)) = j_ := ⟨_, rfl⟩; replace H : (if 0 ≤ (ji5) then (if (ji5) < (l0.length : Int) then (if (rd l0 (ji5)) < a1 then (Bh.l0 k1 l0 a1 (wrap64 ((ji5) + 1)) ah) else (Bh.l0 k1 l0 a1 aa ji5)) else (none)) else (none)) = some r := by first | (rw [ao] at H; exact H) | (simp only [ao] at H ⊢; exact H)
    have hji5w : (IntKind.i64.wrap (Int.tdiv (wrap64 (aa + ah)) 2)) = ji5 := (i64_w _).trans ao
    by_cases c6 : 0 ≤ (ji5)
    ·rw [if_pos c6] at H
     have bc : decide (0 ≤ (ji5)) = true := decide_eq_true c6; clear c6
     by_cases c7 : (ji5) < (l0.length : Int)
     ·rw [if_pos c7] at H
      have be : decide ((ji5) < (l0.length : Int)) = true := decide_eq_true c7; clear c7
      by_cases c8 : (rd l0 (ji5)) < a1
      ·rw [if_pos c8] at H
       have aT : decide ((rd l0 (ji5)) < a1) = true := decide_eq_true c8; clear c8; have H' := Aa.mk H; clear H; have ak : 0 ≤ ((ji5) : Int) := of_decide_eq_true (by with_reducible assumption); have al : (ji5) < (l0.length : Int) := of_decide_eq_true (by with_reducible assumption); obtain ⟨aD, e101, av⟩ := Kd.at_int (Kd.Ax ag.out).2.2 (ji5) ak al; cases e101; replace ak := eq_true ak; replace al := eq_true al
       go_wp2
       go_roundg k1
       case measure => have := HK1.out; omega
       case rel => exact ⟨(wrap64 ((ji5) + 1)), (ah), (by first | rfl | (simp; done) | (simp only [← ao] <;> (first | rfl | simp)) | (simp [*]; done)), (by first | rfl | (simp; done) | (simp [*]; done)), H', ⟨by have := HK1.out; omega⟩, ⟨by exact rU <| ag.out⟩, ⟨by repeat (first | (with_reducible first | exact HK.out | apply Kept.alloc | apply Kept.drewN | apply Kept.drew) | exact HK.out)⟩, ⟨by repeat (first | (with_reducible first | exact HB.out | apply Ad | apply Ab | apply Ac) | exact HB.out)⟩⟩
      ·rw [if_neg c8] at H
       have aT : decide ((rd l0 (ji5)) < a1) = false := decide_eq_false c8; clear c8; have H' := Aa.mk H; clear H; have ak : 0 ≤ ((ji5) : Int) := of_decide_eq_true (by with_reducible assumption); have al : (ji5) < (l0.length : Int) := of_decide_eq_true (by with_reducible assumption); obtain ⟨aD, e101, av⟩ := Kd.at_int (Kd.Ax ag.out).2.2 (ji5) ak al; cases e101; replace ak := eq_true ak; replace al := eq_true al
       go_wp2
       go_roundg k1
       case measure => have := HK1.out; omega
       case rel => exact ⟨(aa), (ji5), (by first | rfl | (simp; done) | (simp [*]; done)), (by first | rfl | (simp; done) | (simp only [← ao] <;> (first | rfl | simp)) | (simp [*]; done)), H', ⟨by have := HK1.out; omega⟩, ⟨by exact rU <| ag.out⟩, ⟨by repeat (first | (with_reducible first | exact HK.out | apply Kept.alloc | apply Kept.drewN | apply Kept.drew) | exact HK.out)⟩, ⟨by repeat (first | (with_reducible first | exact HB.out | apply Ad | apply Ab | apply Ac) | exact HB.out)⟩⟩
     ·rw [if_neg c7] at H
      exact absurd H (by simp)
    ·rw [if_neg c6] at H
     exact absurd H (by simp)
   ·rw [if_neg c4] at H
    have aQ : decide (aa < ah) = false := decide_eq_false c4; clear c4
    by_cases c9 : aa < (l0.length : Int)
    ·rw [if_pos c9] at H
     have aU : decide (aa < (l0.length : Int)) = true := decide_eq_true c9; clear c9
     by_cases c10 : 0 ≤ aa
     ·rw [if_pos c10] at H
      have a6 : decide (0 ≤ aa) = true := decide_eq_true c10; clear c10
      by_cases c11 : (rd l0 aa) = a1
      ·rw [if_pos c11] at H
       have aE : ((rd l0 aa) == a1) = true := beq_iff_eq.mpr c11; have aG : ((rd l0 aa) != a1) = false := bne_eq_false_iff_eq.mpr c11; clear c11; obtain rfl := Option.some.inj H; have am : 0 ≤ (aa : Int) := of_decide_eq_true (by with_reducible assumption); have an : aa < (l0.length : Int) := of_decide_eq_true (by with_reducible assumption); obtain ⟨ax, e102, aw⟩ := Kd.at_int (Kd.Ax ag.out).2.2 aa am an; cases e102; replace am := eq_true am; replace an := eq_true an
       go_wp2
       go_ret
       exact ⟨_, by first | rfl | (simp [Ba, Az] <;> rfl) | (simp [*, Ba, Az] <;> rfl), by exact rU <| ag.out, by repeat (first | (with_reducible first | exact HB.out | apply Ad | apply Ab | apply Ac) | exact HB.out), by repeat (first | (with_reducible first | exact HK.out | apply Kept.alloc | apply Kept.drewN | apply Kept.drew) | exact HK.out)⟩
      ·rw [if_neg c11] at H
       have aE : ((rd l0 aa) == a1) = false := beq_eq_false_iff_ne.mpr c11; have aG : ((rd l0 aa) != a1) = true := bne_iff_ne.mpr c11
       by_cases c12 : l0.length < 17592186044416
       ·rw [if_pos c12] at H
        have LMc12 := Aa.mk c12; clear c12; obtain ⟨ae, ap⟩ : ∃ y_ : List Int, y_ = (l0 ++ [0]) := ⟨_, rfl⟩; (try rw [Option.bind_some] at H); try rw [← ap] at H; have ay := Aa.mk ap; clear ap
        by_cases c13 : aa < (ae.length : Int)
        ·rw [if_pos c13] at H
         have a7 : decide (aa < (ae.length : Int)) = true := decide_eq_true c13; clear c13; obtain ⟨aV, aq⟩ : ∃ y_ : List Int, y_ = ((shl ae (aa : Int).toNat).set (aa : Int).toNat a1) := ⟨_, rfl⟩; (try rw [Option.bind_some] at H); try rw [← aq] at H; have aH := Aa.mk aq; clear aq; obtain rfl := Option.some.inj H; have am : 0 ≤ (aa : Int) := of_decide_eq_true (by with_reducible assumption); have an : aa < (l0.length : Int) := of_decide_eq_true (by with_reducible assumption); obtain ⟨ax, e102, aw⟩ := Kd.at_int (Kd.Ax ag.out).2.2 aa am an; cases e102; replace am := eq_true am; replace an := eq_true an
         go_upto_region 11 with (((with_reducible refine Cw (b := .append) (xs := #[.tmp 39, .tmp 40]) rfl ?_); at_builtin; refine Kd.Dd (Kd.int .i64) (w0 := w0) w0.heap.size rfl (.tmp 39) (.tmp 40) 29 3 (.int .i64 0) 8 rfl Try.underlying29 info3 rfl (by decide) (by omega) (.slice (some ax) l0.length co3) l0 0 [.int .i64 0] (fun k_ => (P0_ k_ ∨ w.heap.size ≤ k_)) (fun _ => False) rfl rfl ?aP (fun _ hk => hk.elim) ?aF ?aO ?aB ?aS ?aL ?_; (case aP => exact rfl); (case aB => exact (lU HB.out)); (case aF => exact (fun k_ hk => (.inr (Nat.le_trans (by first | exact HK.out.1 | exact (show Kept w _ (fun k_ => P0_ k_) from by repeat (first | (with_reducible first | exact HK.out | apply Kept.alloc | apply Kept.drewN | apply Kept.drew) | exact HK.out)).1) hk)))); (case aO => exact (by exact rU <| ag.out)); (case aS => exact (Af (lU HB.out))); (case aL => have := LMc12.out; omega); intro v104 w15 ho hb hg hat; rw [← ay.out] at ho; replace HB := Aa.mk (hb); replace HK := Aa.mk (Kept.of_grown (S := (fun k_ => P0_ k_)) hg (by repeat (first | (with_reducible first | exact HK.out | apply Kept.alloc | apply Kept.drewN | apply Kept.drew) | exact HK.out)) (fun k_ e_ => (ag.out.1 k_ e_))); have ab := Aa.mk (ho); clear ag; clear ho hb hg hat; have p14 : 0 ≤ (aa : Int) := of_decide_eq_true (by with_reducible assumption); have q14 : (aa : Int) < ((ae.length : Int) : Int) := of_decide_eq_true (by with_reducible assumption); obtain ⟨go14, ai, aI, aJ, gl14, cl14, HG14⟩ := Kd.R_form ab.out (by omega); (first | cases aI | (injection aI with ea_ en_ ec_; (first | subst ea_ | (injection ea_ with ea_; subst ea_)); subst ec_; clear en_)); have GB14 := Aa.mk aJ; have GG14 := Aa.mk HG14; clear aJ gl14 HG14; have HMgo14 := Aa.mk (show (P0_ go14 ∨ w.heap.size ≤ go14) from (ab.out.1 _ rfl))))
         have hlen_ : ae.length = l0.length + 1 := by rw [ay.out]; simp
         obtain ⟨j1_, hj1_⟩ : ∃ j_ : Int, wrap64 (aa + 1) = j_ := ⟨_, rfl⟩; have hj2_ : j1_ = ((aa.toNat + 1 : Nat) : Int) := by rw [← hj1_]; have := LMc12.out; unfold wrap64; omega
         obtain ⟨i3_, hi3_, hz3_⟩ : ∃ i_ : TypeInfo, Try.prog.info? 3 = some i_ ∧ i_.size = 1 := by obtain ⟨i_, h_, z_⟩ := Option.map_eq_some_iff.mp info3; simp only [Prod.mk.injEq] at z_; exact ⟨i_, h_, z_.2.1⟩
         have hcl_ : ae.length ≤ ai := (Kd.Ax ab.out).2.1; have hsl1_ := slice_on (P := Try.prog) 29 3 Try.underlying29 hi3_ hz3_ go14 ae.length ai j1_ (aa.toNat + 1) hj2_ (by omega); have hsl2_ := slice_on (P := Try.prog) 29 3 Try.underlying29 hi3_ hz3_ go14 ae.length ai aa aa.toNat (by omega) (by omega)
         simp only [show ¬ (ai = aa.toNat) by omega, if_false] at hsl2_
         obtain ⟨Au_, hAu_⟩ : ∃ A_, (if ai = aa.toNat + 1 then (some ⟨go14, 0, none⟩ : Option Addr) else some ⟨go14, aa.toNat + 1, none⟩) = A_ := ⟨_, rfl⟩; rw [hAu_] at hsl1_; have hA1_ : aa.toNat + 1 < ae.length → Au_ = some ⟨go14, aa.toNat + 1, none⟩ := fun h_ => by rw [← hAu_, if_neg (by omega)]
         have hA2_ := Aa.mk hA1_; have hlt_ := Aa.mk (show aa.toNat < ae.length from by omega); clear hAu_ hA1_ hlen_ hj2_ hi3_ hz3_ hcl_; refine start_ (n := 8) (S := fun w' => True ∧ True) (ds := [7]) #[false, false, false, false, false, false, false, false] (by kernel_rfl) rfl rfl ⟨trivial, trivial⟩ (fun hHeld => ?_); have q1_ := Aa.mk (Kd.Ck ab.out); have q2_ := Aa.mk (Ac HB.out); have q3_ := Aa.mk (Kept.drew HK.out); generalize w15.drew = w16_ at q1_ q2_ q3_ hHeld ⊢; clear ab HB HK; have ab := q1_; have HB := q2_; have HK := q3_; clear q1_ q2_ q3_; obtain ⟨w17_, hcp_, hR_, hg_⟩ := copy_down ab.out aa.toNat hlt_.out 29 3 Try.underlying29 (by kernel_rfl) Au_ (ai - (aa.toNat + 1)) (ai - aa.toNat) hA2_.out; refine pure_ (i := 0) (N := (some 42)) (v := ?_) (a' := ?_) #[true, false, false, false, false, false, false, false] rfl rfl (by kernel_rfl) (fun _ _ _ h => h) (Or.inl ⟨by rfl, ?_⟩) ?_ ?_; rotate_left
         ·intro w'
          go_simp
          with_reducible rfl
         rotate_left
         ·simp only [Act.put, List.setIfInBounds_toArray, List.set_cons_zero, List.set_cons_succ, i64_w, i32_w]
          rfl
         refine pure_ (i := 1) (N := (some 43)) (v := ?_) (a' := ?_) #[true, true, false, false, false, false, false, false] rfl rfl (by kernel_rfl) (fun _ _ _ h => h) (Or.inl ⟨by rfl, ?_⟩) ?_ ?_; rotate_left
         ·intro w'
          go_simp
          with_reducible rfl
         rotate_left
         ·simp only [Act.put, List.setIfInBounds_toArray, List.set_cons_zero, List.set_cons_succ, i64_w, i32_w]
          rfl
         refine pure_ (i := 2) (N := (some 44)) (v := ?_) (a' := ?_) #[true, true, true, false, false, false, false, false] rfl rfl (by kernel_rfl) (fun _ _ _ h => h) (Or.inl ⟨by rfl, ?_⟩) ?_ ?_; rotate_left
         ·intro w'
          go_simp
          with_reducible rfl
         rotate_left
         ·simp only [Act.put, List.setIfInBounds_toArray, List.set_cons_zero, List.set_cons_succ, i64_w, i32_w]
          rfl
         refine pure_ (i := 3) (N := (some 45)) (v := ?_) (a' := ?_) #[true, true, true, true, false, false, false, false] rfl rfl (by kernel_rfl) (fun _ _ _ h => h) (Or.inl ⟨by rfl, ?_⟩) ?_ ?_; rotate_left
         ·intro w'
          go_simp
          with_reducible rfl
         rotate_left
         ·simp only [Act.put, List.setIfInBounds_toArray, List.set_cons_zero, List.set_cons_succ, i64_w, i32_w]
          rfl
         refine pure_ (i := 4) (N := (some 46)) (v := ?_) (a' := ?_) #[true, true, true, true, true, false, false, false] rfl rfl (by kernel_rfl) (fun _ _ _ h => h) (Or.inl ⟨by rfl, ?_⟩) ?_ ?_; rotate_left
         ·intro w'
          go_simp
          with_reducible rfl
         rotate_left
         ·simp only [Act.put, List.setIfInBounds_toArray, List.set_cons_zero, List.set_cons_succ, i64_w, i32_w]
          rfl
         refine pure_ (i := 5) (N := (some 47)) (v := ?_) (a' := ?_) #[true, true, true, true, true, true, false, false] rfl rfl (by kernel_rfl) (fun _ _ _ h => h) (Or.inl ⟨by rfl, ?_⟩) ?_ ?_; rotate_left
         ·intro w'
          go_simp
          with_reducible rfl
         rotate_left
         ·simp only [Act.put, List.setIfInBounds_toArray, List.set_cons_zero, List.set_cons_succ, i64_w, i32_w]
          rfl
         refine pure_ (i := 6) (N := (some 48)) (v := ?_) (a' := ?_) #[true, true, true, true, true, true, true, false] rfl rfl (by kernel_rfl) (fun _ _ _ h => h) (Or.inl ⟨by rfl, ?_⟩) ?_ ?_; rotate_left
         ·intro w'
          go_simp
          with_reducible rfl
         rotate_left
         ·simp only [Act.put, List.setIfInBounds_toArray, List.set_cons_zero, List.set_cons_succ, i64_w, i32_w]
          rfl
         refine last_ (i := 7) (N := (some 49)) #[true, true, true, true, true, true, true, true] rfl rfl (by kernel_rfl) (by decide) (fun K hK => ?_); refine value_ (v := .int .i64 ((ae.length - (aa.toNat + 1) : Nat) : Int)) (w1 := w17_) (by rfl) rfl (by go_simp) ?_; refine hK.out _ _ ?_; clear hK K; refine done_ (by kernel_rfl) ?_; have n1_ := Aa.mk (HB.out.grown hg_ (Af (lU HB.out)) (fun k_ e_ => by injection e_ with e_; rw [← e_]; exact GB14.out)); have n2_ := Aa.mk (Kept.of_grown (S := (fun k_ => P0_ k_)) hg_ HK.out (fun k_ e_ => (ab.out.1 k_ e_))); clear ab HB HK hcp_ hsl1_ hsl2_; have ab := Aa.mk hR_; have HB := n1_; have HK := n2_; clear n1_ n2_ hR_; obtain ⟨aW, aX⟩ := Kd.R_celln 0 ab.out (aa : Int) p14 q14; replace p14 := eq_true p14; replace q14 := eq_true q14; obtain ⟨hy16_, hz16_⟩ := Kd.R_celln 0 ab.out (aa : Int) (of_decide_eq_true (by with_reducible assumption)) (of_decide_eq_true (by with_reducible assumption)); have aA := Kd.R_putg ab.out (aa : Int) a1
         go_wp2_with (((with_reducible refine gate_store (t := 3) (p := 53) rfl ?_); refine store_event (t := 3) (p := 53) (v := ?vo_w17) (w1 := (w17_.setCell ⟨go14, (aa : Int).toNat, none⟩ (.int .i64 a1))) ?hg ?ho ?hn ?hr ?_; (case ho => rfl); (case hg => rfl); (case hn => rfl); (case hr => first | (go_simp; done) | (go_simp; rfl)); intro w17 hw; have hg : w17_.grownBy w17 (some go14) := (by rw [hw]; exact aA.2); have hp_ : Kd.R (Kd.int .i64) 3 w17 w0.heap.size (fun k_ => (P0_ k_ ∨ w.heap.size ≤ k_)) (.slice (some ⟨go14, 0, none⟩) ae.length ai) aV := (by rw [hw, aH.out]; exact aA.1); clear aA; replace HB := Aa.mk ((by rw [hw]; exact Ak (HB.out) GB14.out : Below w0.heap.size w0 w17)); replace HK := Aa.mk (Kept.of_grown (S := (fun k_ => P0_ k_)) hg (by repeat (first | (with_reducible first | exact HK.out | apply Kept.alloc | apply Kept.drewN | apply Kept.drew) | exact HK.out)) (fun k_ e_ => (ab.out.1 k_ e_))); replace ab := Aa.mk (hp_); clear hg hw hp_))
         go_ret
         exact ⟨_, by first | rfl | (simp [Ba, Az] <;> rfl) | (simp [*, Ba, Az] <;> rfl), by exact rU <| ab.out, by repeat (first | (with_reducible first | exact HB.out | apply Ad | apply Ab | apply Ac) | exact HB.out), by repeat (first | (with_reducible first | exact HK.out | apply Kept.alloc | apply Kept.drewN | apply Kept.drew) | exact HK.out)⟩
        ·rw [if_neg c13] at H
         exact absurd H (by simp)
       ·rw [if_neg c12] at H
        exact absurd H (by simp)
     ·rw [if_neg c10] at H
      exact absurd H (by simp)
    ·rw [if_neg c9] at H
     have aU : decide (aa < (l0.length : Int)) = false := decide_eq_false c9; clear c9
     by_cases c18 : l0.length < 17592186044416
     ·rw [if_pos c18] at H
      have LMc18 := Aa.mk c18; clear c18; obtain ⟨af, ar⟩ : ∃ y_ : List Int, y_ = (l0 ++ [0]) := ⟨_, rfl⟩; (try rw [Option.bind_some] at H); try rw [← ar] at H; have az := Aa.mk ar; clear ar
      by_cases c19 : 0 ≤ aa
      ·rw [if_pos c19] at H
       have a8 : decide (0 ≤ aa) = true := decide_eq_true c19; clear c19
       by_cases c20 : aa < (af.length : Int)
       ·rw [if_pos c20] at H
        have a9 : decide (aa < (af.length : Int)) = true := decide_eq_true c20; clear c20; obtain ⟨aY, au⟩ : ∃ y_ : List Int, y_ = ((shl af (aa : Int).toNat).set (aa : Int).toNat a1) := ⟨_, rfl⟩; (try rw [Option.bind_some] at H); try rw [← au] at H; have aK := Aa.mk au; clear au; obtain rfl := Option.some.inj H
        go_upto_region 11 with (((with_reducible refine Cw (b := .append) (xs := #[.tmp 39, .tmp 40]) rfl ?_); at_builtin; refine Kd.Dd (Kd.int .i64) (w0 := w0) w0.heap.size rfl (.tmp 39) (.tmp 40) 29 3 (.int .i64 0) 8 rfl Try.underlying29 info3 rfl (by decide) (by omega) (.slice Ao3 l0.length co3) l0 0 [.int .i64 0] (fun k_ => (P0_ k_ ∨ w.heap.size ≤ k_)) (fun _ => False) rfl rfl ?aP (fun _ hk => hk.elim) ?aF ?aO ?aB ?aS ?aL ?_; (case aP => exact rfl); (case aB => exact (lU HB.out)); (case aF => exact (fun k_ hk => (.inr (Nat.le_trans (by first | exact HK.out.1 | exact (show Kept w _ (fun k_ => P0_ k_) from by repeat (first | (with_reducible first | exact HK.out | apply Kept.alloc | apply Kept.drewN | apply Kept.drew) | exact HK.out)).1) hk)))); (case aO => exact (by exact rU <| ag.out)); (case aS => exact (Af (lU HB.out))); (case aL => have := LMc18.out; omega); intro v108 w22 ho hb hg hat; rw [← az.out] at ho; replace HB := Aa.mk (hb); replace HK := Aa.mk (Kept.of_grown (S := (fun k_ => P0_ k_)) hg (by repeat (first | (with_reducible first | exact HK.out | apply Kept.alloc | apply Kept.drewN | apply Kept.drew) | exact HK.out)) (fun k_ e_ => (ag.out.1 k_ e_))); have ac := Aa.mk (ho); clear ag; clear ho hb hg hat; have p21 : 0 ≤ (aa : Int) := of_decide_eq_true (by with_reducible assumption); have q21 : (aa : Int) < ((af.length : Int) : Int) := of_decide_eq_true (by with_reducible assumption); obtain ⟨go21, aj, aM, aN, gl21, cl21, HG21⟩ := Kd.R_form ac.out (by omega); (first | cases aM | (injection aM with ea_ en_ ec_; (first | subst ea_ | (injection ea_ with ea_; subst ea_)); subst ec_; clear en_)); have GB21 := Aa.mk aN; have GG21 := Aa.mk HG21; clear aN gl21 HG21; have HMgo21 := Aa.mk (show (P0_ go21 ∨ w.heap.size ≤ go21) from (ac.out.1 _ rfl))))
        have hlen_ : af.length = l0.length + 1 := by rw [az.out]; simp
        obtain ⟨j1_, hj1_⟩ : ∃ j_ : Int, wrap64 (aa + 1) = j_ := ⟨_, rfl⟩; have hj2_ : j1_ = ((aa.toNat + 1 : Nat) : Int) := by rw [← hj1_]; have := LMc18.out; unfold wrap64; omega
        obtain ⟨i3_, hi3_, hz3_⟩ : ∃ i_ : TypeInfo, Try.prog.info? 3 = some i_ ∧ i_.size = 1 := by obtain ⟨i_, h_, z_⟩ := Option.map_eq_some_iff.mp info3; simp only [Prod.mk.injEq] at z_; exact ⟨i_, h_, z_.2.1⟩
        have hcl_ : af.length ≤ aj := (Kd.Ax ac.out).2.1; have hsl1_ := slice_on (P := Try.prog) 29 3 Try.underlying29 hi3_ hz3_ go21 af.length aj j1_ (aa.toNat + 1) hj2_ (by omega); have hsl2_ := slice_on (P := Try.prog) 29 3 Try.underlying29 hi3_ hz3_ go21 af.length aj aa aa.toNat (by omega) (by omega)
        simp only [show ¬ (aj = aa.toNat) by omega, if_false] at hsl2_
        obtain ⟨Au_, hAu_⟩ : ∃ A_, (if aj = aa.toNat + 1 then (some ⟨go21, 0, none⟩ : Option Addr) else some ⟨go21, aa.toNat + 1, none⟩) = A_ := ⟨_, rfl⟩; rw [hAu_] at hsl1_; have hA1_ : aa.toNat + 1 < af.length → Au_ = some ⟨go21, aa.toNat + 1, none⟩ := fun h_ => by rw [← hAu_, if_neg (by omega)]
        have hA2_ := Aa.mk hA1_; have hlt_ := Aa.mk (show aa.toNat < af.length from by omega); clear hAu_ hA1_ hlen_ hj2_ hi3_ hz3_ hcl_; refine start_ (n := 8) (S := fun w' => True ∧ True) (ds := [7]) #[false, false, false, false, false, false, false, false] (by kernel_rfl) rfl rfl ⟨trivial, trivial⟩ (fun hHeld => ?_); have q1_ := Aa.mk (Kd.Ck ac.out); have q2_ := Aa.mk (Ac HB.out); have q3_ := Aa.mk (Kept.drew HK.out); generalize w22.drew = w16_ at q1_ q2_ q3_ hHeld ⊢; clear ac HB HK; have ac := q1_; have HB := q2_; have HK := q3_; clear q1_ q2_ q3_; obtain ⟨w17_, hcp_, hR_, hg_⟩ := copy_down ac.out aa.toNat hlt_.out 29 3 Try.underlying29 (by kernel_rfl) Au_ (aj - (aa.toNat + 1)) (aj - aa.toNat) hA2_.out; refine pure_ (i := 0) (N := (some 42)) (v := ?_) (a' := ?_) #[true, false, false, false, false, false, false, false] rfl rfl (by kernel_rfl) (fun _ _ _ h => h) (Or.inl ⟨by rfl, ?_⟩) ?_ ?_; rotate_left
        ·intro w'
         go_simp
         with_reducible rfl
        rotate_left
        ·simp only [Act.put, List.setIfInBounds_toArray, List.set_cons_zero, List.set_cons_succ, i64_w, i32_w]
         rfl
        refine pure_ (i := 1) (N := (some 43)) (v := ?_) (a' := ?_) #[true, true, false, false, false, false, false, false] rfl rfl (by kernel_rfl) (fun _ _ _ h => h) (Or.inl ⟨by rfl, ?_⟩) ?_ ?_; rotate_left
        ·intro w'
         go_simp
         with_reducible rfl
        rotate_left
        ·simp only [Act.put, List.setIfInBounds_toArray, List.set_cons_zero, List.set_cons_succ, i64_w, i32_w]
         rfl
        refine pure_ (i := 2) (N := (some 44)) (v := ?_) (a' := ?_) #[true, true, true, false, false, false, false, false] rfl rfl (by kernel_rfl) (fun _ _ _ h => h) (Or.inl ⟨by rfl, ?_⟩) ?_ ?_; rotate_left
        ·intro w'
         go_simp
         with_reducible rfl
        rotate_left
        ·simp only [Act.put, List.setIfInBounds_toArray, List.set_cons_zero, List.set_cons_succ, i64_w, i32_w]
         rfl
        refine pure_ (i := 3) (N := (some 45)) (v := ?_) (a' := ?_) #[true, true, true, true, false, false, false, false] rfl rfl (by kernel_rfl) (fun _ _ _ h => h) (Or.inl ⟨by rfl, ?_⟩) ?_ ?_; rotate_left
        ·intro w'
         go_simp
         with_reducible rfl
        rotate_left
        ·simp only [Act.put, List.setIfInBounds_toArray, List.set_cons_zero, List.set_cons_succ, i64_w, i32_w]
         rfl
        refine pure_ (i := 4) (N := (some 46)) (v := ?_) (a' := ?_) #[true, true, true, true, true, false, false, false] rfl rfl (by kernel_rfl) (fun _ _ _ h => h) (Or.inl ⟨by rfl, ?_⟩) ?_ ?_; rotate_left
        ·intro w'
         go_simp
         with_reducible rfl
        rotate_left
        ·simp only [Act.put, List.setIfInBounds_toArray, List.set_cons_zero, List.set_cons_succ, i64_w, i32_w]
         rfl
        refine pure_ (i := 5) (N := (some 47)) (v := ?_) (a' := ?_) #[true, true, true, true, true, true, false, false] rfl rfl (by kernel_rfl) (fun _ _ _ h => h) (Or.inl ⟨by rfl, ?_⟩) ?_ ?_; rotate_left
        ·intro w'
         go_simp
         with_reducible rfl
        rotate_left
        ·simp only [Act.put, List.setIfInBounds_toArray, List.set_cons_zero, List.set_cons_succ, i64_w, i32_w]
         rfl
        refine pure_ (i := 6) (N := (some 48)) (v := ?_) (a' := ?_) #[true, true, true, true, true, true, true, false] rfl rfl (by kernel_rfl) (fun _ _ _ h => h) (Or.inl ⟨by rfl, ?_⟩) ?_ ?_; rotate_left
        ·intro w'
         go_simp
         with_reducible rfl
        rotate_left
        ·simp only [Act.put, List.setIfInBounds_toArray, List.set_cons_zero, List.set_cons_succ, i64_w, i32_w]
         rfl
        refine last_ (i := 7) (N := (some 49)) #[true, true, true, true, true, true, true, true] rfl rfl (by kernel_rfl) (by decide) (fun K hK => ?_); refine value_ (v := .int .i64 ((af.length - (aa.toNat + 1) : Nat) : Int)) (w1 := w17_) (by rfl) rfl (by go_simp) ?_; refine hK.out _ _ ?_; clear hK K; refine done_ (by kernel_rfl) ?_; have n1_ := Aa.mk (HB.out.grown hg_ (Af (lU HB.out)) (fun k_ e_ => by injection e_ with e_; rw [← e_]; exact GB21.out)); have n2_ := Aa.mk (Kept.of_grown (S := (fun k_ => P0_ k_)) hg_ HK.out (fun k_ e_ => (ac.out.1 k_ e_))); clear ac HB HK hcp_ hsl1_ hsl2_; have ac := Aa.mk hR_; have HB := n1_; have HK := n2_; clear n1_ n2_ hR_; obtain ⟨aZ, a5⟩ := Kd.R_celln 0 ac.out (aa : Int) p21 q21; replace p21 := eq_true p21; replace q21 := eq_true q21; obtain ⟨hy23_, hz23_⟩ := Kd.R_celln 0 ac.out (aa : Int) (of_decide_eq_true (by with_reducible assumption)) (of_decide_eq_true (by with_reducible assumption)); have aC := Kd.R_putg ac.out (aa : Int) a1
        go_wp2_with (((with_reducible refine gate_store (t := 3) (p := 53) rfl ?_); refine store_event (t := 3) (p := 53) (v := ?vo_w24) (w1 := (w17_.setCell ⟨go21, (aa : Int).toNat, none⟩ (.int .i64 a1))) ?hg ?ho ?hn ?hr ?_; (case ho => rfl); (case hg => rfl); (case hn => rfl); (case hr => first | (go_simp; done) | (go_simp; rfl)); intro w24 hw; have hg : w17_.grownBy w24 (some go21) := (by rw [hw]; exact aC.2); have hp_ : Kd.R (Kd.int .i64) 3 w24 w0.heap.size (fun k_ => (P0_ k_ ∨ w.heap.size ≤ k_)) (.slice (some ⟨go21, 0, none⟩) af.length aj) aY := (by rw [hw, aK.out]; exact aC.1); clear aC; replace HB := Aa.mk ((by rw [hw]; exact Ak (HB.out) GB21.out : Below w0.heap.size w0 w24)); replace HK := Aa.mk (Kept.of_grown (S := (fun k_ => P0_ k_)) hg (by repeat (first | (with_reducible first | exact HK.out | apply Kept.alloc | apply Kept.drewN | apply Kept.drew) | exact HK.out)) (fun k_ e_ => (ac.out.1 k_ e_))); replace ac := Aa.mk (hp_); clear hg hw hp_))
        go_ret
        exact ⟨_, by first | rfl | (simp [Ba, Az] <;> rfl) | (simp [*, Ba, Az] <;> rfl), by exact rU <| ac.out, by repeat (first | (with_reducible first | exact HB.out | apply Ad | apply Ab | apply Ac) | exact HB.out), by repeat (first | (with_reducible first | exact HK.out | apply Kept.alloc | apply Kept.drewN | apply Kept.drew) | exact HK.out)⟩
       ·rw [if_neg c20] at H
        exact absurd H (by simp)
      ·rw [if_neg c19] at H
       exact absurd H (by simp)
     ·rw [if_neg c18] at H
      exact absurd H (by simp)

end Go.Proofs.Ytobdfiglgdbecaa.PGI

