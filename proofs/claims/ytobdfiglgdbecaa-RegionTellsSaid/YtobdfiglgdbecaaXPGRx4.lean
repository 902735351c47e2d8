import Derived.Test.YtobdfiglgdbecaaXUQ
import Derived.Test.YtobdfiglgdbecaaXPGRx0
import Derived.Test.YtobdfiglgdbecaaXPGRx3
namespace Go.Proofs.Ytobdfiglgdbecaa.PGR
open Go.Proofs.Ytobdfiglgdbecaa.PGA Go.Proofs.Ytobdfiglgdbecaa.PGB Go.Proofs.Ytobdfiglgdbecaa.PGH Go.Proofs.Ytobdfiglgdbecaa.PGI
open Go.RowKit Go.Proofs.YtobdfiglgdbecaaW.PrintWords Go.Proofs.YtobdfiglgdbecaaW.PrintLast Go.Proofs.YtobdfiglgdbecaaW.PrintMore
attribute [local go_sem] max2_int min2_int max_two min_two max_three min_three max_four min_four
set_option linter.unusedVariables false
set_option linter.unusedSimpArgs false

def Bz.l0 : Nat → List (S58) → Int → List (S99) → Int → Option ((List (S99)))
 | 0, _, _, _, _ => none
 | k + 1, x0, x1, x5, x6 => if x6 < (x0.length : Int) then (if 0 ≤ x6 then (if x1 ≥ ((rd_T58 x0 x6).f1) then (if x1 < ((rd_T58 x0 x6).f3) then ((Bv.f x5 ((rd_T58 x0 x6).f0) ((rd_T58 x0 x6).f2)).bind fun bf => (Bz.l0 k x0 x1 bf (wrap64 (x6 + 1)))) else (Bz.l0 k x0 x1 x5 (wrap64 (x6 + 1)))) else (Bz.l0 k x0 x1 x5 (wrap64 (x6 + 1)))) else (none)) else (some x5)
def Bz.f (k : Nat) (l0 : List (S58)) (a1 : Int) : Option ((List (S99))) := Bz.l0 k l0 a1 ([] : List (S99)) 0
def Bz.T6 : Bool × List (List Nat × List Nat) := (true, [([], []), ([], []), ([], []), ([1, 2], [1, 2]), ([3], [3]), ([4], [4]), ([], []), ([], []), ([6, 7], [6, 7]), ([8], [8]), ([9], [9]), ([5, 10], [5, 10]), ([0, 11], [0, 11]), ([12, 12, 0, 1, 2, 3, 4, 5, 6, 7, 8, 9, 10, 11, 12], [0, 12])])
def Bz.B6 : List Nat := [0, 0, 0, 6, 14, 30, 0, 0, 192, 448, 960, 2046, 4095, 8191]
theorem Bz.tab6 : rtab .any (opsOf Try.f66 6) = Bz.T6 := by kernel_rfl
theorem Bz.bits6 : waitsOk Bz.T6.2 Bz.B6 = true := by kernel_rfl
set_option maxHeartbeats 8000000 in
set_option maxRecDepth 100000 in
theorem Bz.calls (k : Nat) (A0 : Option Addr) (c0 : Nat) (l0 : List (S58)) (a1 : Int) (r : List (S99)) (w : World) (hr0 : Kd.C k58 w A0 l0.length l0) (hc0 : l0.length ≤ c0) (h : Bz.f k l0 a1 = some r) :
  Calls Try.prog 66 #[.slice A0 l0.length c0, .int .i64 a1] w fun e w' => ∃ v0_ : Value, e = .returned (v0_) ∧ Kd.R k99 99 w' w.heap.size (fun _ => True) v0_ r ∧ Below w.heap.size w w' := by
 have hu99 := Try.underlying99; have HR0 := Aa.mk hr0; have HC0 := Aa.mk hc0; clear hr0 hc0; have HB := Aa.mk (Below.refl w.heap.size w); have H : (Bz.l0 k l0 a1 ([] : List (S99)) 0) = some r := h; clear h; have H' := Aa.mk H; clear H; go_enter Try.func66, Try.ntmps66
 go_wp2
 go_loopg [5, 6] k (fun kq v5 v6 w' => ∃ (aW : List (S99)) (aa : Int), v6 = .int .i64 aa ∧ Aa (Bz.l0 kq l0 a1 aW aa = some r) ∧ Aa (kq ≤ k) ∧ Aa (Kd.R k99 99 w' w.heap.size (fun _ => True) v5 aW) ∧ Aa (Below w.heap.size w w'))
 case atStart => exact ⟨(([] : List (S99))), (0), (by first | rfl | (simp; done) | (simp [*]; done)), H', ⟨Nat.le_refl _⟩, ⟨by first | exact Kd.De _ _ _ _ _ | exact Kd.N_nil _ _ _ _ _ | exact Kd.V_nil _ _ _ _ _ | exact Kd.Q_nil _ _ _ _ _ | exact Kd.S_nil _ _ _ _ _⟩, ⟨by repeat (first | (with_reducible first | exact HB.out | apply Ad | apply Ab | apply Ac) | exact HB.out)⟩⟩
 case round =>
  clear H'; (try clear p2); obtain ⟨aW, aa, rfl, HA, HK1, aX, HB⟩ := hrel; cases gk with
  | zero => exact absurd HA.out (by simp [Bz.l0])
  | succ k1 =>
   have H := HA.out; clear HA
   simp only [Bz.l0] at H
   by_cases c3 : aa < (l0.length : Int)
   ·rw [if_pos c3] at H
    have bs : decide (aa < (l0.length : Int)) = true := decide_eq_true c3; clear c3
    by_cases c4 : 0 ≤ aa
    ·rw [if_pos c4] at H
     have bu : decide (0 ≤ aa) = true := decide_eq_true c4; clear c4
     by_cases c5 : a1 ≥ ((rd_T58 l0 aa).f1)
     ·rw [if_pos c5] at H
      have bH : decide (((rd_T58 l0 aa).f1) ≤ a1) = true := decide_eq_true c5; clear c5
      by_cases c6 : a1 < ((rd_T58 l0 aa).f3)
      ·rw [if_pos c6] at H
       have bh : decide (a1 < ((rd_T58 l0 aa).f3)) = true := decide_eq_true c6; clear c6; replace H := Option.bind_eq_some_iff.mp H; obtain ⟨bf, A70, H⟩ := H
       try dsimp only at H
       have A7 := Aa.mk A70; clear A70; have H' := Aa.mk H; clear H; have aT : 0 ≤ (aa : Int) := of_decide_eq_true (by with_reducible assumption); have aU : aa < (l0.length : Int) := of_decide_eq_true (by with_reducible assumption); obtain ⟨ac, e152, ae, af, ag, ah⟩ := at_T58 HR0.out aa aT aU; cases e152; replace ae := (HB.out.cell (World.block_lt_of_cell? w _ ae)).trans ae; replace af := (HB.out.cell (World.block_lt_of_cell? w _ af)).trans af; replace ag := (HB.out.cell (World.block_lt_of_cell? w _ ag)).trans ag; replace ah := (HB.out.cell (World.block_lt_of_cell? w _ ah)).trans ah; replace aT := eq_true aT; replace aU := eq_true aU; have a5 : 0 ≤ (aa : Int) := of_decide_eq_true (by with_reducible assumption); have a6 : aa < (l0.length : Int) := of_decide_eq_true (by with_reducible assumption); obtain ⟨a9, e153, ai, aj, ak, al⟩ := at_T58 HR0.out aa a5 a6; obtain rfl : ac = a9 := (by injection e153); replace ai := (HB.out.cell (World.block_lt_of_cell? w _ ai)).trans ai; replace aj := (HB.out.cell (World.block_lt_of_cell? w _ aj)).trans aj; replace ak := (HB.out.cell (World.block_lt_of_cell? w _ ak)).trans ak; replace al := (HB.out.cell (World.block_lt_of_cell? w _ al)).trans al; replace a5 := eq_true a5; replace a6 := eq_true a6; (try go_wp2); replace aX := Aa.mk (Kd.Ck aX.out); replace HB := Aa.mk (Ac HB.out); have bi : 0 ≤ (aa : Int) := of_decide_eq_true (by with_reducible assumption); have bj : aa < (l0.length : Int) := of_decide_eq_true (by with_reducible assumption); obtain ⟨bw, e154, aq, ar, au, av⟩ := at_T58 HR0.out aa bi bj; have aG := av; have aH := au; have aI := ar; have aJ := aq; obtain rfl : ac = bw := (by injection e154); replace aq := (HB.out.cell (World.block_lt_of_cell? w _ aq)).trans aq; replace ar := (HB.out.cell (World.block_lt_of_cell? w _ ar)).trans ar; replace au := (HB.out.cell (World.block_lt_of_cell? w _ au)).trans au; replace av := (HB.out.cell (World.block_lt_of_cell? w _ av)).trans av; replace bi := eq_true bi; replace bj := eq_true bj; have bk : 0 ≤ (aa : Int) := of_decide_eq_true (by with_reducible assumption); have bl : aa < (l0.length : Int) := of_decide_eq_true (by with_reducible assumption); obtain ⟨bx, e155, aw, ax, ay, az⟩ := at_T58 HR0.out aa bk bl; have aK := az; have aM := ay; have aN := ax; have aQ := aw; obtain rfl : ac = bx := (by injection e155); replace aw := (HB.out.cell (World.block_lt_of_cell? w _ aw)).trans aw; replace ax := (HB.out.cell (World.block_lt_of_cell? w _ ax)).trans ax; replace ay := (HB.out.cell (World.block_lt_of_cell? w _ ay)).trans ay; replace az := (HB.out.cell (World.block_lt_of_cell? w _ az)).trans az; replace bk := eq_true bk; replace bl := eq_true bl; obtain ⟨Ao9, co9, eo9⟩ := Kd.Bk aX.out; (first | subst eo9 | (injection eo9 with f1_ f2_ f3_; have f4_ := f1_.symm; have f5_ := f3_.symm; clear f1_ f2_ f3_; subst f4_; subst f5_)); refine start_ (n := 14) (S := fun w' => w'.cell? (ac.add ((aa).toNat * 4)) = some (.int .i64 ((rd_T58 l0 aa).f0)) ∧ w'.cell? ⟨(ac.add ((aa).toNat * 4)).block, (ac.add ((aa).toNat * 4)).off + 1, none⟩ = some (.int .i64 ((rd_T58 l0 aa).f1)) ∧ w'.cell? ⟨(ac.add ((aa).toNat * 4)).block, (ac.add ((aa).toNat * 4)).off + 2, none⟩ = some (.int .i64 ((rd_T58 l0 aa).f2)) ∧ w'.cell? ⟨(ac.add ((aa).toNat * 4)).block, (ac.add ((aa).toNat * 4)).off + 3, none⟩ = some (.int .i64 ((rd_T58 l0 aa).f3)) ∧ w'.cell? (ac.add ((aa).toNat * 4)) = some (.int .i64 ((rd_T58 l0 aa).f0)) ∧ w'.cell? ⟨(ac.add ((aa).toNat * 4)).block, (ac.add ((aa).toNat * 4)).off + 1, none⟩ = some (.int .i64 ((rd_T58 l0 aa).f1)) ∧ w'.cell? ⟨(ac.add ((aa).toNat * 4)).block, (ac.add ((aa).toNat * 4)).off + 2, none⟩ = some (.int .i64 ((rd_T58 l0 aa).f2)) ∧ w'.cell? ⟨(ac.add ((aa).toNat * 4)).block, (ac.add ((aa).toNat * 4)).off + 3, none⟩ = some (.int .i64 ((rd_T58 l0 aa).f3))) (ds := []) #[false, false, false, false, false, false, false, false, false, false, false, false, false, false] (by kernel_rfl) rfl rfl ⟨((HB.out.cell (World.block_lt_of_cell? w _ aJ)).trans aJ), ((HB.out.cell (World.block_lt_of_cell? w _ aI)).trans aI), ((HB.out.cell (World.block_lt_of_cell? w _ aH)).trans aH), ((HB.out.cell (World.block_lt_of_cell? w _ aG)).trans aG), ((HB.out.cell (World.block_lt_of_cell? w _ aQ)).trans aQ), ((HB.out.cell (World.block_lt_of_cell? w _ aN)).trans aN), ((HB.out.cell (World.block_lt_of_cell? w _ aM)).trans aM), ((HB.out.cell (World.block_lt_of_cell? w _ aK)).trans aK)⟩ (fun hHeld => ?_); refine with_tabW Bz.tab6 Bz.bits6 (fun HT_ HW_ => ?_); generalize wr.drew = w8 at aX HB aq ar au av aw ax ay az hHeld ⊢; refine pA 0 29 (bA 14 1) HT_ ?_; refine pA 1 30 (bA 14 3) HT_ ?_; refine pA 2 31 (bA 14 7) HT_ ?_; refine pA 3 32 (bA 14 15) HT_ ?_; refine pA 4 33 (bA 14 31) HT_ ?_; refine pA 6 35 (bA 14 95) HT_ ?_; refine pA 7 36 (bA 14 223) HT_ ?_; refine pA 8 37 (bA 14 479) HT_ ?_; refine pA 9 38 (bA 14 991) HT_ ?_; refine tA 5 34 (bA 14 1023) HT_ HW_ hHeld ?_; refine tA 10 39 (bA 14 2047) HT_ HW_ hHeld ?_; refine pA 11 40 (bA 14 4095) HT_ ?_; refine one_ (i := 12) (N := some 41) (bA 14 8191) rfl rfl (one_of HT_.out (by kernel_rfl)) (by decide) (fun K hK => ?_); refine Dg Try.func79 (by kernel_rfl) rfl #[.slice Ao9 aW.length co9, .agg #[.int .i64 ((rd_T58 l0 aa).f0), .int .i64 ((rd_T58 l0 aa).f2)]] (by rfl) rfl rfl (by (try simp only [List.map_toArray, List.map_cons, List.map_nil]); first | done | rfl | (simp only [List.length_drop, List.length_take]; rfl)) ?_
       with_reducible refine (Bv.calls (fun k_ => some k_ = (.slice Ao9 aW.length co9 : Value).ownBlock) (.slice Ao9 aW.length co9) aW ((rd_T58 l0 aa).f0) ((rd_T58 l0 aa).f2) bf w _ ?side1 ?side2 A7.out).mono ?_
       (case side1 => repeat (first | (with_reducible first | exact HB.out | apply Ad | apply Ab | apply Ac) | exact HB.out)); (case side2 => exact Kd.C4 rfl aX.out); rintro e w10 ⟨v157, rfl, ho0, hb, hkp⟩; refine ⟨_, rfl, ?_⟩; have bz := Aa.mk (Kd.Bs (ok' := fun k_ => True) ho0 (fun k_ hk_ => trivial)); replace HB := Aa.mk (hb); clear aX; (try clear hb); (try clear hkp); (try clear ho0); refine hK.out _ _ ⟨((HB.out.cell (World.block_lt_of_cell? w _ aJ)).trans aJ), ((HB.out.cell (World.block_lt_of_cell? w _ aI)).trans aI), ((HB.out.cell (World.block_lt_of_cell? w _ aH)).trans aH), ((HB.out.cell (World.block_lt_of_cell? w _ aG)).trans aG), ((HB.out.cell (World.block_lt_of_cell? w _ aQ)).trans aQ), ((HB.out.cell (World.block_lt_of_cell? w _ aN)).trans aN), ((HB.out.cell (World.block_lt_of_cell? w _ aM)).trans aM), ((HB.out.cell (World.block_lt_of_cell? w _ aK)).trans aK)⟩ (fun hHeld => ?_); clear hK K; refine norm_ (a' := ?_) ?_ ?_; rotate_left
       ·show Act.put _ (some 41) _ = _
        simp only [Act.put, sA, sB, sC, i64_w, i32_w]
        rfl
       refine pA 13 5 (bA 14 16383) HT_ ?_; refine done_ (done_of HT_.out (by kernel_rfl)) ?_; (try go_wp2)
       go_roundg k1
       case measure => have := HK1.out; omega
       case rel => exact ⟨(bf), (wrap64 (aa + 1)), (by first | rfl | (simp; done) | (simp [*]; done)), H', ⟨by have := HK1.out; omega⟩, ⟨by exact rU <| bz.out⟩, ⟨by repeat (first | (with_reducible first | exact HB.out | apply Ad | apply Ab | apply Ac) | exact HB.out)⟩⟩
      ·rw [if_neg c6] at H
       have bh : decide (a1 < ((rd_T58 l0 aa).f3)) = false := decide_eq_false c6; clear c6; have H' := Aa.mk H; clear H; have aT : 0 ≤ (aa : Int) := of_decide_eq_true (by with_reducible assumption); have aU : aa < (l0.length : Int) := of_decide_eq_true (by with_reducible assumption); obtain ⟨ac, e152, ae, af, ag, ah⟩ := at_T58 HR0.out aa aT aU; cases e152; replace ae := (HB.out.cell (World.block_lt_of_cell? w _ ae)).trans ae; replace af := (HB.out.cell (World.block_lt_of_cell? w _ af)).trans af; replace ag := (HB.out.cell (World.block_lt_of_cell? w _ ag)).trans ag; replace ah := (HB.out.cell (World.block_lt_of_cell? w _ ah)).trans ah; replace aT := eq_true aT; replace aU := eq_true aU; have a5 : 0 ≤ (aa : Int) := of_decide_eq_true (by with_reducible assumption); have a6 : aa < (l0.length : Int) := of_decide_eq_true (by with_reducible assumption); obtain ⟨a9, e153, ai, aj, ak, al⟩ := at_T58 HR0.out aa a5 a6; obtain rfl : ac = a9 := (by injection e153); replace ai := (HB.out.cell (World.block_lt_of_cell? w _ ai)).trans ai; replace aj := (HB.out.cell (World.block_lt_of_cell? w _ aj)).trans aj; replace ak := (HB.out.cell (World.block_lt_of_cell? w _ ak)).trans ak; replace al := (HB.out.cell (World.block_lt_of_cell? w _ al)).trans al; replace a5 := eq_true a5; replace a6 := eq_true a6
       go_wp2
       go_roundg k1
       case measure => have := HK1.out; omega
       case rel => exact ⟨(aW), (wrap64 (aa + 1)), (by first | rfl | (simp; done) | (simp [*]; done)), H', ⟨by have := HK1.out; omega⟩, ⟨by exact rU <| aX.out⟩, ⟨by repeat (first | (with_reducible first | exact HB.out | apply Ad | apply Ab | apply Ac) | exact HB.out)⟩⟩
     ·rw [if_neg c5] at H
      have bH : decide (((rd_T58 l0 aa).f1) ≤ a1) = false := decide_eq_false c5; clear c5; have H' := Aa.mk H; clear H; have aT : 0 ≤ (aa : Int) := of_decide_eq_true (by with_reducible assumption); have aU : aa < (l0.length : Int) := of_decide_eq_true (by with_reducible assumption); obtain ⟨ac, e152, ae, af, ag, ah⟩ := at_T58 HR0.out aa aT aU; cases e152; replace ae := (HB.out.cell (World.block_lt_of_cell? w _ ae)).trans ae; replace af := (HB.out.cell (World.block_lt_of_cell? w _ af)).trans af; replace ag := (HB.out.cell (World.block_lt_of_cell? w _ ag)).trans ag; replace ah := (HB.out.cell (World.block_lt_of_cell? w _ ah)).trans ah; replace aT := eq_true aT; replace aU := eq_true aU
      go_wp2
      go_roundg k1
      case measure => have := HK1.out; omega
      case rel => exact ⟨(aW), (wrap64 (aa + 1)), (by first | rfl | (simp; done) | (simp [*]; done)), H', ⟨by have := HK1.out; omega⟩, ⟨by exact rU <| aX.out⟩, ⟨by repeat (first | (with_reducible first | exact HB.out | apply Ad | apply Ab | apply Ac) | exact HB.out)⟩⟩
    ·rw [if_neg c4] at H
     exact absurd H (by simp)
   ·rw [if_neg c3] at H
    have bs : decide (aa < (l0.length : Int)) = false := decide_eq_false c3; clear c3; obtain rfl := Option.some.inj H
    go_wp2
    go_ret
    exact ⟨_, by first | rfl | (simp [Ba, Az] <;> rfl) | (simp [*, Ba, Az] <;> rfl), by exact rU <| aX.out, by repeat (first | (with_reducible first | exact HB.out | apply Ad | apply Ab | apply Ac) | exact HB.out)⟩

def B4.l0 : Nat → List (S99) → List Int → Int → Option (List Int)
 | 0, _, _, _ => none
 | k + 1, x0, x3, x4 => if x4 < (x0.length : Int) then (if 0 ≤ x4 then ((some (([(rd_T99 x0 x4).f0, (rd_T99 x0 x4).f1] : List Int) : List Int)).bind fun a7 => (if x3.length + a7.length < 17592186044416 then (B4.l0 k x0 (x3 ++ a7) (wrap64 (x4 + 1))) else (none))) else (none)) else (some x3)
def B4.f (k : Nat) (l0 : List (S99)) : Option (List Int) := B4.l0 k l0 ([] : List Int) 0
def B4.T5 : Bool × List (List Nat × List Nat) := (true, [([], []), ([], []), ([], []), ([1, 2], [1, 2]), ([3], [3]), ([4], [4]), ([], []), ([], []), ([6, 7], [6, 7]), ([8], [8]), ([9], [9]), ([5, 10], [5, 10]), ([0, 11], [0, 11]), ([12, 12, 0, 1, 2, 3, 4, 5, 6, 7, 8, 9, 10, 11, 12], [0, 12])])
def B4.B5 : List Nat := [0, 0, 0, 6, 14, 30, 0, 0, 192, 448, 960, 2046, 4095, 8191]
theorem B4.tab5 : rtab .any (opsOf Try.f90 5) = B4.T5 := by kernel_rfl
theorem B4.bits5 : waitsOk B4.T5.2 B4.B5 = true := by kernel_rfl
set_option maxHeartbeats 8000000 in
set_option maxRecDepth 100000 in
theorem B4.calls (k : Nat) (A0 : Option Addr) (c0 : Nat) (l0 : List (S99)) (r : List Int) (w : World) (hr0 : Kd.C k99 w A0 l0.length l0) (hc0 : l0.length ≤ c0) (h : B4.f k l0 = some r) :
  Calls Try.prog 90 #[.slice A0 l0.length c0] w fun e w' => ∃ v0_ : Value, e = .returned (v0_) ∧ Kd.R (Kd.int .i64) 3 w' w.heap.size (fun _ => True) v0_ r ∧ Below w.heap.size w w' := by
 have HR0 := Aa.mk hr0; have HC0 := Aa.mk hc0; clear hr0 hc0; have HB := Aa.mk (Below.refl w.heap.size w); have H : (B4.l0 k l0 ([] : List Int) 0) = some r := h; clear h; have H' := Aa.mk H; clear H; go_enter Try.func90, Try.ntmps90
 go_wp2
 go_loopg [3, 4] k (fun kq v3 v4 w' => ∃ (a8 : List Int) (ab : Int), v4 = .int .i64 ab ∧ Aa (B4.l0 kq l0 a8 ab = some r) ∧ Aa (kq ≤ k) ∧ Aa (Kd.R (Kd.int .i64) 3 w' w.heap.size (fun _ => True) v3 a8) ∧ Aa (Below w.heap.size w w'))
 case atStart => exact ⟨(([] : List Int)), (0), (by first | rfl | (simp; done) | (simp [*]; done)), H', ⟨Nat.le_refl _⟩, ⟨by first | exact Kd.De _ _ _ _ _ | exact Kd.N_nil _ _ _ _ _ | exact Kd.V_nil _ _ _ _ _ | exact Kd.Q_nil _ _ _ _ _ | exact Kd.S_nil _ _ _ _ _⟩, ⟨by repeat (first | (with_reducible first | exact HB.out | apply Ad | apply Ab | apply Ac) | exact HB.out)⟩⟩
 case round =>
  clear H'; obtain ⟨a8, ab, rfl, HA, HK1, aY, HB⟩ := hrel; cases gk with
  | zero => exact absurd HA.out (by simp [B4.l0])
  | succ k1 =>
   have H := HA.out; clear HA
   simp only [B4.l0] at H
   by_cases c2 : ab < (l0.length : Int)
   ·rw [if_pos c2] at H
    have bI : decide (ab < (l0.length : Int)) = true := decide_eq_true c2; clear c2
    by_cases c3 : 0 ≤ ab
    ·rw [if_pos c3] at H
     have bs : decide (0 ≤ ab) = true := decide_eq_true c3; clear c3; obtain ⟨a7, bc⟩ : ∃ y_ : List Int, y_ = (([(rd_T99 l0 ab).f0, (rd_T99 l0 ab).f1] : List Int)) := ⟨_, rfl⟩; (try rw [Option.bind_some] at H); try rw [← bc] at H; have bg := Aa.mk bc; clear bc
     by_cases c4 : a8.length + a7.length < 17592186044416
     ·rw [if_pos c4] at H
      have LMc4 := Aa.mk c4; clear c4; obtain ⟨bJ, be⟩ : ∃ y_ : List Int, y_ = (a8 ++ a7) := ⟨_, rfl⟩; (try rw [Option.bind_some] at H); try rw [← be] at H; have bB := Aa.mk be; clear be; have H' := Aa.mk H; clear H; (try go_wp2); replace aY := Aa.mk (Kd.Ck aY.out); replace HB := Aa.mk (Ac HB.out); have bm : 0 ≤ (ab : Int) := of_decide_eq_true (by with_reducible assumption); have bn : ab < (l0.length : Int) := of_decide_eq_true (by with_reducible assumption); obtain ⟨aV, e159, aA, aC⟩ := at_T99 HR0.out ab bm bn; have am := aC; have an := aA; cases e159; replace aA := (HB.out.cell (World.block_lt_of_cell? w _ aA)).trans aA; replace aC := (HB.out.cell (World.block_lt_of_cell? w _ aC)).trans aC; replace bm := eq_true bm; replace bn := eq_true bn; have bo : 0 ≤ (ab : Int) := of_decide_eq_true (by with_reducible assumption); have br : ab < (l0.length : Int) := of_decide_eq_true (by with_reducible assumption); obtain ⟨bD, e160, aD, aE⟩ := at_T99 HR0.out ab bo br; have ao := aE; have ap := aD; obtain rfl : aV = bD := (by injection e160); replace aD := (HB.out.cell (World.block_lt_of_cell? w _ aD)).trans aD; replace aE := (HB.out.cell (World.block_lt_of_cell? w _ aE)).trans aE; replace bo := eq_true bo; replace br := eq_true br; refine start_ (n := 14) (S := fun w' => w'.cell? (aV.add ((ab).toNat * 2)) = some (.int .i64 ((rd_T99 l0 ab).f0)) ∧ w'.cell? ⟨(aV.add ((ab).toNat * 2)).block, (aV.add ((ab).toNat * 2)).off + 1, none⟩ = some (.int .i64 ((rd_T99 l0 ab).f1)) ∧ w'.cell? (aV.add ((ab).toNat * 2)) = some (.int .i64 ((rd_T99 l0 ab).f0)) ∧ w'.cell? ⟨(aV.add ((ab).toNat * 2)).block, (aV.add ((ab).toNat * 2)).off + 1, none⟩ = some (.int .i64 ((rd_T99 l0 ab).f1))) (ds := []) #[false, false, false, false, false, false, false, false, false, false, false, false, false, false] (by kernel_rfl) rfl rfl ⟨((HB.out.cell (World.block_lt_of_cell? w _ an)).trans an), ((HB.out.cell (World.block_lt_of_cell? w _ am)).trans am), ((HB.out.cell (World.block_lt_of_cell? w _ ap)).trans ap), ((HB.out.cell (World.block_lt_of_cell? w _ ao)).trans ao)⟩ (fun hHeld => ?_); refine with_tabW B4.tab5 B4.bits5 (fun HT_ HW_ => ?_); generalize wr.drew = w5 at aY HB aA aC aD aE hHeld ⊢; refine pA 0 11 (bA 14 1) HT_ ?_; refine pA 1 12 (bA 14 3) HT_ ?_; refine pA 2 13 (bA 14 7) HT_ ?_; refine pA 3 14 (bA 14 15) HT_ ?_; refine pA 4 15 (bA 14 31) HT_ ?_; refine pA 6 17 (bA 14 95) HT_ ?_; refine pA 7 18 (bA 14 223) HT_ ?_; refine pA 8 19 (bA 14 479) HT_ ?_; refine pA 9 20 (bA 14 991) HT_ ?_; refine tA 5 16 (bA 14 1023) HT_ HW_ hHeld ?_; refine tA 10 21 (bA 14 2047) HT_ HW_ hHeld ?_; refine one_ (i := 11) (N := some 22) (bA 14 4095) rfl rfl (one_of HT_.out (by kernel_rfl)) (by decide) (fun K hK => ?_); refine Kd.R_lit_step (Kd.int .i64) _ 3 ?hg (N := 22) ?hd (xs := ([(rd_T99 l0 ab).f0, (rd_T99 l0 ab).f1] : List Int)) (inner := [.int .i64 ((rd_T99 l0 ab).f0), .int .i64 ((rd_T99 l0 ab).f1)]) (ok := fun _ => True) (okp := fun _ => True) ?hr ?hp (fun _ hk => hk) trivial (Below.refl _ _) (Nat.le_refl _) (by simp) ?_; (case hd => rfl); (case hg => rfl); (case hr => first | (go_simp; done) | (go_simp; rfl)); (case hp => exact (Reps.one (show Kd.M (Kd.int .i64) _ _ _ ((rd_T99 l0 ab).f0) [.int .i64 ((rd_T99 l0 ab).f0)] from rfl) (Reps.one (show Kd.M (Kd.int .i64) _ _ _ ((rd_T99 l0 ab).f1) [.int .i64 ((rd_T99 l0 ab).f1)] from rfl) (Reps.none _ _)))); intro v162 w6 ho7 hb hg_ hnew_; clear hg_ hnew_; (first | rw [← bg.out] at ho7 | (simp only [Int.reduceToNat] at ho7; rw [← bg.out] at ho7)); have aZ := Aa.mk (Kd.Cg (Kd.Bq ho7 (Kd.Cj (by exact rU <| aY.out))) (Af (lU HB.out))); replace aY := Aa.mk (Kd.Bf (by exact rU <| aY.out) (Kd.Be ho7) hb); replace HB := Aa.mk (Aj (lU HB.out) hb); clear hb ho7; obtain ⟨Ao9, co9, eo9⟩ := Kd.Bk aZ.out; (first | subst eo9 | (injection eo9 with f1_ f2_ f3_; have f4_ := f1_.symm; have f5_ := f3_.symm; clear f1_ f2_ f3_; subst f4_; subst f5_)); refine hK.out _ _ ⟨((HB.out.cell (World.block_lt_of_cell? w _ an)).trans an), ((HB.out.cell (World.block_lt_of_cell? w _ am)).trans am), ((HB.out.cell (World.block_lt_of_cell? w _ ap)).trans ap), ((HB.out.cell (World.block_lt_of_cell? w _ ao)).trans ao)⟩ (fun hHeld => ?_); clear hK K; refine norm_ (a' := ?_) ?_ ?_; rotate_left
      ·show Act.put _ (some 22) _ = _
       simp only [Act.put, sA, sB, sC, i64_w, i32_w]
       rfl
      refine one_ (i := 12) (N := some 23) (bA 14 8191) rfl rfl (one_of HT_.out (by kernel_rfl)) (by decide) (fun K hK => ?_); refine Kd.R_append_rows_step (Kd.int .i64) (w0 := w) w.heap.size (by rfl) (.tmp 11) (.tmp 22) 29 3 (.int .i64 0) 8 rfl Try.underlying29 info3 rfl (by decide) (by omega) u3 a8 a7 _ _ _ (fun k_ => some k_ ≠ (.slice Ao9 a7.length co9 : Value).ownBlock) (fun _ => False) rfl rfl ?aO ?aR (fun _ _ h => h) (fun _ h => h.elim) ?aF ?aB ?aS ?aL ?_; (case aR => repeat (first | exact (Kd.Ax aZ.out).2.2 | (with_reducible refine Kd.Bn ?_ _) | (with_reducible refine Kd.Bm ?_ _) | (with_reducible refine Kd.Bx ?_))); (case aB => exact (lU HB.out)); (case aF => exact (fun k_ hk => Kd.fresh' (Kd.Cj (by exact rU <| aZ.out)) k_ hk)); (case aO => exact (by exact rU <| Kd.Bs aY.out (fun _ hk => hk.2))); (case aS => exact (Af (lU HB.out))); (case aL => have := LMc4.out; omega); intro v165 w8 ho hb hg hat; rw [← bB.out] at ho; replace aZ := Aa.mk (Kd.Dn (ok := (fun _ => True)) (by exact rU <| aZ.out) hg hat); replace HB := Aa.mk (hb); have bE := Aa.mk (ho); clear aY; clear ho hb hg hat; refine hK.out _ _ ⟨((HB.out.cell (World.block_lt_of_cell? w _ an)).trans an), ((HB.out.cell (World.block_lt_of_cell? w _ am)).trans am), ((HB.out.cell (World.block_lt_of_cell? w _ ap)).trans ap), ((HB.out.cell (World.block_lt_of_cell? w _ ao)).trans ao)⟩ (fun hHeld => ?_); clear hK K; refine norm_ (a' := ?_) ?_ ?_; rotate_left
      ·show Act.put _ (some 23) _ = _
       simp only [Act.put, sA, sB, sC, i64_w, i32_w]
       rfl
      refine pA 13 3 (bA 14 16383) HT_ ?_; refine done_ (done_of HT_.out (by kernel_rfl)) ?_; (try go_wp2)
      go_roundg k1
      case measure => have := HK1.out; omega
      case rel => exact ⟨(bJ), (wrap64 (ab + 1)), (by first | rfl | (simp; done) | (simp [*]; done)), H', ⟨by have := HK1.out; omega⟩, ⟨by exact rU <| Kd.Bs bE.out (fun _ hk => trivial)⟩, ⟨by repeat (first | (with_reducible first | exact HB.out | apply Ad | apply Ab | apply Ac) | exact HB.out)⟩⟩
     ·rw [if_neg c4] at H
      exact absurd H (by simp)
    ·rw [if_neg c3] at H
     exact absurd H (by simp)
   ·rw [if_neg c2] at H
    have bI : decide (ab < (l0.length : Int)) = false := decide_eq_false c2; clear c2; obtain rfl := Option.some.inj H
    go_wp2
    go_ret
    exact ⟨_, by first | rfl | (simp [Ba, Az] <;> rfl) | (simp [*, Ba, Az] <;> rfl), by exact rU <| aY.out, by repeat (first | (with_reducible first | exact HB.out | apply Ad | apply Ab | apply Ac) | exact HB.out)⟩

def Ct.f (a0 : Int) (a1 : Bool) (a2 : Bool) : Option (Bool) := if a0 = 2 then (if a1 = true then (some true) else (some a2)) else (if a0 = 3 then (if a1 = true then (some a2) else (some false)) else (if a0 = 4 then (if a1 = true then (some (!a2)) else (some false)) else (if a0 = 5 then (some (a1 != a2)) else (some a1))))
set_option maxHeartbeats 8000000 in
set_option maxRecDepth 100000 in
theorem Ct.calls (a0 : Int) (a1 : Bool) (a2 : Bool) (r : Bool) (w : World) (h : Ct.f a0 a1 a2 = some r) :
  Calls Try.prog 91 #[.int .i64 a0, .bool a1, .bool a2] w fun e w' => e = .returned (.bool r) ∧ Drawn0 w w' := by
 have H : (if a0 = 2 then (if a1 = true then (some true) else (some a2)) else (if a0 = 3 then (if a1 = true then (some a2) else (some false)) else (if a0 = 4 then (if a1 = true then (some (!a2)) else (some false)) else (if a0 = 5 then (some (a1 != a2)) else (some a1))))) = some r := h; clear h
 by_cases c4 : a0 = 2
 ·rw [if_pos c4] at H
  have bu : (a0 == 2) = true := beq_iff_eq.mpr c4; have bK : (a0 != 2) = false := bne_eq_false_iff_eq.mpr c4; clear c4
  by_cases c5 : a1 = true
  ·subst c5
   have H1 := H; rw [if_pos rfl] at H1; clear H; have H := H1; clear H1; obtain rfl := Option.some.inj H; go_enter Try.func91, Try.ntmps91
   go_wp2
   go_ret
   exact ⟨by first | rfl | (simp; done) | (simp [*]; done), by repeat (first | exact Drawn0.refl _ | apply Drawn0.step)⟩
  ·replace c5 := Bool.eq_false_iff.mpr c5
   subst c5; have H1 := H; rw [if_neg (show ¬ (false = true) by decide)] at H1; clear H; have H := H1; clear H1; obtain rfl := Option.some.inj H; go_enter Try.func91, Try.ntmps91
   go_wp2
   go_ret
   exact ⟨by first | rfl | (simp; done) | (simp [*]; done), by repeat (first | exact Drawn0.refl _ | apply Drawn0.step)⟩
 ·rw [if_neg c4] at H
  have bu : (a0 == 2) = false := beq_eq_false_iff_ne.mpr c4; have bK : (a0 != 2) = true := bne_iff_ne.mpr c4
  by_cases c6 : a0 = 3
  ·rw [if_pos c6] at H
   have bh : (a0 == 3) = true := beq_iff_eq.mpr c6; have bL : (a0 != 3) = false := bne_eq_false_iff_eq.mpr c6; clear c6
   by_cases c7 : a1 = true
   ·subst c7
    have H1 := H; rw [if_pos rfl] at H1; clear H; have H := H1; clear H1; obtain rfl := Option.some.inj H; go_enter Try.func91, Try.ntmps91
    go_wp2
    go_ret
    exact ⟨by first | rfl | (simp; done) | (simp [*]; done), by repeat (first | exact Drawn0.refl _ | apply Drawn0.step)⟩
   ·replace c7 := Bool.eq_false_iff.mpr c7
    subst c7; have H1 := H; rw [if_neg (show ¬ (false = true) by decide)] at H1; clear H; have H := H1; clear H1; obtain rfl := Option.some.inj H; go_enter Try.func91, Try.ntmps91
    go_wp2
    go_ret
    exact ⟨by first | rfl | (simp; done) | (simp [*]; done), by repeat (first | exact Drawn0.refl _ | apply Drawn0.step)⟩
  ·rw [if_neg c6] at H
   have bh : (a0 == 3) = false := beq_eq_false_iff_ne.mpr c6; have bL : (a0 != 3) = true := bne_iff_ne.mpr c6
   by_cases c8 : a0 = 4
   ·rw [if_pos c8] at H
    have bM : (a0 == 4) = true := beq_iff_eq.mpr c8; have bN : (a0 != 4) = false := bne_eq_false_iff_eq.mpr c8; clear c8
    by_cases c9 : a1 = true
    ·subst c9
     have H1 := H; rw [if_pos rfl] at H1; clear H; have H := H1; clear H1; obtain rfl := Option.some.inj H; go_enter Try.func91, Try.ntmps91
     go_wp2
     go_ret
     exact ⟨by first | rfl | (simp; done) | (simp [*]; done), by repeat (first | exact Drawn0.refl _ | apply Drawn0.step)⟩
    ·replace c9 := Bool.eq_false_iff.mpr c9
     subst c9; have H1 := H; rw [if_neg (show ¬ (false = true) by decide)] at H1; clear H; have H := H1; clear H1; obtain rfl := Option.some.inj H; go_enter Try.func91, Try.ntmps91
     go_wp2
     go_ret
     exact ⟨by first | rfl | (simp; done) | (simp [*]; done), by repeat (first | exact Drawn0.refl _ | apply Drawn0.step)⟩
   ·rw [if_neg c8] at H
    have bM : (a0 == 4) = false := beq_eq_false_iff_ne.mpr c8; have bN : (a0 != 4) = true := bne_iff_ne.mpr c8
    by_cases c10 : a0 = 5
    ·rw [if_pos c10] at H
     have bF : (a0 == 5) = true := beq_iff_eq.mpr c10; have bG : (a0 != 5) = false := bne_eq_false_iff_eq.mpr c10; clear c10; obtain rfl := Option.some.inj H; go_enter Try.func91, Try.ntmps91
     go_wp2
     go_ret
     exact ⟨by first | rfl | (simp; done) | (simp [*]; done), by repeat (first | exact Drawn0.refl _ | apply Drawn0.step)⟩
    ·rw [if_neg c10] at H
     have bF : (a0 == 5) = false := beq_eq_false_iff_ne.mpr c10; have bG : (a0 != 5) = true := bne_iff_ne.mpr c10; obtain rfl := Option.some.inj H; go_enter Try.func91, Try.ntmps91
     go_wp2
     go_ret
     exact ⟨by first | rfl | (simp; done) | (simp [*]; done), by repeat (first | exact Drawn0.refl _ | apply Drawn0.step)⟩

end Go.Proofs.Ytobdfiglgdbecaa.PGR

