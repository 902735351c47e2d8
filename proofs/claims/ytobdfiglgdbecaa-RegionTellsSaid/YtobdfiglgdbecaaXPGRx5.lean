import Derived.Test.YtobdfiglgdbecaaXUQ
import Derived.Test.YtobdfiglgdbecaaXPGRx0
import Derived.Test.YtobdfiglgdbecaaXPGRx3
import Derived.Test.YtobdfiglgdbecaaXPGRx4
namespace Go.Proofs.Ytobdfiglgdbecaa.PGR
open Go.Proofs.Ytobdfiglgdbecaa.PGA Go.Proofs.Ytobdfiglgdbecaa.PGB Go.Proofs.Ytobdfiglgdbecaa.PGH Go.Proofs.Ytobdfiglgdbecaa.PGI
open Go.RowKit Go.Proofs.YtobdfiglgdbecaaW.PrintWords Go.Proofs.YtobdfiglgdbecaaW.PrintLast Go.Proofs.YtobdfiglgdbecaaW.PrintMore
attribute [local go_sem] max2_int min2_int max_two min_two max_three min_three max_four min_four
set_option linter.unusedVariables false
set_option linter.unusedSimpArgs false

mutual
def An.l0 : Nat → Int → List Int → List Int → List (S99) → Int → Int → Option ((List (S99)))
 | 0, _, _, _, _, _, _ => none
 | k + 1, x2, x7, x8, x9, x10, x11 => if x10 < (x7.length : Int) then (An.j1 k x2 x7 x8 x9 x10 x11 true) else (An.j1 k x2 x7 x8 x9 x10 x11 (decide (x11 < (x8.length : Int))))
def An.j1 : Nat → Int → List Int → List Int → List (S99) → Int → Int → Bool → Option ((List (S99)))
 | 0, _, _, _, _, _, _, _ => none
 | k + 1, x2, x7, x8, x9, x10, x11, x27 => if x27 = true then (if x10 < (x7.length : Int) then (if 0 ≤ x10 then (An.j2 k x2 x7 x8 x9 x10 x11 (rd x7 x10)) else (none)) else (An.j2 k x2 x7 x8 x9 x10 x11 1099511627776)) else (some x9)
def An.j2 : Nat → Int → List Int → List Int → List (S99) → Int → Int → Int → Option ((List (S99)))
 | 0, _, _, _, _, _, _, _ => none
 | k + 1, x2, x7, x8, x9, x10, x11, x12 => if x11 < (x8.length : Int) then (if 0 ≤ x11 then (An.j3 k x2 x7 x8 x9 x10 x11 (mn x12 (rd x8 x11))) else (none)) else (An.j3 k x2 x7 x8 x9 x10 x11 x12)
def An.j3 : Nat → Int → List Int → List Int → List (S99) → Int → Int → Int → Option ((List (S99)))
 | 0, _, _, _, _, _, _, _ => none
 | k + 1, x2, x7, x8, x9, x10, x11, x12 => An.l1 k x2 x7 x8 x9 x10 x11 x12
def An.j5 : Nat → Int → List Int → List Int → List (S99) → Int → Int → Int → Option ((List (S99)))
 | 0, _, _, _, _, _, _, _ => none
 | k + 1, x2, x7, x8, x9, x10, x11, x12 => An.l2 k x2 x7 x8 x9 x10 x11 x12
def An.j7 : Nat → Int → List Int → List Int → List (S99) → Int → Int → Int → Option ((List (S99)))
 | 0, _, _, _, _, _, _, _ => none
 | k + 1, x2, x7, x8, x9, x10, x11, x12 => if x10 < (x7.length : Int) then (if 0 ≤ x10 then (An.j8 k x2 x7 x8 x9 x10 x11 x12 (rd x7 x10)) else (none)) else (An.j8 k x2 x7 x8 x9 x10 x11 x12 1099511627776)
def An.j8 : Nat → Int → List Int → List Int → List (S99) → Int → Int → Int → Int → Option ((List (S99)))
 | 0, _, _, _, _, _, _, _, _ => none
 | k + 1, x2, x7, x8, x9, x10, x11, x12, x13 => if x11 < (x8.length : Int) then (if 0 ≤ x11 then (An.j9 k x2 x7 x8 x9 x10 x11 x12 (mn x13 (rd x8 x11))) else (none)) else (An.j9 k x2 x7 x8 x9 x10 x11 x12 x13)
def An.j9 : Nat → Int → List Int → List Int → List (S99) → Int → Int → Int → Int → Option ((List (S99)))
 | 0, _, _, _, _, _, _, _, _ => none
 | k + 1, x2, x7, x8, x9, x10, x11, x12, x13 => if x13 < 1099511627776 then ((Ct.f x2 ((Int.tmod x10 2) == 1) ((Int.tmod x11 2) == 1)).bind fun br => (if br = true then ((Bv.f x9 x12 x13).bind fun bk => (An.l0 k x2 x7 x8 bk x10 x11)) else (An.l0 k x2 x7 x8 x9 x10 x11))) else (An.l0 k x2 x7 x8 x9 x10 x11)
def An.l2 : Nat → Int → List Int → List Int → List (S99) → Int → Int → Int → Option ((List (S99)))
 | 0, _, _, _, _, _, _, _ => none
 | k + 1, x2, x7, x8, x9, x10, x11, x12 => if x11 < (x8.length : Int) then (if 0 ≤ x11 then (if (rd x8 x11) = x12 then (An.l2 k x2 x7 x8 x9 x10 (wrap64 (x11 + 1)) x12) else (An.j7 k x2 x7 x8 x9 x10 x11 x12)) else (none)) else (An.j7 k x2 x7 x8 x9 x10 x11 x12)
def An.l1 : Nat → Int → List Int → List Int → List (S99) → Int → Int → Int → Option ((List (S99)))
 | 0, _, _, _, _, _, _, _ => none
 | k + 1, x2, x7, x8, x9, x10, x11, x12 => if x10 < (x7.length : Int) then (if 0 ≤ x10 then (if (rd x7 x10) = x12 then (An.l1 k x2 x7 x8 x9 (wrap64 (x10 + 1)) x11 x12) else (An.j5 k x2 x7 x8 x9 x10 x11 x12)) else (none)) else (An.j5 k x2 x7 x8 x9 x10 x11 x12)
end
def An.f (k : Nat) (l0 : List (S99)) (l1 : List (S99)) (a2 : Int) : Option ((List (S99))) := (B4.f k l0).bind fun aa => ((B4.f k l1).bind fun ab => (An.l0 k a2 aa ab ([] : List (S99)) 0 0))
set_option maxHeartbeats 8000000 in
set_option maxRecDepth 100000 in
theorem An.calls (k : Nat) (A0 : Option Addr) (c0 : Nat) (l0 : List (S99)) (A1 : Option Addr) (c1 : Nat) (l1 : List (S99)) (a2 : Int) (r : List (S99)) (w : World) (hr0 : Kd.C k99 w A0 l0.length l0) (hc0 : l0.length ≤ c0) (hr1 : Kd.C k99 w A1 l1.length l1) (hc1 : l1.length ≤ c1) (h : An.f k l0 l1 a2 = some r) :
  Calls Try.prog 77 #[.slice A0 l0.length c0, .slice A1 l1.length c1, .int .i64 a2] w fun e w' => ∃ v0_ : Value, e = .returned (v0_) ∧ Kd.R k99 99 w' w.heap.size (fun _ => True) v0_ r ∧ Below w.heap.size w w' := by
 have hu99 := Try.underlying99; have HR0 := Aa.mk hr0; have HC0 := Aa.mk hc0; clear hr0 hc0; have HR1 := Aa.mk hr1; have HC1 := Aa.mk hc1; clear hr1 hc1; have HB := Aa.mk (Below.refl w.heap.size w); have H : ((B4.f k l0).bind fun aa => ((B4.f k l1).bind fun ab => (An.l0 k a2 aa ab ([] : List (S99)) 0 0))) = some r := h; clear h; replace H := Option.bind_eq_some_iff.mp H; obtain ⟨aa, A40, H⟩ := H
 try dsimp only at H
 have A4 := Aa.mk A40; clear A40; replace H := Option.bind_eq_some_iff.mp H; obtain ⟨ab, A50, H⟩ := H
 try dsimp only at H
 have A5 := Aa.mk A50; clear A50; have H' := Aa.mk H; clear H; go_enter Try.func77, Try.ntmps77
 go_wp2_with (first | ((with_reducible refine Ay (f := 90) rfl ?_); refine gL (some 15) Try.func90 #[.slice A0 l0.length c0] ?_; (with_reducible refine (B4.calls k _ _ l0 aa _ ?side1 ?side2 A4.out).mono ?_); (case side1 => repeat (first | exact HR0.out | (with_reducible refine Kd.Bn ?_ _) | (with_reducible refine Kd.Bm ?_ _) | (with_reducible refine Kd.Bx ?_))); (case side2 => exact HC0.out); rintro e w6 ⟨v168, rfl, ho0, hb⟩; refine ⟨_, rfl, ?_⟩; have a7 := Aa.mk (Kd.Cg ho0 (Af (lU HB.out))); replace HB := Aa.mk (Aj (lU HB.out) hb); (try clear hb); (try clear hb2); (try clear hk); (try clear hi); (try clear ho0)) | ((with_reducible refine Ay (f := 90) rfl ?_); refine gL (some 17) Try.func90 #[.slice A1 l1.length c1] ?_; (with_reducible refine (B4.calls k _ _ l1 ab _ ?side1 ?side2 A5.out).mono ?_); (case side1 => repeat (first | exact (Kd.Cs HR1.out HB.out) | (with_reducible refine Kd.Bn ?_ _) | (with_reducible refine Kd.Bm ?_ _) | (with_reducible refine Kd.Bx ?_))); (case side2 => exact HC1.out); rintro e w7 ⟨v171, rfl, ho0, hb⟩; refine ⟨_, rfl, ?_⟩; have bz := Aa.mk (Kd.Cg (Kd.Bq ho0 (Kd.Cj (by exact rU <| a7.out))) (Af (lU HB.out))); replace a7 := Aa.mk (Kd.Bf (by exact rU <| a7.out) (Kd.Be ho0) hb); replace HB := Aa.mk (Aj (lU HB.out) hb); (try clear hb); (try clear hb2); (try clear hk); (try clear hi); (try clear ho0)))
 go_loopg [9, 10, 11] k (fun kq v9 v10 v11 w' => ∃ (an : List (S99)) (am : Int) (aj : Int), v10 = .int .i64 am ∧ v11 = .int .i64 aj ∧ Aa (An.l0 kq a2 aa ab an am aj = some r) ∧ Aa (kq ≤ k) ∧ Aa (Kd.R (Kd.int .i64) 3 w' w.heap.size (fun k_ => some k_ ≠ (v171 : Value).ownBlock) v168 aa) ∧ Aa (Kd.R (Kd.int .i64) 3 w' w.heap.size (fun k_ => some k_ ≠ (v168 : Value).ownBlock) v171 ab) ∧ Aa (Kd.R k99 99 w' w.heap.size (fun _ => True) v9 an) ∧ Aa (Below w.heap.size w w'))
 case atStart => exact ⟨(([] : List (S99))), (0), (0), (by first | rfl | (simp; done) | (simp [*]; done)), (by first | rfl | (simp; done) | (simp [*]; done)), H', ⟨Nat.le_refl _⟩, ⟨by exact rU <| Kd.Bs a7.out (fun _ hk => hk.2)⟩, ⟨by exact rU <| Kd.Bs bz.out (fun _ hk => hk.2)⟩, ⟨by first | exact Kd.De _ _ _ _ _ | exact Kd.N_nil _ _ _ _ _ | exact Kd.V_nil _ _ _ _ _ | exact Kd.Q_nil _ _ _ _ _ | exact Kd.S_nil _ _ _ _ _⟩, ⟨by repeat (first | (with_reducible first | exact HB.out | apply Ad | apply Ab | apply Ac) | exact HB.out)⟩⟩
 case round =>
  clear H'; (try clear c1); (try clear p2); (try clear c7); obtain ⟨an, am, aj, rfl, rfl, HA, HK1, ag, ah, ai, HB⟩ := hrel; cases gk with
  | zero => exact absurd HA.out (by simp [An.l0])
  | succ k1 =>
   have H := HA.out; clear HA
   simp only [An.l0] at H
   have HC8 := Aa.mk H; clear H
   go_upto_region 4 with (fail)
   go_cut [27] (fun v27 wc => ∃ (kq : Nat) (a8 : Bool), v27 = .bool a8 ∧ Aa (An.j1 kq a2 aa ab an am aj a8 = some r) ∧ Aa (kq ≤ k1) ∧ Aa (Kd.R (Kd.int .i64) 3 wc w.heap.size (fun k_ => some k_ ≠ (v171 : Value).ownBlock) v168 aa) ∧ Aa (Kd.R (Kd.int .i64) 3 wc w.heap.size (fun k_ => some k_ ≠ (v168 : Value).ownBlock) v171 ab) ∧ Aa (Kd.R k99 99 wc w.heap.size (fun _ => True) u9 an) ∧ Aa (Below w.heap.size w wc))
   case first =>
    have H := HC8.out; clear HC8
    by_cases c9 : am < (aa.length : Int)
    ·rw [if_pos c9] at H
     have aE : decide (am < (aa.length : Int)) = true := decide_eq_true c9; clear c9; (first | rw [aE] | (simp only [i64_w, i32_w]; rw [aE]) | skip); have H' := Aa.mk H; clear H; obtain ⟨bR, bS, bH⟩ := Kd.Bk ag.out; subst bH
     go_wp2
     go_meet
     case rel => exact ⟨_, (true), (by first | rfl | (simp; done) | (simp [*]; done)), H', ⟨by have := HK1.out; first | omega | exact Nat.le_refl _⟩, ⟨by exact rU <| ag.out⟩, ⟨by exact rU <| ah.out⟩, ⟨by exact rU <| ai.out⟩, ⟨by repeat (first | (with_reducible first | exact HB.out | apply Ad | apply Ab | apply Ac) | exact HB.out)⟩⟩
    ·rw [if_neg c9] at H
     have aE : decide (am < (aa.length : Int)) = false := decide_eq_false c9; clear c9; (first | rw [aE] | (simp only [i64_w, i32_w]; rw [aE]) | skip); have H' := Aa.mk H; clear H; obtain ⟨bT, bV, bI⟩ := Kd.Bk ag.out; subst bI; obtain ⟨bW, bX, bJ⟩ := Kd.Bk ah.out; subst bJ
     go_wp2
     go_meet
     case rel => exact ⟨_, (decide (aj < (ab.length : Int))), (by first | rfl | (simp; done) | (simp [*]; done)), H', ⟨by have := HK1.out; first | omega | exact Nat.le_refl _⟩, ⟨by exact rU <| ag.out⟩, ⟨by exact rU <| ah.out⟩, ⟨by exact rU <| ai.out⟩, ⟨by repeat (first | (with_reducible first | exact HB.out | apply Ad | apply Ab | apply Ac) | exact HB.out)⟩⟩
   case rest =>
    clear HC8; (try clear c1); (try clear p2); (try clear c7); (try clear c9); (try clear aE); (try clear p2); obtain ⟨kq, a8, rfl, HA, HJ7, ag, ah, ai, HB⟩ := hcut; cases kq with
    | zero => exact absurd HA.out (by simp [An.j1])
    | succ kj7 =>
     have H := HA.out; clear HA
     simp only [An.j1] at H
     by_cases c13 : a8 = true
     ·subst c13
      have H1 := H; rw [if_pos rfl] at H1; clear H; have H := H1; clear H1; have HC14 := Aa.mk H; clear H; obtain ⟨au, av, bK⟩ := Kd.Bk ag.out; subst bK
      go_upto_if 31 with (fail)
      go_cut [12] (fun v12 wc => ∃ (kq : Nat) (az : Int), v12 = .int .i64 az ∧ Aa (An.j2 kq a2 aa ab an am aj az = some r) ∧ Aa (kq ≤ kj7) ∧ Aa (Kd.R (Kd.int .i64) 3 wc w.heap.size (fun k_ => some k_ ≠ (v171 : Value).ownBlock) (.slice au aa.length av) aa) ∧ Aa (Kd.R (Kd.int .i64) 3 wc w.heap.size (fun k_ => some k_ ≠ ((.slice au aa.length av) : Value).ownBlock) v171 ab) ∧ Aa (Kd.R k99 99 wc w.heap.size (fun _ => True) u9 an) ∧ Aa (Below w.heap.size w wc))
      case first =>
       have H := HC14.out; clear HC14
       by_cases c16 : am < (aa.length : Int)
       ·rw [if_pos c16] at H
        have ap : decide (am < (aa.length : Int)) = true := decide_eq_true c16; clear c16; (first | rw [ap] | (simp only [i64_w, i32_w]; rw [ap]) | skip)
        by_cases c17 : 0 ≤ am
        ·rw [if_pos c17] at H
         have aG : decide (0 ≤ am) = true := decide_eq_true c17; clear c17; have H' := Aa.mk H; clear H; have aM : 0 ≤ (am : Int) := of_decide_eq_true (by with_reducible assumption); have aN : am < (aa.length : Int) := of_decide_eq_true (by with_reducible assumption); obtain ⟨bN, e173, ao⟩ := Kd.at_int (Kd.Ax ag.out).2.2 am aM aN; cases e173; replace aM := eq_true aM; replace aN := eq_true aN
         go_wp2
         go_meet
         case rel => exact ⟨_, (rd aa am), (by first | rfl | (simp; done) | (simp [*]; done)), H', ⟨by have := HK1.out; have := HJ7.out; first | omega | exact Nat.le_refl _⟩, ⟨by exact rU <| ag.out⟩, ⟨by exact rU <| ah.out⟩, ⟨by exact rU <| ai.out⟩, ⟨by repeat (first | (with_reducible first | exact HB.out | apply Ad | apply Ab | apply Ac) | exact HB.out)⟩⟩
        ·rw [if_neg c17] at H
         exact absurd H (by simp)
       ·rw [if_neg c16] at H
        have ap : decide (am < (aa.length : Int)) = false := decide_eq_false c16; clear c16; (first | rw [ap] | (simp only [i64_w, i32_w]; rw [ap]) | skip); have H' := Aa.mk H; clear H
        go_wp2
        go_meet
        case rel => exact ⟨_, (1099511627776), (by first | rfl | (simp; done) | (simp [*]; done)), H', ⟨by have := HK1.out; have := HJ7.out; first | omega | exact Nat.le_refl _⟩, ⟨by exact rU <| ag.out⟩, ⟨by exact rU <| ah.out⟩, ⟨by exact rU <| ai.out⟩, ⟨by repeat (first | (with_reducible first | exact HB.out | apply Ad | apply Ab | apply Ac) | exact HB.out)⟩⟩
      case rest =>
       clear HC14; (try clear c1); (try clear p1); (try clear q1); (try clear hx1); (try clear p2); (try clear c7); (try clear c9); (try clear aE); (try clear c13); (try clear c16); (try clear ap); (try clear c17); (try clear aG); (try clear p17); (try clear q17); (try clear hx17); (try clear ao); (try clear aM); (try clear p2); (try clear aN); obtain ⟨kq, az, rfl, HA, HJ13, ag, ah, ai, HB⟩ := hcut; cases kq with
       | zero => exact absurd HA.out (by simp [An.j2])
       | succ kj13 =>
        have H := HA.out; clear HA
        simp only [An.j2] at H
        have HC18 := Aa.mk H; clear H; obtain ⟨aA, aC, bL⟩ := Kd.Bk ah.out; subst bL
        go_upto_if 39 with (fail)
        go_cut [12] (fun v12 wc => ∃ (kq : Nat) (ac : Int), v12 = .int .i64 ac ∧ Aa (An.j3 kq a2 aa ab an am aj ac = some r) ∧ Aa (kq ≤ kj13) ∧ Aa (Kd.R (Kd.int .i64) 3 wc w.heap.size (fun k_ => some k_ ≠ ((.slice aA ab.length aC) : Value).ownBlock) (.slice au aa.length av) aa) ∧ Aa (Kd.R (Kd.int .i64) 3 wc w.heap.size (fun k_ => some k_ ≠ ((.slice au aa.length av) : Value).ownBlock) (.slice aA ab.length aC) ab) ∧ Aa (Kd.R k99 99 wc w.heap.size (fun _ => True) u9 an) ∧ Aa (Below w.heap.size w wc))
        case first =>
         have H := HC18.out; clear HC18
         by_cases c20 : aj < (ab.length : Int)
         ·rw [if_pos c20] at H
          have ar : decide (aj < (ab.length : Int)) = true := decide_eq_true c20; clear c20; (first | rw [ar] | (simp only [i64_w, i32_w]; rw [ar]) | skip)
          by_cases c21 : 0 ≤ aj
          ·rw [if_pos c21] at H
           have aQ : decide (0 ≤ aj) = true := decide_eq_true c21; clear c21; obtain ⟨bs, a9⟩ : ∃ j_ : Int, (mn az (rd ab aj)) = j_ := ⟨_, rfl⟩; replace H : (An.j3 kj13 a2 aa ab an am aj bs) = some r := by first | (rw [a9] at H; exact H) | (simp only [a9] at H ⊢; exact H)
           have hji22_ : (if (rd ab aj) < az then (rd ab aj) else az) = bs := a9; have H' := Aa.mk H; clear H; have aU : 0 ≤ (aj : Int) := of_decide_eq_true (by with_reducible assumption); have aV : aj < (ab.length : Int) := of_decide_eq_true (by with_reducible assumption); obtain ⟨bO, e174, aq⟩ := Kd.at_int (Kd.Ax ah.out).2.2 aj aU aV; cases e174; replace aU := eq_true aU; replace aV := eq_true aV
           go_wp2
           go_meet
           case rel => exact ⟨_, (bs), (by first | rfl | (simp; done) | (simp only [← a9] <;> (first | rfl | simp)) | (simp [*]; done)), H', ⟨by have := HK1.out; have := HJ7.out; have := HJ13.out; first | omega | exact Nat.le_refl _⟩, ⟨by exact rU <| ag.out⟩, ⟨by exact rU <| ah.out⟩, ⟨by exact rU <| ai.out⟩, ⟨by repeat (first | (with_reducible first | exact HB.out | apply Ad | apply Ab | apply Ac) | exact HB.out)⟩⟩
          ·rw [if_neg c21] at H
           exact absurd H (by simp)
         ·rw [if_neg c20] at H
          have ar : decide (aj < (ab.length : Int)) = false := decide_eq_false c20; clear c20; (first | rw [ar] | (simp only [i64_w, i32_w]; rw [ar]) | skip); have H' := Aa.mk H; clear H
          go_wp2
          go_meet
          case rel => exact ⟨_, (az), (by first | rfl | (simp; done) | (simp [*]; done)), H', ⟨by have := HK1.out; have := HJ7.out; have := HJ13.out; first | omega | exact Nat.le_refl _⟩, ⟨by exact rU <| ag.out⟩, ⟨by exact rU <| ah.out⟩, ⟨by exact rU <| ai.out⟩, ⟨by repeat (first | (with_reducible first | exact HB.out | apply Ad | apply Ab | apply Ac) | exact HB.out)⟩⟩
        case rest =>
         clear HC18; (try clear c1); (try clear p1); (try clear q1); (try clear hx1); (try clear c2); (try clear p2); (try clear c7); (try clear c9); (try clear aE); (try clear c13); (try clear c16); (try clear ap); (try clear c17); (try clear aG); (try clear p17); (try clear q17); (try clear hx17); (try clear c20); (try clear ar); (try clear c21); (try clear aQ); (try clear ao); (try clear aq); (try clear p1); (try clear p17); (try clear aM); (try clear aU); (try clear p2); (try clear q1); (try clear q17); (try clear aN); (try clear aV); obtain ⟨kq, ac, rfl, HA, HJ17, ag, ah, ai, HB⟩ := hcut; cases kq with
         | zero => exact absurd HA.out (by simp [An.j3])
         | succ kj17 =>
          have H := HA.out; clear HA
          simp only [An.j3] at H
          have HC23 := Aa.mk H; clear H
          go_upto_block 2 with (fail)
          go_cut [10] (fun v10 wc => ∃ (kq : Nat) (ae : Int), v10 = .int .i64 ae ∧ Aa (An.j5 kq a2 aa ab an ae aj ac = some r) ∧ Aa (kq ≤ kj17) ∧ Aa (Kd.R (Kd.int .i64) 3 wc w.heap.size (fun k_ => some k_ ≠ ((.slice aA ab.length aC) : Value).ownBlock) (.slice au aa.length av) aa) ∧ Aa (Kd.R (Kd.int .i64) 3 wc w.heap.size (fun k_ => some k_ ≠ ((.slice au aa.length av) : Value).ownBlock) (.slice aA ab.length aC) ab) ∧ Aa (Kd.R k99 99 wc w.heap.size (fun _ => True) u9 an) ∧ Aa (Below w.heap.size w wc))
          case first =>
           have H := HC23.out; clear HC23; have H' := Aa.mk H; clear H
           go_wp2
           go_loopg [10] kj17 (fun kq v10 w' => ∃ (ak : Int), v10 = .int .i64 ak ∧ Aa (An.l1 kq a2 aa ab an ak aj ac = some r) ∧ Aa (kq ≤ kj17) ∧ Aa (Kd.R (Kd.int .i64) 3 w' w.heap.size (fun k_ => some k_ ≠ ((.slice aA ab.length aC) : Value).ownBlock) (.slice au aa.length av) aa) ∧ Aa (Kd.R (Kd.int .i64) 3 w' w.heap.size (fun k_ => some k_ ≠ ((.slice au aa.length av) : Value).ownBlock) (.slice aA ab.length aC) ab) ∧ Aa (Kd.R k99 99 w' w.heap.size (fun _ => True) u9 an) ∧ Aa (Below w.heap.size w w'))
           case atStart => exact ⟨(am), (by first | rfl | (simp; done) | (simp [*]; done)), H', ⟨Nat.le_refl _⟩, ⟨by exact rU <| ag.out⟩, ⟨by exact rU <| ah.out⟩, ⟨by exact rU <| ai.out⟩, ⟨by repeat (first | (with_reducible first | exact HB.out | apply Ad | apply Ab | apply Ac) | exact HB.out)⟩⟩
           case round =>
            clear H'; (try clear c1); (try clear p1); (try clear q1); (try clear hx1); (try clear c2); (try clear p2); (try clear c7); (try clear c9); (try clear aE); (try clear c13); (try clear c16); (try clear ap); (try clear c17); (try clear aG); (try clear p17); (try clear q17); (try clear hx17); (try clear c20); (try clear ar); (try clear c21); (try clear aQ); (try clear ao); (try clear aq); (try clear p1); (try clear p17); (try clear aM); (try clear aU); (try clear p2); (try clear q1); (try clear q17); (try clear aN); (try clear aV); obtain ⟨ak, rfl, HA, HK5, ag, ah, ai, HB⟩ := hrel; cases gk with
            | zero => exact absurd HA.out (by simp [An.l1])
            | succ k5 =>
             have H := HA.out; clear HA
             simp only [An.l1] at H
             by_cases c24 : ak < (aa.length : Int)
             ·rw [if_pos c24] at H
              have ay : decide (ak < (aa.length : Int)) = true := decide_eq_true c24; clear c24; (first | rw [ay] | (simp only [i64_w, i32_w]; rw [ay]) | skip)
              by_cases c25 : 0 ≤ ak
              ·rw [if_pos c25] at H
               have a6 : decide (0 ≤ ak) = true := decide_eq_true c25; clear c25
               by_cases c26 : (rd aa ak) = ac
               ·rw [if_pos c26] at H
                have aY : ((rd aa ak) == ac) = true := beq_iff_eq.mpr c26; have aZ : ((rd aa ak) != ac) = false := bne_eq_false_iff_eq.mpr c26; clear c26; have H' := Aa.mk H; clear H; have aI : 0 ≤ (ak : Int) := of_decide_eq_true (by with_reducible assumption); have aJ : ak < (aa.length : Int) := of_decide_eq_true (by with_reducible assumption); obtain ⟨bB, e175, ax⟩ := Kd.at_int (Kd.Ax ag.out).2.2 ak aI aJ; cases e175; replace aI := eq_true aI; replace aJ := eq_true aJ
                go_wp2
                go_roundg k5
                case measure => have := HK1.out; have := HJ7.out; have := HJ13.out; have := HJ17.out; have := HK5.out; omega
                case rel => exact ⟨(wrap64 (ak + 1)), (by first | rfl | (simp; done) | (simp [*]; done)), H', ⟨by have := HK1.out; have := HJ7.out; have := HJ13.out; have := HJ17.out; have := HK5.out; omega⟩, ⟨by exact rU <| ag.out⟩, ⟨by exact rU <| ah.out⟩, ⟨by exact rU <| ai.out⟩, ⟨by repeat (first | (with_reducible first | exact HB.out | apply Ad | apply Ab | apply Ac) | exact HB.out)⟩⟩
               ·rw [if_neg c26] at H
                have aY : ((rd aa ak) == ac) = false := beq_eq_false_iff_ne.mpr c26; have aZ : ((rd aa ak) != ac) = true := bne_iff_ne.mpr c26; have H' := Aa.mk H; clear H; have aI : 0 ≤ (ak : Int) := of_decide_eq_true (by with_reducible assumption); have aJ : ak < (aa.length : Int) := of_decide_eq_true (by with_reducible assumption); obtain ⟨bB, e175, ax⟩ := Kd.at_int (Kd.Ax ag.out).2.2 ak aI aJ; cases e175; replace aI := eq_true aI; replace aJ := eq_true aJ
                go_wp2
                go_meet
                case rel => exact ⟨_, (ak), (by first | rfl | (simp; done) | (simp [*]; done)), H', ⟨by have := HK1.out; have := HJ7.out; have := HJ13.out; have := HJ17.out; have := HK5.out; first | omega | exact Nat.le_refl _⟩, ⟨by exact rU <| ag.out⟩, ⟨by exact rU <| ah.out⟩, ⟨by exact rU <| ai.out⟩, ⟨by repeat (first | (with_reducible first | exact HB.out | apply Ad | apply Ab | apply Ac) | exact HB.out)⟩⟩
              ·rw [if_neg c25] at H
               exact absurd H (by simp)
             ·rw [if_neg c24] at H
              have ay : decide (ak < (aa.length : Int)) = false := decide_eq_false c24; clear c24; (first | rw [ay] | (simp only [i64_w, i32_w]; rw [ay]) | skip); have H' := Aa.mk H; clear H
              go_wp2
              go_meet
              case rel => exact ⟨_, (ak), (by first | rfl | (simp; done) | (simp [*]; done)), H', ⟨by have := HK1.out; have := HJ7.out; have := HJ13.out; have := HJ17.out; have := HK5.out; first | omega | exact Nat.le_refl _⟩, ⟨by exact rU <| ag.out⟩, ⟨by exact rU <| ah.out⟩, ⟨by exact rU <| ai.out⟩, ⟨by repeat (first | (with_reducible first | exact HB.out | apply Ad | apply Ab | apply Ac) | exact HB.out)⟩⟩
          case rest =>
           clear HC23; (try clear c1); (try clear p1); (try clear q1); (try clear hx1); (try clear c2); (try clear p2); (try clear p6); (try clear c7); (try clear c9); (try clear aE); (try clear c13); (try clear c16); (try clear ap); (try clear c17); (try clear aG); (try clear p17); (try clear q17); (try clear hx17); (try clear c20); (try clear ar); (try clear c21); (try clear aQ); (try clear c24); (try clear ay); (try clear c25); (try clear a6); (try clear c26); (try clear aY); (try clear aZ); (try clear ao); (try clear aq); (try clear ax); (try clear p1); (try clear p17); (try clear aM); (try clear aU); (try clear aI); (try clear p2); (try clear q1); (try clear q17); (try clear aN); (try clear aV); (try clear aJ); obtain ⟨kq, ae, rfl, HA, HJ22, ag, ah, ai, HB⟩ := hcut; cases kq with
           | zero => exact absurd HA.out (by simp [An.j5])
           | succ kj22 =>
            have H := HA.out; clear HA
            simp only [An.j5] at H
            have HC27 := Aa.mk H; clear H
            go_upto_block 4 with (fail)
            go_cut [11] (fun v11 wc => ∃ (kq : Nat) (af : Int), v11 = .int .i64 af ∧ Aa (An.j7 kq a2 aa ab an ae af ac = some r) ∧ Aa (kq ≤ kj22) ∧ Aa (Kd.R (Kd.int .i64) 3 wc w.heap.size (fun k_ => some k_ ≠ ((.slice aA ab.length aC) : Value).ownBlock) (.slice au aa.length av) aa) ∧ Aa (Kd.R (Kd.int .i64) 3 wc w.heap.size (fun k_ => some k_ ≠ ((.slice au aa.length av) : Value).ownBlock) (.slice aA ab.length aC) ab) ∧ Aa (Kd.R k99 99 wc w.heap.size (fun _ => True) u9 an) ∧ Aa (Below w.heap.size w wc))
            case first =>
             have H := HC27.out; clear HC27; have H' := Aa.mk H; clear H
             go_wp2
             go_loopg [11] kj22 (fun kq v11 w' => ∃ (al : Int), v11 = .int .i64 al ∧ Aa (An.l2 kq a2 aa ab an ae al ac = some r) ∧ Aa (kq ≤ kj22) ∧ Aa (Kd.R (Kd.int .i64) 3 w' w.heap.size (fun k_ => some k_ ≠ ((.slice aA ab.length aC) : Value).ownBlock) (.slice au aa.length av) aa) ∧ Aa (Kd.R (Kd.int .i64) 3 w' w.heap.size (fun k_ => some k_ ≠ ((.slice au aa.length av) : Value).ownBlock) (.slice aA ab.length aC) ab) ∧ Aa (Kd.R k99 99 w' w.heap.size (fun _ => True) u9 an) ∧ Aa (Below w.heap.size w w'))
             case atStart => exact ⟨(aj), (by first | rfl | (simp; done) | (simp [*]; done)), H', ⟨Nat.le_refl _⟩, ⟨by exact rU <| ag.out⟩, ⟨by exact rU <| ah.out⟩, ⟨by exact rU <| ai.out⟩, ⟨by repeat (first | (with_reducible first | exact HB.out | apply Ad | apply Ab | apply Ac) | exact HB.out)⟩⟩
             case round =>
              clear H'; (try clear c1); (try clear p1); (try clear q1); (try clear hx1); (try clear c2); (try clear p2); (try clear p6); (try clear c7); (try clear c9); (try clear aE); (try clear c13); (try clear c16); (try clear ap); (try clear c17); (try clear aG); (try clear p17); (try clear q17); (try clear hx17); (try clear c20); (try clear ar); (try clear c21); (try clear aQ); (try clear c24); (try clear ay); (try clear c25); (try clear a6); (try clear c26); (try clear aY); (try clear aZ); (try clear ao); (try clear aq); (try clear ax); (try clear p1); (try clear p17); (try clear aM); (try clear aU); (try clear aI); (try clear p2); (try clear p6); (try clear q1); (try clear q17); (try clear aN); (try clear aV); (try clear aJ); obtain ⟨al, rfl, HA, HK6, ag, ah, ai, HB⟩ := hrel; cases gk with
              | zero => exact absurd HA.out (by simp [An.l2])
              | succ k6 =>
               have H := HA.out; clear HA
               simp only [An.l2] at H
               by_cases c28 : al < (ab.length : Int)
               ·rw [if_pos c28] at H
                have aH : decide (al < (ab.length : Int)) = true := decide_eq_true c28; clear c28; (first | rw [aH] | (simp only [i64_w, i32_w]; rw [aH]) | skip)
                by_cases c29 : 0 ≤ al
                ·rw [if_pos c29] at H
                 have bh : decide (0 ≤ al) = true := decide_eq_true c29; clear c29
                 by_cases c30 : (rd ab al) = ac
                 ·rw [if_pos c30] at H
                  have bc : ((rd ab al) == ac) = true := beq_iff_eq.mpr c30; have be : ((rd ab al) != ac) = false := bne_eq_false_iff_eq.mpr c30; clear c30; have H' := Aa.mk H; clear H; have aW : 0 ≤ (al : Int) := of_decide_eq_true (by with_reducible assumption); have aX : al < (ab.length : Int) := of_decide_eq_true (by with_reducible assumption); obtain ⟨bD, e176, aK⟩ := Kd.at_int (Kd.Ax ah.out).2.2 al aW aX; cases e176; replace aW := eq_true aW; replace aX := eq_true aX
                  go_wp2
                  go_roundg k6
                  case measure => have := HK1.out; have := HJ7.out; have := HJ13.out; have := HJ17.out; have := HJ22.out; have := HK6.out; omega
                  case rel => exact ⟨(wrap64 (al + 1)), (by first | rfl | (simp; done) | (simp [*]; done)), H', ⟨by have := HK1.out; have := HJ7.out; have := HJ13.out; have := HJ17.out; have := HJ22.out; have := HK6.out; omega⟩, ⟨by exact rU <| ag.out⟩, ⟨by exact rU <| ah.out⟩, ⟨by exact rU <| ai.out⟩, ⟨by repeat (first | (with_reducible first | exact HB.out | apply Ad | apply Ab | apply Ac) | exact HB.out)⟩⟩
                 ·rw [if_neg c30] at H
                  have bc : ((rd ab al) == ac) = false := beq_eq_false_iff_ne.mpr c30; have be : ((rd ab al) != ac) = true := bne_iff_ne.mpr c30; have H' := Aa.mk H; clear H; have aW : 0 ≤ (al : Int) := of_decide_eq_true (by with_reducible assumption); have aX : al < (ab.length : Int) := of_decide_eq_true (by with_reducible assumption); obtain ⟨bD, e176, aK⟩ := Kd.at_int (Kd.Ax ah.out).2.2 al aW aX; cases e176; replace aW := eq_true aW; replace aX := eq_true aX
                  go_wp2
                  go_meet
                  case rel => exact ⟨_, (al), (by first | rfl | (simp; done) | (simp [*]; done)), H', ⟨by have := HK1.out; have := HJ7.out; have := HJ13.out; have := HJ17.out; have := HJ22.out; have := HK6.out; first | omega | exact Nat.le_refl _⟩, ⟨by exact rU <| ag.out⟩, ⟨by exact rU <| ah.out⟩, ⟨by exact rU <| ai.out⟩, ⟨by repeat (first | (with_reducible first | exact HB.out | apply Ad | apply Ab | apply Ac) | exact HB.out)⟩⟩
                ·rw [if_neg c29] at H
                 exact absurd H (by simp)
               ·rw [if_neg c28] at H
                have aH : decide (al < (ab.length : Int)) = false := decide_eq_false c28; clear c28; (first | rw [aH] | (simp only [i64_w, i32_w]; rw [aH]) | skip); have H' := Aa.mk H; clear H
                go_wp2
                go_meet
                case rel => exact ⟨_, (al), (by first | rfl | (simp; done) | (simp [*]; done)), H', ⟨by have := HK1.out; have := HJ7.out; have := HJ13.out; have := HJ17.out; have := HJ22.out; have := HK6.out; first | omega | exact Nat.le_refl _⟩, ⟨by exact rU <| ag.out⟩, ⟨by exact rU <| ah.out⟩, ⟨by exact rU <| ai.out⟩, ⟨by repeat (first | (with_reducible first | exact HB.out | apply Ad | apply Ab | apply Ac) | exact HB.out)⟩⟩
            case rest =>
             clear HC27; (try clear c1); (try clear p1); (try clear q1); (try clear hx1); (try clear c2); (try clear p2); (try clear c3); (try clear p6); (try clear c7); (try clear c9); (try clear aE); (try clear c13); (try clear c16); (try clear ap); (try clear c17); (try clear aG); (try clear p17); (try clear q17); (try clear hx17); (try clear c20); (try clear ar); (try clear c21); (try clear aQ); (try clear c24); (try clear ay); (try clear c25); (try clear a6); (try clear c26); (try clear aY); (try clear aZ); (try clear c28); (try clear aH); (try clear c29); (try clear bh); (try clear c30); (try clear bc); (try clear be); (try clear ao); (try clear aq); (try clear ax); (try clear aK); (try clear p1); (try clear p17); (try clear aM); (try clear aU); (try clear aI); (try clear aW); (try clear p2); (try clear p6); (try clear q1); (try clear q17); (try clear aN); (try clear aV); (try clear aJ); (try clear aX); obtain ⟨kq, af, rfl, HA, HJ26, ag, ah, ai, HB⟩ := hcut; cases kq with
             | zero => exact absurd HA.out (by simp [An.j7])
             | succ kj26 =>
              have H := HA.out; clear HA
              simp only [An.j7] at H
              have HC31 := Aa.mk H; clear H
              go_upto_if 77 with (fail)
              go_cut [13] (fun v13 wc => ∃ (kq : Nat) (aD : Int), v13 = .int .i64 aD ∧ Aa (An.j8 kq a2 aa ab an ae af ac aD = some r) ∧ Aa (kq ≤ kj26) ∧ Aa (Kd.R (Kd.int .i64) 3 wc w.heap.size (fun k_ => some k_ ≠ ((.slice aA ab.length aC) : Value).ownBlock) (.slice au aa.length av) aa) ∧ Aa (Kd.R (Kd.int .i64) 3 wc w.heap.size (fun k_ => some k_ ≠ ((.slice au aa.length av) : Value).ownBlock) (.slice aA ab.length aC) ab) ∧ Aa (Kd.R k99 99 wc w.heap.size (fun _ => True) u9 an) ∧ Aa (Below w.heap.size w wc))
              case first =>
               have H := HC31.out; clear HC31
               by_cases c32 : ae < (aa.length : Int)
               ·rw [if_pos c32] at H
                have aT : decide (ae < (aa.length : Int)) = true := decide_eq_true c32; clear c32; (first | rw [aT] | (simp only [i64_w, i32_w]; rw [aT]) | skip)
                by_cases c33 : 0 ≤ ae
                ·rw [if_pos c33] at H
                 have bo : decide (0 ≤ ae) = true := decide_eq_true c33; clear c33; have H' := Aa.mk H; clear H; have bi : 0 ≤ (ae : Int) := of_decide_eq_true (by with_reducible assumption); have bj : ae < (aa.length : Int) := of_decide_eq_true (by with_reducible assumption); obtain ⟨bP, e177, bf⟩ := Kd.at_int (Kd.Ax ag.out).2.2 ae bi bj; cases e177; replace bi := eq_true bi; replace bj := eq_true bj
                 go_wp2
                 go_meet
                 case rel => exact ⟨_, (rd aa ae), (by first | rfl | (simp; done) | (simp [*]; done)), H', ⟨by have := HK1.out; have := HJ7.out; have := HJ13.out; have := HJ17.out; have := HJ22.out; have := HJ26.out; first | omega | exact Nat.le_refl _⟩, ⟨by exact rU <| ag.out⟩, ⟨by exact rU <| ah.out⟩, ⟨by exact rU <| ai.out⟩, ⟨by repeat (first | (with_reducible first | exact HB.out | apply Ad | apply Ab | apply Ac) | exact HB.out)⟩⟩
                ·rw [if_neg c33] at H
                 exact absurd H (by simp)
               ·rw [if_neg c32] at H
                have aT : decide (ae < (aa.length : Int)) = false := decide_eq_false c32; clear c32; (first | rw [aT] | (simp only [i64_w, i32_w]; rw [aT]) | skip); have H' := Aa.mk H; clear H
                go_wp2
                go_meet
                case rel => exact ⟨_, (1099511627776), (by first | rfl | (simp; done) | (simp [*]; done)), H', ⟨by have := HK1.out; have := HJ7.out; have := HJ13.out; have := HJ17.out; have := HJ22.out; have := HJ26.out; first | omega | exact Nat.le_refl _⟩, ⟨by exact rU <| ag.out⟩, ⟨by exact rU <| ah.out⟩, ⟨by exact rU <| ai.out⟩, ⟨by repeat (first | (with_reducible first | exact HB.out | apply Ad | apply Ab | apply Ac) | exact HB.out)⟩⟩
              case rest =>
               clear HC31; (try clear c1); (try clear p1); (try clear q1); (try clear hx1); (try clear c2); (try clear p2); (try clear c3); (try clear p6); (try clear c7); (try clear c9); (try clear aE); (try clear c13); (try clear c16); (try clear ap); (try clear c17); (try clear aG); (try clear p17); (try clear q17); (try clear hx17); (try clear c20); (try clear ar); (try clear c21); (try clear aQ); (try clear c24); (try clear ay); (try clear c25); (try clear a6); (try clear c26); (try clear aY); (try clear aZ); (try clear c28); (try clear aH); (try clear c29); (try clear bh); (try clear c30); (try clear bc); (try clear be); (try clear c32); (try clear aT); (try clear c33); (try clear bo); (try clear ao); (try clear aq); (try clear ax); (try clear aK); (try clear bf); (try clear p1); (try clear p17); (try clear aM); (try clear aU); (try clear aI); (try clear aW); (try clear bi); (try clear p2); (try clear p6); (try clear q1); (try clear q17); (try clear aN); (try clear aV); (try clear aJ); (try clear aX); (try clear bj); obtain ⟨kq, aD, rfl, HA, HJ30, ag, ah, ai, HB⟩ := hcut; cases kq with
               | zero => exact absurd HA.out (by simp [An.j8])
               | succ kj30 =>
                have H := HA.out; clear HA
                simp only [An.j8] at H
                have HC34 := Aa.mk H; clear H
                go_upto_if 85 with (fail)
                go_cut [13] (fun v13 wc => ∃ (kq : Nat) (aw : Int), v13 = .int .i64 aw ∧ Aa (An.j9 kq a2 aa ab an ae af ac aw = some r) ∧ Aa (kq ≤ kj30) ∧ Aa (Kd.R (Kd.int .i64) 3 wc w.heap.size (fun k_ => some k_ ≠ ((.slice aA ab.length aC) : Value).ownBlock) (.slice au aa.length av) aa) ∧ Aa (Kd.R (Kd.int .i64) 3 wc w.heap.size (fun k_ => some k_ ≠ ((.slice au aa.length av) : Value).ownBlock) (.slice aA ab.length aC) ab) ∧ Aa (Kd.R k99 99 wc w.heap.size (fun _ => True) u9 an) ∧ Aa (Below w.heap.size w wc))
                case first =>
                 have H := HC34.out; clear HC34
                 by_cases c35 : af < (ab.length : Int)
                 ·rw [if_pos c35] at H
                  have a5 : decide (af < (ab.length : Int)) = true := decide_eq_true c35; clear c35; (first | rw [a5] | (simp only [i64_w, i32_w]; rw [a5]) | skip)
                  by_cases c36 : 0 ≤ af
                  ·rw [if_pos c36] at H
                   have bE : decide (0 ≤ af) = true := decide_eq_true c36; clear c36; obtain ⟨bu, bg⟩ : ∃ j_ : Int, (mn aD (rd ab af)) = j_ := ⟨_, rfl⟩; replace H : (An.j9 kj30 a2 aa ab an ae af ac bu) = some r := by first | (rw [bg] at H; exact H) | (simp only [bg] at H ⊢; exact H)
                   have hji37_ : (if (rd ab af) < aD then (rd ab af) else aD) = bu := bg; have H' := Aa.mk H; clear H; have bl : 0 ≤ (af : Int) := of_decide_eq_true (by with_reducible assumption); have bm : af < (ab.length : Int) := of_decide_eq_true (by with_reducible assumption); obtain ⟨bQ, e178, bn⟩ := Kd.at_int (Kd.Ax ah.out).2.2 af bl bm; cases e178; replace bl := eq_true bl; replace bm := eq_true bm
                   go_wp2
                   go_meet
                   case rel => exact ⟨_, (bu), (by first | rfl | (simp; done) | (simp only [← bg] <;> (first | rfl | simp)) | (simp [*]; done)), H', ⟨by have := HK1.out; have := HJ7.out; have := HJ13.out; have := HJ17.out; have := HJ22.out; have := HJ26.out; have := HJ30.out; first | omega | exact Nat.le_refl _⟩, ⟨by exact rU <| ag.out⟩, ⟨by exact rU <| ah.out⟩, ⟨by exact rU <| ai.out⟩, ⟨by repeat (first | (with_reducible first | exact HB.out | apply Ad | apply Ab | apply Ac) | exact HB.out)⟩⟩
                  ·rw [if_neg c36] at H
                   exact absurd H (by simp)
                 ·rw [if_neg c35] at H
                  have a5 : decide (af < (ab.length : Int)) = false := decide_eq_false c35; clear c35; (first | rw [a5] | (simp only [i64_w, i32_w]; rw [a5]) | skip); have H' := Aa.mk H; clear H
                  go_wp2
                  go_meet
                  case rel => exact ⟨_, (aD), (by first | rfl | (simp; done) | (simp [*]; done)), H', ⟨by have := HK1.out; have := HJ7.out; have := HJ13.out; have := HJ17.out; have := HJ22.out; have := HJ26.out; have := HJ30.out; first | omega | exact Nat.le_refl _⟩, ⟨by exact rU <| ag.out⟩, ⟨by exact rU <| ah.out⟩, ⟨by exact rU <| ai.out⟩, ⟨by repeat (first | (with_reducible first | exact HB.out | apply Ad | apply Ab | apply Ac) | exact HB.out)⟩⟩
                case rest =>
                 clear HC34; (try clear c1); (try clear p1); (try clear q1); (try clear hx1); (try clear c2); (try clear p2); (try clear c3); (try clear p6); (try clear c7); (try clear c9); (try clear aE); (try clear c13); (try clear c16); (try clear ap); (try clear c17); (try clear aG); (try clear p17); (try clear q17); (try clear hx17); (try clear c20); (try clear ar); (try clear c21); (try clear aQ); (try clear c24); (try clear ay); (try clear c25); (try clear a6); (try clear c26); (try clear aY); (try clear aZ); (try clear c28); (try clear aH); (try clear c29); (try clear bh); (try clear c30); (try clear bc); (try clear be); (try clear c32); (try clear aT); (try clear c33); (try clear bo); (try clear c35); (try clear a5); (try clear c36); (try clear bE); (try clear ao); (try clear aq); (try clear ax); (try clear aK); (try clear bf); (try clear bn); (try clear p1); (try clear p17); (try clear aM); (try clear aU); (try clear aI); (try clear aW); (try clear bi); (try clear bl); (try clear p2); (try clear p6); (try clear q1); (try clear q17); (try clear aN); (try clear aV); (try clear aJ); (try clear aX); (try clear bj); (try clear bm); obtain ⟨kq, aw, rfl, HA, HJ33, ag, ah, ai, HB⟩ := hcut; cases kq with
                 | zero => exact absurd HA.out (by simp [An.j9])
                 | succ kj33 =>
                  have H := HA.out; clear HA
                  simp only [An.j9] at H
                  by_cases c38 : aw < 1099511627776
                  ·rw [if_pos c38] at H
                   have bF : decide (aw < 1099511627776) = true := decide_eq_true c38; clear c38; replace H := Option.bind_eq_some_iff.mp H; obtain ⟨br, A390, H⟩ := H
                   try dsimp only at H
                   have A39 := Aa.mk A390; clear A390
                   by_cases c40 : br = true
                   ·subst c40
                    have H1 := H; rw [if_pos rfl] at H1; clear H; have H := H1; clear H1; replace H := Option.bind_eq_some_iff.mp H; obtain ⟨bk, A410, H⟩ := H
                    try dsimp only at H
                    have A41 := Aa.mk A410; clear A410; have H' := Aa.mk H; clear H
                    go_wp2_with (first | (go_at_call 91; (with_reducible refine (Ct.calls a2 ((Int.tmod ae 2) == 1) ((Int.tmod af 2) == 1) true _ A39.out).mono ?_); rintro e w' ⟨rfl, ⟨nd, rfl⟩⟩; obtain ⟨bw, bx, bM⟩ := Kd.Bk ai.out; subst bM) | ((with_reducible refine Ay (f := 79) rfl ?_); refine gL (some 108) Try.func79 #[.slice bw an.length bx, .agg #[.int .i64 ac, .int .i64 aw]] ?_; (with_reducible refine (Bv.calls (fun k_ => some k_ = (.slice bw an.length bx : Value).ownBlock) (.slice bw an.length bx) an ac aw bk w _ ?side1 ?side2 A41.out).mono ?_); (case side1 => repeat (first | (with_reducible first | exact HB.out | apply Ad | apply Ab | apply Ac) | exact HB.out)); (case side2 => exact Kd.C4 rfl ai.out); rintro e w43 ⟨v181, rfl, ho0, hb, hkp⟩; refine ⟨_, rfl, ?_⟩; replace ag := Aa.mk (Kd.Bs (ok' := fun k_ => some k_ ≠ (.slice aA ab.length aC : Value).ownBlock) (Kd.Dq ((Kd.Au ag.out (Kd.Bc ai.out) (by decide))) hkp (fun k_ hk_ hs_ => (hk_.2) hs_)) (fun k_ hk_ => hk_.1.1)); replace ah := Aa.mk (Kd.Bs (ok' := fun k_ => some k_ ≠ (.slice au aa.length av : Value).ownBlock) (Kd.Dq ((Kd.Au ah.out (Kd.Bc ai.out) (by decide))) hkp (fun k_ hk_ hs_ => (hk_.2) hs_)) (fun k_ hk_ => hk_.1.1)); have bG := Aa.mk (Kd.Bs (ok' := fun k_ => True) ho0 (fun k_ hk_ => trivial)); replace HB := Aa.mk (hb); clear ai; (try clear hb); (try clear hkp); (try clear ho0)))
                    go_roundg kj33
                    case measure => have := HK1.out; have := HJ7.out; have := HJ13.out; have := HJ17.out; have := HJ22.out; have := HJ26.out; have := HJ30.out; have := HJ33.out; omega
                    case rel => exact ⟨(bk), (ae), (af), (by first | rfl | (simp; done) | (simp [*]; done)), (by first | rfl | (simp; done) | (simp [*]; done)), H', ⟨by have := HK1.out; have := HJ7.out; have := HJ13.out; have := HJ17.out; have := HJ22.out; have := HJ26.out; have := HJ30.out; have := HJ33.out; omega⟩, ⟨by exact rU <| ag.out⟩, ⟨by exact rU <| ah.out⟩, ⟨by exact rU <| bG.out⟩, ⟨by repeat (first | (with_reducible first | exact HB.out | apply Ad | apply Ab | apply Ac) | exact HB.out)⟩⟩
                   ·replace c40 := Bool.eq_false_iff.mpr c40
                    subst c40; have H1 := H; rw [if_neg (show ¬ (false = true) by decide)] at H1; clear H; have H := H1; clear H1; have H' := Aa.mk H; clear H
                    go_wp2_with ((go_at_call 91; (with_reducible refine (Ct.calls a2 ((Int.tmod ae 2) == 1) ((Int.tmod af 2) == 1) false _ A39.out).mono ?_); rintro e w' ⟨rfl, ⟨nd, rfl⟩⟩))
                    go_roundg kj33
                    case measure => have := HK1.out; have := HJ7.out; have := HJ13.out; have := HJ17.out; have := HJ22.out; have := HJ26.out; have := HJ30.out; have := HJ33.out; omega
                    case rel => exact ⟨(an), (ae), (af), (by first | rfl | (simp; done) | (simp [*]; done)), (by first | rfl | (simp; done) | (simp [*]; done)), H', ⟨by have := HK1.out; have := HJ7.out; have := HJ13.out; have := HJ17.out; have := HJ22.out; have := HJ26.out; have := HJ30.out; have := HJ33.out; omega⟩, ⟨by exact rU <| ag.out⟩, ⟨by exact rU <| ah.out⟩, ⟨by exact rU <| ai.out⟩, ⟨by repeat (first | (with_reducible first | exact HB.out | apply Ad | apply Ab | apply Ac) | exact HB.out)⟩⟩
                  ·rw [if_neg c38] at H
                   have bF : decide (aw < 1099511627776) = false := decide_eq_false c38; clear c38; have H' := Aa.mk H; clear H
                   go_wp2
                   go_roundg kj33
                   case measure => have := HK1.out; have := HJ7.out; have := HJ13.out; have := HJ17.out; have := HJ22.out; have := HJ26.out; have := HJ30.out; have := HJ33.out; omega
                   case rel => exact ⟨(an), (ae), (af), (by first | rfl | (simp; done) | (simp [*]; done)), (by first | rfl | (simp; done) | (simp [*]; done)), H', ⟨by have := HK1.out; have := HJ7.out; have := HJ13.out; have := HJ17.out; have := HJ22.out; have := HJ26.out; have := HJ30.out; have := HJ33.out; omega⟩, ⟨by exact rU <| ag.out⟩, ⟨by exact rU <| ah.out⟩, ⟨by exact rU <| ai.out⟩, ⟨by repeat (first | (with_reducible first | exact HB.out | apply Ad | apply Ab | apply Ac) | exact HB.out)⟩⟩
     ·replace c13 := Bool.eq_false_iff.mpr c13
      subst c13; have H1 := H; rw [if_neg (show ¬ (false = true) by decide)] at H1; clear H; have H := H1; clear H1; obtain rfl := Option.some.inj H
      go_wp2
      go_ret
      exact ⟨_, by first | rfl | (simp [Ba, Az] <;> rfl) | (simp [*, Ba, Az] <;> rfl), by exact rU <| ai.out, by repeat (first | (with_reducible first | exact HB.out | apply Ad | apply Ab | apply Ac) | exact HB.out)⟩

end Go.Proofs.Ytobdfiglgdbecaa.PGR

