import Derived.Test.YtobdfiglgdbecaaQUQ
import Derived.Test.YtobdfiglgdbecaaQPGRx0
import Derived.Test.YtobdfiglgdbecaaQPGRx7
import Derived.Test.YtobdfiglgdbecaaQPGHx2
import Derived.Test.YtobdfiglgdbecaaQV6
import Derived.Test.YtobdfiglgdbecaaQR1
import Derived.Test.YtobdfiglgdbecaaQCP
import Derived.Test.YtobdfiglgdbecaaQPGRx11
import Derived.Test.YtobdfiglgdbecaaQPGRx10
section
namespace Go.Proofs.Ytobdfiglgdbecaa.PGR
open Go.Proofs.Ytobdfiglgdbecaa.PGA Go.Proofs.Ytobdfiglgdbecaa.PGB Go.Proofs.Ytobdfiglgdbecaa.PGH Go.Proofs.Ytobdfiglgdbecaa.PGI
open Go.RowKit Go.Proofs.YtobdfiglgdbecaaW.PrintWords Go.Proofs.YtobdfiglgdbecaaW.PrintLast Go.Proofs.YtobdfiglgdbecaaW.PrintMore
attribute [local go_sem] max2_int min2_int max_two min_two max_three min_three max_four min_four
set_option linter.unusedVariables false
set_option linter.unusedSimpArgs false

def Cr.f (k : Nat) (l0 : List (S58)) (l1 : List (S58)) (a2 : Int) : Option ((List (S58)) × Int) := (Cn.f k l0).bind fun aa => (if aa = 0 then ((Cn.f k l1).bind fun ab => (if ab = 0 then ((Af.f k l0 l1 a2).bind fun ac => (some (ac.1, ac.2))) else (some (([] : List (S58)), ab)))) else (some (([] : List (S58)), aa)))
set_option maxHeartbeats 8000000 in
set_option maxRecDepth 100000 in
theorem Cr.calls (k : Nat) (A0 : Option Addr) (c0 : Nat) (l0 : List (S58)) (A1 : Option Addr) (c1 : Nat) (l1 : List (S58)) (a2 : Int) (r1 : List (S58)) (r2 : Int) (w : World) (hr0 : Kd.C k58 w A0 l0.length l0) (hc0 : l0.length ≤ c0) (hr1 : Kd.C k58 w A1 l1.length l1) (hc1 : l1.length ≤ c1) (h : Cr.f k l0 l1 a2 = some (r1, r2)) :
  Calls Try.prog 56 #[.slice A0 l0.length c0, .slice A1 l1.length c1, .int .i64 a2] w fun e w' => ∃ v0_ : Value, e = .returned (.tuple #[v0_, .int .i64 r2]) ∧ Kd.R k58 58 w' w.heap.size (fun _ => True) v0_ r1 ∧ Below w.heap.size w w' := by
 have HR0 := Aa.mk hr0; have HC0 := Aa.mk hc0; clear hr0 hc0; have HR1 := Aa.mk hr1; have HC1 := Aa.mk hc1; clear hr1 hc1; have HB := Aa.mk (Below.refl w.heap.size w); have H : ((Cn.f k l0).bind fun aa => (if aa = 0 then ((Cn.f k l1).bind fun ab => (if ab = 0 then ((Af.f k l0 l1 a2).bind fun ac => (some (ac.1, ac.2))) else (some (([] : List (S58)), ab)))) else (some (([] : List (S58)), aa)))) = some (r1, r2) := h; clear h; replace H := Option.bind_eq_some_iff.mp H; obtain ⟨aa, A40, H⟩ := H
 try dsimp only at H
 have A4 := Aa.mk A40; clear A40
 by_cases c5 : aa = 0
 ·rw [if_pos c5] at H
  have an : (aa == 0) = true := beq_iff_eq.mpr c5; have ao : (aa != 0) = false := bne_eq_false_iff_eq.mpr c5; clear c5; replace H := Option.bind_eq_some_iff.mp H; obtain ⟨ab, A60, H⟩ := H
  try dsimp only at H
  have A6 := Aa.mk A60; clear A60
  by_cases c7 : ab = 0
  ·rw [if_pos c7] at H
   have ap : (ab == 0) = true := beq_iff_eq.mpr c7; have aq : (ab != 0) = false := bne_eq_false_iff_eq.mpr c7; clear c7; replace H := Option.bind_eq_some_iff.mp H; obtain ⟨⟨ar, au⟩, A80, H⟩ := H
   try dsimp only at H
   have A8 := Aa.mk A80; clear A80
   simp only [Option.some.injEq, Prod.mk.injEq] at H
   obtain ⟨rfl, rfl⟩ := H; go_enter Try.func56, Try.ntmps56
   go_wp2_with (first | ((with_reducible refine As (f := 50) rfl ?_); refine gL (some 10) Try.func50 #[.slice A0 l0.length c0] ?_; (with_reducible refine (Cn.calls k _ _ l0 aa _ ?side1 ?side2 A4.out).mono ?_); (case side1 => repeat (first | exact HR0.out | (with_reducible refine Kd.Bp ?_ _) | (with_reducible refine Kd.Bo ?_ _) | (with_reducible refine Kd.Bu ?_))); (case side2 => exact HC0.out); rintro e w9 ⟨rfl, hb⟩; refine ⟨_, rfl, ?_⟩; replace HB := Aa.mk (Ak (lU HB.out) hb); (try clear hb); (try clear hb2); (try clear hk); (try clear hi)) | ((with_reducible refine As (f := 50) rfl ?_); refine gL (some 15) Try.func50 #[.slice A1 l1.length c1] ?_; (with_reducible refine (Cn.calls k _ _ l1 ab _ ?side1 ?side2 A6.out).mono ?_); (case side1 => repeat (first | exact (Kd.Cv HR1.out HB.out) | (with_reducible refine Kd.Bp ?_ _) | (with_reducible refine Kd.Bo ?_ _) | (with_reducible refine Kd.Bu ?_))); (case side2 => exact HC1.out); rintro e w10 ⟨rfl, hb⟩; refine ⟨_, rfl, ?_⟩; replace HB := Aa.mk (Ak (lU HB.out) hb); (try clear hb); (try clear hb2); (try clear hk); (try clear hi)) | ((with_reducible refine As (f := 53) rfl ?_); refine gL (some 22) Try.func53 #[.slice A0 l0.length c0, .slice A1 l1.length c1, .int .i64 a2] ?_; (with_reducible refine (Af.calls k _ _ l0 _ _ l1 a2 ar au _ ?side1 ?side2 ?side3 ?side4 A8.out).mono ?_); (case side1 => repeat (first | exact (Kd.Cv HR0.out HB.out) | (with_reducible refine Kd.Bp ?_ _) | (with_reducible refine Kd.Bo ?_ _) | (with_reducible refine Kd.Bu ?_))); (case side2 => exact HC0.out); (case side3 => repeat (first | exact (Kd.Cv HR1.out HB.out) | (with_reducible refine Kd.Bp ?_ _) | (with_reducible refine Kd.Bo ?_ _) | (with_reducible refine Kd.Bu ?_))); (case side4 => exact HC1.out); rintro e w11 ⟨v271, rfl, ho0, hb⟩; refine ⟨_, rfl, ?_⟩; have ai := Aa.mk (Kd.Cb ho0 (Ae (lU HB.out))); replace HB := Aa.mk (Ak (lU HB.out) hb); (try clear hb); (try clear hb2); (try clear hk); (try clear hi); (try clear ho0)))
   go_ret2
   exact ⟨_, by first | rfl | (simp [Au, At] <;> rfl) | (simp [*, Au, At] <;> rfl), by exact rU <| ai.out, by repeat (first | (with_reducible first | exact HB.out | apply Ad | apply Ab | apply Ac) | exact HB.out)⟩
  ·rw [if_neg c7] at H
   have ap : (ab == 0) = false := beq_eq_false_iff_ne.mpr c7; have aq : (ab != 0) = true := bne_iff_ne.mpr c7
   simp only [Option.some.injEq, Prod.mk.injEq] at H
   obtain ⟨rfl, rfl⟩ := H; go_enter Try.func56, Try.ntmps56
   go_wp2_with (first | ((with_reducible refine As (f := 50) rfl ?_); refine gL (some 10) Try.func50 #[.slice A0 l0.length c0] ?_; (with_reducible refine (Cn.calls k _ _ l0 aa _ ?side1 ?side2 A4.out).mono ?_); (case side1 => repeat (first | exact HR0.out | (with_reducible refine Kd.Bp ?_ _) | (with_reducible refine Kd.Bo ?_ _) | (with_reducible refine Kd.Bu ?_))); (case side2 => exact HC0.out); rintro e w12 ⟨rfl, hb⟩; refine ⟨_, rfl, ?_⟩; replace HB := Aa.mk (Ak (lU HB.out) hb); (try clear hb); (try clear hb2); (try clear hk); (try clear hi)) | ((with_reducible refine As (f := 50) rfl ?_); refine gL (some 15) Try.func50 #[.slice A1 l1.length c1] ?_; (with_reducible refine (Cn.calls k _ _ l1 ab _ ?side1 ?side2 A6.out).mono ?_); (case side1 => repeat (first | exact (Kd.Cv HR1.out HB.out) | (with_reducible refine Kd.Bp ?_ _) | (with_reducible refine Kd.Bo ?_ _) | (with_reducible refine Kd.Bu ?_))); (case side2 => exact HC1.out); rintro e w13 ⟨rfl, hb⟩; refine ⟨_, rfl, ?_⟩; replace HB := Aa.mk (Ak (lU HB.out) hb); (try clear hb); (try clear hb2); (try clear hk); (try clear hi)))
   go_ret2
   exact ⟨_, by first | rfl | (simp [Au, At] <;> rfl) | (simp [*, Au, At] <;> rfl), by first | exact Kd.C2 _ _ _ _ _ | exact Kd.N_nil _ _ _ _ _ | exact Kd.V_nil _ _ _ _ _ | exact Kd.Q_nil _ _ _ _ _ | exact Kd.S_nil _ _ _ _ _, by repeat (first | (with_reducible first | exact HB.out | apply Ad | apply Ab | apply Ac) | exact HB.out)⟩
 ·rw [if_neg c5] at H
  have an : (aa == 0) = false := beq_eq_false_iff_ne.mpr c5; have ao : (aa != 0) = true := bne_iff_ne.mpr c5
  simp only [Option.some.injEq, Prod.mk.injEq] at H
  obtain ⟨rfl, rfl⟩ := H; go_enter Try.func56, Try.ntmps56
  go_wp2_with (first | ((with_reducible refine As (f := 50) rfl ?_); refine gL (some 10) Try.func50 #[.slice A0 l0.length c0] ?_; (with_reducible refine (Cn.calls k _ _ l0 aa _ ?side1 ?side2 A4.out).mono ?_); (case side1 => repeat (first | exact HR0.out | (with_reducible refine Kd.Bp ?_ _) | (with_reducible refine Kd.Bo ?_ _) | (with_reducible refine Kd.Bu ?_))); (case side2 => exact HC0.out); rintro e w14 ⟨rfl, hb⟩; refine ⟨_, rfl, ?_⟩; replace HB := Aa.mk (Ak (lU HB.out) hb); (try clear hb); (try clear hb2); (try clear hk); (try clear hi)))
  go_ret2
  exact ⟨_, by first | rfl | (simp [Au, At] <;> rfl) | (simp [*, Au, At] <;> rfl), by first | exact Kd.C2 _ _ _ _ _ | exact Kd.N_nil _ _ _ _ _ | exact Kd.V_nil _ _ _ _ _ | exact Kd.Q_nil _ _ _ _ _ | exact Kd.S_nil _ _ _ _ _, by repeat (first | (with_reducible first | exact HB.out | apply Ad | apply Ab | apply Ac) | exact HB.out)⟩

def halideref6_Of.f (k : Nat) (l0 : List (S58)) : Option ((List (S58)) × Int) := (Cr.f k l0 ([] : List (S58)) 1).bind fun ae => (some (ae.1, ae.2))
set_option maxHeartbeats 8000000 in
set_option maxRecDepth 100000 in
theorem halideref6_Of.calls (k : Nat) (A0 : Option Addr) (c0 : Nat) (l0 : List (S58)) (r1 : List (S58)) (r2 : Int) (w : World) (hr0 : Kd.C k58 w A0 l0.length l0) (hc0 : l0.length ≤ c0) (h : halideref6_Of.f k l0 = some (r1, r2)) :
  Calls Try.prog 22 #[.slice A0 l0.length c0] w fun e w' => ∃ v0_ : Value, e = .returned (.tuple #[v0_, .int .i64 r2]) ∧ Kd.R k58 58 w' w.heap.size (fun _ => True) v0_ r1 ∧ Below w.heap.size w w' := by
 have HR0 := Aa.mk hr0; have HC0 := Aa.mk hc0; clear hr0 hc0; have HB := Aa.mk (Below.refl w.heap.size w); have H : ((Cr.f k l0 ([] : List (S58)) 1).bind fun ae => (some (ae.1, ae.2))) = some (r1, r2) := h; clear h; replace H := Option.bind_eq_some_iff.mp H; obtain ⟨⟨av, aw⟩, A20, H⟩ := H
 try dsimp only at H
 have A2 := Aa.mk A20; clear A20
 simp only [Option.some.injEq, Prod.mk.injEq] at H
 obtain ⟨rfl, rfl⟩ := H; go_enter Try.func22, Try.ntmps22
 go_wp2_with (first | ((with_reducible refine As (f := 56) rfl ?_); refine gL (some 5) Try.func56 #[.slice A0 l0.length c0, .slice none 0 0, .int .i64 1] ?_; (refine (Cr.calls k _ _ l0 _ _ ([] : List (S58)) 1 av aw _ ?side1 ?side2 ?side3 ?side4 A2.out).mono ?_); (case side1 => repeat (first | exact HR0.out | (with_reducible refine Kd.Bp ?_ _) | (with_reducible refine Kd.Bo ?_ _) | (with_reducible refine Kd.Bu ?_))); (case side2 => exact HC0.out); (case side3 => exact Kd.C_nil _ _); (case side4 => exact Nat.le_refl _); rintro e w3 ⟨v275, rfl, ho0, hb⟩; refine ⟨_, rfl, ?_⟩; have aj := Aa.mk (Kd.Cb ho0 (Ae (lU HB.out))); replace HB := Aa.mk (Ak (lU HB.out) hb); (try clear hb); (try clear hb2); (try clear hk); (try clear hi); (try clear ho0)))
 go_ret2
 exact ⟨_, by first | rfl | (simp [Au, At] <;> rfl) | (simp [*, Au, At] <;> rfl), by exact rU <| aj.out, by repeat (first | (with_reducible first | exact HB.out | apply Ad | apply Ab | apply Ac) | exact HB.out)⟩

def Dk.f (k : Nat) (l0 : List (S58)) (l1 : List (S58)) : Option ((List (S58)) × Int) := (Cr.f k l0 l1 2).bind fun af => (some (af.1, af.2))
set_option maxHeartbeats 8000000 in
set_option maxRecDepth 100000 in
theorem Dk.calls (k : Nat) (A0 : Option Addr) (c0 : Nat) (l0 : List (S58)) (A1 : Option Addr) (c1 : Nat) (l1 : List (S58)) (r1 : List (S58)) (r2 : Int) (w : World) (hr0 : Kd.C k58 w A0 l0.length l0) (hc0 : l0.length ≤ c0) (hr1 : Kd.C k58 w A1 l1.length l1) (hc1 : l1.length ≤ c1) (h : Dk.f k l0 l1 = some (r1, r2)) :
  Calls Try.prog 24 #[.slice A0 l0.length c0, .slice A1 l1.length c1] w fun e w' => ∃ v0_ : Value, e = .returned (.tuple #[v0_, .int .i64 r2]) ∧ Kd.R k58 58 w' w.heap.size (fun _ => True) v0_ r1 ∧ Below w.heap.size w w' := by
 have HR0 := Aa.mk hr0; have HC0 := Aa.mk hc0; clear hr0 hc0; have HR1 := Aa.mk hr1; have HC1 := Aa.mk hc1; clear hr1 hc1; have HB := Aa.mk (Below.refl w.heap.size w); have H : ((Cr.f k l0 l1 2).bind fun af => (some (af.1, af.2))) = some (r1, r2) := h; clear h; replace H := Option.bind_eq_some_iff.mp H; obtain ⟨⟨ax, ay⟩, A30, H⟩ := H
 try dsimp only at H
 have A3 := Aa.mk A30; clear A30
 simp only [Option.some.injEq, Prod.mk.injEq] at H
 obtain ⟨rfl, rfl⟩ := H; go_enter Try.func24, Try.ntmps24
 go_wp2_with (first | ((with_reducible refine As (f := 56) rfl ?_); refine gL (some 8) Try.func56 #[.slice A0 l0.length c0, .slice A1 l1.length c1, .int .i64 2] ?_; (with_reducible refine (Cr.calls k _ _ l0 _ _ l1 2 ax ay _ ?side1 ?side2 ?side3 ?side4 A3.out).mono ?_); (case side1 => repeat (first | exact HR0.out | (with_reducible refine Kd.Bp ?_ _) | (with_reducible refine Kd.Bo ?_ _) | (with_reducible refine Kd.Bu ?_))); (case side2 => exact HC0.out); (case side3 => repeat (first | exact HR1.out | (with_reducible refine Kd.Bp ?_ _) | (with_reducible refine Kd.Bo ?_ _) | (with_reducible refine Kd.Bu ?_))); (case side4 => exact HC1.out); rintro e w4 ⟨v279, rfl, ho0, hb⟩; refine ⟨_, rfl, ?_⟩; have ak := Aa.mk (Kd.Cb ho0 (Ae (lU HB.out))); replace HB := Aa.mk (Ak (lU HB.out) hb); (try clear hb); (try clear hb2); (try clear hk); (try clear hi); (try clear ho0)))
 go_ret2
 exact ⟨_, by first | rfl | (simp [Au, At] <;> rfl) | (simp [*, Au, At] <;> rfl), by exact rU <| ak.out, by repeat (first | (with_reducible first | exact HB.out | apply Ad | apply Ab | apply Ac) | exact HB.out)⟩

def Do.f (k : Nat) (l0 : List (S58)) (l1 : List (S58)) : Option ((List (S58)) × Int) := (Cr.f k l0 l1 3).bind fun ag => (some (ag.1, ag.2))
set_option maxHeartbeats 8000000 in
set_option maxRecDepth 100000 in
theorem Do.calls (k : Nat) (A0 : Option Addr) (c0 : Nat) (l0 : List (S58)) (A1 : Option Addr) (c1 : Nat) (l1 : List (S58)) (r1 : List (S58)) (r2 : Int) (w : World) (hr0 : Kd.C k58 w A0 l0.length l0) (hc0 : l0.length ≤ c0) (hr1 : Kd.C k58 w A1 l1.length l1) (hc1 : l1.length ≤ c1) (h : Do.f k l0 l1 = some (r1, r2)) :
  Calls Try.prog 26 #[.slice A0 l0.length c0, .slice A1 l1.length c1] w fun e w' => ∃ v0_ : Value, e = .returned (.tuple #[v0_, .int .i64 r2]) ∧ Kd.R k58 58 w' w.heap.size (fun _ => True) v0_ r1 ∧ Below w.heap.size w w' := by
 have HR0 := Aa.mk hr0; have HC0 := Aa.mk hc0; clear hr0 hc0; have HR1 := Aa.mk hr1; have HC1 := Aa.mk hc1; clear hr1 hc1; have HB := Aa.mk (Below.refl w.heap.size w); have H : ((Cr.f k l0 l1 3).bind fun ag => (some (ag.1, ag.2))) = some (r1, r2) := h; clear h; replace H := Option.bind_eq_some_iff.mp H; obtain ⟨⟨az, aA⟩, A30, H⟩ := H
 try dsimp only at H
 have A3 := Aa.mk A30; clear A30
 simp only [Option.some.injEq, Prod.mk.injEq] at H
 obtain ⟨rfl, rfl⟩ := H; go_enter Try.func26, Try.ntmps26
 go_wp2_with (first | ((with_reducible refine As (f := 56) rfl ?_); refine gL (some 8) Try.func56 #[.slice A0 l0.length c0, .slice A1 l1.length c1, .int .i64 3] ?_; (with_reducible refine (Cr.calls k _ _ l0 _ _ l1 3 az aA _ ?side1 ?side2 ?side3 ?side4 A3.out).mono ?_); (case side1 => repeat (first | exact HR0.out | (with_reducible refine Kd.Bp ?_ _) | (with_reducible refine Kd.Bo ?_ _) | (with_reducible refine Kd.Bu ?_))); (case side2 => exact HC0.out); (case side3 => repeat (first | exact HR1.out | (with_reducible refine Kd.Bp ?_ _) | (with_reducible refine Kd.Bo ?_ _) | (with_reducible refine Kd.Bu ?_))); (case side4 => exact HC1.out); rintro e w4 ⟨v283, rfl, ho0, hb⟩; refine ⟨_, rfl, ?_⟩; have al := Aa.mk (Kd.Cb ho0 (Ae (lU HB.out))); replace HB := Aa.mk (Ak (lU HB.out) hb); (try clear hb); (try clear hb2); (try clear hk); (try clear hi); (try clear ho0)))
 go_ret2
 exact ⟨_, by first | rfl | (simp [Au, At] <;> rfl) | (simp [*, Au, At] <;> rfl), by exact rU <| al.out, by repeat (first | (with_reducible first | exact HB.out | apply Ad | apply Ab | apply Ac) | exact HB.out)⟩

def Dp.f (k : Nat) (l0 : List (S58)) (l1 : List (S58)) : Option ((List (S58)) × Int) := (Cr.f k l0 l1 4).bind fun ah => (some (ah.1, ah.2))
set_option maxHeartbeats 8000000 in
set_option maxRecDepth 100000 in
theorem Dp.calls (k : Nat) (A0 : Option Addr) (c0 : Nat) (l0 : List (S58)) (A1 : Option Addr) (c1 : Nat) (l1 : List (S58)) (r1 : List (S58)) (r2 : Int) (w : World) (hr0 : Kd.C k58 w A0 l0.length l0) (hc0 : l0.length ≤ c0) (hr1 : Kd.C k58 w A1 l1.length l1) (hc1 : l1.length ≤ c1) (h : Dp.f k l0 l1 = some (r1, r2)) :
  Calls Try.prog 28 #[.slice A0 l0.length c0, .slice A1 l1.length c1] w fun e w' => ∃ v0_ : Value, e = .returned (.tuple #[v0_, .int .i64 r2]) ∧ Kd.R k58 58 w' w.heap.size (fun _ => True) v0_ r1 ∧ Below w.heap.size w w' := by
 have HR0 := Aa.mk hr0; have HC0 := Aa.mk hc0; clear hr0 hc0; have HR1 := Aa.mk hr1; have HC1 := Aa.mk hc1; clear hr1 hc1; have HB := Aa.mk (Below.refl w.heap.size w); have H : ((Cr.f k l0 l1 4).bind fun ah => (some (ah.1, ah.2))) = some (r1, r2) := h; clear h; replace H := Option.bind_eq_some_iff.mp H; obtain ⟨⟨aC, aD⟩, A30, H⟩ := H
 try dsimp only at H
 have A3 := Aa.mk A30; clear A30
 simp only [Option.some.injEq, Prod.mk.injEq] at H
 obtain ⟨rfl, rfl⟩ := H; go_enter Try.func28, Try.ntmps28
 go_wp2_with (first | ((with_reducible refine As (f := 56) rfl ?_); refine gL (some 8) Try.func56 #[.slice A0 l0.length c0, .slice A1 l1.length c1, .int .i64 4] ?_; (with_reducible refine (Cr.calls k _ _ l0 _ _ l1 4 aC aD _ ?side1 ?side2 ?side3 ?side4 A3.out).mono ?_); (case side1 => repeat (first | exact HR0.out | (with_reducible refine Kd.Bp ?_ _) | (with_reducible refine Kd.Bo ?_ _) | (with_reducible refine Kd.Bu ?_))); (case side2 => exact HC0.out); (case side3 => repeat (first | exact HR1.out | (with_reducible refine Kd.Bp ?_ _) | (with_reducible refine Kd.Bo ?_ _) | (with_reducible refine Kd.Bu ?_))); (case side4 => exact HC1.out); rintro e w4 ⟨v287, rfl, ho0, hb⟩; refine ⟨_, rfl, ?_⟩; have am := Aa.mk (Kd.Cb ho0 (Ae (lU HB.out))); replace HB := Aa.mk (Ak (lU HB.out) hb); (try clear hb); (try clear hb2); (try clear hk); (try clear hi); (try clear ho0)))
 go_ret2
 exact ⟨_, by first | rfl | (simp [Au, At] <;> rfl) | (simp [*, Au, At] <;> rfl), by exact rU <| am.out, by repeat (first | (with_reducible first | exact HB.out | apply Ad | apply Ab | apply Ac) | exact HB.out)⟩

end Go.Proofs.Ytobdfiglgdbecaa.PGR
end
section
set_option linter.unusedVariables false
set_option linter.unusedSimpArgs false
open Go Go.RowKit Go.Proofs.YtobdfiglgdbecaaW.PrintWords Go.Proofs.YtobdfiglgdbecaaW.PrintMore
namespace Go.Proofs.Ytobdfiglgdbecaa
open PGA PGB PGH PGK PGI PGR
namespace VR
def p6 (p : RG.Sp) : S99 := ⟨p.1, p.2⟩
theorem rd6 (l : List S99) (i : Nat) (h : i < l.length) : rd_T99 l (i : Int) = l[i] := by
  unfold rd_T99; rw [Int.toNat_natCast, List.getD_eq_getElem?_getD, List.getElem?_eq_getElem h]; rfl
theorem joined6 (l : List RG.Sp) (x y : Int) (hl : l.length ≤ 1000000) : Br.f (l.map p6) x y = some ((RG.joined l (x, y)).map p6) := by
  unfold Br.f RG.joined
  rcases RG.last_split l with rfl | ⟨i, p, rfl⟩
  · rw [if_neg (by simp)]; rfl
  · have e : (((i ++ [p]).map p6).length : Int) - 1 = (i.length : Int) := by simp
    have hw : wrap64 ((((i ++ [p]).map p6).length : Int) - 1) = (i.length : Int) := by
      rw [e]; unfold wrap64; simp only [List.length_append, List.length_singleton] at hl; omega
    have hlt : i.length < ((i ++ [p]).map p6).length := by simp
    have hg : ((i ++ [p]).map p6)[i.length] = p6 p := by simp
    rw [if_pos (by simp), hw, if_pos (by omega), if_pos (by omega), rd6 _ i.length hlt, hg]
    simp only [List.getLast?_concat, List.dropLast_concat]
    by_cases c : x ≤ p.2
    · rw [if_pos (show x ≤ (p6 p).f1 from c), if_pos c]
      congr 1
      rw [Int.toNat_natCast]
      have em : mx p.2 y = max p.2 y := by unfold mx; omega
      rw [List.map_append, List.map_append, List.set_append, if_neg (by simp), List.length_map, Nat.sub_self]
      show _ ++ [_] = _ ++ [_]
      rw [show (p6 p).f1 = p.2 from rfl, em]
      rfl
    · rw [if_neg (show ¬ x ≤ (p6 p).f1 from c), if_neg c, if_pos (by simp only [List.length_map]; omega)]
      rw [List.map_append (l₂ := [(x, y)])]
      rfl
def selR (d : List S58) (y : Int) : List RG.Sp := (d.filter fun r => decide (r.f1 ≤ y) && decide (y < r.f3)).map fun r => (r.f0, r.f2)
theorem row6_l0 (d : List S58) (y : Int) (hd : d.length ≤ 100000) : ∀ e i (out : List RG.Sp), i + e = d.length → out.length ≤ i → Ev (fun k => Bx.l0 k d y (out.map p6) (i : Int)) (((selR (d.drop i) y).foldl RG.joined out).map p6) := by
  intro e
  induction e with
  | zero =>
    intro i out hi ho
    refine one_round fun k => ?_
    rw [Bx.l0, if_neg (by omega), List.drop_of_length_le (by omega)]; rfl
  | succ e ih =>
    intro i out hi ho
    have hlt : i < d.length := by omega
    rw [List.drop_eq_getElem_cons hlt]
    by_cases c1 : d[i].f1 ≤ y
    · by_cases c2 : y < d[i].f3
      · have hs : selR (d[i] :: d.drop (i + 1)) y = (d[i].f0, d[i].f2) :: selR (d.drop (i + 1)) y := by
          unfold selR; rw [List.filter_cons, if_pos (by simp [c1, c2])]; rfl
        rw [hs, List.foldl_cons]
        have := RG.joined_len out (d[i].f0, d[i].f2)
        refine Ev.step (fun k => ?_) (ih (i + 1) (RG.joined out (d[i].f0, d[i].f2)) (by omega) (by omega))
        rw [Bx.l0, if_pos (by omega), if_pos (by omega), rdR d i hlt, if_pos c1, if_pos c2, joined6 _ _ _ (by omega), Option.bind_some, wrs i (by omega)]
      · have hs : selR (d[i] :: d.drop (i + 1)) y = selR (d.drop (i + 1)) y := by
          unfold selR; rw [List.filter_cons, if_neg (by simp [c1, c2])]
        rw [hs]
        refine Ev.step (fun k => ?_) (ih (i + 1) out (by omega) (by omega))
        rw [Bx.l0, if_pos (by omega), if_pos (by omega), rdR d i hlt, if_pos c1, if_neg c2, wrs i (by omega)]
    · have hs : selR (d[i] :: d.drop (i + 1)) y = selR (d.drop (i + 1)) y := by
        unfold selR; rw [List.filter_cons, if_neg (by simp [c1])]
      rw [hs]
      refine Ev.step (fun k => ?_) (ih (i + 1) out (by omega) (by omega))
      rw [Bx.l0, if_pos (by omega), if_pos (by omega), rdR d i hlt, if_neg c1, wrs i (by omega)]
structure Ord (d l : List S58) : Prop where
  mem : ∀ q, q ∈ d ↔ q ∈ l ∧ RG.some1 (rc q) = true
  sort : d.Pairwise fun p q => p.f0 ≤ q.f0
  len : d.length ≤ l.length
theorem row6_val {d l : List S58} (h : Ord d l) (y : Int) (hl : l.length ≤ 100000) : Ev (fun k => Bx.f k d y) ((RG.rowP (l.map rc) y).map p6) := by
  have h1 := row6_l0 d y (by have := h.len; omega) d.length 0 [] (Nat.zero_add _) (Nat.le_refl _)
  have e : RG.joinAll (selR d y) = RG.rowP (l.map rc) y := by
    refine RG.row_of (fun p => ?_) ?_
    · unfold selR RG.act
      simp only [List.mem_map, List.mem_filter, Bool.and_eq_true, decide_eq_true_eq, RG.acts]
      constructor
      · rintro ⟨r, ⟨hr, h2, h3⟩, rfl⟩
        obtain ⟨h4, h5⟩ := (h.mem r).mp hr
        exact ⟨rc r, ⟨⟨r, h4, rfl⟩, ⟨h5, h2⟩, h3⟩, rfl⟩
      · rintro ⟨_, ⟨⟨r, hr, rfl⟩, ⟨h5, h2⟩, h3⟩, rfl⟩
        exact ⟨r, ⟨(h.mem r).mpr ⟨hr, h5⟩, h2, h3⟩, rfl⟩
    · unfold selR
      rw [List.pairwise_map]
      exact (h.sort.filter _)
  rw [← e]
  exact h1
theorem ends6_l0 (s : List RG.Sp) (hs : s.length ≤ 100000) : ∀ e i (out : List Int), i + e = s.length → out.length ≤ 2 * i → Ev (fun k => Bv.l0 k (s.map p6) out (i : Int)) (out ++ RG.endsOf (s.drop i)) := by
  intro e
  induction e with
  | zero =>
    intro i out hi ho
    refine one_round fun k => ?_
    rw [Bv.l0, if_neg (by simp; omega), List.drop_of_length_le (by omega)]
    show some out = some (out ++ [])
    rw [List.append_nil]
  | succ e ih =>
    intro i out hi ho
    have hlt : i < s.length := by omega
    rw [List.drop_eq_getElem_cons hlt]
    have hs2 : RG.endsOf (s[i] :: s.drop (i + 1)) = [s[i].1, s[i].2] ++ RG.endsOf (s.drop (i + 1)) := rfl
    rw [hs2, ← List.append_assoc]
    refine Ev.step (fun k => ?_) (ih (i + 1) (out ++ [s[i].1, s[i].2]) (by omega) (by simp; omega))
    rw [Bv.l0, if_pos (by simp; omega), if_pos (by omega), rd6 _ i (by simp; omega)]
    simp only [Option.bind_some, List.length_cons, List.length_nil, List.getElem_map]
    rw [if_pos (by omega), wrs i (by omega)]
    rfl
theorem ends6_val (s : List RG.Sp) (hs : s.length ≤ 100000) : Ev (fun k => Bv.f k (s.map p6)) (RG.endsOf s) := ends6_l0 s hs s.length 0 [] (Nat.zero_add _) (Nat.zero_le _)
end VR
end Go.Proofs.Ytobdfiglgdbecaa
end
section
set_option linter.unusedVariables false
set_option linter.unusedSimpArgs false
open Go Go.RowKit Go.Proofs.YtobdfiglgdbecaaW.PrintWords Go.Proofs.YtobdfiglgdbecaaW.PrintMore
namespace Go.Proofs.Ytobdfiglgdbecaa
open PGA PGB PGH PGK PGI PGR
namespace VR
theorem rise_lt {l : List Int} (hr : RG.Rise l) (i j : Nat) (hj : j < l.length) (h : i < j) : l[i] < l[j] := List.pairwise_iff_getElem.mp (RG.rise_pairwise l hr) i j (by omega) hj h
theorem shl_set (l : List Int) (i : Nat) (n : Int) (hi : i ≤ l.length) : (shl (l ++ [0]) i).set i n = l.take i ++ n :: l.drop i := by
  unfold shl
  have e1 : (l ++ [0]).take (i + 1) = l.take i ++ [(l ++ [0]).getD i 0] := by
    rw [List.take_succ_eq_append_getElem (by simp; omega), List.take_append_of_le_length hi, List.getD_eq_getElem?_getD, List.getElem?_eq_getElem (by simp; omega)]; rfl
  have e2 : ((l ++ [0]).drop i).take ((l ++ [0]).length - (i + 1)) = l.drop i := by
    rw [List.drop_append_of_le_length hi, List.length_append, List.length_singleton, show l.length + 1 - (i + 1) = (l.drop i).length by rw [List.length_drop]; omega, List.take_append_of_le_length (Nat.le_refl _), List.take_length]
  rw [e1, e2, List.append_assoc, List.set_append, if_neg (by rw [List.length_take]; omega), List.length_take, Nat.min_eq_left hi, Nat.sub_self]
  rfl
theorem insert_l0 (l : List Int) (hr : RG.Rise l) (hl : l.length ≤ 100000) (n : Int) : ∀ d i j, j - i ≤ d → i ≤ j → j ≤ l.length → (∀ t (h : t < l.length), t < i → l[t] < n) → (∀ t (h : t < l.length), j ≤ t → n ≤ l[t]) →
    Ev (fun k => Bj.l0 k l n (i : Int) (j : Int)) (RG.ins n l) := by
  intro d
  induction d with
  | zero =>
    intro i j hd hij hj h1 h2
    obtain rfl : i = j := by omega
    refine one_round fun k => ?_
    rw [Bj.l0, if_neg (by omega)]
    by_cases c : i < l.length
    · rw [if_pos (by omega), if_pos (by omega), rdI l i c]
      by_cases c2 : l[i] = n
      · rw [if_pos c2, RG.ins_there hr (by rw [← c2]; exact List.getElem_mem c)]
      · rw [if_neg c2, if_pos (by omega)]
        simp only [Option.bind_some]
        rw [if_pos (by simp; omega), Int.toNat_natCast, shl_set l i n (by omega)]
        rw [RG.ins_at i hr (fun z hz => ?_) (fun z hz => ?_)]
        · obtain ⟨t, ht, rfl⟩ := List.mem_iff_getElem.mp hz
          rw [List.length_take] at ht
          rw [List.getElem_take]
          exact h1 t (by omega) (by omega)
        · obtain ⟨t, ht, rfl⟩ := List.mem_iff_getElem.mp hz
          rw [List.length_drop] at ht
          rw [List.getElem_drop]
          have h3 := h2 i c (Nat.le_refl _)
          rcases Nat.eq_zero_or_pos t with rfl | hp
          · have e : i + 0 = i := rfl
            simp only [Nat.add_zero]
            omega
          · have := rise_lt hr i (i + t) (by omega) (by omega)
            omega
    · rw [if_neg (by omega), if_pos (by omega)]
      simp only [Option.bind_some]
      rw [if_pos (by omega), if_pos (by simp; omega), Int.toNat_natCast, shl_set l i n (by omega)]
      rw [RG.ins_at i hr (fun z hz => ?_) (fun z hz => ?_)]
      · obtain ⟨t, ht, rfl⟩ := List.mem_iff_getElem.mp hz
        rw [List.length_take] at ht
        rw [List.getElem_take]
        exact h1 t (by omega) (by omega)
      · rw [List.drop_of_length_le (by omega)] at hz; cases hz
  | succ d ih =>
    intro i j hd hij hj h1 h2
    by_cases c : i = j
    · subst c
      exact ih i i (by omega) (Nat.le_refl _) hj h1 h2
    · have hm : wrap64 (Int.tdiv (wrap64 ((i : Int) + (j : Int))) 2) = (((i + j) / 2 : Nat) : Int) := by
        have e1 : wrap64 ((i : Int) + (j : Int)) = ((i + j : Nat) : Int) := by unfold wrap64; omega
        rw [e1, show Int.tdiv ((i + j : Nat) : Int) 2 = (((i + j) / 2 : Nat) : Int) from rfl]
        unfold wrap64; omega
      have hml : (i + j) / 2 < l.length := by omega
      have hw : wrap64 ((((i + j) / 2 : Nat) : Int) + 1) = (((i + j) / 2 + 1 : Nat) : Int) := by unfold wrap64; omega
      by_cases c2 : l[(i + j) / 2] < n
      · refine Ev.step (fun k => ?_) (ih ((i + j) / 2 + 1) j (by omega) (by omega) hj (fun t ht h => ?_) h2)
        · rw [Bj.l0, if_pos (by omega), hm, if_pos (by omega), if_pos (by omega), rdI l _ hml, if_pos c2, hw]
        · rcases Nat.lt_or_ge t ((i + j) / 2) with h3 | h3
          · have := rise_lt hr t ((i + j) / 2) hml h3; omega
          · have e : t = (i + j) / 2 := by omega
            subst e; exact c2
      · refine Ev.step (fun k => ?_) (ih i ((i + j) / 2) (by omega) (by omega) (by omega) h1 (fun t ht h => ?_))
        · rw [Bj.l0, if_pos (by omega), hm, if_pos (by omega), if_pos (by omega), rdI l _ hml, if_neg c2]
        · rcases Nat.lt_or_ge ((i + j) / 2) t with h3 | h3
          · have := rise_lt hr ((i + j) / 2) t ht h3; omega
          · have e : t = (i + j) / 2 := by omega
            subst e; omega
theorem insert_val (l : List Int) (hr : RG.Rise l) (hl : l.length ≤ 100000) (n : Int) : Ev (fun k => Bj.f k l n) (RG.ins n l) :=
  insert_l0 l hr hl n l.length 0 l.length (by omega) (Nat.zero_le _) (Nat.le_refl _) (fun t _ h => by omega) (fun t h1 h => by omega)
theorem same6_l0 (a b : List RG.Sp) (hl : a.length = b.length) (hb : a.length ≤ 100000) : ∀ d i, i + d = a.length → Ev (fun k => Cf.l0 k (a.map p6) (b.map p6) (i : Int)) (decide (a.drop i = b.drop i)) := by
  intro d
  induction d with
  | zero =>
    intro i hi
    refine one_round fun k => ?_
    rw [Cf.l0, if_neg (by simp; omega), List.drop_of_length_le (by omega), List.drop_of_length_le (by omega), decide_eq_true rfl]
  | succ d ih =>
    intro i hi
    have h1 : i < a.length := by omega
    have h2 : i < b.length := by omega
    rw [List.drop_eq_getElem_cons h1, List.drop_eq_getElem_cons h2]
    by_cases c : a[i] = b[i]
    · have e : decide (a[i] :: a.drop (i + 1) = b[i] :: b.drop (i + 1)) = decide (a.drop (i + 1) = b.drop (i + 1)) := by rw [c]; exact decide_eq_decide.mpr ⟨fun h => (List.cons.inj h).2, fun h => by rw [h]⟩
      rw [e]
      refine Ev.step (fun k => ?_) (ih (i + 1) (by omega))
      rw [Cf.l0, if_pos (by simp; omega), if_pos (by omega), if_pos (by simp; omega), rd6 _ i (by simp; omega), rd6 _ i (by simp; omega), List.getElem_map, List.getElem_map, c, if_neg (by simp), wrs i (by omega)]
    · have e : decide (a[i] :: a.drop (i + 1) = b[i] :: b.drop (i + 1)) = false := decide_eq_false fun h => c (List.cons.inj h).1
      rw [e]
      refine one_round fun k => ?_
      rw [Cf.l0, if_pos (by simp; omega), if_pos (by omega), if_pos (by simp; omega), rd6 _ i (by simp; omega), rd6 _ i (by simp; omega), List.getElem_map, List.getElem_map, if_pos]
      have : ¬ (a[i].1 = b[i].1 ∧ a[i].2 = b[i].2) := fun h => c (Prod.ext h.1 h.2)
      show (!(a[i].1 == b[i].1) || !(a[i].2 == b[i].2)) = true
      by_cases c1 : a[i].1 = b[i].1
      · have c2 : ¬ a[i].2 = b[i].2 := fun h => this ⟨c1, h⟩
        simp [c2]
      · simp [c1]
theorem same6_val (a b : List RG.Sp) (hb : a.length ≤ 100000) : Ev (fun k => Cf.f k (a.map p6) (b.map p6)) (decide (a = b)) := by
  by_cases c : a.length = b.length
  · refine Ev.congr (fun k => ?_) (same6_l0 a b c hb a.length 0 (Nat.zero_add _))
    show Cf.f k _ _ = _
    unfold Cf.f
    rw [if_pos (by simp [c])]; rfl
  · have e : decide (a = b) = false := decide_eq_false fun h => c (by rw [h])
    rw [e]
    refine ⟨0, fun k _ => ?_⟩
    show Cf.f k _ _ = _
    unfold Cf.f
    rw [if_neg (by simp; omega)]
end VR
end Go.Proofs.Ytobdfiglgdbecaa
end
section
set_option linter.unusedVariables false
set_option linter.unusedSimpArgs false
open Go Go.RowKit Go.Proofs.YtobdfiglgdbecaaW.PrintWords Go.Proofs.YtobdfiglgdbecaaW.PrintMore
namespace Go.Proofs.Ytobdfiglgdbecaa
open PGA PGB PGH PGK PGI PGR
namespace VR
structure Mrg (a b e : List S58) : Prop where
  mem : ∀ q, q ∈ e ↔ q ∈ a ∨ q ∈ b
  sort : e.Pairwise fun p q => p.f0 ≤ q.f0
  len : e.length = a.length + b.length
theorem order_merge (a b : List S58) (ha : a.Pairwise fun p q => p.f0 ≤ q.f0) (hb : b.Pairwise fun p q => p.f0 ≤ q.f0) (hl : a.length + b.length ≤ 100000) : ∀ d i j, (a.length - i) + (b.length - j) ≤ d → i ≤ a.length → j ≤ b.length → ∀ out : List S58, out.length ≤ i + j →
    (∃ e, Ev (fun k => An.l0 k a b out (i : Int) (j : Int)) (out ++ e) ∧ Mrg (a.drop i) (b.drop j) e) ∧ (j < b.length → ∃ e, Ev (fun k => An.l1 k a b out (i : Int) (j : Int)) (out ++ e) ∧ Mrg (a.drop i) (b.drop j) e) := by
  intro d
  induction d with
  | zero =>
    intro i j hd hi hj out ho
    refine ⟨⟨[], one_round fun k => ?_, ?_⟩, fun h => by omega⟩
    · rw [An.l0, if_neg (by omega), if_pos (by omega), if_pos (by omega), Int.toNat_natCast, Option.bind_some, List.drop_of_length_le (by omega), if_pos (by simp; omega)]
    · rw [List.drop_of_length_le (by omega), List.drop_of_length_le (by omega)]
      exact ⟨fun q => by simp, List.Pairwise.nil, rfl⟩
  | succ d ih =>
    intro i j hd hi hj out ho
    have one : j < b.length → ∃ e, Ev (fun k => An.l1 k a b out (i : Int) (j : Int)) (out ++ e) ∧ Mrg (a.drop i) (b.drop j) e := fun hjb => by
      have hbj := List.drop_eq_getElem_cons hjb
      have hbs := (List.pairwise_cons.mp (hbj ▸ (hb.sublist (List.drop_sublist j b)))).1
      have takeB : (∀ q ∈ a.drop i, b[j].f0 ≤ q.f0) → (∀ k, An.l1 (k + 1) a b out (i : Int) (j : Int) = An.l0 k a b (out ++ [b[j]]) (i : Int) ((j + 1 : Nat) : Int)) → ∃ e, Ev (fun k => An.l1 k a b out (i : Int) (j : Int)) (out ++ e) ∧ Mrg (a.drop i) (b.drop j) e := fun hmin hstep => by
        obtain ⟨⟨e, h1, h2⟩, _⟩ := ih i (j + 1) (by omega) hi (by omega) (out ++ [b[j]]) (by simp; omega)
        refine ⟨b[j] :: e, ?_, ⟨fun q => ?_, List.Pairwise.cons (fun q hq => ?_) h2.sort, ?_⟩⟩
        · rw [show out ++ b[j] :: e = out ++ [b[j]] ++ e by simp]
          exact Ev.step hstep h1
        · rw [hbj, List.mem_cons, List.mem_cons, h2.mem]
          constructor
          · rintro (h | h | h) <;> simp [h]
          · rintro (h | h | h) <;> simp [h]
        · rcases (h2.mem q).mp hq with h | h
          · exact hmin q h
          · exact hbs q h
        · rw [hbj, List.length_cons, List.length_cons, h2.len]; omega
      by_cases c : i < a.length
      · have haj := List.drop_eq_getElem_cons c
        have has := (List.pairwise_cons.mp (haj ▸ (ha.sublist (List.drop_sublist i a)))).1
        by_cases c2 : a[i].f0 ≤ b[j].f0
        · obtain ⟨_, h0⟩ := ih (i + 1) j (by omega) (by omega) hj (out ++ [a[i]]) (by simp; omega)
          obtain ⟨e, h1, h2⟩ := h0 hjb
          refine ⟨a[i] :: e, ?_, ⟨fun q => ?_, List.Pairwise.cons (fun q hq => ?_) h2.sort, ?_⟩⟩
          · rw [show out ++ a[i] :: e = out ++ [a[i]] ++ e by simp]
            refine Ev.step (fun k => ?_) h1
            rw [An.l1, if_pos (by omega), if_pos (by omega), if_pos (by omega), if_pos (by omega), rdR a i c, rdR b j hjb, if_pos c2, if_pos (by omega), wrs i (by omega)]
          · rw [haj, List.mem_cons, List.mem_cons, h2.mem]
            constructor
            · rintro (h | h | h) <;> simp [h]
            · rintro ((h | h) | h) <;> simp [h]
          · rcases (h2.mem q).mp hq with h | h
            · exact has q h
            · rw [hbj] at h
              rcases List.mem_cons.mp h with rfl | h
              · exact c2
              · have := hbs q h; omega
          · rw [haj, List.length_cons, List.length_cons, h2.len]; omega
        · refine takeB (fun q hq => ?_) (fun k => ?_)
          · rw [haj] at hq
            rcases List.mem_cons.mp hq with rfl | h
            · omega
            · have := has q h; omega
          · rw [An.l1, if_pos (by omega), if_pos (by omega), if_pos (by omega), if_pos (by omega), rdR a i c, rdR b j hjb, if_neg c2, if_pos (by omega), wrs j (by omega)]
      · refine takeB (fun q hq => ?_) (fun k => ?_)
        · rw [List.drop_of_length_le (by omega)] at hq; cases hq
        · rw [An.l1, if_neg (by omega), if_pos (by omega), if_pos (by omega), rdR b j hjb, if_pos (by omega), wrs j (by omega)]
    refine ⟨?_, one⟩
    by_cases c : j < b.length
    · obtain ⟨e, h1, h2⟩ := one c
      exact ⟨e, Ev.step (fun k => by rw [An.l0, if_pos (by omega)]) h1, h2⟩
    · refine ⟨a.drop i, one_round fun k => ?_, ?_⟩
      · rw [An.l0, if_neg (by omega), if_pos (by omega), if_pos (by omega), Int.toNat_natCast, Option.bind_some, if_pos (by rw [List.length_drop]; omega)]
      · have hb0 : b.drop j = [] := List.drop_of_length_le (by omega)
        rw [hb0]
        exact ⟨fun q => by simp, ha.sublist (List.drop_sublist i a), by simp⟩
theorem order_val : ∀ n (l : List S58), l.length ≤ n → n ≤ 50000 → ∃ d, Ev (fun k => An.f k l) d ∧ Ord d l := by
  intro n
  induction n with
  | zero =>
    intro l hl _
    obtain rfl : l = [] := List.length_eq_zero_iff.mp (by omega)
    refine ⟨[], one_round fun k => ?_, ⟨fun q => by simp, List.Pairwise.nil, Nat.le_refl _⟩⟩
    rw [An.f, if_pos (by simp), if_neg (by simp)]
  | succ n ih =>
    intro l hl hn
    by_cases c : l.length < 2
    · match l, c with
      | [], _ =>
        refine ⟨[], one_round fun k => ?_, ⟨fun q => by simp, List.Pairwise.nil, Nat.le_refl _⟩⟩
        rw [An.f, if_pos (by simp), if_neg (by simp)]
      | [x], _ =>
        have h0 : rd_T58 [x] 0 = x := rfl
        by_cases c2 : RG.some1 (rc x) = true
        · refine ⟨[x], one_round fun k => ?_, ⟨fun q => ?_, by simp, Nat.le_refl _⟩⟩
          · rw [An.f, if_pos (by simp), if_pos (by simp), if_pos (by simp), h0, someH, Option.bind_some, if_pos c2, if_pos (by simp)]; rfl
          · rw [List.mem_singleton]
            constructor
            · rintro rfl; exact ⟨rfl, c2⟩
            · exact fun h => h.1
        · refine ⟨[], one_round fun k => ?_, ⟨fun q => ?_, List.Pairwise.nil, by simp⟩⟩
          · rw [An.f, if_pos (by simp), if_pos (by simp), if_pos (by simp), h0, someH, Option.bind_some, if_neg c2]
          · rw [List.mem_singleton]
            constructor
            · intro h; cases h
            · rintro ⟨rfl, h⟩; exact absurd h c2
    · have hw : wrap64 ((l.length : Int) / 2) = ((l.length / 2 : Nat) : Int) := by unfold wrap64; omega
      obtain ⟨a, a1, a2⟩ := ih (l.take (l.length / 2)) (by rw [List.length_take]; omega) (by omega)
      obtain ⟨b, b1, b2⟩ := ih (l.drop (l.length / 2)) (by rw [List.length_drop]; omega) (by omega)
      have la := a2.len
      have lb := b2.len
      rw [List.length_take] at la
      rw [List.length_drop] at lb
      obtain ⟨⟨e, h1, h2⟩, _⟩ := order_merge a b a2.sort b2.sort (by omega) (a.length + b.length) 0 0 (by omega) (Nat.zero_le _) (Nat.zero_le _) [] (Nat.zero_le _)
      refine ⟨e, Ev.step (fun k => by rw [An.f, if_neg (by omega), hw, if_pos (by omega), if_pos (by omega), Int.toNat_natCast]) (Ev.bind a1 (Ev.bind b1 h1)), ⟨fun q => ?_, h2.sort, ?_⟩⟩
      · rw [h2.mem, List.drop_zero, List.drop_zero, a2.mem, b2.mem]
        have e1 : q ∈ l ↔ q ∈ l.take (l.length / 2) ∨ q ∈ l.drop (l.length / 2) := by rw [← List.mem_append, List.take_append_drop]
        rw [e1]
        constructor
        · rintro (⟨h, h'⟩ | ⟨h, h'⟩)
          · exact ⟨.inl h, h'⟩
          · exact ⟨.inr h, h'⟩
        · rintro ⟨h | h, h'⟩
          · exact .inl ⟨h, h'⟩
          · exact .inr ⟨h, h'⟩
      · rw [h2.len, List.drop_zero, List.drop_zero]; omega
end VR
end Go.Proofs.Ytobdfiglgdbecaa
end
