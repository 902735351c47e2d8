import Derived.Test.YtbfimplajocmmaaYUQ
import Derived.Test.YtbfimplajocmmaaYPRDx1
import Derived.Test.YtbfimplajocmmaaYPRDx2
import Derived.Test.YtbfimplajocmmaaYPRAx2
import Derived.Test.YtbfimplajocmmaaYRM12
import Derived.Test.YtbfimplajocmmaaYRH4
section
namespace Go.Proofs.Ytbfimplajocmmaa.PRD
open Go.Proofs.Ytbfimplajocmmaa.PFA Go.Proofs.Ytbfimplajocmmaa.PFC Go.Proofs.Ytbfimplajocmmaa.PFK Go.Proofs.Ytbfimplajocmmaa.PRA
open Go.RowKit Go.Proofs.YtbfimplajocmmaaW.PrintWords Go.Proofs.YtbfimplajocmmaaW.PrintLast Go.Proofs.YtbfimplajocmmaaW.PrintMore
attribute [local go_sem] max2_int min2_int max_two min_two max_three min_three max_four min_four
set_option linter.unusedVariables false
set_option linter.unusedSimpArgs false

def Cf.f (k : Nat) (ah : Int) (ai : Int) (aj : List Int) (a1 : Int) (a2 : Int) (a3 : Int) (a4 : Int) : Option (Int × Int × List Int × Int) := (Bb.f k ah ai aj a1 a2 a3 a4).bind fun ap => (if ap = 0 then ((Au.f k ah ai aj a1 a2 a3 a4 0 0 ah ai).bind fun ao => (some (ao.1, ao.2.1, ao.2.2.1, ao.2.2.2))) else (some (0, 0, ([] : List Int), ap)))
set_option maxHeartbeats 8000000 in
set_option maxRecDepth 100000 in
theorem Cf.calls (k : Nat) (ah : Int) (ai : Int) (am : Option Addr) (an : Nat) (aj : List Int) (a1 : Int) (a2 : Int) (a3 : Int) (a4 : Int) (r1 : Int) (r2 : Int) (r3 : List Int) (r4 : Int) (w : World) (az : Kd.C (Kd.int .u32) w am aj.length aj) (aA : aj.length ≤ an) (h : Cf.f k ah ai aj a1 a2 a3 a4 = some (r1, r2, r3, r4)) :
  Calls Try.prog 83 #[.agg #[.int .i64 ah, .int .i64 ai, .slice am aj.length an], .int .i64 a1, .int .i64 a2, .int .i64 a3, .int .i64 a4] w fun e w' => ∃ v2_ : Value, e = .returned (.tuple #[.agg #[.int .i64 r1, .int .i64 r2, v2_], .int .i64 r4]) ∧ Kd.R (Kd.int .u32) 28 w' w.heap.size (fun _ => True) v2_ r3 ∧ Below w.heap.size w w' := by
 have hu24 := Try.underlying24; have hu86 := Try.underlying86; have av := Ac.mk az; have aw := Ac.mk aA; clear az aA; have HB := Ac.mk (Below.refl w.heap.size w); have H : ((Bb.f k ah ai aj a1 a2 a3 a4).bind fun ap => (if ap = 0 then ((Au.f k ah ai aj a1 a2 a3 a4 0 0 ah ai).bind fun ao => (some (ao.1, ao.2.1, ao.2.2.1, ao.2.2.2))) else (some (0, 0, ([] : List Int), ap)))) = some (r1, r2, r3, r4) := h; clear h; replace H := Option.bind_eq_some_iff.mp H; obtain ⟨ap, A60, H⟩ := H
 try dsimp only at H
 have A6 := Ac.mk A60; clear A60
 by_cases c7 : ap = 0
 ·rw [if_pos c7] at H
  have bv : (ap == 0) = true := beq_iff_eq.mpr c7; have bw : (ap != 0) = false := bne_eq_false_iff_eq.mpr c7; clear c7; replace H := Option.bind_eq_some_iff.mp H; obtain ⟨⟨ax, ay, aD, bz⟩, A80, H⟩ := H
  try dsimp only at H
  have A8 := Ac.mk A80; clear A80
  simp only [Option.some.injEq, Prod.mk.injEq] at H
  obtain ⟨rfl, rfl, rfl, rfl⟩ := H; go_enter Try.func83, Try.ntmps83
  go_wp2_with (first | ((with_reducible refine Bf (N := 5) rfl ?_); refine Bc ?hg (N := 5) ?hd (cs := #[.int .i64 ah, .int .i64 ai, .slice am aj.length an]) (t := 24) ?hr ?_; (case hd => rfl); (case hg => rfl); (case hr => first | (go_simp; done) | (go_simp; rfl)); intro ac hg w9 hbox hb; have aa := Ac.mk (hbox); have aE := Ac.mk ((by rw [hg]; exact (Ak (lU HB.out)) : w.heap.size ≤ ac)); have ak := Ac.mk ((by rw [hg]; exact (Ak (lU HB.out)) : w.heap.size ≤ ac)); replace HB := Ac.mk (Aq (lU HB.out) hb); clear hb hbox hg) | ((with_reducible refine Bf (N := 10) rfl ?_); refine Bc ?hg (N := 10) ?hd (cs := #[.int .i64 0, .int .i64 0, .slice none 0 0]) (t := 24) ?hr ?_; (case hd => rfl); (case hg => rfl); (case hr => first | (go_simp; done) | (go_simp; rfl)); intro af hg w10 hbox hb; have ag := Ac.mk (hbox); have aG := Ac.mk ((by rw [hg]; exact (Ak (by repeat (first | (with_reducible first | exact HB.out | apply Ah | apply Ae | apply Ai | refine Ag ?_ ak.out) | exact HB.out))) : w.heap.size ≤ af)); have au := Ac.mk ((by rw [hg]; exact (Ak (by repeat (first | (with_reducible first | exact HB.out | apply Ah | apply Ae | apply Ai | refine Ag ?_ ak.out) | exact HB.out))) : w.heap.size ≤ af)); replace HB := Ac.mk (Aq (by repeat (first | (with_reducible first | exact HB.out | apply Ah | apply Ae | apply Ai | refine Ag ?_ ak.out) | exact HB.out)) hb); have aq := Ac.mk ((by rw [hg]; exact Nat.ne_of_lt (Bh (g := ac) (o := .cells #[.int .i64 ah, .int .i64 ai, .slice am aj.length an] 24 (0, 0)) (by exact bU <| aa.out)) : ac ≠ af)); have ar := Ac.mk ((by rw [hg]; exact Nat.ne_of_gt (Bh (g := ac) (o := .cells #[.int .i64 ah, .int .i64 ai, .slice am aj.length an] 24 (0, 0)) (by exact bU <| aa.out)) : af ≠ ac)); replace aa := Ac.mk (An (g := ac) (o := .cells #[.int .i64 ah, .int .i64 ai, .slice am aj.length an] 24 (0, 0)) (by exact bU <| aa.out) hb); clear hb hbox hg; have bC := aq.out; have bD := ar.out; have aJ : w10.cell? ⟨ac, 0, none⟩ = some (.int .i64 ah) := (Ad aa.out 0).trans rfl; have aK : w10.cell? ⟨ac, 1, none⟩ = some (.int .i64 ai) := (Ad aa.out 1).trans rfl; have aM : w10.cell? ⟨ac, 2, none⟩ = some (.slice am aj.length an) := (Ad aa.out 2).trans rfl; have aN := Af aa.out 0; have aQ := Af aa.out 1; have aT := Af aa.out 2) | ((with_reducible refine Be (f := 91) rfl ?_); refine gL (some 18) Try.func91 #[.agg #[.int .i64 ah, .int .i64 ai, .slice am aj.length an], .int .i64 a1, .int .i64 a2, .int .i64 a3, .int .i64 a4] ?_; (with_reducible refine (Bb.calls k ah ai _ _ aj a1 a2 a3 a4 ap _ ?side1 ?side2 A6.out).mono ?_); (case side1 => repeat (first | exact (Kd.B2 av.out HB.out) | (with_reducible refine Kd.Bw ?_ _) | (with_reducible refine Kd.B6 ?_ _) | (with_reducible refine Kd.C_drew ?_))); (case side2 => exact aw.out); rintro e w13 ⟨rfl, hb⟩; refine ⟨_, rfl, ?_⟩; replace aa := Ac.mk (An (g := ac) (o := .cells #[.int .i64 ah, .int .i64 ai, .slice am aj.length an] 24 (0, 0)) (by exact bU <| aa.out) hb); replace ag := Ac.mk (An (g := af) (o := .cells #[.int .i64 0, .int .i64 0, .slice none 0 0] 24 (0, 0)) (by exact bU <| ag.out) hb); replace HB := Ac.mk (Aq (by repeat (first | (with_reducible first | exact HB.out | apply Ah | apply Ae | apply Ai | refine Ag ?_ ak.out | refine Ag ?_ au.out) | exact HB.out)) hb); (try clear hb); (try clear hb2); (try clear hk); (try clear hi); have aU : w13.cell? ⟨ac, 0, none⟩ = some (.int .i64 ah) := (Ad aa.out 0).trans rfl; have aV : w13.cell? ⟨ac, 1, none⟩ = some (.int .i64 ai) := (Ad aa.out 1).trans rfl; have aW : w13.cell? ⟨ac, 2, none⟩ = some (.slice am aj.length an) := (Ad aa.out 2).trans rfl; have aX := Af aa.out 0; have aY := Af aa.out 1; have aZ := Af aa.out 2) | ((with_reducible refine Be (f := 92) rfl ?_); refine gL (some 33) Try.func92 #[.agg #[.int .i64 ah, .int .i64 ai, .slice am aj.length an], .int .i64 a1, .int .i64 a2, .int .i64 a3, .int .i64 a4, .agg #[.int .i64 0, .int .i64 0, .int .i64 ah, .int .i64 ai]] ?_; (with_reducible refine (Au.calls k ah ai _ _ aj a1 a2 a3 a4 0 0 ah ai ax ay aD bz _ ?side1 ?side2 A8.out).mono ?_); (case side1 => repeat (first | exact (Kd.B2 av.out HB.out) | (with_reducible refine Kd.Bw ?_ _) | (with_reducible refine Kd.B6 ?_ _) | (with_reducible refine Kd.C_drew ?_))); (case side2 => exact aw.out); rintro e w15 ⟨v129, rfl, ho0, hb⟩; refine ⟨_, rfl, ?_⟩; have aC := Ac.mk (Kd.B9 ho0 (Ak (by repeat (first | (with_reducible first | exact HB.out | apply Ah | apply Ae | apply Ai | refine Ag ?_ ak.out | refine Ag ?_ au.out) | exact HB.out)))); replace aa := Ac.mk (An (g := ac) (o := .cells #[.int .i64 ah, .int .i64 ai, .slice am aj.length an] 24 (0, 0)) (by exact bU <| aa.out) hb); replace ag := Ac.mk (An (g := af) (o := .cells #[.int .i64 0, .int .i64 0, .slice none 0 0] 24 (0, 0)) (by exact bU <| ag.out) hb); replace HB := Ac.mk (Aq (by repeat (first | (with_reducible first | exact HB.out | apply Ah | apply Ae | apply Ai | refine Ag ?_ ak.out | refine Ag ?_ au.out) | exact HB.out)) hb); (try clear hb); (try clear hb2); (try clear hk); (try clear hi); (try clear ho0); have ba : w15.cell? ⟨af, 0, none⟩ = some (.int .i64 0) := (Ad ag.out 0).trans rfl; have bb : w15.cell? ⟨af, 1, none⟩ = some (.int .i64 0) := (Ad ag.out 1).trans rfl; have bc : w15.cell? ⟨af, 2, none⟩ = some (.slice none 0 0) := (Ad ag.out 2).trans rfl; have bd := Af ag.out 0; have be := Af ag.out 1; have bf := Af ag.out 2; obtain ⟨aH, aI, bB⟩ := Kd.B0 aC.out; subst bB))
  refine bodyPost_ret (results_ct rfl _ _ af 24 #[.int .i64 ax, .int .i64 ay, .slice aH aD.length aI] (0, 0) _ rfl (by (with_reducible repeat (first | refine Ap ?_ _ | refine Ar ?_ | refine Aj ?_ _)); refine Ax (cs := #[.int .i64 ax, .int .i64 ay, .slice none 0 0]) ?_ 2 _ rfl; (with_reducible repeat (first | refine Ap ?_ _ | refine Ar ?_ | refine Aj ?_ _)); refine Ax (cs := #[.int .i64 ax, .int .i64 0, .slice none 0 0]) ?_ 1 _ rfl; (with_reducible repeat (first | refine Ap ?_ _ | refine Ar ?_ | refine Aj ?_ _)); refine Ax (cs := #[.int .i64 0, .int .i64 0, .slice none 0 0]) ?_ 0 _ rfl; exact bU <| ag.out) Try.underlying24 rfl (by kernel_rfl)) rfl ?_; exact ⟨_, by first | rfl | (simp [At, As] <;> rfl) | (simp [*, At, As] <;> rfl), by exact rU <| Kd.Bu (Kd.Bq (p := ⟨af, 2, none⟩) (Kd.Bq (p := ⟨af, 1, none⟩) (Kd.Bq (p := ⟨af, 0, none⟩) (Kd.Ca aC.out ag.out (by decide)) (fun _ hk => hk.2) (.int .i64 ax)) (fun _ hk => hk.2) (.int .i64 ay)) (fun _ hk => hk.2) (.slice aH aD.length aI)) (fun _ hk => trivial), by repeat (first | (with_reducible first | exact HB.out | apply Ah | apply Ae | apply Ai | refine Ag ?_ ak.out | refine Ag ?_ au.out) | exact HB.out)⟩
 ·rw [if_neg c7] at H
  have bv : (ap == 0) = false := beq_eq_false_iff_ne.mpr c7; have bw : (ap != 0) = true := bne_iff_ne.mpr c7
  simp only [Option.some.injEq, Prod.mk.injEq] at H
  obtain ⟨rfl, rfl, rfl, rfl⟩ := H; go_enter Try.func83, Try.ntmps83
  go_wp2_with (first | ((with_reducible refine Bf (N := 5) rfl ?_); refine Bc ?hg (N := 5) ?hd (cs := #[.int .i64 ah, .int .i64 ai, .slice am aj.length an]) (t := 24) ?hr ?_; (case hd => rfl); (case hg => rfl); (case hr => first | (go_simp; done) | (go_simp; rfl)); intro ac hg w18 hbox hb; have aa := Ac.mk (hbox); have aE := Ac.mk ((by rw [hg]; exact (Ak (lU HB.out)) : w.heap.size ≤ ac)); have ak := Ac.mk ((by rw [hg]; exact (Ak (lU HB.out)) : w.heap.size ≤ ac)); replace HB := Ac.mk (Aq (lU HB.out) hb); clear hb hbox hg) | ((with_reducible refine Bf (N := 10) rfl ?_); refine Bc ?hg (N := 10) ?hd (cs := #[.int .i64 0, .int .i64 0, .slice none 0 0]) (t := 24) ?hr ?_; (case hd => rfl); (case hg => rfl); (case hr => first | (go_simp; done) | (go_simp; rfl)); intro af hg w19 hbox hb; have ag := Ac.mk (hbox); have aG := Ac.mk ((by rw [hg]; exact (Ak (by repeat (first | (with_reducible first | exact HB.out | apply Ah | apply Ae | apply Ai | refine Ag ?_ ak.out) | exact HB.out))) : w.heap.size ≤ af)); have au := Ac.mk ((by rw [hg]; exact (Ak (by repeat (first | (with_reducible first | exact HB.out | apply Ah | apply Ae | apply Ai | refine Ag ?_ ak.out) | exact HB.out))) : w.heap.size ≤ af)); replace HB := Ac.mk (Aq (by repeat (first | (with_reducible first | exact HB.out | apply Ah | apply Ae | apply Ai | refine Ag ?_ ak.out) | exact HB.out)) hb); have aq := Ac.mk ((by rw [hg]; exact Nat.ne_of_lt (Bh (g := ac) (o := .cells #[.int .i64 ah, .int .i64 ai, .slice am aj.length an] 24 (0, 0)) (by exact bU <| aa.out)) : ac ≠ af)); have ar := Ac.mk ((by rw [hg]; exact Nat.ne_of_gt (Bh (g := ac) (o := .cells #[.int .i64 ah, .int .i64 ai, .slice am aj.length an] 24 (0, 0)) (by exact bU <| aa.out)) : af ≠ ac)); replace aa := Ac.mk (An (g := ac) (o := .cells #[.int .i64 ah, .int .i64 ai, .slice am aj.length an] 24 (0, 0)) (by exact bU <| aa.out) hb); clear hb hbox hg; have bE := aq.out; have bF := ar.out; have bg : w19.cell? ⟨ac, 0, none⟩ = some (.int .i64 ah) := (Ad aa.out 0).trans rfl; have bh : w19.cell? ⟨ac, 1, none⟩ = some (.int .i64 ai) := (Ad aa.out 1).trans rfl; have bj : w19.cell? ⟨ac, 2, none⟩ = some (.slice am aj.length an) := (Ad aa.out 2).trans rfl; have bl := Af aa.out 0; have bm := Af aa.out 1; have bo := Af aa.out 2) | ((with_reducible refine Be (f := 91) rfl ?_); refine gL (some 18) Try.func91 #[.agg #[.int .i64 ah, .int .i64 ai, .slice am aj.length an], .int .i64 a1, .int .i64 a2, .int .i64 a3, .int .i64 a4] ?_; (with_reducible refine (Bb.calls k ah ai _ _ aj a1 a2 a3 a4 ap _ ?side1 ?side2 A6.out).mono ?_); (case side1 => repeat (first | exact (Kd.B2 av.out HB.out) | (with_reducible refine Kd.Bw ?_ _) | (with_reducible refine Kd.B6 ?_ _) | (with_reducible refine Kd.C_drew ?_))); (case side2 => exact aw.out); rintro e w22 ⟨rfl, hb⟩; refine ⟨_, rfl, ?_⟩; replace aa := Ac.mk (An (g := ac) (o := .cells #[.int .i64 ah, .int .i64 ai, .slice am aj.length an] 24 (0, 0)) (by exact bU <| aa.out) hb); replace ag := Ac.mk (An (g := af) (o := .cells #[.int .i64 0, .int .i64 0, .slice none 0 0] 24 (0, 0)) (by exact bU <| ag.out) hb); replace HB := Ac.mk (Aq (by repeat (first | (with_reducible first | exact HB.out | apply Ah | apply Ae | apply Ai | refine Ag ?_ ak.out | refine Ag ?_ au.out) | exact HB.out)) hb); (try clear hb); (try clear hb2); (try clear hk); (try clear hi); have bp : w22.cell? ⟨af, 0, none⟩ = some (.int .i64 0) := (Ad ag.out 0).trans rfl; have bq : w22.cell? ⟨af, 1, none⟩ = some (.int .i64 0) := (Ad ag.out 1).trans rfl; have br : w22.cell? ⟨af, 2, none⟩ = some (.slice none 0 0) := (Ad ag.out 2).trans rfl; have bs := Af ag.out 0; have bt := Af ag.out 1; have bu := Af ag.out 2))
  refine bodyPost_ret (results_ct rfl _ _ af 24 #[.int .i64 0, .int .i64 0, .slice none 0 0] (0, 0) _ rfl (by (with_reducible repeat (first | refine Ap ?_ _ | refine Ar ?_ | refine Aj ?_ _)); refine Ax (cs := #[.int .i64 0, .int .i64 0, .slice none 0 0]) ?_ 2 _ rfl; (with_reducible repeat (first | refine Ap ?_ _ | refine Ar ?_ | refine Aj ?_ _)); refine Ax (cs := #[.int .i64 0, .int .i64 0, .slice none 0 0]) ?_ 1 _ rfl; (with_reducible repeat (first | refine Ap ?_ _ | refine Ar ?_ | refine Aj ?_ _)); refine Ax (cs := #[.int .i64 0, .int .i64 0, .slice none 0 0]) ?_ 0 _ rfl; exact bU <| ag.out) Try.underlying24 rfl (by kernel_rfl)) rfl ?_; exact ⟨_, by first | rfl | (simp [At, As] <;> rfl) | (simp [*, At, As] <;> rfl), by first | exact Kd.Ct _ _ _ _ _ | exact Kd.N_nil _ _ _ _ _ | exact Kd.V_nil _ _ _ _ _ | exact Kd.Q_nil _ _ _ _ _ | exact Kd.S_nil _ _ _ _ _, by repeat (first | (with_reducible first | exact HB.out | apply Ah | apply Ae | apply Ai | refine Ag ?_ ak.out | refine Ag ?_ au.out) | exact HB.out)⟩

end Go.Proofs.Ytbfimplajocmmaa.PRD
end
section
open Go Go.RowKit Go.Proofs.YtbfimplajocmmaaW.PrintWords Go.Proofs.YtbfimplajocmmaaW.PrintLast Go.Proofs.YtbfimplajocmmaaW.PrintMore
set_option linter.unusedVariables false
set_option linter.unusedSimpArgs false
namespace Go.Proofs.Ytbfimplajocmmaa
open PFA PFC PRA PRB PRD
theorem tmod_mod (i m : Int) (h0 : 0 < m) (h1 : m ≤ 100000) : Int.tmod (wrap64 (Int.tmod i m + m)) m = i % m := by
  have h := rest_mod i m h0 h1; unfold Dg.f at h; rw [if_neg (by omega)] at h; exact Option.some.inj h
theorem ref_j1 (kind : Int) (n : Nat) (i : Int) (hk : 1 ≤ kind ∧ kind ≤ 3) (h1 : 1 ≤ n) (h2 : n ≤ 1024) (k : Nat) : Ay.j1 (k + 1) kind n i false = some ((bdr kind n i : Int), 0) := by
  rw [Ay.j1, if_neg (by decide)]; have w1 : wrap64 ((n : Int) - 1) = (n : Int) - 1 := wd _ (by omega) (by omega); unfold bdr
  by_cases c1 : kind = 1
  · rw [if_pos c1, if_pos c1, w1]
    unfold mn mx
    congr 2
    split <;> split <;> (try split) <;> (try split) <;> omega
  · rw [if_neg c1, if_neg c1]
    by_cases c3 : kind = 3
    · rw [if_pos c3, if_pos c3, if_neg (by omega), tmod_mod i n (by omega) (by omega)]
      have h0 := Int.emod_nonneg i (show (n : Int) ≠ 0 by omega); rw [Int.toNat_of_nonneg h0]
    · rw [if_neg c3, if_neg c3]
      by_cases cn : n = 1
      · rw [if_pos (by omega), if_pos cn]; rfl
      · rw [if_neg (by omega), if_neg cn, w1]
        have w2 : wrap64 (2 * ((n : Int) - 1)) = 2 * ((n : Int) - 1) := wd _ (by omega) (by omega); rw [w2, if_neg (by omega), tmod_mod i _ (by omega) (by omega)]; have h0 := Int.emod_nonneg i (show 2 * ((n : Int) - 1) ≠ 0 by omega); have h4 := Int.emod_lt_of_pos i (show (0 : Int) < 2 * ((n : Int) - 1) by omega); generalize i % (2 * ((n : Int) - 1)) = m at *; rw [wd (2 * ((n : Int) - 1) - m) (by omega) (by omega)]
        by_cases hm : m < (n : Int)
        · rw [if_pos hm, if_pos (by omega), Int.toNat_of_nonneg h0]
        · rw [if_neg hm, if_neg (by omega), Int.toNat_of_nonneg (by omega)]
theorem refborder_eq (kind : Int) (n : Nat) (i : Int) (hk : 1 ≤ kind ∧ kind ≤ 3) (h1 : 1 ≤ n) (h2 : n ≤ 1024) (k : Nat) (h3 : 3 ≤ k) : Ay.f k kind n i = some ((bdr kind n i : Int), 0) := by
  obtain ⟨k, rfl⟩ : ∃ q, k = q + 2 := ⟨k - 2, by omega⟩
  have h0 : Ay.j0 (k + 2) kind n i false = some ((bdr kind n i : Int), 0) := by
    rw [Ay.j0, if_neg (by decide), if_neg (by omega), decide_eq_false (by omega), ref_j1 kind n i hk h1 h2 k]
  unfold Ay.f
  by_cases c1 : kind = 1
  · rw [if_pos c1, h0]
  · rw [if_neg c1]
    by_cases c2 : kind = 2
    · rw [if_pos c2, h0]
    · rw [if_neg c2, show (kind != 3) = false by simp; omega, h0]
theorem refborder_bad (bk : Int) (hk : ¬(1 ≤ bk ∧ bk ≤ 3)) (n i : Int) (K : Nat) (hK : 1 ≤ K) : Ay.f K bk n i = some (0, 53) := by
  obtain ⟨K, rfl⟩ : ∃ q, K = q + 1 := ⟨K - 1, by omega⟩; unfold Ay.f; rw [if_neg (by omega), if_neg (by omega), show (bk != 3) = true by simp; omega, Ay.j0, if_pos rfl]
def chk (e0 bk w h k : Int) : Int :=
  if e0 ≠ 0 then e0 else if 1 ≤ w ∧ 1 ≤ h ∧ w ≤ 15 ∧ h ≤ 15 then (if k < 0 ∨ k ≥ w * h then 121 else if 1 ≤ bk ∧ bk ≤ 3 then 0 else 53) else 120
theorem check_eq (K : Nat) (hK : 6 ≤ K) (a b : Int) (l : List Int) (bk w h k e0 : Int) (hc : Ce.f a b l = some e0) : Bs.f K a b l bk w h k = some (chk e0 bk w h k) := by
  by_cases hf : 1 ≤ w ∧ 1 ≤ h ∧ w ≤ 15 ∧ h ≤ 15
  · by_cases hk : 0 ≤ k ∧ k < w * h
    · rw [check_any K hK a b l bk w h k e0 hc (fun _ => hk)]
      unfold chk; rw [if_pos hf, if_pos hf, if_neg (show ¬(k < 0 ∨ k ≥ w * h) by omega)]
    · obtain ⟨K, rfl⟩ : ∃ q, K = q + 1 := ⟨K - 1, by omega⟩
      unfold Bs.f chk; rw [hc, Option.bind_some]
      by_cases h0 : e0 = 0
      · subst h0
        have hwh : w * h ≤ 15 * 15 := Int.mul_le_mul hf.2.2.1 hf.2.2.2 (by omega) (by omega); have hwp : 0 ≤ w * h := Int.mul_nonneg (by omega) (by omega); have e : wrap64 (w * h) = w * h := wd _ (by omega) (by omega); rw [if_pos rfl, if_neg (show ¬((0 : Int) ≠ 0) by simp), if_pos hf, if_neg (by omega), if_neg (by omega), if_neg (by omega), decide_eq_false (by omega), Bs.j0, if_neg (by decide), e]
        by_cases h1 : k < 0
        · rw [if_pos h1, if_pos (.inl h1)]
        · rw [if_neg h1, if_pos (by omega), if_pos (by omega)]
      · rw [if_neg h0, if_pos (show e0 ≠ 0 from h0)]
  · rw [check_any K hK a b l bk w h k e0 hc (fun hh => absurd hh hf)]
    unfold chk; rw [if_neg hf, if_neg hf]
theorem refsize_eq (a b : Int) : C1.f a b = Cv.f a b := by
  unfold C1.f Cv.f
  by_cases h1 : a ≥ 1 <;> by_cases h2 : b ≥ 1 <;> by_cases h3 : a ≤ 1024 <;> simp [h1, h2, h3]
theorem refpcheck_eq (a b : Int) (l : List Int) : Co.f a b l = Ce.f a b l := by
  unfold Co.f Ce.f; rw [refsize_eq]
theorem refcheck_eq (K : Nat) (hK : 6 ≤ K) (a b : Int) (l : List Int) (bk w h k e0 : Int) (hc : Ce.f a b l = some e0) : Bb.f K a b l bk w h k = some (chk e0 bk w h k) := by
  obtain ⟨K, rfl⟩ : ∃ q, K = q + 1 := ⟨K - 1, by omega⟩; unfold Bb.f chk; rw [refpcheck_eq, hc, Option.bind_some]
  by_cases h0 : e0 = 0
  · subst h0
    rw [if_pos rfl, if_neg (show ¬((0 : Int) ≠ 0) by simp)]
    by_cases hf : 1 ≤ w ∧ 1 ≤ h ∧ w ≤ 15 ∧ h ≤ 15
    · have hwh : w * h ≤ 15 * 15 := Int.mul_le_mul hf.2.2.1 hf.2.2.2 (by omega) (by omega)
      have hwp : 0 ≤ w * h := Int.mul_nonneg (by omega) (by omega); have e : wrap64 (w * h) = w * h := wd _ (by omega) (by omega); rw [if_pos hf, if_neg (by omega), if_neg (by omega), if_neg (by omega), decide_eq_false (by omega), Bb.j0, if_neg (by decide), e]
      by_cases h1 : k < 0
      · rw [if_pos h1, if_pos (.inl h1)]
      · by_cases h2 : k ≥ w * h
        · rw [if_neg h1, if_pos h2, if_pos (.inr h2)]
        · rw [if_neg h1, if_neg h2, if_neg (by omega)]
          by_cases hb : 1 ≤ bk ∧ bk ≤ 3
          · have h9 := refborder_eq bk 1 0 hb (by omega) (by omega) K (by omega)
            rw [show ((1 : Nat) : Int) = 1 from rfl] at h9; rw [h9, if_pos hb]; rfl
          · rw [refborder_bad bk hb 1 0 K (by omega), if_neg hb]; rfl
    · rw [if_neg hf]
      by_cases q1 : w < 1
      · rw [if_pos q1, Bb.j0, if_pos rfl]
      · rw [if_neg q1]
        by_cases q2 : h < 1
        · rw [if_pos q2, Bb.j0, if_pos rfl]
        · rw [if_neg q2]
          by_cases q3 : w > 15
          · rw [if_pos q3, Bb.j0, if_pos rfl]
          · rw [if_neg q3, decide_eq_true (by omega), Bb.j0, if_pos rfl]
  · rw [if_neg h0, if_pos (show e0 ≠ 0 from h0)]
theorem half (w : Nat) (h : w ≤ 15) : wrap64 (Int.tdiv (w : Int) 2) = ((w / 2 : Nat) : Int) := by
  rw [show (2 : Int) = ((2 : Nat) : Int) from rfl, ← Int.ofNat_tdiv, wd _ (by omega) (by omega)]
theorem refat_row (bk : Int) (W H : Nat) (l : List Int) (w h k : Nat) (x y x0 : Int) (v j : Nat) (hk : 1 ≤ bk ∧ bk ≤ 3) (hW1 : 1 ≤ W) (hW : W ≤ 1024) (hH : H ≤ 1024) (hv : v < H) (hl : l.length = W * H) (hw : w ≤ 15) (hj : j ≤ 1000)
    (hx : wrap64 (x - ((w / 2 : Nat) : Int)) = x0) (F : Nat) (hF : 3 ≤ F) : ∀ m i (acc : List Int), i + m = w → acc.length + m ≤ 100000 →
    Bk.l1 (m + 1 + F) bk w h k x y acc j v (i : Nat) W H l = Bk.l0 F bk w h k x y (acc ++ rowL bk W l v x0 m i) ((j + 1 : Nat) : Int) W H l
  | 0, i, acc, hi, ha => by
    rw [show 0 + 1 + F = F + 1 by omega, Bk.l1, if_neg (by omega), rowL, List.append_nil, wd ((j : Int) + 1) (by omega) (by omega)]; rfl
  | m + 1, i, acc, hi, ha => by
    have hb := bdr_lt bk W (wrap64 (x0 + (i : Int))) hW1; have hq := idx_lt W H v _ hv hb; rw [show m + 1 + 1 + F = (m + 1 + F) + 1 by omega, Bk.l1, if_pos (by omega), half w hw, hx, refborder_eq bk W _ hk hW1 hW _ (by omega), Option.bind_some]; dsimp only
    rw [idx_wrap W H v _ hW hH hv hb, if_pos (by omega), if_pos (by omega), if_pos (by omega), wd ((i : Int) + 1) (by omega) (by omega), show ((i : Int) + 1) = ((i + 1 : Nat) : Int) by omega,
      refat_row bk W H l w h k x y x0 v j hk hW1 hW hH hv hl hw hj hx F hF m (i + 1) _ (by omega) (by rw [List.length_append, List.length_singleton]; omega), rowL, List.append_assoc]
    unfold rd; rw [Int.toNat_natCast]; rfl
theorem refat_all (bk : Int) (W H : Nat) (l : List Int) (w h k : Nat) (x y x0 y0 : Int) (hk : 1 ≤ bk ∧ bk ≤ 3) (hW1 : 1 ≤ W) (hW : W ≤ 1024) (hH1 : 1 ≤ H) (hH : H ≤ 1024) (hl : l.length = W * H) (hw : w ≤ 15) (hh : h ≤ 15)
    (hx : wrap64 (x - ((w / 2 : Nat) : Int)) = x0) (hy : wrap64 (y - ((h / 2 : Nat) : Int)) = y0) : ∀ m j (acc : List Int), j + m = h → acc.length + m * w ≤ 90000 →
    Bk.l0 (m * (w + 2) + 4) bk w h k x y acc (j : Nat) W H l = ((C3.f (acc ++ allL bk W H l x0 y0 w m j)).bind fun t102 => (if 0 ≤ (k : Int) then (if (k : Int) < (t102.length : Int) then (some (rd t102 k)) else (none)) else (none)))
  | 0, j, acc, hj, ha => by
    rw [show 0 * (w + 2) + 4 = 3 + 1 by omega, Bk.l0, if_neg (by omega), allL, List.append_nil]
  | m + 1, j, acc, hj, ha => by
    rw [Nat.succ_mul] at ha; have hb := bdr_lt bk H (wrap64 (y0 + (j : Int))) hH1; rw [show (m + 1) * (w + 2) + 4 = (w + 1 + (m * (w + 2) + 4)) + 1 by rw [Nat.succ_mul]; omega, Bk.l0, if_pos (by omega), half h hh, hy, refborder_eq bk H _ hk hH1 hH _ (by omega), Option.bind_some]; dsimp only; have h1 := refat_row bk W H l w h k x y x0 (bdr bk H (wrap64 (y0 + (j : Int)))) j hk hW1 hW hH hb hl hw (by omega) hx (m * (w + 2) + 4) (by omega) w 0 acc (by omega) (by omega); refine Eq.trans h1 ?_; rw [refat_all bk W H l w h k x y x0 y0 hk hW1 hW hH1 hH hl hw hh hx hy m (j + 1) _ (by omega) (by rw [List.length_append, rowL_length]; omega), allL, List.append_assoc]
theorem refat_eq (bk : Int) (W H : Nat) (l : List Int) (w h k : Nat) (x y : Int) (hk : 1 ≤ bk ∧ bk ≤ 3) (hW1 : 1 ≤ W) (hW : W ≤ 1024) (hH1 : 1 ≤ H) (hH : H ≤ 1024) (hl : l.length = W * H) (hw : w ≤ 15) (hh : h ≤ 15)
    (hkw : k < w * h) (hu : U32 l) (K : Nat) (hK : 300 ≤ K) : Bk.f K W H l bk w h k x y = some (atV bk W H l w h k x y) := by
  have h2 : h * w ≤ 15 * 15 := Nat.mul_le_mul hh hw; have h3 : h * (w + 2) ≤ 15 * 17 := Nat.mul_le_mul hh (by omega); refine upF (fun K => Bk.f K W H l bk w h k x y) (fun K => Bk.mono _ _ _ _ _ _ _ _ _ K) (k := h * (w + 2) + 4) ?_ (by omega); show Bk.f _ W H l bk w h k x y = _; unfold Bk.f; have h1 := refat_all bk W H l w h k x y _ _ hk hW1 hW hH1 hH hl hw hh rfl rfl h 0 [] (by omega) (by rw [List.length_nil]; omega); refine Eq.trans h1 ?_; rw [List.nil_append]; unfold C3.f; have hlen := allL_length bk W H l (wrap64 (x - ((w / 2 : Nat) : Int))) (wrap64 (y - ((h / 2 : Nat) : Int))) w h 0; have hlt : k < (isrt (allL bk W H l (wrap64 (x - ((w / 2 : Nat) : Int))) (wrap64 (y - ((h / 2 : Nat) : Int))) w h 0)).length := by rw [isrt_length, hlen, Nat.mul_comm]; exact hkw
  rw [if_pos ⟨by rw [hlen]; omega, allL_u32 _ _ _ _ _ _ _ hu _ _⟩, Option.bind_some, if_pos (by omega), if_pos (by omega)]; unfold rd atV win; rw [Int.toNat_natCast]
theorem refpart_row (bk : Int) (W H : Nat) (l : List Int) (w h k X0 Y0 X1 Y1 j : Nat) (a b : Int) (hk : 1 ≤ bk ∧ bk ≤ 3) (hW1 : 1 ≤ W) (hW : W ≤ 1024) (hH1 : 1 ≤ H) (hH : H ≤ 1024) (hl : l.length = W * H)
    (hw : w ≤ 15) (hh : h ≤ 15) (hkw : k < w * h) (hu : U32 l) (hX : X1 ≤ 1024) (hY : Y1 ≤ 1024) (hj : Y0 + j ≤ 1024) (F : Nat) (hF : 300 ≤ F) : ∀ m i (acc : List Int), X0 + i + m = X1 → acc.length + m ≤ 100000000 →
    Au.l1 (m + 1 + F) bk w h k ((Y0 + j : Nat) : Int) ((X0 + i : Nat) : Int) W H l X0 Y0 X1 Y1 a b acc =
      Au.l0 F bk w h k ((Y0 + (j + 1) : Nat) : Int) W H l X0 Y0 X1 Y1 a b (acc ++ rowP bk W H l w h k X0 (Y0 + j) m i)
  | 0, i, acc, hi, ha => by
    rw [show 0 + 1 + F = F + 1 by omega, Au.l1, if_neg (by omega), rowP, List.append_nil, wd (((Y0 + j : Nat) : Int) + 1) (by omega) (by omega)]; rfl
  | m + 1, i, acc, hi, ha => by
    have e3 : wrap64 (((X0 + i : Nat) : Int) + 1) = ((X0 + (i + 1) : Nat) : Int) := by rw [wd _ (by omega) (by omega)]; omega
    rw [show m + 1 + 1 + F = (m + 1 + F) + 1 by omega, Au.l1, if_pos (by omega), refat_eq bk W H l w h k _ _ hk hW1 hW hH1 hH hl hw hh hkw hu _ (by omega), Option.bind_some, if_pos (by omega), e3]; clear e3; rw [refpart_row bk W H l w h k X0 Y0 X1 Y1 j a b hk hW1 hW hH1 hH hl hw hh hkw hu hX hY hj F hF m (i + 1) _ (by omega) (by rw [List.length_append, List.length_singleton]; omega), rowP, List.append_assoc]; rfl
theorem refpart_rows (bk : Int) (W H : Nat) (l : List Int) (w h k X0 Y0 X1 Y1 n : Nat) (a b : Int) (hk : 1 ≤ bk ∧ bk ≤ 3) (hW1 : 1 ≤ W) (hW : W ≤ 1024) (hH1 : 1 ≤ H) (hH : H ≤ 1024) (hl : l.length = W * H)
    (hw : w ≤ 15) (hh : h ≤ 15) (hkw : k < w * h) (hu : U32 l) (hX : X1 ≤ 1024) (hY : Y1 ≤ 1024) (hn : X0 + n = X1) : ∀ m j (acc : List Int), Y0 + j + m = Y1 → acc.length + m * n ≤ 90000000 →
    Au.l0 (m * (n + 2) + 301) bk w h k ((Y0 + j : Nat) : Int) W H l X0 Y0 X1 Y1 a b acc = some (a, b, acc ++ allP bk W H l w h k X0 Y0 n m j, 0)
  | 0, j, acc, hj, ha => by
    rw [show 0 * (n + 2) + 301 = 300 + 1 by omega, Au.l0, if_neg (by omega), allP, List.append_nil]
  | m + 1, j, acc, hj, ha => by
    rw [Nat.succ_mul] at ha; rw [show (m + 1) * (n + 2) + 301 = (n + 1 + (m * (n + 2) + 301)) + 1 by rw [Nat.succ_mul]; omega, Au.l0, if_pos (by omega)]; have h1 := refpart_row bk W H l w h k X0 Y0 X1 Y1 j a b hk hW1 hW hH1 hH hl hw hh hkw hu hX hY (by omega) (m * (n + 2) + 301) (by omega) n 0 acc (by omega) (by omega); refine Eq.trans h1 ?_; rw [refpart_rows bk W H l w h k X0 Y0 X1 Y1 n a b hk hW1 hW hH1 hH hl hw hh hkw hu hX hY hn m (j + 1) _ (by omega) (by rw [List.length_append, rowP_length]; omega), allP, List.append_assoc]
end Go.Proofs.Ytbfimplajocmmaa
end
