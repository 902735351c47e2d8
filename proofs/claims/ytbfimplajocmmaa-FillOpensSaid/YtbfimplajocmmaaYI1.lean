import Derived.RowKit
import Derived.Test.YtbfimplajocmmaaYPFAx2
import Derived.RangeFuncNested
import Derived.RangeFuncBound
import Derived.RangeFuncCalls
import Derived.RangeFuncLeaves
import Derived.Shelf.Abstract
import Derived.Shelf.RegionOpen
import Derived.WalkKit
import Derived.OwnWalkIn
import Derived.TacticsInMore
import Derived.LoopNIn
import Derived.LoopIn
section
set_option linter.unusedVariables false
set_option linter.unusedSimpArgs false
namespace Go.Proofs.Ytbfimplajocmmaa
namespace FM
def reach1 (may : Nat → Bool) (i : Nat) : List Nat → List Int → List Nat → List Int × List Nat
 | [], st, q => (st, q)
 | k :: t, st, q => if st.getD k 0 < 0 ∧ may k = true then reach1 may i t (st.set k (st.getD i 0 + 1)) (q ++ [k]) else reach1 may i t st q
def spread (nb : Nat → List Nat) (may : Nat → Bool) : Nat → Nat → List Int → List Nat → Option (List Int × List Nat)
 | 0, _, _, _ => none
 | f + 1, n, st, q => if n = q.length then some (st, q) else spread nb may f (n + 1) (reach1 may (q.getD n 0) (nb (q.getD n 0)) st q).1 (reach1 may (q.getD n 0) (nb (q.getD n 0)) st q).2
theorem getD_set_self (l : List Int) (k : Nat) (v : Int) (h : k < l.length) : (l.set k v).getD k 0 = v := by
 rw [List.getD_eq_getElem?_getD, List.getElem?_set_self h]; rfl
theorem getD_set_ne (l : List Int) (k j : Nat) (v : Int) (h : k ≠ j) : (l.set k v).getD j 0 = l.getD j 0 := by
 rw [List.getD_eq_getElem?_getD, List.getD_eq_getElem?_getD, List.getElem?_set_ne h]
structure R1 (N : Nat) (may : Nat → Bool) (i : Nat) (ks : List Nat) (st : List Int) (q : List Nat) (st' : List Int) (q' : List Nat) : Prop where
 len : st'.length = st.length
 ext : ∃ r, q' = q ++ r ∧ (∀ k ∈ r, k ∈ ks ∧ may k = true ∧ st'.getD k 0 = st.getD i 0 + 1)
 old : ∀ k, k ∈ q → st'.getD k 0 = st.getD k 0
 nodup : q'.Nodup
 mem : ∀ k, k < N → (0 ≤ st'.getD k 0 ↔ k ∈ q')
 lt : ∀ k ∈ q', k < N
 all : ∀ k ∈ ks, may k = true → k ∈ q'
theorem reach1_R1 (N : Nat) (may : Nat → Bool) (i : Nat) : ∀ (ks : List Nat) (st : List Int) (q : List Nat), st.length = N → (∀ k ∈ ks, k < N) → i ∈ q → q.Nodup → (∀ k, k < N → (0 ≤ st.getD k 0 ↔ k ∈ q)) → (∀ k ∈ q, k < N) →
  R1 N may i ks st q (reach1 may i ks st q).1 (reach1 may i ks st q).2
 | [], st, q, hl, hk, hi, hn, hm, hlt => ⟨rfl, ⟨[], by simp [reach1], by simp⟩, fun _ _ => rfl, hn, hm, hlt, by simp⟩
 | k :: t, st, q, hl, hk, hi, hn, hm, hlt => by
  have hkN : k < N := hk k List.mem_cons_self; have hiN : i < N := hlt i hi; rw [reach1]
  split
  ·rename_i hc
   obtain ⟨hneg, hmay⟩ := hc; have hkq : k ∉ q := fun h => by have := (hm k hkN).mpr h; omega
   have hik : k ≠ i := fun h => hkq (h ▸ hi)
   have hi0 : 0 ≤ st.getD i 0 := (hm i hiN).mpr hi
   have ih := reach1_R1 N may i t (st.set k (st.getD i 0 + 1)) (q ++ [k]) (by rw [List.length_set]; exact hl) (fun x hx => hk x (List.mem_cons_of_mem _ hx)) (List.mem_append_left _ hi)
    (List.nodup_append.mpr ⟨hn, by simp, fun a ha b hb => by rw [List.mem_singleton] at hb; subst hb; exact fun e => hkq (e ▸ ha)⟩)
    (fun x hx => by
     by_cases e : k = x
     ·subst e
      rw [getD_set_self _ _ _ (by omega)]; exact ⟨fun _ => by simp, fun _ => by omega⟩
     ·rw [getD_set_ne _ _ _ _ e, hm x hx]
      simp [Ne.symm e])
    (fun x hx => by
     rcases List.mem_append.mp hx with h | h
     ·exact hlt x h
     ·rw [List.mem_singleton] at h; subst h; exact hkN)
   obtain ⟨r, hr, hrk⟩ := ih.ext; refine ⟨by rw [ih.len, List.length_set], ⟨k :: r, by rw [hr]; simp, fun x hx => ?_⟩, fun x hx => ?_, ih.nodup, ih.mem, ih.lt, fun x hx hmx => ?_⟩
   ·rcases List.mem_cons.mp hx with rfl | hx
    ·refine ⟨List.mem_cons_self, hmay, ?_⟩
     rw [ih.old x (by simp), getD_set_self _ _ _ (by omega)]
    ·obtain ⟨h1, h2, h3⟩ := hrk x hx
     exact ⟨List.mem_cons_of_mem _ h1, h2, by rw [h3, getD_set_ne _ _ _ _ hik]⟩
   ·rw [ih.old x (List.mem_append_left _ hx), getD_set_ne _ _ _ _ (fun e : k = x => hkq (by rw [e]; exact hx))]
   ·rcases List.mem_cons.mp hx with rfl | hx
    ·rw [hr]; simp
    ·exact ih.all x hx hmx
  ·rename_i hc
   have ih := reach1_R1 N may i t st q hl (fun x hx => hk x (List.mem_cons_of_mem _ hx)) hi hn hm hlt; obtain ⟨r, hr, hrk⟩ := ih.ext; refine ⟨ih.len, ⟨r, hr, fun x hx => ⟨List.mem_cons_of_mem _ (hrk x hx).1, (hrk x hx).2⟩⟩, ih.old, ih.nodup, ih.mem, ih.lt, fun x hx hmx => ?_⟩
   rcases List.mem_cons.mp hx with rfl | hx
   ·have : 0 ≤ st.getD x 0 := by
     rcases Int.lt_or_le (st.getD x 0) 0 with h | h
     ·exact absurd ⟨h, hmx⟩ hc
     ·exact h
    rw [hr]; exact List.mem_append_left _ ((hm x hkN).mp this)
   ·exact ih.all x hx hmx
structure BI (N : Nat) (nb : Nat → List Nat) (may : Nat → Bool) (src : List Nat) (h : Nat) (st : List Int) (q : List Nat) : Prop where
 len : st.length = N
 nodup : q.Nodup
 mem : ∀ k, k < N → (0 ≤ st.getD k 0 ↔ k ∈ q)
 lt : ∀ k ∈ q, k < N
 pre : ∃ r, q = src ++ r
 zero : ∀ k ∈ src, st.getD k 0 = 0
 par : ∀ p, p < q.length → src.length ≤ p → may (q.getD p 0) = true ∧ ∃ o, o < p ∧ o < h ∧ q.getD p 0 ∈ nb (q.getD o 0) ∧ st.getD (q.getD p 0) 0 = st.getD (q.getD o 0) 0 + 1
 done : ∀ p, p < h → p < q.length → ∀ k ∈ nb (q.getD p 0), may k = true → k ∈ q ∧ st.getD k 0 ≤ st.getD (q.getD p 0) 0 + 1
 mono : ∀ a b, a ≤ b → b < q.length → st.getD (q.getD a 0) 0 ≤ st.getD (q.getD b 0) 0
 top : ∀ p, p < q.length → h < q.length → st.getD (q.getD p 0) 0 ≤ st.getD (q.getD h 0) 0 + 1
 hle : h ≤ q.length
theorem qget_left (a b : List Nat) (i : Nat) (h : i < a.length) : (a ++ b).getD i 0 = a.getD i 0 := by
 rw [List.getD_eq_getElem?_getD, List.getD_eq_getElem?_getD, List.getElem?_append_left h]
theorem qget_right (a b : List Nat) (i : Nat) (h : a.length ≤ i) : (a ++ b).getD i 0 = b.getD (i - a.length) 0 := by
 rw [List.getD_eq_getElem?_getD, List.getD_eq_getElem?_getD, List.getElem?_append_right h]
theorem qget_mem (a : List Nat) (i : Nat) (h : i < a.length) : a.getD i 0 ∈ a := by
 rw [List.getD_eq_getElem?_getD, List.getElem?_eq_getElem h]; exact List.getElem_mem _
theorem mem_qget (a : List Nat) (x : Nat) (h : x ∈ a) : ∃ i, i < a.length ∧ a.getD i 0 = x := by
 obtain ⟨i, hi, e⟩ := List.mem_iff_getElem.mp h; exact ⟨i, hi, by rw [List.getD_eq_getElem?_getD, List.getElem?_eq_getElem hi]; exact e⟩
theorem BI_step {N : Nat} {nb : Nat → List Nat} {may : Nat → Bool} {src : List Nat} {h : Nat} {st : List Int} {q : List Nat} (hnb : ∀ i, i < N → ∀ k ∈ nb i, k < N) (H : BI N nb may src h st q) (hh : h < q.length) :
  BI N nb may src (h + 1) (reach1 may (q.getD h 0) (nb (q.getD h 0)) st q).1 (reach1 may (q.getD h 0) (nb (q.getD h 0)) st q).2 := by
 have hi : q.getD h 0 ∈ q := qget_mem q h hh; have hiN := H.lt _ hi; have R := reach1_R1 N may (q.getD h 0) (nb (q.getD h 0)) st q H.len (hnb _ hiN) hi H.nodup H.mem H.lt; generalize (reach1 may (q.getD h 0) (nb (q.getD h 0)) st q).1 = st' at R ⊢; generalize (reach1 may (q.getD h 0) (nb (q.getD h 0)) st q).2 = q' at R ⊢; obtain ⟨r, hr, hrk⟩ := R.ext; have hl : q.length ≤ q'.length := by rw [hr, List.length_append]; omega
 have qo : ∀ p, p < q.length → q'.getD p 0 = q.getD p 0 := fun p hp => by rw [hr]; exact qget_left q r p hp
 have so : ∀ p, p < q.length → st'.getD (q'.getD p 0) 0 = st.getD (q.getD p 0) 0 := fun p hp => by rw [qo p hp]; exact R.old _ (qget_mem q p hp)
 have sn : ∀ p, q.length ≤ p → p < q'.length → may (q'.getD p 0) = true ∧ q'.getD p 0 ∈ nb (q.getD h 0) ∧ st'.getD (q'.getD p 0) 0 = st.getD (q.getD h 0) 0 + 1 := fun p h1 h2 => by
  have e : q'.getD p 0 = r.getD (p - q.length) 0 := by rw [hr]; exact qget_right q r p h1
  have hm := hrk _ (qget_mem r (p - q.length) (by rw [hr, List.length_append] at h2; omega)); rw [← e] at hm; exact ⟨hm.2.1, hm.1, hm.2.2⟩
 have up : ∀ p, p < q'.length → st'.getD (q'.getD p 0) 0 ≤ st.getD (q.getD h 0) 0 + 1 := fun p hp => by
  rcases Nat.lt_or_ge p q.length with h1 | h1
  ·rw [so p h1]; exact H.top p h1 hh
  ·rw [(sn p h1 hp).2.2]; exact Int.le_refl _
 refine ⟨by rw [R.len]; exact H.len, R.nodup, R.mem, R.lt, ?_, fun k hk => ?_, fun p hp hs => ?_, fun p hp hp2 k hk hm => ?_, fun a b hab hb => ?_, fun p hp hh2 => ?_, by omega⟩
 ·obtain ⟨s, hs⟩ := H.pre
  exact ⟨s ++ r, by rw [hr, hs, List.append_assoc]⟩
 ·obtain ⟨s, hs⟩ := H.pre
  rw [R.old k (by rw [hs]; exact List.mem_append_left _ hk)]; exact H.zero k hk
 ·rcases Nat.lt_or_ge p q.length with h1 | h1
  ·obtain ⟨g1, o, g2, g3, g4, g5⟩ := H.par p h1 hs
   refine ⟨by rw [qo p h1]; exact g1, o, g2, by omega, ?_, ?_⟩
   ·rw [qo p h1, qo o (by omega)]; exact g4
   ·rw [so p h1, so o (by omega)]; exact g5
  ·obtain ⟨g1, g2, g3⟩ := sn p h1 hp
   exact ⟨g1, h, by omega, by omega, by rw [qo h hh]; exact g2, by rw [g3, so h hh]⟩
 ·rcases Nat.lt_or_ge p h with h1 | h1
  ·have hpq : p < q.length := by omega
   rw [qo p hpq] at hk; obtain ⟨g1, g2⟩ := H.done p h1 hpq k hk hm; refine ⟨by rw [hr]; exact List.mem_append_left _ g1, ?_⟩; rw [so p hpq, R.old k g1]; exact g2
  ·obtain rfl : p = h := by omega
   rw [qo p hh] at hk; have g1 := R.all k hk hm; refine ⟨g1, ?_⟩; obtain ⟨x, hx, rfl⟩ := mem_qget q' k g1; rw [so p hh]; exact up x hx
 ·rcases Nat.lt_or_ge b q.length with h1 | h1
  ·rw [so a (by omega), so b h1]; exact H.mono a b hab h1
  ·rw [(sn b h1 hb).2.2]; exact up a (by omega)
 ·have h1 := up p hp
  have h2 : st.getD (q.getD h 0) 0 ≤ st'.getD (q'.getD (h + 1) 0) 0 := by
   rcases Nat.lt_or_ge (h + 1) q.length with h3 | h3
   ·rw [so (h + 1) h3]; exact H.mono h (h + 1) (by omega) h3
   ·rw [(sn (h + 1) h3 hh2).2.2]; omega
  omega
theorem nodup_len : ∀ (N : Nat) (q : List Nat), q.Nodup → (∀ k ∈ q, k < N) → q.length ≤ N
 | 0, [], _, _ => Nat.le_refl _
 | 0, x :: t, _, h => absurd (h x List.mem_cons_self) (by omega)
 | N + 1, q, hn, h => by
  by_cases hm : N ∈ q
  ·have h1 := nodup_len N (q.erase N) (hn.erase N) (fun k hk => by have h2 := hn.mem_erase_iff.mp hk; have := h k h2.2; omega)
   rw [List.length_erase_of_mem hm] at h1
   omega
  ·have := nodup_len N q hn (fun k hk => by have h2 := h k hk; have : k ≠ N := fun e => hm (by rw [← e]; exact hk); omega)
   omega
end FM
end Go.Proofs.Ytbfimplajocmmaa
end
section
open Go Go.RowKit Go.Shelf Go.Proofs.YtbfimplajocmmaaW.PrintWords Go.Proofs.YtbfimplajocmmaaW.PrintLast Go.Proofs.YtbfimplajocmmaaW.PrintMore
attribute [local go_sem] Oper.semAt_some
set_option linter.unusedVariables false
set_option linter.unusedSimpArgs false
namespace Go.Proofs.Ytbfimplajocmmaa
open PFA
def trues (ms : List Bool) (k : Nat) : List Nat := (List.range k).filter (fun i => ms.getD i false)
theorem trues_yes (ms : List Bool) (k : Nat) (h : ms.getD k false = true) : trues ms (k + 1) = trues ms k ++ [k] := by
 unfold trues; rw [List.range_succ, List.filter_append, List.filter_cons, h]; simp
theorem trues_no (ms : List Bool) (k : Nat) (h : ms.getD k false = false) : trues ms (k + 1) = trues ms k := by
 unfold trues; rw [List.range_succ, List.filter_append, List.filter_cons, h]; simp
theorem trues_le (ms : List Bool) (k : Nat) : (trues ms k).length ≤ k := by
 unfold trues; exact Nat.le_trans (List.length_filter_le _ _) (by simp)
abbrev Pl (N : Nat) := { i : Nat // i < N }
abbrev encP {N : Nat} (x : Pl N) : Array Value := #[.int .i64 (x.1 : Int)]
def KpM (A : Option Addr) (ms : List Bool) (W W' : World) : Prop := Kd.C Kd.bool W A ms.length ms → Kd.C Kd.bool W' A ms.length ms
set_option maxRecDepth 100000 in
set_option maxHeartbeats 4000000 in
theorem in1 (n : Nat) (hn : 1 ≤ n) (l Bm : Nat) (A : Option Addr) (c : Nat) (ms : List Bool) (hc : ms.length ≤ c) (J Jx : List (Pl ms.length) → World → Prop)
  (hY : ∀ pre (x : Pl ms.length) W, J pre W → pre.length < ms.length → YieldAt Fence.wide (n - 1) Try.prog l (encP x) W fun e W' =>
   (e = .returned (.bool true) ∧ J (pre ++ [x]) W' ∧ KpM A ms W W') ∨ (e = .returned (.bool false) ∧ Jx (pre ++ [x]) W'))
  (W : World) (hB : W.cell? ⟨Bm, 2, none⟩ = some (.slice A ms.length c)) (hC : Kd.C Kd.bool W A ms.length ms) (h0 : J [] W) :
  CallsIn Fence.wide n Try.prog 80 #[.func (.yield l) #[] #[], .pointer (some ⟨Bm, 0, none⟩)] W fun e W' => (∃ v, e = .returned v) ∧
   ((∃ ys, ys.map (·.1) = trues ms ms.length ∧ J ys W') ∨ (∃ pre, True ∧ Jx pre W')) := by
 have hm := Kd.C_max hC; have HC := Ac.mk hC; have H0 := Ac.mk h0; have HY := Ac.mk hY; clear hC h0 hY; refine callsIn_of_wp Try.func80 rfl trivial ?_ rfl
 simp only [Try.ntmps80, List.size_toArray, List.length_cons, List.length_nil, Nat.reduceAdd, Nat.reduceSub, Array.replicate_succ, Array.replicate_zero, List.push_toArray, List.append_toArray, List.nil_append, List.cons_append]
 gi_wp2
 clear hB
 gi_loopw [8] (fun i wr => ∃ k : Nat, k ≤ ms.length ∧ i = .int .i64 k ∧ Ac (∃ pre : List (Pl ms.length), pre.map (·.1) = trues ms k ∧ J pre wr) ∧ Ac (Kd.C Kd.bool wr A ms.length ms))
  (fun i _ => ms.length - (intOf i).toNat)
 case atStart => exact ⟨0, Nat.zero_le _, rfl, ⟨[], rfl, H0.out⟩, HC⟩
 case round =>
  obtain ⟨k, hk, rfl, HJ, HR⟩ := hrel; clear HC H0
  by_cases hlt : k < ms.length
  ·obtain ⟨ad, hA, hcell⟩ := (Kd.Cx (enc := Value.bool) (d := false) (h1 := fun _ => rfl) HR.out).at_ (k : Int) (by omega) (by omega)
   subst hA; rw [Int.toNat_natCast] at hcell; obtain ⟨pre, hpre, hj⟩ := HJ.out
   have hplen : pre.length < ms.length := by
    have h1 := congrArg List.length hpre; rw [List.length_map] at h1; have h2 := trues_le ms k
    omega
   obtain ⟨b, hb⟩ : ∃ b, b = ms.getD k false := ⟨_, rfl⟩; have hrd : rdOf false ms (k : Int) = b := by rw [hb]; unfold rdOf; rw [Int.toNat_natCast]
   rw [hrd] at hcell; clear hrd; have HB := Ac.mk hb; have HP := Ac.mk hpre; have HJ0 := Ac.mk hj; clear hb hpre hj HJ; cases b with
   | false =>
    gi_wp2
    refine ⟨fun _ h => (by cases h), ?_⟩
    gi_wp2
    go_roundw
    case rel => exact ⟨k + 1, by omega, by go_num, ⟨pre, by rw [trues_no ms k HB.out.symm]; exact HP.out, HJ0.out⟩, HR⟩
    case measure => simp [intOf]; omega
   | true =>
    obtain ⟨fn, tmps, assign, body, hy, hR⟩ := HY.out pre ⟨k, hlt⟩ wr HJ0.out hplen; have HRD := Ac.mk hR; clear hR
    gi_wp2
    refine HRD.out.mono ?_; rintro e W3 (⟨rfl, hJ3, hk3⟩ | ⟨rfl, hJx3⟩)
    ·have HJ3 := Ac.mk hJ3
     have HR3 := Ac.mk (hk3 HR.out); clear hJ3 hk3
     gi_wp2
     go_roundw
     case rel => exact ⟨k + 1, by omega, by go_num, ⟨_, by rw [trues_yes ms k HB.out.symm, List.map_append, HP.out]; rfl, HJ3.out⟩, HR3⟩
     case measure => simp [intOf]; omega
    ·have HJ3 := Ac.mk hJx3
     clear hJx3
     gi_wp2
     refine bodyPost_ret (results_none rfl _ _ _) rfl ?_; exact ⟨⟨_, rfl⟩, .inr ⟨_, trivial, HJ3.out⟩⟩
  ·obtain rfl : k = ms.length := by omega
   gi_wp2
   go_end0
   obtain ⟨pre, h1, h2⟩ := HJ.out; exact ⟨⟨_, rfl⟩, .inl ⟨pre, h1, h2⟩⟩
theorem in_made (A : Option Addr) (c : Nat) (ms : List Bool) (a0 a1 : Int) (w : World) :
  Calls Try.prog 50 #[.agg #[.int .i64 a0, .int .i64 a1, .slice A ms.length c]] w fun e w' => e = .returned (.func (.func 80) #[] #[.pointer (some ⟨w.heap.size, 0, none⟩)]) ∧ w' = w.alloc (.cells #[.int .i64 a0, .int .i64 a1, .slice A ms.length c] 27) := by
 go_enter Try.func50, Try.ntmps50
 go_wp2
 go_ret
 exact ⟨rfl, rfl⟩
theorem in_stops (n : Nat) (hn : 1 ≤ n) (Bm : Nat) (A : Option Addr) (c : Nat) (ms : List Bool) (hc : ms.length ≤ c) (w : World) (hBm : Bm < w.heap.size) (hB : w.cell? ⟨Bm, 2, none⟩ = some (.slice A ms.length c)) (hC : Kd.C Kd.bool w A ms.length ms) :
  SeqStopsK Fence.wide n Try.prog 80 #[.pointer (some ⟨Bm, 0, none⟩)] encP (KpM A ms) (fun ys : List (Pl ms.length) => ys.map (·.1) = trues ms ms.length) (fun _ => True) ms.length w := fun l J Jx W hW _ _ hY h0 =>
 in1 n hn l Bm A c ms hc J Jx hY W ((hW.cell (p := ⟨Bm, 2, none⟩) hBm).trans hB) (Kd.B2 hC hW) h0
theorem C_kept {α : Type} {enc : α → Value} {d : α} {h1 : ∀ x, (enc x).oneCell' = true} {W W' : World} {row : Option Nat} {A : Option Addr} {n : Nat} {xs : List α} (h : (Kd.scalar enc h1).C W A n xs) (hg : W.grownBy W' row) (hr : ∀ r, row = some r → ∃ o : Obj, W.heap[r]? = some o ∧ o.isCells = false) : (Kd.scalar enc h1).C W' A n xs := by
 have hc := Kd.Cx (d := d) h; refine Kd.C_of_reads (d := d) ⟨hc.1, hc.2.1, fun hn => ?_⟩; obtain ⟨x, hA, hx⟩ := hc.2.2 hn; exact ⟨x, hA, fun j hj => cell_kept (hx j hj) hg hr⟩
theorem R_kept {α : Type} {d : Kd α} {e base : Nat} {ok : Nat → Prop} {W W' : World} {row : Option Nat} {v : Value} {xs : List α} (h : d.R e W base ok v xs) (hg : W.grownBy W' row) (hr : ∀ r, row = some r → ∃ o : Obj, W.heap[r]? = some o ∧ o.isCells = false) : d.R e W' base ok v xs := by
 refine Kd.Bu (Kd.Dw (Kd.Cp h) hg (fun k hk => ?_)) (fun k hk => hk.1); obtain ⟨_, _, _, q, _, cells, hb⟩ := hk; intro e; obtain ⟨o, ho, hc⟩ := hr k e.symm; rw [hb] at ho; cases ho; cases hc
theorem Cs {W W' : World} {row : Option Nat} {g t : Nat} {cells : Array Value} {m : Nat × Nat} (h : W.heap[g]? = some (.cells cells t m)) (hg : W.grownBy W' row) (hr : ∀ r, row = some r → ∃ o : Obj, W.heap[r]? = some o ∧ o.isCells = false) : W'.heap[g]? = some (.cells cells t m) := by
 refine (hg.block g (Array.getElem?_eq_some_iff.1 h).1 (fun e => ?_)).trans h; obtain ⟨o, ho, hc⟩ := hr g e.symm; rw [h] at ho; cases ho; cases hc
theorem KpM_t {A : Option Addr} {ms : List Bool} {X Y Z : World} (h : KpM A ms X Y) (k : KpM A ms Y Z) : KpM A ms X Z := fun hc => k (h hc)
theorem KpM_b {A : Option Addr} {ms : List Bool} (W : World) (l : Nat) (o o' : Obj) (hl : W.heap[l]? = some o) (ho : o.isCells = false) : KpM A ms W (W.putObj l o') := fun hc =>
 C_kept (d := false) hc (grownBy_putObj' W l o') (fun r e => by cases e; exact ⟨o, hl, ho⟩)
end Go.Proofs.Ytbfimplajocmmaa
end
