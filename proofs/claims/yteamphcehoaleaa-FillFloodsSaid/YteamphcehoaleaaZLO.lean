import Derived.Test.YteamphcehoaleaaZWK
import Derived.Test.YteamphcehoaleaaZMK
import Derived.Test.YteamphcehoaleaaZLF
set_option linter.unusedVariables false
set_option linter.unusedSimpArgs false
open Go Go.RowKit Go.Proofs.YteamphcehoaleaaW.PrintWords
namespace Go.Proofs.Yteamphcehoaleaa
open PFA PFK PFE PFO FM NR
namespace LO
open WK
structure OKp (w h : Nat) (l : List Int) : Prop where
  w1 : 1 ≤ w
  w2 : w ≤ 1024
  h1 : 1 ≤ h
  h2 : h ≤ 1024
  a : w * h ≤ 65536
  len : l.length = w * h
theorem check_cases (a b : Int) (l : List Int) : (∃ e, Dc.f a b l = some e ∧ Ci.f a b l = some e ∧ e ≠ 0) ∨ (Dc.f a b l = some 0 ∧ Ci.f a b l = some 0 ∧ ∃ w h : Nat, a = w ∧ b = h ∧ OKp w h l) := by
  unfold Dc.f De.f Ci.f Cw.f
  by_cases c1 : a ≥ 1
  · by_cases c3 : b ≥ 1
    · by_cases c2 : a ≤ 1024
      · by_cases c4 : b ≤ 1024
        · rw [if_pos c1, if_pos c2, if_pos c3, if_pos c4]
          obtain ⟨w, rfl⟩ := Int.eq_ofNat_of_zero_le (show 0 ≤ a by omega)
          obtain ⟨h, rfl⟩ := Int.eq_ofNat_of_zero_le (show 0 ≤ b by omega)
          have hwh : w * h ≤ 1024 * 1024 := Nat.mul_le_mul (by omega) (by omega)
          have e : wrap64 ((w : Int) * h) = ((w * h : Nat) : Int) := by
            rw [← Int.natCast_mul]
            generalize w * h = p at *
            unfold wrap64; omega
          rw [if_pos c1, if_pos c2, e]
          simp only [Option.bind_some]
          by_cases c5 : ((w * h : Nat) : Int) ≤ 65536
          · by_cases c6 : (l.length : Int) = ((w * h : Nat) : Int)
            · exact .inr ⟨by rw [if_pos (decide_eq_true c5), if_pos c6], by rw [if_pos (decide_eq_true c5), if_pos c6], w, h, rfl, rfl, ⟨by omega, by omega, by omega, by omega, by omega, by omega⟩⟩
            · exact .inl ⟨51, by rw [if_pos (decide_eq_true c5), if_neg c6], by rw [if_pos (decide_eq_true c5), if_neg c6], by decide⟩
          · exact .inl ⟨50, by rw [if_neg (by rw [decide_eq_false c5]; decide)], by rw [if_neg (by rw [decide_eq_false c5]; decide)], by decide⟩
        · rw [if_pos c1, if_pos c2, if_pos c3, if_neg c4]; exact .inl ⟨50, rfl, by first | rfl | simp [c1, c2, c3, c4], by decide⟩
      · rw [if_pos c1, if_pos c3, if_neg c2]; exact .inl ⟨50, rfl, by first | rfl | simp [c1, c2, c3], by decide⟩
    · rw [if_pos c1, if_neg c3]; exact .inl ⟨50, rfl, by first | rfl | (by_cases c2 : a ≤ 1024 <;> simp [c1, c2, c3]), by decide⟩
  · rw [if_neg c1]; exact .inl ⟨50, rfl, by first | rfl | simp [c1], by decide⟩
theorem key_eq (x : Int) (h0 : 0 ≤ x) (h1 : x < 4294967296) : Cm.f x = C7.f x := by
  unfold Cm.f C7.f
  have e1 : wrap64 x = x := wr (by omega) (by omega)
  rw [e1]
  by_cases c : x < 2147483648
  · rw [if_pos c, if_pos c, wr (by omega) (by omega)]
  · rw [if_neg c, if_neg c, wr (by omega) (by omega)]
theorem apart_eq (x y : Int) (h0 : 0 ≤ x ∧ x < 4294967296) (h1 : 0 ≤ y ∧ y < 4294967296) : Co.f x y = C5.f x y := by
  unfold Co.f C5.f
  rw [key_eq x h0.1 h0.2, key_eq y h1.1 h1.2]
theorem mayF_eq (l : List Int) (i k : Nat) (tol : Int) (hb : ∀ x ∈ l, 0 ≤ x ∧ x < 4294967296) (hi : i < l.length) (hk : k < l.length) : ∃ d, Co.f (l.getD i 0) (l.getD k 0) = some d ∧ decide (mx d (wrap64 (-d)) ≤ tol) = mayF l i tol k := by
  have hg : ∀ j, j < l.length → 0 ≤ l.getD j 0 ∧ l.getD j 0 < 4294967296 := fun j hj => by
    rw [List.getD_eq_getElem?_getD, List.getElem?_eq_getElem hj]
    exact hb _ (List.getElem_mem _)
  obtain ⟨d, hd⟩ := apart_some (l.getD i 0) (l.getD k 0)
  refine ⟨d, by rw [apart_eq _ _ (hg i hi) (hg k hk)]; exact hd, ?_⟩
  unfold mayF
  rw [hd]
  have e : mx d (wrap64 (-d)) = max d (wrap64 (-d)) := by unfold mx; split <;> omega
  rw [e]
theorem alike_l0 (l : List Int) (N : Nat) (hN : N ≤ 65536) (hl : l.length = N) (hb : ∀ x ∈ l, 0 ≤ x ∧ x < 4294967296) (at_ : Nat) (hat : at_ < N) (tol w h a b : Int) : ∀ d i, i + d = N →
    Ev (fun k => Bv.l0 k (at_ : Int) tol (i : Nat) a b l w h (outOf N (mayF l at_ tol) i)) (w, h, outOf N (mayF l at_ tol) N) := by
  intro d
  induction d with
  | zero =>
    intro i hi
    obtain rfl : i = N := by omega
    refine ⟨1, fun k hk => ?_⟩
    obtain ⟨k, rfl⟩ : ∃ q, k = q + 1 := ⟨k - 1, by omega⟩
    show Bv.l0 (k + 1) _ _ _ _ _ _ _ _ _ = _
    rw [Bv.l0, if_neg (by omega)]
  | succ d ih =>
    intro i hi
    refine Ev.step (fun k => ?_) (ih (i + 1) (by omega))
    obtain ⟨d', h1, h2⟩ := mayF_eq l at_ i tol hb (by omega) (by omega)
    have hol := outOf_len N (mayF l at_ tol) i
    rw [Bv.l0, if_pos (by omega), if_pos (by omega), if_pos (by omega), if_pos (by omega), rd_nat, rd_nat, h1, Option.bind_some, if_pos (by rw [hol]; omega), h2, wr1 i (by omega), Int.toNat_natCast, outOf_set N _ i (by omega)]
theorem blank_val {w h : Nat} {l : List Int} (H : OKp w h l) : Bw.f w h = some ((w : Int), (h : Int), List.replicate (w * h) false) := by
  have ha := H.a
  have e : wrap64 ((w : Int) * h) = ((w * h : Nat) : Int) := by
    rw [← Int.natCast_mul]
    exact i64_small _ ha
  unfold Bw.f
  rw [e, Int.toNat_natCast, if_pos (by omega), if_pos (by omega)]
theorem place_mk' {w h x y : Nat} (hx : x < w) (hy : y < h) : w * y + x < w * h := by
  have h1 : w * (y + 1) ≤ w * h := Nat.mul_le_mul_left w hy
  rw [Nat.mul_add, Nat.mul_one] at h1
  omega
theorem reach1_le (may : Nat → Bool) (i : Nat) : ∀ (ks : List Nat) (st : List Int) (q : List Nat), q.length ≤ (reach1 may i ks st q).2.length
  | [], st, q => Nat.le_refl _
  | k :: t, st, q => by
    rw [reach1]
    split
    · refine Nat.le_trans ?_ (reach1_le may i t _ _)
      rw [List.length_append]; omega
    · exact reach1_le may i t _ _
theorem reach1_congr {N : Nat} {may may' : Nat → Bool} (hm : ∀ k, k < N → may k = may' k) (i : Nat) : ∀ (ks : List Nat) (st : List Int) (q : List Nat), (∀ k ∈ ks, k < N) → (∀ k ∈ q, k < N) → reach1 may i ks st q = reach1 may' i ks st q ∧ ∀ k ∈ (reach1 may i ks st q).2, k < N
  | [], st, q, hk, hq => ⟨rfl, hq⟩
  | k :: t, st, q, hk, hq => by
    have hkN := hk k List.mem_cons_self
    rw [reach1, reach1, hm k hkN]
    split
    · exact reach1_congr hm i t _ _ (fun x hx => hk x (List.mem_cons_of_mem _ hx)) (fun x hx => by
        rcases List.mem_append.mp hx with h | h
        · exact hq x h
        · rw [List.mem_singleton] at h; subst h; exact hkN)
    · exact reach1_congr hm i t _ _ (fun x hx => hk x (List.mem_cons_of_mem _ hx)) hq
theorem spread_congr {N : Nat} {nb : Nat → List Nat} {may may' : Nat → Bool} (hnb : ∀ i, i < N → ∀ k ∈ nb i, k < N) (hm : ∀ k, k < N → may k = may' k) : ∀ (f n : Nat) (st : List Int) (q : List Nat), n ≤ q.length → (∀ k ∈ q, k < N) → spread nb may f n st q = spread nb may' f n st q
  | 0, _, _, _, _, _ => rfl
  | f + 1, n, st, q, hn, hq => by
    rw [spread, spread]
    by_cases h : n = q.length
    · rw [if_pos h, if_pos h]
    · rw [if_neg h, if_neg h]
      have hi := hq _ (qget_mem q n (by omega))
      obtain ⟨h1, h2⟩ := reach1_congr hm (q.getD n 0) (nb (q.getD n 0)) st q (hnb _ hi) hq
      rw [← h1]
      exact spread_congr hnb hm f (n + 1) _ _ (by have := reach1_le may (q.getD n 0) (nb (q.getD n 0)) st q; omega) h2
theorem flood_same (a b : Int) (l : List Int) (x y near ways : Int) (hb : ∀ v ∈ l, 0 ≤ v ∧ v < 4294967296) : ∃ t1 b2 t2, Cj.f a b l x y near ways = some (t1, t2) ∧ Ev (fun k => Ay.f k a b l x y near ways) (t1, b2, t2) ∧ t1.length ≤ 65536 := by
  rcases check_cases a b l with ⟨e, h1, h2, h3⟩ | ⟨h1, h2, w, h, rfl, rfl, H⟩
  · refine ⟨[], [], e, ?_, ?_, by simp⟩
    · unfold Cj.f
      rw [h1, Option.bind_some, if_neg h3]
    · refine Ev.congr (f := fun _ => some ([], [], e)) (fun k => ?_) (Ev.now _)
      unfold Ay.f
      rw [h2, Option.bind_some, if_neg h3]
  · have w1 := H.w1; have w2 := H.w2; have g1 := H.h1; have g2 := H.h2; have hl := H.len; have ha := H.a
    have hF : ∀ k, Ay.f k (w : Int) (h : Int) l x y near ways = (Cg.f ways).bind fun t119 => (if t119 = true then (if x < 0 then (Ay.j0 k x y near ways true w h l) else (if x ≥ (w : Int) then (Ay.j0 k x y near ways true w h l) else (if y < 0 then (Ay.j0 k x y near ways true w h l) else (Ay.j0 k x y near ways (decide (y ≥ (h : Int))) w h l)))) else (some (([] : List Int), ([] : List Int), 302))) := fun k => by
      unfold Ay.f
      rw [h2, Option.bind_some, if_pos rfl]
    have hj : ∀ q : Option (List Int × List Int × Int), q = some ([], [], 303) → ∀ (f : Nat → Option (List Int × List Int × Int)), (∀ k, f (k + 1) = q) → Ev f ([], [], 303) := fun q hq f hf => by
      refine Ev.step (f := fun _ => q) hf ?_
      rw [hq]
      exact Ev.now _
    unfold Cj.f
    rw [h1, Option.bind_some, if_pos rfl]
    by_cases c1 : ways ≠ 4 ∧ ways ≠ 8
    · rw [if_pos c1]
      refine ⟨[], [], 302, rfl, Ev.congr (f := fun _ => some ([], [], 302)) (fun k => ?_) (Ev.now _), by simp⟩
      rw [hF]
      unfold Cg.f
      rw [if_neg c1.1, Option.bind_some, if_neg (by simpa using c1.2)]
    rw [if_neg c1]
    have hW : Cg.f ways = some true := by
      unfold Cg.f
      by_cases e : ways = 4
      · rw [if_pos e]
      · rw [if_neg e, show ways = 8 by omega]; rfl
    by_cases c2 : x < 0
    · rw [if_pos c2]
      refine ⟨[], [], 303, rfl, hj _ rfl _ (fun k => ?_), by simp⟩
      rw [hF, hW, Option.bind_some, if_pos rfl, if_pos c2, Ay.j0, if_pos rfl]
    rw [if_neg c2]
    by_cases c3 : y < 0
    · rw [if_pos c3]
      refine ⟨[], [], 303, rfl, hj _ rfl _ (fun k => ?_), by simp⟩
      rw [hF, hW, Option.bind_some, if_pos rfl, if_neg c2]
      by_cases c4 : x ≥ (w : Int)
      · rw [if_pos c4, Ay.j0, if_pos rfl]
      · rw [if_neg c4, if_pos c3, Ay.j0, if_pos rfl]
    rw [if_neg c3]
    by_cases c4 : (w : Int) ≤ x
    · rw [if_pos c4]
      refine ⟨[], [], 303, rfl, hj _ rfl _ (fun k => ?_), by simp⟩
      rw [hF, hW, Option.bind_some, if_pos rfl, if_neg c2, if_pos c4, Ay.j0, if_pos rfl]
    rw [if_neg c4]
    have hF2 : ∀ k, Ay.f k (w : Int) (h : Int) l x y near ways = Ay.j0 k x y near ways (decide (y ≥ (h : Int))) w h l := fun k => by
      rw [hF, hW, Option.bind_some, if_pos rfl, if_neg c2, if_neg (show ¬ x ≥ (w : Int) from c4), if_neg c3]
    by_cases c5 : (h : Int) ≤ y
    · rw [if_pos c5]
      refine ⟨[], [], 303, rfl, hj _ rfl _ (fun k => ?_), by simp⟩
      rw [hF2, Ay.j0, if_pos (decide_eq_true c5)]
    rw [if_neg c5]
    by_cases c6 : near < 0
    · rw [if_pos c6]
      refine ⟨[], [], 304, rfl, Ev.step (f := fun _ => some ([], [], 304)) (fun k => ?_) (Ev.now _), by simp⟩
      rw [hF2, Ay.j0, if_neg (by rw [decide_eq_false (show ¬ y ≥ (h : Int) from c5)]; decide), if_pos c6]
    rw [if_neg c6, if_pos ⟨by omega, by omega, by omega, by omega, by simp only [Int.toNat_natCast]; exact hl⟩]
    obtain ⟨X, rfl⟩ := Int.eq_ofNat_of_zero_le (show 0 ≤ x by omega)
    obtain ⟨Y, rfl⟩ := Int.eq_ofNat_of_zero_le (show 0 ≤ y by omega)
    have hat : Y * w + X < w * h := by
      have := (place_mk' (w := w) (h := h) (x := X) (y := Y) (by omega) (by omega))
      rw [Nat.mul_comm Y w]
      exact this
    have hnb : ∀ i, i < w * h → ∀ k ∈ nbs w h ways i, k < w * h := fun i hi k hk => nbs_lt w1 hi k hk
    have hB0 := BI_start (N := w * h) (nb := nbs w h ways) (may := mayF l (Y * w + X) near) (src := [Y * w + X]) (by simp) (fun k hk => by rw [List.mem_singleton.mp hk]; exact hat)
    obtain ⟨st, q, e, B⟩ := spread_BI hnb (w * h) (w * h + 1) 0 _ _ hB0 (by omega) (by omega)
    have hqN := nodup_len _ q B.nodup B.lt
    refine ⟨cN q, st, 0, ?_, ?_, by rw [cN_len]; omega⟩
    · simp only [Int.toNat_natCast]
      rw [e, Option.bind_some]
      rfl
    · obtain ⟨a0, ha0⟩ : ∃ a0, a0 = Y * w + X := ⟨_, rfl⟩
      rw [← ha0] at hat e
      have hal := alike_l0 l (w * h) ha hl hb a0 hat near w h w h (w * h) 0 (by omega)
      rw [outOf_zero, show ((0 : Nat) : Int) = 0 from rfl] at hal
      have halike : Ev (fun k => Bv.f k w h l (a0 : Int) near) ((w : Int), (h : Int), outOf (w * h) (mayF l a0 near) (w * h)) := by
        unfold Bv.f
        rw [blank_val H]
        simp only [Option.bind_some]
        exact hal
      have hmay : ∀ k, k < w * h → (outOf (w * h) (mayF l a0 near) (w * h)).getD k false = mayF l a0 near k := fun k hk => by
        rw [outOf_get _ _ _ _ hk, decide_eq_true hk, Bool.true_and]
      have e2 : spread (nbs w h ways) (fun k => (outOf (w * h) (mayF l a0 near) (w * h)).getD k false) (w * h + 1) 0 (steps0 (w * h) [a0]) [a0] = some (st, q) := by
        rw [← e]
        exact spread_congr hnb hmay (w * h + 1) 0 _ _ (Nat.zero_le _) (fun k hk => by rw [List.mem_singleton.mp hk]; exact hat)
      have hwk := walk_val (ways := ways) w1 w2 g2 ha (outOf_len (w * h) (mayF l a0 near) (w * h)) [a0] (by simp) (fun k hk => by rw [List.mem_singleton.mp hk]; exact hat) st q e2
      have hwat : Aa (wrap64 ((wrap64 ((Y : Int) * w)) + X) = (a0 : Int)) := by
        refine ⟨?_⟩
        have h9 : Y * w ≤ 1024 * 1024 := Nat.mul_le_mul (by omega) w2
        rw [← Int.natCast_mul, ha0]
        generalize Y * w = p at *
        rw [wr (x := (p : Int)) (by omega) (by omega), wr (by omega) (by omega)]
        rfl
      refine Ev.congr (fun k => hF2 k) ?_
      refine Ev.step (f := fun k => (Bv.f k w h l (a0 : Int) near).bind fun bt120 => ((Ao.f k bt120.1 bt120.2.1 bt120.2.2 (cN [a0]) ways).bind fun bt128 => (some (bt128.1, bt128.2, 0)))) (fun k => ?_) ?_
      · rw [Ay.j0, if_neg (by rw [decide_eq_false (show ¬ (Y : Int) ≥ (h : Int) from c5)]; decide), if_neg c6, hwat.out]
        rfl
      · refine Ev.bind halike ?_
        exact Ev.bind (a := (cN q, st)) hwk (Ev.now _)
theorem u32_all {l : List Int} (hw : ∀ x ∈ l, (Lit.int .u32 x).wf = true) : ∀ x ∈ l, 0 ≤ x ∧ x < 4294967296 := by
  intro x hx
  have h := hw x hx
  have h : IntKind.u32.min ≤ x ∧ x ≤ IntKind.u32.max := by simpa [Lit.wf] using h
  rw [show IntKind.u32.min = 0 from rfl, show IntKind.u32.max = 4294967295 from rfl] at h
  omega
theorem ints_self (l : List Int) (hl : l.length ≤ 65536) : Ev (fun k => Ap.f k l l) true := by
  have h : ∀ d i, i + d = l.length → Ev (fun k => Ap.l0 k l l (i : Nat)) true := by
    intro d
    induction d with
    | zero =>
      intro i hi
      refine Ev.step (f := fun _ => some true) (fun k => ?_) (Ev.now _)
      rw [Ap.l0, if_neg (by omega)]
    | succ d ih =>
      intro i hi
      refine Ev.step (fun k => ?_) (ih (i + 1) (by omega))
      rw [Ap.l0, if_pos (by omega), if_pos (by omega), if_pos (by omega), if_pos rfl, wr1 i (by omega)]
  refine Ev.congr (f := fun k => Ap.l0 k l l 0) (fun k => ?_) (h l.length 0 (by omega))
  unfold Ap.f
  rw [if_pos rfl]
theorem law (a b : Int) (l : List Int) (x y near ways : Int) (_ : (Lit.int .i64 a).wf = true) (_ : (Lit.int .i64 b).wf = true) (hw : ∀ x ∈ l, (Lit.int .u32 x).wf = true) (hz : l.length * 4 ≤ 140737488351232) (_ : (Lit.int .i64 x).wf = true) (_ : (Lit.int .i64 y).wf = true) (_ : (Lit.int .i64 near).wf = true) (_ : (Lit.int .i64 ways).wf = true) : ∃ k, Cn.f k a b l x y near ways = some true := by
  obtain ⟨t1, b2, t2, h1, h2, h3⟩ := flood_same a b l x y near ways (u32_all hw)
  refine Ev.rounds ?_
  unfold Cn.f
  simp only [if_pos hz]
  refine Ev.bind known_true ?_
  simp only [if_true]
  refine Ev.bind h2 ?_
  rw [h1]
  simp only [Option.bind_some, if_true]
  exact Ev.bind (a := true) (ints_self t1 h3) (Ev.now _)
end LO
end Go.Proofs.Yteamphcehoaleaa

