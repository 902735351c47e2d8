import Derived.Test.YteamphcehoaleaaZM6
import Derived.Test.YteamphcehoaleaaZMK
import Derived.Test.YteamphcehoaleaaZNBFW
import Derived.Test.YteamphcehoaleaaZPFWx2
set_option linter.unusedVariables false
set_option linter.unusedSimpArgs false
open Go Go.RowKit Go.Proofs.YteamphcehoaleaaW.PrintWords
namespace Go.Proofs.Yteamphcehoaleaa
open PFA PFK PFW FM NR
namespace WH
structure OKp (w h : Nat) (l : List Int) : Prop where
  w1 : 1 ≤ w
  w2 : w ≤ 1024
  h1 : 1 ≤ h
  h2 : h ≤ 1024
  a : w * h ≤ 65536
  len : l.length = w * h
theorem check_cases (a b : Int) (l : List Int) : (∃ e, Db.f a b l = some e ∧ e ≠ 0) ∨ (Db.f a b l = some 0 ∧ Cg.f a b l = some 0 ∧ ∃ w h : Nat, a = w ∧ b = h ∧ OKp w h l) := by
  unfold Db.f Da.f Cg.f Cq.f
  by_cases c1 : a ≥ 1
  · by_cases c3 : b ≥ 1
    · by_cases c2 : a ≤ 1024
      · by_cases c4 : b ≤ 1024
        · rw [if_pos c1, if_pos c2, if_pos c3, if_pos c4]
          obtain ⟨w, rfl⟩ := Int.eq_ofNat_of_zero_le (show 0 ≤ a by omega)
          obtain ⟨h, rfl⟩ := Int.eq_ofNat_of_zero_le (show 0 ≤ b by omega)
          have hwh : w * h ≤ 1024 * 1024 := Nat.mul_le_mul (by omega) (by omega)
          have e : wrap64 ((w : Int) * h) = ((w * h : Nat) : Int) := by
            rw [← Int.natCast_mul]
            generalize w * h = p at *
            unfold wrap64; omega
          rw [e]
          simp only [Option.bind_some]
          by_cases c5 : ((w * h : Nat) : Int) ≤ 65536
          · rw [if_pos (decide_eq_true c5)]
            by_cases c6 : (l.length : Int) = ((w * h : Nat) : Int)
            · rw [if_pos c6]
              exact .inr ⟨rfl, rfl, w, h, rfl, rfl, ⟨by omega, by omega, by omega, by omega, by omega, by omega⟩⟩
            · rw [if_neg c6]
              exact .inl ⟨51, rfl, by decide⟩
          · rw [if_neg (by rw [decide_eq_false c5]; decide)]
            exact .inl ⟨50, rfl, by decide⟩
        · rw [if_pos c1, if_pos c2, if_pos c3, if_neg c4]; exact .inl ⟨50, rfl, by decide⟩
      · rw [if_pos c1, if_pos c3, if_neg c2]; exact .inl ⟨50, rfl, by decide⟩
    · rw [if_pos c1, if_neg c3]; exact .inl ⟨50, rfl, by decide⟩
  · rw [if_neg c1]; exact .inl ⟨50, rfl, by decide⟩
theorem key_eq (x : Int) (h0 : 0 ≤ x) (h1 : x < 4294967296) : Ck.f x = C5.f x := by
  unfold Ck.f C5.f
  have e1 : wrap64 x = x := wr (by omega) (by omega)
  rw [e1]
  by_cases c : x < 2147483648
  · rw [if_pos c, if_pos c, wr (by omega) (by omega)]
  · rw [if_neg c, if_neg c, wr (by omega) (by omega)]
theorem apart_eq (x y : Int) (h0 : 0 ≤ x ∧ x < 4294967296) (h1 : 0 ≤ y ∧ y < 4294967296) : Cs.f x y = Cw.f x y := by
  unfold Cs.f Cw.f
  rw [key_eq x h0.1 h0.2, key_eq y h1.1 h1.2]
theorem mayF_eq (l : List Int) (i k : Nat) (tol : Int) (hb : ∀ x ∈ l, 0 ≤ x ∧ x < 4294967296) (hi : i < l.length) (hk : k < l.length) : ∃ d, Cs.f (l.getD i 0) (l.getD k 0) = some d ∧ decide (mx d (wrap64 (-d)) ≤ tol) = mayF l i tol k := by
  have hg : ∀ j, j < l.length → 0 ≤ l.getD j 0 ∧ l.getD j 0 < 4294967296 := fun j hj => by
    rw [List.getD_eq_getElem?_getD, List.getElem?_eq_getElem hj]
    exact hb _ (List.getElem_mem _)
  obtain ⟨d, hd⟩ := apart_some (l.getD i 0) (l.getD k 0)
  refine ⟨d, by rw [apart_eq _ _ (hg i hi) (hg k hk)]; exact hd, ?_⟩
  unfold mayF
  rw [hd]
  have e : mx d (wrap64 (-d)) = max d (wrap64 (-d)) := by unfold mx; split <;> omega
  rw [e]
theorem alike_l0 (l : List Int) (N : Nat) (hN : N ≤ 65536) (hl : l.length = N) (hb : ∀ x ∈ l, 0 ≤ x ∧ x < 4294967296) (at_ : Nat) (hat : at_ < N) (tol w h a b : Int) : ∀ d i, i + d = N →
    Ev (fun k => Bs.l0 k (at_ : Int) tol (i : Nat) a b l w h (outOf N (mayF l at_ tol) i)) (w, h, outOf N (mayF l at_ tol) N) := by
  intro d
  induction d with
  | zero =>
    intro i hi
    obtain rfl : i = N := by omega
    refine ⟨1, fun k hk => ?_⟩
    obtain ⟨k, rfl⟩ : ∃ q, k = q + 1 := ⟨k - 1, by omega⟩
    show Bs.l0 (k + 1) _ _ _ _ _ _ _ _ _ = _
    rw [Bs.l0, if_neg (by omega)]
  | succ d ih =>
    intro i hi
    refine Ev.step (fun k => ?_) (ih (i + 1) (by omega))
    obtain ⟨d', h1, h2⟩ := mayF_eq l at_ i tol hb (by omega) (by omega)
    have hol := outOf_len N (mayF l at_ tol) i
    rw [Bs.l0, if_pos (by omega), if_pos (by omega), if_pos (by omega), if_pos (by omega), rd_nat, rd_nat, h1, Option.bind_some, if_pos (by rw [hol]; omega), h2, wr1 i (by omega), Int.toNat_natCast, outOf_set N _ i (by omega)]
def T (st : List Int) (q : List Nat) (i : Nat) (t : List Int) : Prop := t.length = st.length ∧ ∀ k, k < st.length → t.getD k 0 = if k ∈ q.take i then st.getD k 0 + 1 else 0
def LV (st : List Int) (q ns : List Nat) (i u : Nat) (v : Int) : Prop :=
  (v = 0 ∧ ∀ n ∈ ns.take u, n ∉ q.take i) ∨ ((∃ n ∈ ns.take u, n ∈ q.take i ∧ v = st.getD n 0 + 1) ∧ ∀ n ∈ ns.take u, n ∈ q.take i → v ≤ st.getD n 0 + 1)
theorem take_mem {q : List Nat} {i x : Nat} : x ∈ q.take i ↔ ∃ r, r < i ∧ r < q.length ∧ q.getD r 0 = x := by
  constructor
  · intro h
    obtain ⟨r, hr, e⟩ := mem_qget _ x h
    rw [List.length_take] at hr
    refine ⟨r, by omega, by omega, ?_⟩
    rw [← e, List.getD_eq_getElem?_getD, List.getD_eq_getElem?_getD, List.getElem?_take, if_pos (by omega)]
  · rintro ⟨r, h1, h2, rfl⟩
    have : q.getD r 0 = (q.take i).getD r 0 := by rw [List.getD_eq_getElem?_getD, List.getD_eq_getElem?_getD, List.getElem?_take, if_pos h1]
    rw [this]
    exact qget_mem _ r (by rw [List.length_take]; omega)
theorem nodup_get {q : List Nat} (hn : q.Nodup) {a b : Nat} (ha : a < q.length) (hb : b < q.length) (e : q.getD a 0 = q.getD b 0) : a = b := by
  rw [List.getD_eq_getElem?_getD, List.getD_eq_getElem?_getD, List.getElem?_eq_getElem ha, List.getElem?_eq_getElem hb] at e
  have e2 : q[a] = q[b] := e
  have hp := List.pairwise_iff_getElem.mp hn
  rcases Nat.lt_trichotomy a b with h | h | h
  · exact absurd e2 (hp a b ha hb h)
  · exact h
  · exact absurd e2.symm (hp b a hb ha h)
theorem rd_map (ns : List Nat) (u : Nat) (h : u < ns.length) : rd (ns.map (fun n : Nat => (n : Int))) (u : Int) = ((ns.getD u 0 : Nat) : Int) := by
  rw [rd_nat, List.getD_eq_getElem?_getD, List.getD_eq_getElem?_getD, List.getElem?_map, List.getElem?_eq_getElem h]; rfl
theorem take_snoc' (ns : List Nat) (u : Nat) (h : u < ns.length) : ns.take (u + 1) = ns.take u ++ [ns.getD u 0] := by
  rw [List.take_succ_eq_append_getElem h, List.getD_eq_getElem?_getD, List.getElem?_eq_getElem h]; rfl
structure Ctx (w h : Nat) (ways : Int) (may ms : Nat → Bool) (a0 : Nat) (st : List Int) (q : List Nat) (po : List Int) (pn : Int) (l : List Int) : Prop where
  ok : OKp w h l
  a0N : a0 < w * h
  B : BI (w * h) (nbs w h ways) may [a0] q.length st q
  m0 : may a0 = true
  C : CI (w * h) (nbs w h ways) ms (w * h) po pn
  e : ∀ k, k < w * h → ms k = may k
  K : ∀ a b, a < w * h → b < w * h → 0 < po.getD a 0 → po.getD a 0 = po.getD b 0 → (a ∈ q ↔ b ∈ q)
variable {w h : Nat} {ways : Int} {may ms : Nat → Bool} {a0 : Nat} {st : List Int} {q : List Nat} {po : List Int} {pn : Int} {l : List Int}
theorem Ctx.first (X : Ctx w h ways may ms a0 st q po pn l) : 0 < q.length ∧ q.getD 0 0 = a0 := by
  obtain ⟨r, hr⟩ := X.B.pre
  rw [hr]
  simp
theorem Ctx.may_q (X : Ctx w h ways may ms a0 st q po pn l) (p : Nat) (hp : p < q.length) : may (q.getD p 0) = true := by
  rcases Nat.eq_zero_or_pos p with e | e
  · rw [e, X.first.2]; exact X.m0
  · exact (X.B.par p hp (by simp only [List.length_singleton]; omega)).1
theorem Ctx.part (X : Ctx w h ways may ms a0 st q po pn l) : ∀ p, p < q.length → po.getD (q.getD p 0) 0 = po.getD a0 0 := by
  intro p
  induction p using Nat.strongRecOn with
  | _ p ih =>
    intro hp
    rcases Nat.eq_zero_or_pos p with e | e
    · rw [e, X.first.2]
    · obtain ⟨m1, o, ho, _, hn, _⟩ := X.B.par p hp (by simp only [List.length_singleton]; omega)
      have hoN := X.B.lt _ (qget_mem q o (by omega))
      have hm := X.may_q o (by omega)
      have hpN := X.B.lt _ (qget_mem q p hp)
      rw [X.C.nbr _ hoN _ hn ((X.e _ hoN).trans hm) ((X.e _ hpN).trans m1) (X.C.all _ hoN hoN ((X.e _ hoN).trans hm))]
      exact ih o ho (by omega)
theorem Ctx.lo (X : Ctx w h ways may ms a0 st q po pn l) (p : Nat) (hp : p < q.length) : 0 ≤ st.getD (q.getD p 0) 0 ∧ st.getD (q.getD p 0) 0 ≤ p := BI.step_le X.B p hp
theorem Ctx.pos (X : Ctx w h ways may ms a0 st q po pn l) (p : Nat) (hp : p < q.length) : st.getD (q.getD p 0) 0 = 0 ↔ p = 0 := by
  constructor
  · intro e
    rcases Nat.eq_zero_or_pos p with h0 | h0
    · exact h0
    · obtain ⟨_, o, ho, _, _, he⟩ := X.B.par p hp (by simp only [List.length_singleton]; omega)
      have := (X.lo o (by omega)).1
      omega
  · intro e
    rw [e, X.first.2]
    exact X.B.zero a0 (by simp)
theorem Ctx.lv_end (X : Ctx w h ways may ms a0 st q po pn l) (i : Nat) (hi : i < q.length) (v : Int) (L : LV st q (nbs w h ways (q.getD i 0)) i (nbs w h ways (q.getD i 0)).length v) : v = st.getD (q.getD i 0) 0 := by
  have hw := X.ok.w1
  have hiN := X.B.lt _ (qget_mem q i hi)
  have hlow : ∀ n ∈ nbs w h ways (q.getD i 0), n ∈ q.take i → st.getD (q.getD i 0) 0 ≤ st.getD n 0 + 1 := fun n hn hm => by
    obtain ⟨r, r1, r2, r3⟩ := take_mem.mp hm
    have := (X.B.done r r2 r2 (q.getD i 0) (by rw [r3]; exact nbs_sym hw _ hiN n hn) (X.may_q i hi)).2
    rw [r3] at this
    exact this
  unfold LV at L
  rw [List.take_length] at L
  rcases Nat.eq_zero_or_pos i with e | e
  · subst e
    rcases L with ⟨l1, _⟩ | ⟨⟨n, _, l2, _⟩, _⟩
    · rw [l1, (X.pos 0 hi).mpr rfl]
    · simp at l2
  · obtain ⟨_, o, ho, _, hn, he⟩ := X.B.par i hi (by simp only [List.length_singleton]; omega)
    have hoN := X.B.lt _ (qget_mem q o (by omega))
    have hon := nbs_sym hw _ hoN _ hn
    have hot : q.getD o 0 ∈ q.take i := take_mem.mpr ⟨o, ho, by omega, rfl⟩
    rcases L with ⟨_, l2⟩ | ⟨⟨n, l1, l2, l3⟩, l4⟩
    · exact absurd hot (l2 _ hon)
    · have := l4 _ hon hot
      have := hlow n l1 l2
      omega
theorem Ctx.l1_ev (X : Ctx w h ways may ms a0 st q po pn l) (i : Nat) (hi : i < q.length) (t : List Int) (hT : T st q i t)
    (hnext : ∀ t', T st q (i + 1) t' → Ev (fun k => Ab.l0 k ways (q.map (fun n : Nat => (n : Int))) po t' ((i + 1 : Nat) : Int) w h l) true) :
    ∀ d u v, u + d = (nbs w h ways (q.getD i 0)).length → LV st q (nbs w h ways (q.getD i 0)) i u v →
    Ev (fun k => Ab.l1 k ways (q.map (fun n : Nat => (n : Int))) po t (i : Nat) v ((nbs w h ways (q.getD i 0)).map (fun n : Nat => (n : Int))) (u : Nat) w h l) true := by
  have ha := X.ok.a
  have hw := X.ok.w1
  have hst := X.B.len
  have hqN := nodup_len (w * h) q X.B.nodup X.B.lt
  have hiN := X.B.lt _ (qget_mem q i hi)
  have hle : (nbs w h ways (q.getD i 0)).length ≤ 9 := nbTo_le _ _ _ _ _
  have hrq : ∀ r, r < q.length → rd (q.map (fun n : Nat => (n : Int))) (r : Int) = ((q.getD r 0 : Nat) : Int) := fun r hr => by
    rw [rd_nat, List.getD_eq_getElem?_getD, List.getD_eq_getElem?_getD, List.getElem?_map, List.getElem?_eq_getElem hr]; rfl
  intro d
  induction d with
  | zero =>
    intro u v hu L
    obtain rfl : u = (nbs w h ways (q.getD i 0)).length := by omega
    have hv := X.lv_end i hi v L
    have hlo := X.lo i hi
    have hps := X.pos i hi
    generalize hpp : q.getD i 0 = p at *
    have hp0 : t.getD p 0 = 0 := by
      rw [hT.2 p (by rw [hst]; exact hiN), if_neg]
      intro hm
      obtain ⟨r, r1, r2, r3⟩ := take_mem.mp hm
      have := nodup_get X.B.nodup r2 hi (r3.trans hpp.symm)
      omega
    have hT' : T st q (i + 1) (t.set p (v + 1)) := by
      refine ⟨by rw [List.length_set]; exact hT.1, fun k hk => ?_⟩
      by_cases e : k = p
      · subst e
        rw [FM.getD_set_self _ _ _ (by rw [hT.1]; exact hk), if_pos (take_mem.mpr ⟨i, by omega, hi, hpp⟩), hv]
      · rw [FM.getD_set_ne _ _ _ _ (Ne.symm e), hT.2 k hk]
        by_cases c : k ∈ q.take i
        · obtain ⟨r, r1, r2, r3⟩ := take_mem.mp c
          rw [if_pos c, if_pos (take_mem.mpr ⟨r, by omega, r2, r3⟩)]
        · rw [if_neg c, if_neg]
          intro hm
          obtain ⟨r, r1, r2, r3⟩ := take_mem.mp hm
          by_cases er : r = i
          · rw [er, hpp] at r3; exact e r3.symm
          · exact c (take_mem.mpr ⟨r, by omega, r2, r3⟩)
    have hbool : ((v == 0) != ((i : Int) == 0)) = false := by
      rw [hv]
      by_cases e : i = 0
      · rw [hps.mpr e, e]; rfl
      · have h1 : (st.getD p 0 == 0) = false := by simp; exact fun h => e (hps.mp h)
        have h2 : ((i : Int) == 0) = false := by simp; exact e
        rw [h1, h2]; rfl
    have hwv := Aa.mk (wr (x := v + 1) (by omega) (by omega))
    have hwi := Aa.mk (wr1 i (show i < 1000000 by omega))
    refine Ev.step (fun k => ?_) (hnext _ hT')
    have hri := hrq i hi
    rw [hpp] at hri
    rw [Ab.l1, if_neg (by rw [List.length_map]; omega), if_neg (by rw [hbool]; decide), if_pos (by omega), if_pos (by rw [List.length_map]; omega), hri, if_pos (by omega), if_pos (by rw [hT.1, hst]; omega), Option.bind_some, hwv.out, hwi.out, Int.toNat_natCast]
    by_cases e : i = 0
    · rw [if_neg (by omega)]
    · obtain ⟨j, rfl⟩ : ∃ j, i = j + 1 := ⟨i - 1, by omega⟩
      have hwj : Aa (wrap64 (((j + 1 : Nat) : Int) - 1) = (j : Int)) := ⟨by rw [wr (by omega) (by omega)]; omega⟩
      have hjN := X.B.lt _ (qget_mem q j (by omega))
      have hrj := hrq j (by omega)
      have hjt : (t.set p (v + 1)).getD (q.getD j 0) 0 = st.getD (q.getD j 0) 0 + 1 := by
        rw [hT'.2 _ (by rw [hst]; exact hjN), if_pos (take_mem.mpr ⟨j, by omega, by omega, rfl⟩)]
      have hpt : (t.set p (v + 1)).getD p 0 = st.getD p 0 + 1 := by
        rw [FM.getD_set_self _ _ _ (by rw [hT.1, hst]; exact hiN), hv]
      have hmono := X.B.mono j (j + 1) (by omega) hi
      rw [hpp] at hmono
      rw [if_pos (by omega), hwj.out, hrj, if_pos (by omega), if_pos (by rw [List.length_map]; omega), if_pos (by omega), if_pos (by rw [hT.1, hst]; omega), rd_nat, rd_nat, hjt, hpt, if_neg (by omega)]
  | succ d ih =>
    intro u v hu L
    have hu1 : u < (nbs w h ways (q.getD i 0)).length := by omega
    obtain ⟨n, hn⟩ : ∃ n, n = (nbs w h ways (q.getD i 0)).getD u 0 := ⟨_, rfl⟩
    have hnm : n ∈ nbs w h ways (q.getD i 0) := by rw [hn]; exact qget_mem _ u hu1
    have hnN : n < w * h := nbs_lt hw hiN n hnm
    have hrd : rd ((nbs w h ways (q.getD i 0)).map (fun n : Nat => (n : Int))) (u : Int) = (n : Int) := by
      rw [rd_map _ u hu1, hn]
    have htk : (nbs w h ways (q.getD i 0)).take (u + 1) = (nbs w h ways (q.getD i 0)).take u ++ [n] := by
      rw [take_snoc' _ u hu1, hn]
    have hwu := Aa.mk (wr1 u (show u < 1000000 by omega))
    have htn := hT.2 n (by rw [hst]; exact hnN)
    by_cases c : n ∈ q.take i
    · obtain ⟨r, r1, r2, r3⟩ := take_mem.mp c
      have hlo := X.lo r r2
      rw [r3] at hlo
      rw [if_pos c] at htn
      have L' : LV st q (nbs w h ways (q.getD i 0)) i (u + 1) (if v = 0 then st.getD n 0 + 1 else if st.getD n 0 + 1 < v then st.getD n 0 + 1 else v) := by
        unfold LV at L ⊢
        rw [htk]
        rcases L with ⟨l1, l2⟩ | ⟨⟨x, l1, l2, l3⟩, l4⟩
        · rw [if_pos l1]
          refine .inr ⟨⟨n, by simp, c, rfl⟩, fun y hy hy2 => ?_⟩
          rcases List.mem_append.mp hy with hy | hy
          · exact absurd hy2 (l2 y hy)
          · rw [List.mem_singleton.mp hy]; exact Int.le_refl _
        · obtain ⟨r', r1', r2', r3'⟩ := take_mem.mp l2
          have hlx := X.lo r' r2'
          rw [r3'] at hlx
          rw [if_neg (by omega)]
          by_cases c2 : st.getD n 0 + 1 < v
          · rw [if_pos c2]
            refine .inr ⟨⟨n, by simp, c, rfl⟩, fun y hy hy2 => ?_⟩
            rcases List.mem_append.mp hy with hy | hy
            · have := l4 y hy hy2; omega
            · rw [List.mem_singleton.mp hy]; exact Int.le_refl _
          · rw [if_neg c2]
            refine .inr ⟨⟨x, List.mem_append_left _ l1, l2, l3⟩, fun y hy hy2 => ?_⟩
            rcases List.mem_append.mp hy with hy | hy
            · exact l4 y hy hy2
            · rw [List.mem_singleton.mp hy]; omega
      refine Ev.step (fun k => ?_) (ih (u + 1) _ (by omega) L')
      rw [Ab.l1, if_pos (by rw [List.length_map]; omega), if_pos (by omega), hrd, if_pos (by omega), if_pos (by rw [hT.1, hst]; omega), rd_nat, htn, if_pos (by omega), hwu.out]
      by_cases cv : v = 0
      · rw [if_pos cv, if_pos cv]
      · rw [if_neg cv, if_neg cv]
        by_cases c2 : st.getD n 0 + 1 < v
        · rw [if_pos c2, if_pos c2]
        · rw [if_neg c2, if_neg c2]
    · rw [if_neg c] at htn
      have L' : LV st q (nbs w h ways (q.getD i 0)) i (u + 1) v := by
        unfold LV at L ⊢
        rw [htk]
        rcases L with ⟨l1, l2⟩ | ⟨⟨x, l1, l2, l3⟩, l4⟩
        · refine .inl ⟨l1, fun y hy => ?_⟩
          rcases List.mem_append.mp hy with hy | hy
          · exact l2 y hy
          · rw [List.mem_singleton.mp hy]; exact c
        · refine .inr ⟨⟨x, List.mem_append_left _ l1, l2, l3⟩, fun y hy hy2 => ?_⟩
          rcases List.mem_append.mp hy with hy | hy
          · exact l4 y hy hy2
          · rw [List.mem_singleton.mp hy] at hy2; exact absurd hy2 c
      refine Ev.step (fun k => ?_) (ih (u + 1) v (by omega) L')
      rw [Ab.l1, if_pos (by rw [List.length_map]; omega), if_pos (by omega), hrd, if_pos (by omega), if_pos (by rw [hT.1, hst]; omega), rd_nat, htn, if_neg (by omega), hwu.out]
theorem Ctx.l2_ev (X : Ctx w h ways may ms a0 st q po pn l) (t : List Int) (hT : T st q q.length t) : ∀ d j, j + d = w * h → Ev (fun k => Ab.l2 k (q.map (fun n : Nat => (n : Int))) po t (j : Nat)) true := by
  have ha := X.ok.a
  have hst := X.B.len
  have hpl := X.C.len
  obtain ⟨f1, f2⟩ := X.first
  intro d
  induction d with
  | zero =>
    intro j hj
    refine ⟨1, fun k hk => ?_⟩
    obtain ⟨k, rfl⟩ : ∃ q, k = q + 1 := ⟨k - 1, by omega⟩
    show Ab.l2 (k + 1) _ _ _ _ = _
    rw [Ab.l2, if_neg (by omega)]
  | succ d ih =>
    intro j hj
    have hr0 : rd (q.map (fun n : Nat => (n : Int))) 0 = ((a0 : Nat) : Int) := by
      have : rd (q.map (fun n : Nat => (n : Int))) ((0 : Nat) : Int) = ((q.getD 0 0 : Nat) : Int) := by
        rw [rd_nat, List.getD_eq_getElem?_getD, List.getD_eq_getElem?_getD, List.getElem?_map, List.getElem?_eq_getElem f1]; rfl
      rw [f2] at this
      exact this
    have h0N := X.a0N
    have hwj := Aa.mk (wr1 j (show j < 1000000 by omega))
    refine Ev.step (fun k => ?_) (ih (j + 1) (by omega))
    rw [Ab.l2, if_pos (by omega), if_pos (by omega), if_pos (by rw [List.length_map]; omega), hr0, if_pos (by omega), if_pos (by omega), rd_nat, rd_nat, rd_nat, hwj.out]
    by_cases c : po.getD j 0 = po.getD a0 0
    · have hpos := X.C.all a0 h0N h0N ((X.e a0 h0N).trans X.m0)
      have hin : j ∈ q := (X.K a0 j h0N (by omega) hpos c.symm).mp (by rw [← f2]; exact qget_mem q 0 f1)
      obtain ⟨r, r1, r2⟩ := mem_qget q j hin
      have hlo := X.lo r r1
      rw [r2] at hlo
      have htj : t.getD j 0 = st.getD j 0 + 1 := by rw [hT.2 j (by omega), if_pos (by rw [List.take_length]; exact hin)]
      rw [if_pos c, if_pos (by rw [hT.1, hst]; omega), htj, if_neg (by omega)]
    · rw [if_neg c]
theorem Ctx.l0_ev (X : Ctx w h ways may ms a0 st q po pn l) : ∀ d i t, i + d = q.length → T st q i t → Ev (fun k => Ab.l0 k ways (q.map (fun n : Nat => (n : Int))) po t (i : Nat) w h l) true := by
  have ha := X.ok.a
  have hw := X.ok.w1; have hw2 := X.ok.w2; have hh2 := X.ok.h2; have hll := X.ok.len
  have hst := X.B.len
  have hpl := X.C.len
  have hqN := nodup_len (w * h) q X.B.nodup X.B.lt
  obtain ⟨f1, f2⟩ := X.first
  have hrq : ∀ r, r < q.length → rd (q.map (fun n : Nat => (n : Int))) (r : Int) = ((q.getD r 0 : Nat) : Int) := fun r hr => by
    rw [rd_nat, List.getD_eq_getElem?_getD, List.getD_eq_getElem?_getD, List.getElem?_map, List.getElem?_eq_getElem hr]; rfl
  have hr0 : rd (q.map (fun n : Nat => (n : Int))) 0 = ((a0 : Nat) : Int) := by
    have := hrq 0 f1
    rw [f2] at this
    exact this
  have h0N := X.a0N
  intro d
  induction d with
  | zero =>
    intro i t hi hT
    obtain rfl : i = q.length := by omega
    have h9 := X.l2_ev t hT (w * h) 0 (by omega)
    refine Ev.step (fun k => ?_) h9
    rw [Ab.l0, if_neg (by rw [List.length_map]; omega)]
    rfl
  | succ d ih =>
    intro i t hi hT
    have hiq : i < q.length := by omega
    have hiN := X.B.lt _ (qget_mem q i hiq)
    have hl1 := X.l1_ev i hiq t hT (fun t' hT' => ih (i + 1) t' (by omega) hT') (nbs w h ways (q.getD i 0)).length 0 0 (by omega) (.inl ⟨rfl, fun n hn => by simp at hn⟩)
    rw [show ((0 : Nat) : Int) = 0 from rfl] at hl1
    have hpart := X.part i hiq
    have hri := hrq i hiq
    have hti : t.getD (q.getD i 0) 0 = 0 := by
      rw [hT.2 _ (by rw [hst]; exact hiN), if_neg]
      intro hm
      obtain ⟨r, r1, r2, r3⟩ := take_mem.mp hm
      have := nodup_get X.B.nodup r2 hiq r3
      omega
    have hnb : Ev (fun k => Ao.f k w h ((q.getD i 0 : Nat) : Int) ways) ((nbs w h ways (q.getD i 0)).map (fun q : Nat => (q : Int))) := ⟨16, fun k hk => by
      obtain ⟨k, rfl⟩ : ∃ q, k = q + 16 := ⟨k - 16, by omega⟩
      exact NBFW.neighbours k w h (q.getD i 0) ways hw hw2 hh2 hiN⟩
    have hj3 : Ev (fun k => Ab.j3 k ways (q.map (fun n : Nat => (n : Int))) po t (i : Nat) false w h l) true := by
      refine Ev.step (fun k => ?_) (Ev.bind (f := fun k t1 => Ab.l1 k ways (q.map (fun n : Nat => (n : Int))) po t (i : Nat) 0 t1 0 w h l) hnb hl1)
      rw [Ab.j3, if_neg (by decide), if_pos (by omega), if_pos (by rw [List.length_map]; omega), hri]
    refine Ev.step (fun k => ?_) hj3
    rw [Ab.l0, if_pos (by rw [List.length_map]; omega), if_pos (by omega), hri, hr0, if_neg (by omega), if_neg (by omega), if_pos (by omega), if_pos (by rw [hT.1, hst]; omega), rd_nat, rd_nat, rd_nat, hti, if_neg (by omega), if_pos (by omega), if_pos (by rw [List.length_map]; omega), if_pos (by omega), if_pos (by omega), hpart]
    congr 1
    simp
theorem blank_val {w h : Nat} {l : List Int} (H : OKp w h l) : Bu.f w h = some ((w : Int), (h : Int), List.replicate (w * h) false) := by
  have ha := H.a
  have e : wrap64 ((w : Int) * h) = ((w * h : Nat) : Int) := by
    rw [← Int.natCast_mul]
    exact i64_small _ ha
  unfold Bu.f
  rw [e, Int.toNat_natCast, if_pos (by omega), if_pos (by omega)]
theorem mayF_self (l : List Int) (i : Nat) (tol : Int) (h : 0 ≤ tol) : mayF l i tol i = true := by
  unfold mayF
  obtain ⟨d, hd⟩ := apart_some (l.getD i 0) (l.getD i 0)
  rw [hd]
  have e : d = 0 := by
    unfold Cw.f at hd
    obtain ⟨k1, h1, h2⟩ := Option.bind_eq_some_iff.mp hd
    rw [h1, Option.bind_some] at h2
    have := Option.some.inj h2
    rw [← this, Int.sub_self]
    exact wr (by omega) (by omega)
  rw [e]
  have e2 : wrap64 (-0) = 0 := wr (by omega) (by omega)
  show decide (max (0 : Int) (wrap64 (-0)) ≤ tol) = true
  rw [e2]
  exact decide_eq_true (by simpa using h)
theorem place_mk' {w h x y : Nat} (hx : x < w) (hy : y < h) : w * y + x < w * h := by
  have h1 : w * (y + 1) ≤ w * h := Nat.mul_le_mul_left w hy
  rw [Nat.mul_add, Nat.mul_one] at h1
  omega
theorem flood_cases (a b : Int) (l : List Int) (x y near ways : Int) : (∃ e, e ≠ 0 ∧ Cf.f a b l x y near ways = some ([], e)) ∨
    (∃ w h : Nat, a = w ∧ b = h ∧ OKp w h l ∧ Cg.f a b l = some 0 ∧ ∃ X Y : Nat, x = X ∧ y = Y ∧ X < w ∧ Y < h ∧ 0 ≤ near ∧ (ways = 4 ∨ ways = 8) ∧
      ∃ st q, Cf.f a b l x y near ways = some (q.map (fun n : Nat => (n : Int)), 0) ∧ BI (w * h) (nbs w h ways) (mayF l (Y * w + X) near) [Y * w + X] q.length st q) := by
  rcases check_cases a b l with ⟨e, h1, h2⟩ | ⟨h1, h2, w, h, rfl, rfl, H⟩
  · refine .inl ⟨e, h2, ?_⟩
    unfold Cf.f
    rw [h1, Option.bind_some, if_neg h2]
  · have w1 := H.w1; have w2 := H.w2; have g1 := H.h1; have g2 := H.h2; have hl := H.len
    unfold Cf.f
    rw [h1, Option.bind_some, if_pos rfl]
    by_cases c1 : ways ≠ 4 ∧ ways ≠ 8
    · rw [if_pos c1]; exact .inl ⟨302, by decide, rfl⟩
    rw [if_neg c1]
    by_cases c2 : x < 0
    · rw [if_pos c2]; exact .inl ⟨303, by decide, rfl⟩
    rw [if_neg c2]
    by_cases c3 : y < 0
    · rw [if_pos c3]; exact .inl ⟨303, by decide, rfl⟩
    rw [if_neg c3]
    by_cases c4 : (w : Int) ≤ x
    · rw [if_pos c4]; exact .inl ⟨303, by decide, rfl⟩
    rw [if_neg c4]
    by_cases c5 : (h : Int) ≤ y
    · rw [if_pos c5]; exact .inl ⟨303, by decide, rfl⟩
    rw [if_neg c5]
    by_cases c6 : near < 0
    · rw [if_pos c6]; exact .inl ⟨304, by decide, rfl⟩
    rw [if_neg c6, if_pos ⟨by omega, by omega, by omega, by omega, by simp only [Int.toNat_natCast]; exact hl⟩]
    obtain ⟨X, rfl⟩ := Int.eq_ofNat_of_zero_le (show 0 ≤ x by omega)
    obtain ⟨Y, rfl⟩ := Int.eq_ofNat_of_zero_le (show 0 ≤ y by omega)
    have hw : ways = 4 ∨ ways = 8 := by omega
    have hat : Y * w + X < w * h := by
      have := (place_mk' (w := w) (h := h) (x := X) (y := Y) (by omega) (by omega))
      rw [Nat.mul_comm Y w]
      exact this
    have hnb : ∀ i, i < w * h → ∀ k ∈ nbs w h ways i, k < w * h := fun i hi k hk => nbs_lt w1 hi k hk
    obtain ⟨st, q, e, B⟩ := spread_BI hnb (w * h) (w * h + 1) 0 _ _ (BI_start (N := w * h) (nb := nbs w h ways) (may := mayF l (Y * w + X) near) (src := [Y * w + X]) (by simp) (fun k hk => by rw [List.mem_singleton.mp hk]; exact hat)) (by omega) (by omega)
    refine .inr ⟨w, h, rfl, rfl, H, h2, X, Y, rfl, rfl, by omega, by omega, by omega, hw, st, q, ?_, B⟩
    simp only [Int.toNat_natCast]
    rw [e, Option.bind_some]
theorem law (a b : Int) (l : List Int) (x y near ways : Int) (hb : ∀ v ∈ l, 0 ≤ v ∧ v < 4294967296) : ∃ k, Ab.f k a b l x y near ways = some true := by
  refine Ev.rounds ?_
  unfold Ab.f
  refine Ev.bind known_true ?_
  simp only [if_true]
  rcases flood_cases a b l x y near ways with ⟨e, he, hf⟩ | ⟨w, h, rfl, rfl, H, hmay, X, Y, rfl, rfl, hX, hY, hn, hw, st, q, hf, B⟩
  · rw [hf]
    simp only [Option.bind_some, B3.f]
    exact Ev.congr (f := fun _ => some true) (fun k => by rw [if_neg he]; rfl) (Ev.now true)
  have w1 := H.w1; have w2 := H.w2; have g1 := H.h1; have g2 := H.h2; have ha := H.a; have hl := H.len
  have hat : Y * w + X < w * h := by
    have := (place_mk' (w := w) (h := h) (x := X) (y := Y) (by omega) (by omega))
    rw [Nat.mul_comm Y w]
    exact this
  obtain ⟨a0, ha0⟩ : ∃ z, z = Y * w + X := ⟨_, rfl⟩
  rw [← ha0] at B hat
  have hq0 : 0 < q.length ∧ q.getD 0 0 = a0 := by
    obtain ⟨r, hr⟩ := B.pre
    rw [hr]
    simp
  have hm0 := mayF_self l a0 near hn
  have M : OKm w h (outOf (w * h) (mayF l a0 near) (w * h)) := ⟨w1, w2, g1, g2, ha, outOf_len _ _ _⟩
  have hmget : ∀ k, k < w * h → (outOf (w * h) (mayF l a0 near) (w * h)).getD k false = mayF l a0 near k := fun k hk => by
    rw [outOf_get _ _ _ _ hk, decide_eq_true hk, Bool.true_and]
  obtain ⟨po, pn, p1, p2, A⟩ := parts_val M ways hw
  have hnb : ∀ i, i < w * h → ∀ k ∈ nbs w h ways i, k < w * h := fun i hi k hk => nbs_lt w1 hi k hk
  have C := A.CI hnb (nbs_sym w1) (CI_start _ _ _)
  have hz : ∀ k, (List.replicate (w * h) (0 : Int)).getD k 0 = 0 := fun k => by
    rw [List.getD_eq_getElem?_getD, List.getElem?_replicate]; split <;> rfl
  have hK := A.const (G := fun k => k ∈ q) hnb (fun j hj k hk h1 h2 => by
    have hkN := hnb j hj k hk
    refine propext ⟨fun h => ?_, fun h => ?_⟩
    · obtain ⟨r, r1, r2⟩ := mem_qget q k h
      exact (B.done r r1 r1 j (by rw [r2]; exact nbs_sym w1 j hj k hk) ((hmget j hj).symm.trans h1)).1
    · obtain ⟨r, r1, r2⟩ := mem_qget q j h
      exact (B.done r r1 r1 k (by rw [r2]; exact hk) ((hmget k hkN).symm.trans h2)).1) (by simp) (Int.le_refl _) (fun k hk => by rw [hz]; omega) (fun a b ha hb h1 => by rw [hz] at h1; omega)
  have X0 : Ctx w h ways (mayF l a0 near) (fun k => (outOf (w * h) (mayF l a0 near) (w * h)).getD k false) a0 st q po pn l :=
    ⟨H, hat, B, hm0, C, hmget, fun c d hc hd h1 h2 => by have := hK c d hc hd h1 h2; exact Iff.of_eq this⟩
  rw [hf]
  simp only [Option.bind_some, B3.f, if_true, hmay]
  have hlen : ((q.map (fun n : Nat => (n : Int))).length : Int) = (q.length : Int) := by rw [List.length_map]
  have hr0 : rd (q.map (fun n : Nat => (n : Int))) 0 = ((a0 : Nat) : Int) := by
    have : rd (q.map (fun n : Nat => (n : Int))) ((0 : Nat) : Int) = ((q.getD 0 0 : Nat) : Int) := by
      rw [rd_nat, List.getD_eq_getElem?_getD, List.getD_eq_getElem?_getD, List.getElem?_map, List.getElem?_eq_getElem hq0.1]; rfl
    rw [hq0.2] at this
    exact this
  have hwat : Aa (wrap64 ((wrap64 ((Y : Int) * w)) + X) = (a0 : Int)) := by
    refine ⟨?_⟩
    have h9 : Y * w ≤ 1024 * 1024 := Nat.mul_le_mul (by omega) w2
    rw [← Int.natCast_mul, ha0]
    generalize Y * w = p at *
    rw [wr (x := (p : Int)) (by omega) (by omega), wr (by omega) (by omega)]
    rfl
  have hj0 : Ev (fun k => Ab.j0 k near ways (q.map (fun n : Nat => (n : Int))) false w h l) true := by
    have hal := alike_l0 l (w * h) ha hl hb a0 hat near w h w h (w * h) 0 (by omega)
    rw [outOf_zero, show ((0 : Nat) : Int) = 0 from rfl] at hal
    have halike : Ev (fun k => Bs.f k w h l (a0 : Int) near) ((w : Int), (h : Int), outOf (w * h) (mayF l a0 near) (w * h)) := by
      unfold Bs.f
      rw [blank_val H]
      simp only [Option.bind_some]
      exact hal
    have hT0 : T st q 0 (List.replicate (w * h) 0) := ⟨by rw [List.length_replicate, B.len], fun k hk => by rw [hz]; simp⟩
    have hl0 := X0.l0_ev q.length 0 (List.replicate (w * h) 0) (by omega) hT0
    rw [show ((0 : Nat) : Int) = 0 from rfl] at hl0
    have hj1 : Ev (fun k => Ab.j1 k ways (q.map (fun n : Nat => (n : Int))) po false w h l) true := by
      refine Ev.step (fun k => ?_) hl0
      rw [Ab.j1, if_neg (by decide), hl, Int.toNat_natCast, if_pos (Int.natCast_nonneg _), if_pos (by omega)]
    refine Ev.step (f := fun k => _) (fun k => by rw [Ab.j0, if_neg (by decide), if_pos (by rw [hlen]; omega), hr0]) ?_
    refine Ev.bind halike ?_
    rw [p1]
    simp only [Option.bind_some, B3.f, if_true]
    refine Ev.congr (f := fun k => Ab.j1 k ways (q.map (fun n : Nat => (n : Int))) po false w h l) (fun k => ?_) hj1
    congr 1
    rw [C.len, hl]
    simp
  refine Ev.congr (f := fun k => Ab.j0 k near ways (q.map (fun n : Nat => (n : Int))) false w h l) (fun k => ?_) hj0
  have hne : ((rd (q.map (fun n : Nat => (n : Int))) 0) != (wrap64 ((wrap64 ((Y : Int) * w)) + X))) = false := by rw [hr0, hwat.out]; simp
  rw [if_neg (by omega), if_neg (by omega), if_neg (by omega), if_neg (by omega), if_neg (by omega), hlen, hne]
  rcases hw with e | e
  · rw [if_pos e, if_neg (by omega), if_pos (by omega)]
  · rw [if_neg (by omega), if_pos e, if_neg (by omega), if_pos (by omega)]
theorem u32_all {l : List Int} (hw : ∀ x ∈ l, (Lit.int .u32 x).wf = true) : ∀ x ∈ l, 0 ≤ x ∧ x < 4294967296 := by
  intro x hx
  have h := hw x hx
  have h : IntKind.u32.min ≤ x ∧ x ≤ IntKind.u32.max := by simpa [Lit.wf] using h
  rw [show IntKind.u32.min = 0 from rfl, show IntKind.u32.max = 4294967295 from rfl] at h
  omega
theorem law' (a b : Int) (l : List Int) (x y near ways : Int) (_ : (Lit.int .i64 a).wf = true) (_ : (Lit.int .i64 b).wf = true) (hw : ∀ x ∈ l, (Lit.int .u32 x).wf = true) (_ : (Lit.int .i64 x).wf = true) (_ : (Lit.int .i64 y).wf = true) (_ : (Lit.int .i64 near).wf = true) (_ : (Lit.int .i64 ways).wf = true) : ∃ k, Ab.f k a b l x y near ways = some true := law a b l x y near ways (u32_all hw)
end WH
end Go.Proofs.Yteamphcehoaleaa

