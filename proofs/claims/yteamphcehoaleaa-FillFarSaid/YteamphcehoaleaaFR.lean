import Derived.Test.YteamphcehoaleaaM8
import Derived.Test.YteamphcehoaleaaMK
import Derived.Test.YteamphcehoaleaaRTFF
import Derived.Test.YteamphcehoaleaaPFFx2
set_option linter.unusedVariables false
set_option linter.unusedSimpArgs false
open Go Go.RowKit Go.Proofs.YteamphcehoaleaaW.PrintWords
namespace Go.Proofs.Yteamphcehoaleaa
open PFA PFK PFF FM NR SQR
namespace FAR
structure Best (l : List Bool) (w i u : Nat) (s m q : Int) : Prop where
  s : LeastP (fun t => inM l t ∧ t < u) (fun t => ad (t % w) (i % w) + ad (t / w) (i / w)) s
  m : LeastP (fun t => inM l t ∧ t < u) (fun t => max (ad (t % w) (i % w)) (ad (t / w) (i / w))) m
  q : LeastP (fun t => inM l t ∧ t < u) (sqD w i) q
theorem LeastP.next {l : List Bool} {d : Nat → Nat} {u : Nat} {v : Int} (L : LeastP (fun t => inM l t ∧ t < u) d v) (hu : inM l u) : LeastP (fun t => inM l t ∧ t < u + 1) d (if v < 0 then (d u : Int) else if (d u : Int) < v then (d u : Int) else v) := by
  refine (L.more (Q := fun t => t = u) (s0 := u) rfl (fun t ht => by rw [ht]; exact Nat.le_refl _)).congr fun t => ?_
  constructor
  · rintro (⟨a, b⟩ | rfl)
    · exact ⟨a, by omega⟩
    · exact ⟨hu, by omega⟩
  · rintro ⟨a, b⟩
    by_cases e : t = u
    · exact .inr e
    · exact .inl ⟨a, by omega⟩
theorem LeastP.same {l : List Bool} {d : Nat → Nat} {u : Nat} {v : Int} (L : LeastP (fun t => inM l t ∧ t < u) d v) (hu : ¬ inM l u) : LeastP (fun t => inM l t ∧ t < u + 1) d v := by
  refine L.congr fun t => ⟨fun h => ⟨h.1, by have := h.2; omega⟩, fun h => ⟨h.1, ?_⟩⟩
  have : t ≠ u := fun e => hu (by rw [← e]; exact h.1)
  have := h.2
  omega
theorem LeastP.full {l : List Bool} {d : Nat → Nat} {u : Nat} {v : Int} (L : LeastP (fun t => inM l t ∧ t < u) d v) (hu : l.length ≤ u) : LeastP (inM l) d v :=
  L.congr fun t => ⟨fun h => h.1, fun h => ⟨h, by have := h.1; omega⟩⟩
theorem sign {P : Nat → Prop} {d e : Nat → Nat} {a b : Int} (A : LeastP P d a) (B : LeastP P e b) : a < 0 ↔ b < 0 := by
  rcases A with ⟨a1, a2⟩ | ⟨s, s1, s2, s3⟩
  · rcases B with ⟨b1, _⟩ | ⟨t, t1, _, _⟩
    · omega
    · exact absurd t1 (a2 t)
  · rcases B with ⟨b1, b2⟩ | ⟨t, t1, t2, t3⟩
    · exact absurd s1 (b2 s)
    · omega
theorem abs_ad (a b : Nat) (ha : a ≤ 65536) (hb : b ≤ 65536) : mx (wrap64 ((a : Int) - (b : Int))) (wrap64 (-(wrap64 ((a : Int) - (b : Int))))) = ((ad b a : Nat) : Int) := by
  rw [wr (x := (a : Int) - b) (by omega) (by omega), wr (by omega) (by omega)]
  unfold mx ad
  split <;> omega
theorem tm (i w : Nat) : Int.tmod (i : Int) (w : Int) = ((i % w : Nat) : Int) := by rw [Int.tmod_eq_emod_of_nonneg (by omega)]; rfl
theorem td (i w : Nat) (h : i ≤ 65536) : wrap64 (Int.tdiv (i : Int) (w : Int)) = ((i / w : Nat) : Int) := by
  have h1 : Int.tdiv (i : Int) (w : Int) = ((i / w : Nat) : Int) := by rw [Int.tdiv_eq_ediv_of_nonneg (by omega)]; rfl
  have h2 : i / w ≤ i := Nat.div_le_self _ _
  rw [h1]
  generalize i / w = z at *
  exact wr (by omega) (by omega)
theorem wadd (a b : Nat) (ha : a ≤ 4194304) (hb : b ≤ 4194304) : wrap64 ((a : Int) + (b : Int)) = ((a + b : Nat) : Int) := by
  rw [wr (by omega) (by omega)]; rfl
theorem wmul (a : Nat) (ha : a ≤ 1024) : wrap64 ((a : Int) * (a : Int)) = ((a * a : Nat) : Int) := by
  have := Nat.mul_le_mul ha ha
  rw [← Int.natCast_mul]
  generalize a * a = p at *
  exact wr (by omega) (by omega)
theorem mxx (a b : Nat) : mx (a : Int) (b : Int) = ((max a b : Nat) : Int) := by unfold mx; split <;> omega
theorem mnn (v d : Int) (hv : ¬ v < 0) : mn v d = (if v < 0 then d else if d < v then d else v) := by rw [if_neg hv]; unfold mn; split <;> (first | omega | (split <;> omega))
theorem mns (d : Int) : mn d d = d := by unfold mn; split <;> rfl
theorem wmul2 (a b : Nat) (ha : a ≤ 4194304) (hb : b ≤ 4194304) : wrap64 ((a : Int) * (b : Int)) = ((a * b : Nat) : Int) := by
  have := Nat.mul_le_mul ha hb
  rw [← Int.natCast_mul]
  generalize a * b = p at *
  exact wr (by omega) (by omega)
theorem nums (p1 p2 q1 q2 r1 r2 : Nat) (X : Option Bool) (zx : r1 * r1 + r2 * r2 ≤ p1 * p1 + p2 * p2) (zy : r1 * r1 + r2 * r2 ≤ q1 * q1 + q2 * q2) (yz : max q1 q2 ≤ max r1 r2) (bx : p1 + p2 ≤ 2048) (by1 : q1 ≤ 1024) (by2 : q2 ≤ 1024) :
    (if ((r1 * r1 + r2 * r2 : Nat) : Int) > wrap64 (((p1 + p2 : Nat) : Int) * ((p1 + p2 : Nat) : Int)) then some false else if ((r1 * r1 + r2 * r2 : Nat) : Int) < wrap64 (((max q1 q2 : Nat) : Int) * ((max q1 q2 : Nat) : Int)) then some false else if ((r1 * r1 + r2 * r2 : Nat) : Int) > wrap64 ((wrap64 (2 * ((max q1 q2 : Nat) : Int))) * ((max q1 q2 : Nat) : Int)) then some false else X) = X := by
  have k1 : p1 * p1 + p2 * p2 ≤ (p1 + p2) * (p1 + p2) := by
    rw [Nat.add_mul, Nat.mul_add, Nat.mul_add]; omega
  have k2 : max q1 q2 * max q1 q2 ≤ r1 * r1 + r2 * r2 := by
    have e1 : max q1 q2 * max q1 q2 ≤ max r1 r2 * max r1 r2 := Nat.mul_le_mul yz yz
    rcases Nat.le_total r1 r2 with g | g
    · rw [Nat.max_eq_right g] at e1; omega
    · rw [Nat.max_eq_left g] at e1; omega
  have k3 : q1 * q1 + q2 * q2 ≤ (2 * max q1 q2) * max q1 q2 := by
    have e1 : q1 * q1 ≤ max q1 q2 * max q1 q2 := Nat.mul_le_mul (Nat.le_max_left _ _) (Nat.le_max_left _ _)
    have e2 : q2 * q2 ≤ max q1 q2 * max q1 q2 := Nat.mul_le_mul (Nat.le_max_right _ _) (Nat.le_max_right _ _)
    rw [Nat.mul_assoc]
    omega
  have b3 : max q1 q2 ≤ 1024 := by omega
  have w1 : wrap64 (((p1 + p2 : Nat) : Int) * ((p1 + p2 : Nat) : Int)) = (((p1 + p2) * (p1 + p2) : Nat) : Int) := wmul2 _ _ (by omega) (by omega)
  have w2 : wrap64 (((max q1 q2 : Nat) : Int) * ((max q1 q2 : Nat) : Int)) = ((max q1 q2 * max q1 q2 : Nat) : Int) := wmul2 _ _ (by omega) (by omega)
  have w3 : wrap64 (2 * ((max q1 q2 : Nat) : Int)) = ((2 * max q1 q2 : Nat) : Int) := by
    have := wmul2 2 (max q1 q2) (by omega) (by omega)
    exact this
  have w4 : wrap64 (((2 * max q1 q2 : Nat) : Int) * ((max q1 q2 : Nat) : Int)) = ((2 * max q1 q2 * max q1 q2 : Nat) : Int) := wmul2 _ _ (by omega) (by omega)
  rw [w1, w2, w3, w4, if_neg (Int.not_lt.mpr (Int.ofNat_le.mpr (Nat.le_trans zx k1))), if_neg (Int.not_lt.mpr (Int.ofNat_le.mpr k2)), if_neg (Int.not_lt.mpr (Int.ofNat_le.mpr (Nat.le_trans zy k3)))]
section
variable {w h : Nat} {l : List Bool} (H : OKm w h l) (a b q : List Int)
include H
theorem j4_ev (i : Nat) (hi : i < w * h) (hnext : Ev (fun k => Ak.l0 k a b q ((i + 1 : Nat) : Int) w h l) true) (s m v : Int) (Bs : Best l w i (w * h) s m v) :
    Ev (fun k => Ak.j4 k a b q i s m v false w h l) true := by
  have ha := H.a; have h1 := H.w1; have h2 := H.w2; have h4 := H.h2
  have Ls := LeastP.full Bs.s (by rw [H.len]; exact Nat.le_refl _)
  have Lm := LeastP.full Bs.m (by rw [H.len]; exact Nat.le_refl _)
  have Lv := LeastP.full Bs.q (by rw [H.len]; exact Nat.le_refl _)
  have hwi := Aa.mk (wr1 i (show i < 1000000 by omega))
  refine Ev.step (fun k => ?_) hnext
  rw [Ak.j4, if_neg (by decide), hwi.out]
  by_cases c : s ≥ 0
  · rw [if_pos c]
    have hb0 : ∀ t, inM l t → ad (t % w) (i % w) ≤ 1024 ∧ ad (t / w) (i / w) ≤ 1024 := fun t ht => by
      have htN : t < w * h := by rw [← H.len]; exact ht.1
      obtain ⟨p1, p2⟩ := place_lt h1 htN
      obtain ⟨p3, p4⟩ := place_lt h1 hi
      exact ⟨ad_le (by omega) (by omega), ad_le (by omega) (by omega)⟩
    rcases Ls with ⟨e, _⟩ | ⟨x, x1, x2, x3⟩
    · omega
    rcases Lm with ⟨_, e⟩ | ⟨y, y1, y2, y3⟩
    · exact absurd x1 (e x)
    rcases Lv with ⟨_, e⟩ | ⟨z, z1, z2, z3⟩
    · exact absurd x1 (e x)
    have zx := z3 x x1
    have zy := z3 y y1
    have yz := y3 z z1
    obtain ⟨bx1, bx2⟩ := hb0 x x1
    obtain ⟨by1, by2⟩ := hb0 y y1
    subst x2
    subst y2
    subst z2
    exact nums _ _ _ _ _ _ _ zx zy yz (by omega) (by omega) (by omega)
  · rw [if_neg c]
variable (hla : a.length = w * h) (hlb : b.length = w * h) (hlq : q.length = w * h)
  (hA : ∀ k, k < w * h → LeastP (inM l) (fun s => ad (s % w) (k % w) + ad (s / w) (k / w)) (a.getD k 0)) (hB : ∀ k, k < w * h → LeastP (inM l) (fun s => max (ad (s % w) (k % w)) (ad (s / w) (k / w))) (b.getD k 0)) (hQ : ∀ k, k < w * h → LeastP (inM l) (sqD w k) (q.getD k 0))
include H hla hlb hlq hA hB hQ
theorem l1_ev (i : Nat) (hi : i < w * h) (hnext : Ev (fun k => Ak.l0 k a b q ((i + 1 : Nat) : Int) w h l) true) : ∀ d u, u + d = w * h → ∀ s m v, Best l w i u s m v → Ev (fun k => Ak.l1 k a b q i s m v (u : Int) w h l) true := by
  have ha := H.a; have h1 := H.w1; have h2 := H.w2; have h4 := H.h2
  intro d
  induction d with
  | zero =>
    intro u hu s m v B
    obtain rfl : u = w * h := by omega
    have es : a.getD i 0 = s := (hA i hi).unique (LeastP.full B.s (by rw [H.len]; exact Nat.le_refl _))
    have em : b.getD i 0 = m := (hB i hi).unique (LeastP.full B.m (by rw [H.len]; exact Nat.le_refl _))
    have ev : q.getD i 0 = v := (hQ i hi).unique (LeastP.full B.q (by rw [H.len]; exact Nat.le_refl _))
    refine Ev.step (fun k => ?_) (j4_ev H a b q i hi hnext s m v B)
    rw [Ak.l1, if_neg (by rw [H.len]; omega), rd_nat, rd_nat, rd_nat, es, em, ev, if_pos (by omega), if_pos (by rw [hla]; omega), if_pos rfl, if_pos (by rw [hlb]; omega), if_pos rfl, if_pos (by rw [hlq]; omega)]
    congr 1
    simp
  | succ d ih =>
    intro u hu s m v B
    have huN : u < w * h := by omega
    obtain ⟨p1, p2⟩ := place_lt h1 huN
    obtain ⟨p3, p4⟩ := place_lt h1 hi
    have hwu := Aa.mk (wr1 u (show u < 1000000 by omega))
    by_cases c : l.getD u false = true
    · have hin : inM l u := ⟨by rw [H.len]; exact huN, c⟩
      have Ns := LeastP.next B.s hin
      have Nm := LeastP.next B.m hin
      have Nq := LeastP.next B.q hin
      have b1 : ad (u % w) (i % w) ≤ 1024 := ad_le (by omega) (by omega)
      have b2 : ad (u / w) (i / w) ≤ 1024 := ad_le (by omega) (by omega)
      have d1 := Aa.mk (abs_ad (i % w) (u % w) (by omega) (by omega))
      have d2 := Aa.mk (abs_ad (i / w) (u / w) (by omega) (by omega))
      have d3 := Aa.mk (td i w (by omega))
      have d4 := Aa.mk (td u w (by omega))
      have hsg1 := sign B.s B.m
      have hsg2 := sign B.s B.q
      have hmul1 := Nat.mul_le_mul b1 b1
      have hmul2 := Nat.mul_le_mul b2 b2
      have hq := ih (u + 1) (by omega) _ _ _ ⟨Ns, Nm, Nq⟩
      refine Ev.step (fun k => ?_) hq
      rw [Ak.l1, if_pos (by rw [H.len]; omega), if_pos (by omega), rdb_nat, if_pos c, if_neg (by omega), hwu.out]
      rw [tm, tm, d3.out, d4.out, d1.out, d2.out]
      unfold sqD
      clear d1 d2 d3 d4 hwu hq Ns Nm Nq ih
      generalize ad (u % w) (i % w) = x at *
      generalize ad (u / w) (i / w) = y at *
      rw [wadd x y (by omega) (by omega), mxx, wmul x b1, wmul y b2, wadd (x * x) (y * y) (by omega) (by omega)]
      by_cases cs : s < 0
      · rw [if_pos cs, mns, mns, mns, if_pos cs, if_pos (hsg1.mp cs), if_pos (hsg2.mp cs)]
      · rw [if_neg cs, mnn s _ cs, mnn m _ (fun h => cs (hsg1.mpr h)), mnn v _ (fun h => cs (hsg2.mpr h))]
    · have hin : ¬ inM l u := fun h => c h.2
      refine Ev.step (fun k => ?_) (ih (u + 1) (by omega) s m v ⟨LeastP.same B.s hin, LeastP.same B.m hin, LeastP.same B.q hin⟩)
      rw [Ak.l1, if_pos (by rw [H.len]; omega), if_pos (by omega), rdb_nat, if_neg c, hwu.out]
theorem l0_ev : ∀ d i, i + d = w * h → Ev (fun k => Ak.l0 k a b q (i : Int) w h l) true := by
  intro d
  induction d with
  | zero =>
    intro i hi
    refine ⟨1, fun k hk => ?_⟩
    obtain ⟨k, rfl⟩ : ∃ q, k = q + 1 := ⟨k - 1, by omega⟩
    show Ak.l0 (k + 1) _ _ _ _ _ _ _ = _
    rw [Ak.l0, if_neg (by rw [H.len]; omega)]
  | succ d ih =>
    intro i hi
    have h0 : ∀ (e : Nat → Nat), LeastP (fun t => inM l t ∧ t < 0) e (-1) := fun e => .inl ⟨rfl, fun s hs => by omega⟩
    have h9 := l1_ev H a b q hla hlb hlq hA hB hQ i (by omega) (ih (i + 1) (by omega)) (w * h) 0 (by omega) (-1) (-1) (-1) ⟨h0 _, h0 _, h0 _⟩
    refine Ev.step (fun k => ?_) h9
    rw [Ak.l0, if_pos (by rw [H.len]; omega)]
    rfl
end
theorem w000 : wrap64 (wrap64 (0 + 0) + 0) = 0 := by unfold wrap64; omega
theorem law (a0 b0 : Int) (l : List Bool) : ∃ k, Ak.f k a0 b0 l = some true := by
  refine Ev.rounds ?_
  have hj : ∀ a0 b0, Ev (fun k => Ak.j0 k true a0 b0 l) true := fun a0 b0 => by
    refine Ev.step (fun k => ?_) (Ev.now true)
    rw [Ak.j0, if_pos rfl]
  unfold Ak.f
  refine Ev.bind known_true ?_
  simp only [if_true]
  rcases RTFF.right_cases a0 b0 l 4 with h0 | ⟨h0, w, h, rfl, rfl, H, _⟩
  · rw [h0]
    exact hj _ _
  rw [h0]
  simp only [Option.bind_some, if_true]
  by_cases c : (l.length : Int) > 400
  · rw [decide_eq_true c]; exact hj _ _
  rw [decide_eq_false c]
  obtain ⟨a, a1, a2, alo, a3⟩ := away_val H 4 (.inl rfl)
  obtain ⟨b, b1, b2, blo, b3⟩ := away_val H 8 (.inr rfl)
  obtain ⟨q, q1, q2, q3⟩ := square_val H
  have hA := (away_least H a (fun k _ => alo k)).1 a3
  have hB := (away_least H b (fun k _ => blo k)).2 b3
  refine Ev.step (f := fun k => _) (fun k => by rw [Ak.j0, if_neg (by decide), a1, b1]) ?_
  simp only [Option.bind_some]
  refine Ev.bind q1 ?_
  simp only [Aw.f, Option.bind_some]
  refine Ev.congr (f := fun k => Ak.j1 k a b q false w h l) (fun k => by rw [if_pos w000, if_pos (by rw [a2, H.len]), if_pos (by rw [b2, H.len]), q2, H.len]; congr 1; simp) ?_
  refine Ev.step (fun k => ?_) (l0_ev H a b q a2 b2 q2 hA hB q3 (w * h) 0 (by omega))
  rw [Ak.j1, if_neg (by decide)]
  rfl
end FAR
end Go.Proofs.Yteamphcehoaleaa

