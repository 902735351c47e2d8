import Derived.Test.YtbfimplajocmmaaXM6
import Derived.Test.YtbfimplajocmmaaXMK
import Derived.Test.YtbfimplajocmmaaXLS
set_option linter.unusedVariables false
set_option linter.unusedSimpArgs false
open Go Go.RowKit Go.Proofs.YtbfimplajocmmaaW.PrintWords
namespace Go.Proofs.Ytbfimplajocmmaa
open PFA PFK PFC PFD PFG PFH FM NR
namespace LX
structure OKp (w h : Nat) (l : List Int) : Prop where
  w1 : 1 ≤ w
  w2 : w ≤ 1024
  h1 : 1 ≤ h
  h2 : h ≤ 1024
  a : w * h ≤ 65536
  len : l.length = w * h
theorem plane_cases (a b : Int) (l : List Int) : (∃ e, Cw.f a b l = some e ∧ Cm.f a b l = some e ∧ e ≠ 0) ∨ (Cw.f a b l = some 0 ∧ Cm.f a b l = some 0 ∧ ∃ w h : Nat, a = w ∧ b = h ∧ OKp w h l) := by
  unfold Cw.f Dt.f Cm.f Ci.f
  by_cases c1 : a ≥ 1
  · by_cases c3 : b ≥ 1
    · by_cases c2 : a ≤ 1024
      · by_cases c4 : b ≤ 1024
        · rw [if_pos c1, if_pos c2, if_pos c3, if_pos c4]
          obtain ⟨w, rfl⟩ := Int.eq_ofNat_of_zero_le (show 0 ≤ a by omega); obtain ⟨h, rfl⟩ := Int.eq_ofNat_of_zero_le (show 0 ≤ b by omega); have hwh : w * h ≤ 1024 * 1024 := Nat.mul_le_mul (by omega) (by omega)
          have e : wrap64 ((w : Int) * h) = ((w * h : Nat) : Int) := by
            rw [← Int.natCast_mul]; generalize w * h = p at *; unfold wrap64; omega
          rw [if_pos c1, if_pos c2, e]
          simp only [Option.bind_some]
          by_cases c5 : ((w * h : Nat) : Int) ≤ 65536
          · by_cases c6 : (l.length : Int) = ((w * h : Nat) : Int)
            · exact .inr ⟨by rw [if_pos (decide_eq_true c5), if_pos c6], by rw [if_pos (decide_eq_true c5), if_pos c6], w, h, rfl, rfl, ⟨by omega, by omega, by omega, by omega, by omega, by omega⟩⟩
            · exact .inl ⟨51, by rw [if_pos (decide_eq_true c5), if_neg c6], by rw [if_pos (decide_eq_true c5), if_neg c6], by decide⟩
          · exact .inl ⟨50, by rw [if_neg (by rw [decide_eq_false c5]; decide)], by rw [if_neg (by rw [decide_eq_false c5]; decide)], by decide⟩
        · rw [if_pos c1, if_pos c2, if_pos c3, if_neg c4]; exact .inl ⟨50, rfl, by first | rfl | simp [c1, c2, c3, c4], by decide⟩
      · rw [if_pos c1, if_pos c3, if_neg c2]; exact .inl ⟨50, rfl, by first | rfl | simp [c1, c2, c3], by decide⟩
    · rw [if_pos c1, if_neg c3]; exact .inl ⟨50, rfl, by first | rfl | (by_cases c2 : a ≤ 1024 <;> simp [c1, c2, c3]), by decide⟩
  · rw [if_neg c1]; exact .inl ⟨50, rfl, by first | rfl | simp [c1], by decide⟩
theorem size_same (a b : Int) : (Dm.f a b = some false ∧ Ci.f a b = some false) ∨ (Dm.f a b = some true ∧ Ci.f a b = some true ∧ ∃ w h : Nat, a = w ∧ b = h ∧ 1 ≤ w ∧ w ≤ 1024 ∧ 1 ≤ h ∧ h ≤ 1024 ∧ w * h ≤ 65536) := by
  unfold Dm.f plane_New.f Ci.f
  by_cases c1 : a ≥ 1
  · by_cases c2 : a ≤ 1024
    · by_cases c3 : b ≥ 1
      · by_cases c4 : b ≤ 1024
        · rw [if_pos c1, if_pos c2, if_pos c3, if_pos c4]
          obtain ⟨w, rfl⟩ := Int.eq_ofNat_of_zero_le (show 0 ≤ a by omega); obtain ⟨h, rfl⟩ := Int.eq_ofNat_of_zero_le (show 0 ≤ b by omega); have hwh : w * h ≤ 1024 * 1024 := Nat.mul_le_mul (by omega) (by omega)
          have e : wrap64 ((w : Int) * h) = ((w * h : Nat) : Int) := by
            rw [← Int.natCast_mul]; generalize w * h = p at *; unfold wrap64; omega
          rw [e, ← Int.natCast_mul]
          by_cases c5 : ((w * h : Nat) : Int) ≤ 65536
          · rw [if_pos ⟨by omega, by omega, by omega, by omega, c5⟩]
            exact .inr ⟨rfl, by rw [decide_eq_true c5], w, h, rfl, rfl, by omega, by omega, by omega, by omega, by omega⟩
          · rw [if_neg (fun q => c5 q.2.2.2.2)]
            exact .inl ⟨rfl, by rw [decide_eq_false c5]⟩
        · rw [if_neg (fun q => by omega), if_pos c1, if_pos c2, if_pos c3, if_neg c4]; exact .inl ⟨rfl, rfl⟩
      · rw [if_neg (fun q => by omega), if_pos c1, if_pos c2, if_neg c3]; exact .inl ⟨rfl, rfl⟩
    · rw [if_neg (fun q => by omega), if_pos c1, if_neg c2]; exact .inl ⟨rfl, rfl⟩
  · rw [if_neg (fun q => by omega), if_neg c1]; exact .inl ⟨rfl, rfl⟩
theorem mask_cases (a b : Int) (l : List Bool) : (∃ e, e ≠ 0 ∧ Cp.f a b l = some e ∧ Cn.f a b l = some e) ∨ (Cp.f a b l = some 0 ∧ Cn.f a b l = some 0 ∧ ∃ w h : Nat, a = w ∧ b = h ∧ OKm w h l) := by
  unfold Cp.f Cn.f
  rcases size_same a b with ⟨h1, h2⟩ | ⟨h1, h2, w, h, rfl, rfl, w1, w2, g1, g2, ha⟩
  · rw [h1, h2, Option.bind_some]
    exact .inl ⟨300, by decide, if_neg (by decide), if_neg (by decide)⟩
  · rw [h1, h2, Option.bind_some]
    have e : wrap64 ((w : Int) * h) = ((w * h : Nat) : Int) := by
      rw [← Int.natCast_mul]; exact i64_small _ ha
    rw [e]; clear e h1 h2
    by_cases c : (l.length : Int) = ((w * h : Nat) : Int)
    · exact .inr ⟨by rw [if_pos rfl, if_pos c], by rw [if_pos rfl, if_pos c], w, h, rfl, rfl, ⟨w1, w2, g1, g2, ha, Int.ofNat.inj c⟩⟩
    · exact .inl ⟨301, by decide, by rw [if_pos rfl, if_neg c], by rw [if_pos rfl, if_neg c]⟩
def keyB (a : Int) : Int := if a < 2147483648 then (a + 2147483648) % 4294967296 else (4294967295 - a) % 4294967296
def befB (a b : Int) : Bool := decide (keyB a < keyB b)
theorem key_b (a : Int) : C4.f a = some (keyB a) := by unfold C4.f keyB; split <;> rfl
theorem keyB_b (a : Int) : 0 ≤ keyB a ∧ keyB a < 4294967296 := by unfold keyB; split <;> omega
theorem bef_b (a b : Int) : Da.f a b = some (befB a b) := by
  unfold Da.f; rw [key_b, key_b]; rfl
theorem key_r (x : Int) (h0 : 0 ≤ x) (h1 : x < 4294967296) : Cx.f x = some (keyB x) := by
  unfold Cx.f keyB; have e1 : wrap64 x = x := wr (by omega) (by omega); rw [e1]
  by_cases c : x < 2147483648
  · rw [if_pos c, if_pos c, wr (by omega) (by omega)]
  · rw [if_neg c, if_neg c, wr (by omega) (by omega)]
theorem bef_r (x y : Int) (h0 : 0 ≤ x ∧ x < 4294967296) (h1 : 0 ≤ y ∧ y < 4294967296) : Ct.f x y = some (befB x y) := by
  unfold Ct.f Dg.f; rw [key_r x h0.1 h0.2, key_r y h1.1 h1.2]; have hx := keyB_b x; have hy := keyB_b y; unfold befB
  simp only [Option.bind_some]
  rw [wr (x := keyB x) (by omega) (by omega), wr (x := keyB y) (by omega) (by omega), wr (x := keyB y - keyB x) (by omega) (by omega)]
  congr 1
  rw [decide_eq_decide]
  omega
def selB (lo hi s : Int) : Bool := !(befB s lo) && !(befB hi s)
def selF (lo hi : Int) (l : List Int) (i : Nat) : Bool := selB lo hi (l.getD i 0)
theorem rd_nat (l : List Int) (i : Nat) : rd l (i : Int) = l.getD i 0 := by unfold rd; rw [Int.toNat_natCast]
theorem sel_no {lo hi s : Int} (h : befB s lo = true) : selB lo hi s = false := by unfold selB; rw [h]; rfl
theorem sel_go {lo hi s : Int} (h : befB s lo = false) : selB lo hi s = !(befB hi s) := by unfold selB; rw [h]; rfl
theorem sel_l0 (lo hi : Int) (l : List Int) (N : Nat) (hN : N ≤ 65536) (hl : l.length = N) (w h : Int) : ∀ d i, i + d = N →
    Ev (fun k => B7.l0 k lo hi l (l.length : Int) (i : Nat) w h (outOf N (selF lo hi l) i)) (w, h, outOf N (selF lo hi l) N, 0) := by
  intro d
  induction d with
  | zero =>
    intro i hid; obtain rfl : i = N := by omega
    refine Ev.step (f := fun _ => some (w, h, outOf i (selF lo hi l) i, 0)) (fun k => ?_) (Ev.now _); rw [B7.l0, if_neg (by omega)]
  | succ d ih =>
    intro i hid; have h0 := ih (i + 1) (by omega); rw [← outOf_set _ _ _ (show i < N by omega)] at h0; have e1 : Ae (wrap64 ((i : Int) + 1) = ((i + 1 : Nat) : Int)) := ⟨by rw [wr (by omega) (by omega)]; rfl⟩; have hlen := outOf_len N (selF lo hi l) i; cases hb : befB (l.getD i 0) lo
    · refine Ev.step (fun k => ?_) h0
      rw [B7.l0, if_pos (by omega), if_pos (by omega), if_pos (by omega), bef_b, rd_nat, hb, Option.bind_some, if_neg (by decide), bef_b, Option.bind_some, if_pos (by rw [hlen]; omega), e1.out, Int.toNat_natCast, show selF lo hi l i = !(befB hi (l.getD i 0)) from sel_go hb]
    · refine Ev.step (fun k => ?_) h0
      rw [B7.l0, if_pos (by omega), if_pos (by omega), if_pos (by omega), bef_b, rd_nat, hb, Option.bind_some, if_pos rfl, if_pos (by rw [hlen]; omega), e1.out, Int.toNat_natCast, show selF lo hi l i = false from sel_no hb]
theorem ref_l0 (lo hi : Int) (hlo : 0 ≤ lo ∧ lo < 4294967296) (hhi : 0 ≤ hi ∧ hi < 4294967296) (l : List Int) (hb : ∀ x ∈ l, 0 ≤ x ∧ x < 4294967296) (N : Nat) (hN : N ≤ 65536) (hl : l.length = N) (a b w h : Int) : ∀ d i, i + d = N →
    Ev (fun k => Bh.l0 k lo hi (i : Nat) a b l w h (outOf N (selF lo hi l) i)) (w, h, outOf N (selF lo hi l) N, 0) := by
  have hg : ∀ j, j < l.length → 0 ≤ l.getD j 0 ∧ l.getD j 0 < 4294967296 := fun j hj => by
    rw [List.getD_eq_getElem?_getD, List.getElem?_eq_getElem hj]; exact hb _ (List.getElem_mem _)
  intro d
  induction d with
  | zero =>
    intro i hid; obtain rfl : i = N := by omega
    refine Ev.step (f := fun _ => some (w, h, outOf i (selF lo hi l) i, 0)) (fun k => ?_) (Ev.now _); rw [Bh.l0, if_neg (by omega)]
  | succ d ih =>
    intro i hid; have h0 := ih (i + 1) (by omega); rw [← outOf_set _ _ _ (show i < N by omega)] at h0; have e1 : Ae (wrap64 ((i : Int) + 1) = ((i + 1 : Nat) : Int)) := ⟨by rw [wr (by omega) (by omega)]; rfl⟩; have hlen := outOf_len N (selF lo hi l) i; have hx := hg i (by omega); cases hb : befB (l.getD i 0) lo
    · refine Ev.step (fun k => ?_) h0
      rw [Bh.l0, if_pos (by omega), if_pos (by omega), rd_nat, bef_r _ _ hx hlo, hb, Option.bind_some, if_neg (by decide), bef_r _ _ hhi hx, Option.bind_some, if_pos (by rw [hlen]; omega), e1.out, Int.toNat_natCast, show selF lo hi l i = !(befB hi (l.getD i 0)) from sel_go hb]
    · refine Ev.step (fun k => ?_) h0
      rw [Bh.l0, if_pos (by omega), if_pos (by omega), rd_nat, bef_r _ _ hx hlo, hb, Option.bind_some, if_pos rfl, if_pos (by rw [hlen]; omega), e1.out, Int.toNat_natCast, show selF lo hi l i = false from sel_no hb]
theorem area_p {w h : Nat} {l : List Int} (H : OKp w h l) : wrap64 ((w : Int) * h) = ((w * h : Nat) : Int) := by
  have h5 := H.a; rw [← Int.natCast_mul]; exact i64_small _ h5
theorem empty_val {w h : Nat} {l : List Int} (H : OKp w h l) : Cz.f w h = some ((w : Int), (h : Int), List.replicate (w * h) false) ∧ Ca.f w h = some ((w : Int), (h : Int), List.replicate (w * h) false) := by
  have ha := H.a; unfold Cz.f Ca.f; rw [area_p H, Int.toNat_natCast, if_pos (by omega), if_pos (by omega)]; exact ⟨rfl, rfl⟩
theorem select_same (a b : Int) (l : List Int) (lo hi : Int) (hlo : 0 ≤ lo ∧ lo < 4294967296) (hhi : 0 ≤ hi ∧ hi < 4294967296) (hb : ∀ x ∈ l, 0 ≤ x ∧ x < 4294967296) : ∃ b1 b2 bl be, Ev (fun k => B7.f k a b l lo hi) (b1, b2, bl, be) ∧ Ev (fun k => Bh.f k a b l lo hi) (b1, b2, bl, be) ∧ bl.length ≤ 65536 := by
  rcases plane_cases a b l with ⟨e, h1, h2, he⟩ | ⟨h1, h2, w, h, rfl, rfl, H⟩
  · refine ⟨0, 0, [], e, ⟨0, fun k _ => ?_⟩, ⟨0, fun k _ => ?_⟩, by simp⟩
    · show B7.f k a b l lo hi = _
      unfold B7.f; rw [h1, Option.bind_some, if_neg he]
    · show Bh.f k a b l lo hi = _
      unfold Bh.f; rw [h2, Option.bind_some, if_neg he]
  · obtain ⟨q1, q2⟩ := empty_val H
    have ha := H.a; refine ⟨w, h, outOf (w * h) (selF lo hi l) (w * h), 0, ?_, ?_, by rw [outOf_len]; exact ha⟩
    · refine Ev.congr (fun k => ?_) (sel_l0 lo hi l (w * h) ha H.len w h (w * h) 0 (by omega))
      unfold B7.f; rw [h1, Option.bind_some, if_pos rfl, q1, outOf_zero]; rfl
    · refine Ev.congr (fun k => ?_) (ref_l0 lo hi hlo hhi l hb (w * h) ha H.len w h w h (w * h) 0 (by omega))
      unfold Bh.f; rw [h2, Option.bind_some, if_pos rfl, q2, outOf_zero]; rfl
theorem paint_l0 (s : Int) (ml : List Bool) (l : List Int) (N : Nat) (hN : N ≤ 65536) (hl : l.length = N) (hm : ml.length = N) (a b w h : Int) : ∀ d i, i + d = N →
    Ev (fun k => Bd.l0 k s (i : Nat) a b ml w h (paintL s (trues ml i) l)) (w, h, paintL s (trues ml N) l, 0) := by
  intro d
  induction d with
  | zero =>
    intro i hid; obtain rfl : i = N := by omega
    refine Ev.step (f := fun _ => some (w, h, paintL s (trues ml i) l, 0)) (fun k => ?_) (Ev.now _); rw [Bd.l0, if_neg (by rw [paintL_len]; omega)]
  | succ d ih =>
    intro i hid; have h0 := ih (i + 1) (by omega); have e1 : Ae (wrap64 ((i : Int) + 1) = ((i + 1 : Nat) : Int)) := ⟨by rw [wr (by omega) (by omega)]; rfl⟩; have hlen := paintL_len s (trues ml i) l; have hrd : rdOf false ml (i : Int) = ml.getD i false := by unfold rdOf; rw [Int.toNat_natCast]
    cases hb : ml.getD i false
    · rw [trues_no _ _ hb] at h0
      refine Ev.step (fun k => ?_) h0; rw [Bd.l0, if_pos (by rw [hlen]; omega), if_pos (by omega), if_pos (by omega), hrd, hb, if_neg (by decide), e1.out]
    · rw [trues_yes _ _ hb, paintL_snoc] at h0
      refine Ev.step (fun k => ?_) h0; rw [Bd.l0, if_pos (by rw [hlen]; omega), if_pos (by omega), if_pos (by omega), hrd, hb, if_pos rfl, e1.out, Int.toNat_natCast]
theorem paint_same (a b : Int) (l : List Int) (m0 m1 : Int) (ml : List Bool) (s : Int) : ∃ d1 d2 dl de, Dk.f a b l m0 m1 ml s = some (d1, d2, dl, de) ∧ Ev (fun k => Bd.f k a b l m0 m1 ml s) (d1, d2, dl, de) ∧ dl.length ≤ 65536 := by
  rcases plane_cases a b l with ⟨e, h1, h2, he⟩ | ⟨h1, h2, w, h, rfl, rfl, H⟩
  · refine ⟨0, 0, [], e, ?_, ⟨0, fun k _ => ?_⟩, by simp⟩
    · unfold Dk.f; rw [h1, Option.bind_some, if_neg he]
    · show Bd.f k a b l m0 m1 ml s = _
      unfold Bd.f; rw [h2, Option.bind_some, if_neg he]
  · rcases mask_cases m0 m1 ml with ⟨e, he, g1, g2⟩ | ⟨g1, g2, w', h', rfl, rfl, G⟩
    · refine ⟨0, 0, [], e, ?_, ⟨0, fun k _ => ?_⟩, by simp⟩
      · unfold Dk.f; rw [h1, Option.bind_some, if_pos rfl, g1, Option.bind_some, if_neg he]
      · show Bd.f k w h l m0 m1 ml s = _
        unfold Bd.f; rw [h2, Option.bind_some, if_pos rfl, g2, Option.bind_some, if_neg he]
    · have ha := H.a
      by_cases c : (w : Int) = w' ∧ (h : Int) = h'
      · obtain ⟨c1, c2⟩ := c
        obtain rfl := Int.ofNat.inj c1; obtain rfl := Int.ofNat.inj c2; have hml : ml.length = w * h := G.len; have hl := H.len; have hp : 0 < w * h := Nat.mul_pos H.w1 H.h1; refine ⟨w, h, paintL s (trues ml ml.length) l, 0, ?_, ?_, by rw [paintL_len, hl]; exact ha⟩
        · unfold Dk.f
          rw [h1, Option.bind_some, if_pos rfl, g1, Option.bind_some, if_pos rfl, if_pos ⟨rfl, rfl⟩, if_pos]; have q1 := H.w1; have q2 := H.w2; have q3 := H.h1; have q4 := H.h2; exact ⟨by omega, by omega, by omega, by omega, by rw [Int.toNat_natCast, Int.toNat_natCast]; exact hl, by rw [hml, hl]⟩
        · have hp0 := paint_l0 s ml l (w * h) ha hl hml w h w h (w * h) 0 (by omega)
          rw [← hml] at hp0; refine Ev.step (f := fun k => Bd.l0 k s 0 w h ml w h l) (fun k => ?_) (Ev.congr (fun k => ?_) hp0)
          · show Bd.f (k + 1) w h l w h ml s = _
            unfold Bd.f; rw [h2, Option.bind_some, if_pos rfl, g2, Option.bind_some, if_pos rfl, if_pos rfl, Bd.j0, if_neg (by simp)]; unfold De.f; rw [if_pos ⟨by rw [area_p H, hl], by rw [hl]; exact hp, by omega⟩]; rfl
          · rfl
      · refine ⟨0, 0, [], 306, ?_, ?_, by simp⟩
        · unfold Dk.f
          rw [h1, Option.bind_some, if_pos rfl, g1, Option.bind_some, if_pos rfl, if_neg c]
        · refine Ev.step (f := fun _ => some (0, 0, [], 306)) (fun k => ?_) (Ev.now _)
          show Bd.f (k + 1) w h l w' h' ml s = _; unfold Bd.f; rw [h2, Option.bind_some, if_pos rfl, g2, Option.bind_some, if_pos rfl]
          by_cases c1 : (w : Int) = w'
          · rw [if_pos c1, Bd.j0, if_pos]
            exact bne_iff_ne.mpr (fun c2 => c ⟨c1, c2⟩)
          · rw [if_neg c1, Bd.j0, if_pos rfl]
theorem words_self (l : List Int) (hl : l.length ≤ 65536) : Ev (fun k => Cf.f k l l) true := by
  have h : ∀ d i, i + d = l.length → Ev (fun k => Cf.l0 k l l (i : Nat)) true := by
    intro d
    induction d with
    | zero =>
      intro i hid; refine Ev.step (f := fun _ => some true) (fun k => ?_) (Ev.now _); rw [Cf.l0, if_neg (by omega)]
    | succ d ih =>
      intro i hid; refine Ev.step (fun k => ?_) (ih (i + 1) (by omega)); have e : Ae (wrap64 ((i : Int) + 1) = ((i + 1 : Nat) : Int)) := ⟨by rw [wr (by omega) (by omega)]; rfl⟩; rw [Cf.l0, if_pos (by omega), if_pos (by omega), if_pos (by omega), if_pos rfl, e.out]
  refine Ev.congr (f := fun k => Cf.l0 k l l 0) (fun k => ?_) (h l.length 0 (by omega)); unfold Cf.f; rw [if_pos rfl]
theorem plane_self (a b : Int) (l : List Int) (hl : l.length ≤ 65536) : Ev (fun k => C7.f k a b l a b l) true := by
  obtain ⟨n, hn⟩ := words_self l hl; refine ⟨n, fun k hk => ?_⟩; show C7.f k a b l a b l = _; unfold C7.f; rw [if_pos rfl, if_pos rfl, show Cf.f k l l = some true from hn k hk]; rfl
theorem same_self (a b : Int) (l : List Bool) (hl : l.length ≤ 140737488351232) : Ev (fun k => Ay.f k a b l a b l) true := by
  have h : ∀ d i, i + d = l.length → Ev (fun k => Ay.l0 k (i : Nat) a b l a b l) true := by
    intro d
    induction d with
    | zero =>
      intro i hid; refine Ev.step (f := fun _ => some true) (fun k => ?_) (Ev.now _); rw [Ay.l0, if_neg (by omega)]
    | succ d ih =>
      intro i hid; refine Ev.step (fun k => ?_) (ih (i + 1) (by omega)); have e : Ae (wrap64 ((i : Int) + 1) = ((i + 1 : Nat) : Int)) := ⟨by rw [wr (by omega) (by omega)]; rfl⟩; rw [Ay.l0, if_pos (by omega), if_pos (by omega), if_pos (by omega), if_neg (by simp), e.out]
  refine Ev.step (f := fun k => Ay.l0 k 0 a b l a b l) (fun k => ?_) (h l.length 0 (by omega)); unfold Ay.f; rw [if_pos rfl, if_pos rfl, Ay.j0, if_neg (by simp)]
theorem u32_of {x : Int} (h : (Lit.int .u32 x).wf = true) : 0 ≤ x ∧ x < 4294967296 := by
  have h1 : IntKind.u32.min ≤ x ∧ x ≤ IntKind.u32.max := by simpa [Lit.wf] using h
  have e1 : IntKind.u32.min = 0 := rfl; have e2 : IntKind.u32.max = 4294967295 := rfl
  omega
theorem row (a b : Int) (l : List Int) (m0 m1 : Int) (ml : List Bool) (lo hi s : Int) (_ : (Lit.int .i64 a).wf = true) (_ : (Lit.int .i64 b).wf = true) (hw : ∀ x ∈ l, (Lit.int .u32 x).wf = true) (hz : l.length * 4 ≤ 140737488351232) (_ : (Lit.int .i64 m0).wf = true) (_ : (Lit.int .i64 m1).wf = true) (hzm : ml.length ≤ 140737488351232) (h1 : (Lit.int .u32 lo).wf = true) (h2 : (Lit.int .u32 hi).wf = true) (_ : (Lit.int .u32 s).wf = true) :
    ∃ k, true = true ∧ ∃ b1 b2 bl be d1 d2 dl de ce, SelectsOk k a b l m0 m1 ml lo hi s b1 b2 bl be d1 d2 dl de ce := by
  obtain ⟨b1, b2, bl, be, ⟨k1, p1⟩, ⟨k2, p2⟩, n1⟩ := select_same a b l lo hi (u32_of h1) (u32_of h2) (fun x hx => u32_of (hw x hx)); obtain ⟨d1, d2, dl, de, q1, ⟨k3, q2⟩, n2⟩ := paint_same a b l m0 m1 ml s; obtain ⟨k4, p4⟩ := same_self b1 b2 bl (by omega); obtain ⟨k5, p5⟩ := same_self m0 m1 ml hzm; obtain ⟨k6, p6⟩ := plane_self d1 d2 dl n2; obtain ⟨k7, p7⟩ := known_true
  have hm : ∃ ce, Cp.f m0 m1 ml = some ce ∧ Cn.f m0 m1 ml = some ce := by
    rcases mask_cases m0 m1 ml with ⟨e, _, g1, g2⟩ | ⟨g1, g2, _⟩
    · exact ⟨e, g1, g2⟩
    · exact ⟨0, g1, g2⟩
  obtain ⟨ce, g1, g2⟩ := hm; refine ⟨k1 + k2 + k3 + k4 + k5 + k6 + k7, rfl, b1, b2, bl, be, d1, d2, dl, de, ce, ⟨by omega, hzm, p7 _ (by omega), p1 _ (by omega), p2 _ (by omega), q1, q2 _ (by omega), g1, g2, p4 _ (by omega), p5 _ (by omega), p6 _ (by omega)⟩⟩
end LX
theorem FillSelects_calls (k : Nat) (a0 a1 : Int) (A : Option Addr) (c : Nat) (l : List Int) (m0 m1 : Int) (Am : Option Addr) (cm : Nat) (ml : List Bool) (lo hi s : Int) (r : Bool) (w : World) (hC : Kd.C (Kd.int .u32) w A l.length l) (hc : l.length ≤ c) (hCm : Kd.C Kd.bool w Am ml.length ml) (hcm : ml.length ≤ cm) (h : r = true ∧ ∃ b1 b2 bl be d1 d2 dl de ce, SelectsOk k a0 a1 l m0 m1 ml lo hi s b1 b2 bl be d1 d2 dl de ce) :
    Calls Try.prog 3 #[.agg #[.int .i64 a0, .int .i64 a1, .slice A l.length c], .agg #[.int .i64 m0, .int .i64 m1, .slice Am ml.length cm], .int .u32 lo, .int .u32 hi, .int .u32 s] w fun e w' => e = .returned (.bool r) ∧ Below w.heap.size w w' := by
  obtain ⟨rfl, b1, b2, bl, be, d1, d2, dl, de, ce, H⟩ := h; exact LS.walk k a0 a1 A c l m0 m1 Am cm ml lo hi s b1 b2 bl be d1 d2 dl de ce w hC hc hCm hcm H
end Go.Proofs.Ytbfimplajocmmaa

