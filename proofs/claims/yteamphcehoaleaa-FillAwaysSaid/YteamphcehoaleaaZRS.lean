import Derived.Test.YteamphcehoaleaaZM8
import Derived.Test.YteamphcehoaleaaZPFYx2
set_option linter.unusedVariables false
set_option linter.unusedSimpArgs false
open Go Go.RowKit Go.Proofs.YteamphcehoaleaaW.PrintWords
namespace Go.Proofs.Yteamphcehoaleaa
open PFA PFY FM NR SQR
namespace RS
def upR (m : Nat → Bool) : Nat → Int
  | 0 => 1073741824
  | y + 1 => if m y = true then 0 else mn (upR m y + 1) 1073741824
def dnR (m : Nat → Bool) (H : Nat) : Nat → Int
  | 0 => 1073741824
  | d + 1 => if m (H - (d + 1)) = true then 0 else mn (dnR m H d + 1) 1073741824
theorem up_spec (m : Nat → Bool) : ∀ y, y ≤ 1024 → (∀ z, z < y → m z = true → upR m y + z + 1 ≤ y) ∧ ((∃ z, z < y ∧ m z = true ∧ upR m y + z + 1 = y) ∨ upR m y = 1073741824) ∧ 0 ≤ upR m y ∧ upR m y ≤ 1073741824
  | 0, _ => ⟨fun z h => by omega, .inr rfl, by simp [upR], by simp [upR]⟩
  | y + 1, hy => by
    obtain ⟨h1, h2, h3, h4⟩ := up_spec m y (by omega)
    rw [upR]
    generalize upR m y = u at *
    by_cases c : m y = true
    · rw [if_pos c]
      exact ⟨fun z hz _ => by omega, .inl ⟨y, by omega, c, by omega⟩, by omega, by omega⟩
    · rw [if_neg c]
      have hz0 : ∀ z, z < y + 1 → m z = true → z < y := fun z hz hm => by
        by_cases e : z = y
        · exact absurd (e ▸ hm) c
        · omega
      have e : mn (u + 1) 1073741824 = if u = 1073741824 then 1073741824 else u + 1 := by unfold mn; split <;> split <;> omega
      rw [e]
      split
      · refine ⟨fun z hz hm => ?_, .inr rfl, by omega, by omega⟩
        have := h1 z (hz0 z hz hm) hm
        omega
      · refine ⟨fun z hz hm => by have := h1 z (hz0 z hz hm) hm; omega, ?_, by omega, by omega⟩
        rcases h2 with ⟨z, a, b, q⟩ | h2
        · exact .inl ⟨z, by omega, b, by omega⟩
        · omega
theorem dn_spec (m : Nat → Bool) (H : Nat) (hH : H ≤ 1024) : ∀ d, d ≤ H → (∀ z, H - d ≤ z → z < H → m z = true → dnR m H d + (H - d : Nat) ≤ z) ∧ ((∃ z, H - d ≤ z ∧ z < H ∧ m z = true ∧ dnR m H d + (H - d : Nat) = z) ∨ dnR m H d = 1073741824) ∧ 0 ≤ dnR m H d ∧ dnR m H d ≤ 1073741824
  | 0, _ => ⟨fun z h1 h2 => by omega, .inr rfl, by simp [dnR], by simp [dnR]⟩
  | d + 1, hd => by
    obtain ⟨h1, h2, h3, h4⟩ := dn_spec m H hH d (by omega)
    rw [dnR]
    generalize dnR m H d = u at *
    by_cases c : m (H - (d + 1)) = true
    · rw [if_pos c]
      exact ⟨fun z hz hz2 _ => by omega, .inl ⟨H - (d + 1), by omega, by omega, c, by omega⟩, by omega, by omega⟩
    · rw [if_neg c]
      have hz0 : ∀ z, H - (d + 1) ≤ z → z < H → m z = true → H - d ≤ z := fun z hz hz2 hm => by
        by_cases e : z = H - (d + 1)
        · exact absurd (e ▸ hm) c
        · omega
      have e : mn (u + 1) 1073741824 = if u = 1073741824 then 1073741824 else u + 1 := by unfold mn; split <;> split <;> omega
      rw [e]
      split
      · refine ⟨fun z hz hz2 hm => ?_, .inr rfl, by omega, by omega⟩
        have := h1 z (hz0 z hz hz2 hm) hz2 hm
        omega
      · refine ⟨fun z hz hz2 hm => by have := h1 z (hz0 z hz hz2 hm) hz2 hm; omega, ?_, by omega, by omega⟩
        rcases h2 with ⟨z, a, a2, b, q⟩ | h2
        · exact .inl ⟨z, by omega, a2, b, by omega⟩
        · omega
def colR (m : Nat → Bool) (H y : Nat) : Int := mn (upR m (y + 1)) (dnR m H (H - y))
theorem col_spec (m : Nat → Bool) (H y : Nat) (hy : y < H) (hH : H ≤ 1024) : (∀ z, z < H → m z = true → colR m H y ≤ (ad y z : Nat)) ∧ ((∃ z, z < H ∧ m z = true ∧ colR m H y = (ad y z : Nat)) ∨ colR m H y = 1073741824) ∧ 0 ≤ colR m H y ∧ colR m H y ≤ 1073741824 := by
  obtain ⟨u1, u2, u3, u4⟩ := up_spec m (y + 1) (by omega)
  obtain ⟨d1, d2, d3, d4⟩ := dn_spec m H hH (H - y) (by omega)
  have e : H - (H - y) = y := by omega
  rw [e] at d1 d2
  unfold colR
  generalize upR m (y + 1) = u at *
  generalize dnR m H (H - y) = v at *
  have em : mn u v = u ∧ u ≤ v ∨ mn u v = v ∧ v ≤ u := by unfold mn; split <;> omega
  have hall : ∀ z, z < H → m z = true → mn u v ≤ (ad y z : Nat) := fun z hz hm => by
    by_cases c : z ≤ y
    · have := u1 z (by omega) hm
      unfold ad; omega
    · have := d1 z (by omega) hz hm
      unfold ad; omega
  refine ⟨hall, ?_, by omega, by omega⟩
  rcases em with ⟨em, h⟩ | ⟨em, h⟩
  · rw [em]
    rcases u2 with ⟨z, a, b, q⟩ | h2
    · exact .inl ⟨z, by omega, b, by unfold ad; omega⟩
    · exact .inr h2
  · rw [em]
    rcases d2 with ⟨z, a, a2, b, q⟩ | h2
    · exact .inl ⟨z, a2, b, by unfold ad; omega⟩
    · exact .inr h2
def Done (l : List Bool) (w h x : Nat) (out : List Int) : Prop := out.length = w * h ∧ ∀ x' y', x' < x → x' < w → y' < h → out.getD (w * y' + x') 0 = colR (colM l w x') h y'
theorem Done.set {l : List Bool} {w h x : Nat} {out : List Int} (D : Done l w h x out) (hx : x < w) (y : Nat) (v : Int) : Done l w h x (out.set (w * y + x) v) :=
  ⟨by rw [List.length_set]; exact D.1, fun x' y' h1 h2 h3 => by rw [FM.getD_set_ne _ _ _ _ (idx_ne hx h2 (by omega))]; exact D.2 x' y' h1 h2 h3⟩
theorem mn0 (a : Int) (h : 0 ≤ a) : mn a 0 = 0 := by unfold mn; split <;> omega
theorem l2_ev {w h : Nat} {l : List Bool} (H : OKm w h l) (x : Nat) (hx : x < w) (R : List Int → Prop) (hnext : ∀ out, Done l w h (x + 1) out → ∃ r, Ev (fun k => Ai.l0 k out ((x + 1 : Nat) : Int) w h l) (r, 0) ∧ R r) :
    ∀ j, j ≤ h → ∀ (out : List Int) (last : Int), Done l w h x out → (∀ y', y' < j → out.getD (w * y' + x) 0 = upR (colM l w x) (y' + 1)) → (∀ y', j ≤ y' → y' < h → out.getD (w * y' + x) 0 = colR (colM l w x) h y') → last = dnR (colM l w x) h (h - j) →
    ∃ r, Ev (fun k => Ai.l2 k out x last ((j : Int) - 1) w h l) (r, 0) ∧ R r := by
  have h2 := H.w2; have h4 := H.h2; have ha := H.a
  intro j
  induction j with
  | zero =>
    intro hj out last D hU hV hl
    obtain ⟨r, e, p⟩ := hnext out ⟨D.1, fun x' y' a b c => by
      by_cases ex : x' = x
      · rw [ex]; exact hV y' (by omega) c
      · exact D.2 x' y' (by omega) b c⟩
    refine ⟨r, Ev.step (fun k => ?_) e, p⟩
    rw [Ai.l2, if_neg (by omega), wr1 x (by omega)]
  | succ j ih =>
    intro hj out last D hU hV hl
    obtain ⟨i1, i2, i3⟩ := place_mk (w := w) (h := h) (x := x) (y := j) hx (by omega)
    have hj' : ((j + 1 : Nat) : Int) - 1 = (j : Int) := by omega
    have hlb := (dn_spec (colM l w x) h h4 (h - (j + 1)) (by omega)).2.2
    rw [← hl] at hlb
    obtain ⟨d, hd⟩ : ∃ d, h - j = d + 1 := ⟨h - j - 1, by omega⟩
    have hde : h - (d + 1) = j := by omega
    have hd2 : h - (j + 1) = d := by omega
    have hdn : dnR (colM l w x) h (h - j) = if colM l w x j = true then 0 else mn (last + 1) 1073741824 := by rw [hd, dnR, hde, hl, hd2]
    obtain ⟨r, e, p⟩ := ih (by omega) (out.set (w * j + x) (colR (colM l w x) h j)) (dnR (colM l w x) h (h - j)) (D.set hx _ _) (fun y' hy' => by
      rw [FM.getD_set_ne _ _ _ _ (idx_ne hx hx (by omega))]
      exact hU y' (by omega)) (fun y' hy1 hy2 => by
      by_cases ey : y' = j
      · rw [ey, FM.getD_set_self _ _ _ (by rw [D.1]; exact i1)]
      · rw [FM.getD_set_ne _ _ _ _ (idx_ne hx hx (by omega))]
        exact hV y' (by omega) hy2) rfl
    refine ⟨r, Ev.step (fun k => ?_) e, p⟩
    have hup := (up_spec (colM l w x) (j + 1) (by omega)).2.2.1
    have hwj : Aa (wrap64 ((j : Int) - 1) = (j : Int) - 1) := ⟨wr (by omega) (by omega)⟩
    have hwl : Aa (wrap64 (last + 1) = last + 1) := ⟨wr (by omega) (by omega)⟩
    rw [hj', Ai.l2, idx_w w x j h2 hx (by omega), rd_nat, rdb_nat, hU j (by omega), hwj.out, hwl.out, Int.toNat_natCast, if_pos (Int.natCast_nonneg _), if_pos (Int.natCast_nonneg _), if_pos (by rw [H.len]; exact Int.ofNat_lt.mpr i1)]
    by_cases c : l.getD (w * j + x) false = true
    · have e1 : dnR (colM l w x) h (h - j) = 0 := by rw [hdn, if_pos (show colM l w x j = true from c)]
      rw [if_pos c, if_pos (by rw [D.1]; exact Int.ofNat_lt.mpr i1), mn0 _ hup, e1]
      congr 2
      unfold colR
      rw [e1, mn0 _ hup]
    · have e1 : dnR (colM l w x) h (h - j) = mn (last + 1) 1073741824 := by rw [hdn, if_neg (show ¬ colM l w x j = true from c)]
      rw [if_neg c, if_pos (by rw [D.1]; exact Int.ofNat_lt.mpr i1), ← e1]
      rfl
theorem l1_ev {w h : Nat} {l : List Bool} (H : OKm w h l) (x : Nat) (hx : x < w) (R : List Int → Prop) (hnext : ∀ out, Done l w h (x + 1) out → ∃ r, Ev (fun k => Ai.l0 k out ((x + 1 : Nat) : Int) w h l) (r, 0) ∧ R r) :
    ∀ d y, y + d = h → ∀ (out : List Int), Done l w h x out → (∀ y', y' < y → out.getD (w * y' + x) 0 = upR (colM l w x) (y' + 1)) →
    ∃ r, Ev (fun k => Ai.l1 k out x (upR (colM l w x) y) (y : Int) w h l) (r, 0) ∧ R r := by
  have h2 := H.w2; have h4 := H.h2; have ha := H.a
  intro d
  induction d with
  | zero =>
    intro y hy out D hU
    obtain ⟨r, e, p⟩ := l2_ev H x hx R hnext h (Nat.le_refl _) out 1073741824 D (fun y' hy' => hU y' (by omega)) (fun y' a b => by omega) (by rw [Nat.sub_self]; rfl)
    refine ⟨r, Ev.step (fun k => ?_) e, p⟩
    have hwh : Aa (wrap64 ((h : Int) - 1) = (h : Int) - 1) := ⟨wr (by omega) (by omega)⟩
    rw [Ai.l1, if_neg (by omega), hwh.out]
  | succ d ih =>
    intro y hy out D hU
    obtain ⟨i1, i2, i3⟩ := place_mk (w := w) (h := h) (x := x) (y := y) hx (by omega)
    obtain ⟨r, e, p⟩ := ih (y + 1) (by omega) (out.set (w * y + x) (upR (colM l w x) (y + 1))) (D.set hx _ _) (fun y' hy' => by
      by_cases ey : y' = y
      · rw [ey, FM.getD_set_self _ _ _ (by rw [D.1]; exact i1)]
      · rw [FM.getD_set_ne _ _ _ _ (idx_ne hx hx (by omega))]
        exact hU y' (by omega))
    refine ⟨r, Ev.step (fun k => ?_) e, p⟩
    have hub := (up_spec (colM l w x) y (by omega)).2.2
    have hwu : Aa (wrap64 (upR (colM l w x) y + 1) = upR (colM l w x) y + 1) := ⟨wr (by omega) (by omega)⟩
    have hwy := Aa.mk (wr1 y (show y < 1000000 by omega))
    rw [Ai.l1, idx_w w x y h2 hx (by omega), rdb_nat, Int.toNat_natCast, hwu.out, hwy.out, if_pos (Int.ofNat_lt.mpr (by omega)), if_pos (Int.natCast_nonneg _), if_pos (by rw [H.len]; exact Int.ofNat_lt.mpr i1)]
    by_cases c : l.getD (w * y + x) false = true
    · have eu : upR (colM l w x) (y + 1) = 0 := by rw [upR, if_pos (show colM l w x y = true from c)]
      rw [if_pos c, eu, if_pos (by rw [D.1]; exact Int.ofNat_lt.mpr i1)]
    · have eu : upR (colM l w x) (y + 1) = mn (upR (colM l w x) y + 1) 1073741824 := by rw [upR, if_neg (show ¬ colM l w x y = true from c)]
      rw [if_neg c, eu, if_pos (by rw [D.1]; exact Int.ofNat_lt.mpr i1)]
theorem s1_ev {w h : Nat} {l : List Bool} (H : OKm w h l) (x5 : List Int) (D : Done l w h w x5) (R : List Int → Prop) (i : Nat) (hi : i < w * h) (hnext : ∀ o, Fin' l w h (i + 1) o → ∃ r, Ev (fun k => Ai.l3 k x5 o ((i + 1 : Nat) : Int) w h l) (r, 0) ∧ R r) :
    ∀ d a, a + d = w → ∀ o, Fin' l w h i o → LeastP (fun s => inM l s ∧ s % w < a) (sqD w i) (o.getD i 0) →
    ∃ r, Ev (fun k => Ai.l4 k x5 o i ((i % w : Nat) : Int) ((i / w : Nat) : Int) (a : Int) w h l) (r, 0) ∧ R r := by
  have h1 := H.w1; have h2 := H.w2; have h4 := H.h2; have ha := H.a
  obtain ⟨px, py⟩ := place_lt h1 hi
  intro d
  induction d with
  | zero =>
    intro a hd o F L
    obtain rfl : a = w := by omega
    obtain ⟨r, e, p⟩ := hnext o ⟨F.1, fun j hj => by
      by_cases ej : j = i
      · subst ej
        exact L.congr fun s => ⟨fun q => q.1, fun q => ⟨q, Nat.mod_lt _ (by omega)⟩⟩
      · exact F.2 j (by omega)⟩
    refine ⟨r, Ev.step (fun k => ?_) e, p⟩
    have hwi := Aa.mk (wr1 i (show i < 1000000 by omega))
    rw [Ai.l4, if_neg (by omega), hwi.out]
  | succ d ih =>
    intro a hd o F L
    have haw : a < w := by omega
    have hc := col_spec (colM l w a) h (i / w) py h4
    have hrow : x5.getD (w * (i / w) + a) 0 = colR (colM l w a) h (i / w) := D.2 a _ haw haw py
    obtain ⟨j1, j2, j3⟩ := place_mk (w := w) (h := h) (x := a) (y := i / w) haw py
    have hidx := Aa.mk (idx_w w a (i / w) h2 haw (by omega))
    have hsplit : ∀ s, (inM l s ∧ s % w < a + 1) ↔ ((inM l s ∧ s % w < a) ∨ (inM l s ∧ s % w = a)) := fun s => by
      constructor
      · rintro ⟨q1, q2⟩
        by_cases e : s % w = a
        · exact .inr ⟨q1, e⟩
        · exact .inl ⟨q1, by omega⟩
      · rintro (⟨q1, q2⟩ | ⟨q1, q2⟩)
        · exact ⟨q1, by omega⟩
        · exact ⟨q1, by omega⟩
    have hcol : ∀ s, inM l s → s % w = a → colM l w a (s / w) = true ∧ s / w < h := fun s hs e => by
      have hsN : s < w * h := by rw [← H.len]; exact hs.1
      refine ⟨?_, (place_lt h1 hsN).2⟩
      unfold colM
      rw [← e, Nat.div_add_mod]
      exact hs.2
    have hwa := Aa.mk (wr1 a (show a < 1000000 by omega))
    have hx5 : ((w * (i / w) + a : Nat) : Int) < (x5.length : Int) := by rw [D.1]; exact Int.ofNat_lt.mpr j1
    by_cases cn : colR (colM l w a) h (i / w) = 1073741824
    · have hno : ∀ s, ¬ (inM l s ∧ s % w = a) := fun s hs => by
        obtain ⟨c1, c2⟩ := hcol s hs.1 hs.2
        have := hc.1 (s / w) c2 c1
        have h9 : ad (i / w) (s / w) ≤ 1024 := ad_le (by omega) (by omega)
        omega
      obtain ⟨r, e, p⟩ := ih (a + 1) (by omega) o F ((L.none hno).congr fun s => (hsplit s).symm)
      refine ⟨r, Ev.step (fun k => ?_) e, p⟩
      rw [Ai.l4, hidx.out, rd_nat, hrow, hwa.out, if_pos (by omega), if_pos (Int.natCast_nonneg _), if_pos hx5, if_pos cn]
    · obtain ⟨z, z1, z2, z3⟩ := hc.2.1.resolve_right cn
      obtain ⟨i1, i2, i3⟩ := place_mk (w := w) (h := h) (x := a) (y := z) haw z1
      have hs0 : inM l (w * z + a) ∧ (w * z + a) % w = a := ⟨⟨by rw [H.len]; exact i1, z2⟩, i2⟩
      have hQ : ∀ t, (inM l t ∧ t % w = a) → sqD w i (w * z + a) ≤ sqD w i t := fun t ht => by
        obtain ⟨c1, c2⟩ := hcol t ht.1 ht.2
        have := hc.1 (t / w) c2 c1
        have h9 : ad z (i / w) ≤ ad (t / w) (i / w) := by unfold ad at *; omega
        unfold sqD
        rw [i2, i3, ht.2]
        exact Nat.add_le_add_left (Nat.mul_le_mul h9 h9) _
      have hM := (L.more hs0 hQ).congr fun s => (hsplit s).symm
      have hle := sqD_le h1 h2 h4 hi i1
      have hval : Aa (wrap64 ((wrap64 ((wrap64 ((a : Int) - ((i % w : Nat) : Int))) * (wrap64 ((a : Int) - ((i % w : Nat) : Int))))) + (wrap64 (colR (colM l w a) h (i / w) * colR (colM l w a) h (i / w)))) = ((sqD w i (w * z + a) : Nat) : Int)) := by
        refine ⟨?_⟩
        have e1 : wrap64 ((a : Int) - ((i % w : Nat) : Int)) = (a : Int) - ((i % w : Nat) : Int) := by
          clear L F hM hQ hs0 hcol hsplit hrow hc hx5
          generalize i % w = q at *
          exact wr (by omega) (by omega)
        have e2 : ad (i / w) z = ad z (i / w) := by unfold ad; omega
        have hlo := hle
        unfold sqD at hlo ⊢
        rw [i2, i3] at hlo ⊢
        rw [e1, ad_sq, z3, e2, ← Int.natCast_mul]
        clear e1 e2 z3 hM hQ hs0 L F hcol hsplit hrow hc hx5
        generalize ad a (i % w) * ad a (i % w) = p1 at *
        generalize ad z (i / w) * ad z (i / w) = p2 at *
        rw [wr (x := (p1 : Int)) (by omega) (by omega), wr (x := (p2 : Int)) (by omega) (by omega), wr (by omega) (by omega)]
        rfl
      by_cases c0 : o.getD i 0 < 0
      · rw [if_pos c0] at hM
        obtain ⟨r, e, p⟩ := ih (a + 1) (by omega) (o.set i ((sqD w i (w * z + a) : Nat) : Int)) ⟨by rw [List.length_set]; exact F.1, fun j hj => by rw [FM.getD_set_ne _ _ _ _ (by omega)]; exact F.2 j hj⟩ (by rw [FM.getD_set_self _ _ _ (by rw [F.1]; exact hi)]; exact hM)
        refine ⟨r, Ev.step (fun k => ?_) e, p⟩
        rw [Ai.l4, hidx.out, rd_nat, rd_nat, hrow, hval.out, hwa.out, Int.toNat_natCast, if_pos (by omega), if_pos (Int.natCast_nonneg _), if_pos hx5, if_neg cn, if_pos (by omega), if_pos (by rw [F.1]; omega), if_pos c0]
      · rw [if_neg c0] at hM
        by_cases c1 : ((sqD w i (w * z + a) : Nat) : Int) < o.getD i 0
        · rw [if_pos c1] at hM
          obtain ⟨r, e, p⟩ := ih (a + 1) (by omega) (o.set i ((sqD w i (w * z + a) : Nat) : Int)) ⟨by rw [List.length_set]; exact F.1, fun j hj => by rw [FM.getD_set_ne _ _ _ _ (by omega)]; exact F.2 j hj⟩ (by rw [FM.getD_set_self _ _ _ (by rw [F.1]; exact hi)]; exact hM)
          refine ⟨r, Ev.step (fun k => ?_) e, p⟩
          rw [Ai.l4, hidx.out, rd_nat, rd_nat, hrow, hval.out, hwa.out, Int.toNat_natCast, if_pos (by omega), if_pos (Int.natCast_nonneg _), if_pos hx5, if_neg cn, if_pos (by omega), if_pos (by rw [F.1]; omega), if_neg c0, if_pos c1]
        · rw [if_neg c1] at hM
          obtain ⟨r, e, p⟩ := ih (a + 1) (by omega) o F hM
          refine ⟨r, Ev.step (fun k => ?_) e, p⟩
          rw [Ai.l4, hidx.out, rd_nat, rd_nat, hrow, hval.out, hwa.out, if_pos (by omega), if_pos (Int.natCast_nonneg _), if_pos hx5, if_neg cn, if_pos (by omega), if_pos (by rw [F.1]; omega), if_neg c0, if_neg c1]
theorem s0_ev {w h : Nat} {l : List Bool} (H : OKm w h l) (x5 : List Int) (D : Done l w h w x5) : ∀ d i, i + d = w * h → ∀ o, Fin' l w h i o → ∃ r, Ev (fun k => Ai.l3 k x5 o (i : Int) w h l) (r, 0) ∧ Fin' l w h (w * h) r := by
  have h1 := H.w1; have h2 := H.w2; have h4 := H.h2; have ha := H.a
  intro d
  induction d with
  | zero =>
    intro i hi o F
    obtain rfl : i = w * h := by omega
    refine ⟨o, Ev.step (f := fun _ => some (o, 0)) (fun k => ?_) (Ev.now _), F⟩
    rw [Ai.l3, if_neg (by rw [H.len]; omega)]
  | succ d ih =>
    intro i hi o F
    have hiN : i < w * h := by omega
    obtain ⟨px, py⟩ := place_lt h1 hiN
    obtain ⟨r, e, p⟩ := s1_ev H x5 D (Fin' l w h (w * h)) i hiN (fun o2 F2 => ih (i + 1) (by omega) o2 F2) w 0 (by omega) (o.set i (-1)) ⟨by rw [List.length_set]; exact F.1, fun j hj => by rw [FM.getD_set_ne _ _ _ _ (by omega)]; exact F.2 j hj⟩ (by
      rw [FM.getD_set_self _ _ _ (by rw [F.1]; exact hiN)]
      exact .inl ⟨rfl, fun s hs => by omega⟩)
    refine ⟨r, Ev.step (fun k => ?_) e, p⟩
    have e1 : Int.tmod (i : Int) (w : Int) = ((i % w : Nat) : Int) := by rw [Int.tmod_eq_emod_of_nonneg (by omega)]; rfl
    have e2 : Aa (wrap64 (Int.tdiv (i : Int) (w : Int)) = ((i / w : Nat) : Int)) := by
      refine ⟨?_⟩
      have q1 : Int.tdiv (i : Int) (w : Int) = ((i / w : Nat) : Int) := by rw [Int.tdiv_eq_ediv_of_nonneg (by omega)]; rfl
      rw [q1]
      generalize i / w = z at *
      exact wr (by omega) (by omega)
    rw [Ai.l3, e1, e2.out, if_pos (by rw [H.len]; exact Int.ofNat_lt.mpr hiN), if_neg (by omega), if_pos (Int.natCast_nonneg _), if_pos (by rw [F.1]; exact Int.ofNat_lt.mpr hiN), Int.toNat_natCast]
    rfl
theorem l0_ev {w h : Nat} {l : List Bool} (H : OKm w h l) : ∀ d x, x + d = w → ∀ out, Done l w h x out → ∃ r, Ev (fun k => Ai.l0 k out (x : Int) w h l) (r, 0) ∧ Fin' l w h (w * h) r := by
  have ha := H.a
  intro d
  induction d with
  | zero =>
    intro x hx out D
    obtain rfl : x = w := by omega
    obtain ⟨r, e, p⟩ := s0_ev H out D (x * h) 0 (by omega) (List.replicate (x * h) 0) ⟨by simp, fun j hj => by omega⟩
    refine ⟨r, Ev.step (fun k => ?_) e, p⟩
    rw [Ai.l0, if_neg (by omega), H.len, Int.toNat_natCast, if_pos (Int.natCast_nonneg _), if_pos (by omega)]
    rfl
  | succ d ih =>
    intro x hx out D
    obtain ⟨r, e, p⟩ := l1_ev H x (by omega) (Fin' l w h (w * h)) (fun out2 D2 => ih (x + 1) (by omega) out2 D2) h 0 (by omega) out D (fun y' hy' => by omega)
    refine ⟨r, Ev.step (fun k => ?_) e, p⟩
    rw [Ai.l0, if_pos (Int.ofNat_lt.mpr (by omega))]
    rfl
theorem square_val {w h : Nat} {l : List Bool} (H : OKm w h l) (hck : Ca.f w h l = some 0) : ∃ r, Ev (fun k => Ai.f k w h l) (r, 0) ∧ r.length = w * h ∧ ∀ j, j < w * h → LeastP (inM l) (sqD w j) (r.getD j 0) := by
  have ha := H.a
  obtain ⟨r, e, p⟩ := l0_ev H w 0 (by omega) (List.replicate (w * h) 0) ⟨by simp, fun x' y' q => by omega⟩
  refine ⟨r, ?_, p.1, p.2⟩
  refine Ev.congr (fun k => ?_) e
  unfold Ai.f
  rw [hck, Option.bind_some, if_pos rfl, H.len, Int.toNat_natCast, if_pos (Int.natCast_nonneg _), if_pos (by omega)]
  rfl
end RS
end Go.Proofs.Yteamphcehoaleaa

