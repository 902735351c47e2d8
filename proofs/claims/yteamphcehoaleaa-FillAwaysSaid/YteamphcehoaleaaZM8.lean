import Derived.Test.YteamphcehoaleaaZM5
import Derived.Test.YteamphcehoaleaaZM6
import Derived.Test.YteamphcehoaleaaZPFAx4
set_option linter.unusedVariables false
set_option linter.unusedSimpArgs false
open Go Go.RowKit Go.Proofs.YteamphcehoaleaaW.PrintWords
namespace Go.Proofs.Yteamphcehoaleaa
open PFA FM
def ad (a b : Nat) : Nat := (a - b) + (b - a)
theorem place_mk {w h x y : Nat} (hx : x < w) (hy : y < h) : w * y + x < w * h ∧ (w * y + x) % w = x ∧ (w * y + x) / w = y := by
  refine ⟨?_, by rw [Nat.mul_add_mod, Nat.mod_eq_of_lt hx], by rw [Nat.mul_add_div (by omega), Nat.div_eq_of_lt hx]; rfl⟩
  have h1 : w * (y + 1) ≤ w * h := Nat.mul_le_mul_left w hy
  rw [Nat.mul_add, Nat.mul_one] at h1
  omega
theorem place_lt {w h k : Nat} (hw : 1 ≤ w) (hk : k < w * h) : k % w < w ∧ k / w < h :=
  ⟨Nat.mod_lt _ (by omega), (Nat.div_lt_iff_lt_mul (by omega)).mpr (by rw [Nat.mul_comm]; exact hk)⟩
def LeastP (P : Nat → Prop) (d : Nat → Nat) (v : Int) : Prop :=
  (v = -1 ∧ ∀ s, ¬ P s) ∨ ∃ s, P s ∧ v = (d s : Int) ∧ ∀ t, P t → d s ≤ d t
theorem LeastP.unique {P : Nat → Prop} {d : Nat → Nat} {a b : Int} (A : LeastP P d a) (B : LeastP P d b) : a = b := by
  rcases A with ⟨a1, a2⟩ | ⟨s, s1, s2, s3⟩
  · rcases B with ⟨b1, _⟩ | ⟨t, t1, _, _⟩
    · rw [a1, b1]
    · exact absurd t1 (a2 t)
  · rcases B with ⟨b1, b2⟩ | ⟨t, t1, t2, t3⟩
    · exact absurd s1 (b2 s)
    · have := s3 t t1
      have := t3 s s1
      omega
theorem LeastP.congr {P Q : Nat → Prop} {d : Nat → Nat} {v : Int} (h : ∀ s, P s ↔ Q s) (A : LeastP P d v) : LeastP Q d v := by
  rcases A with ⟨a1, a2⟩ | ⟨s, s1, s2, s3⟩
  · exact .inl ⟨a1, fun s hs => a2 s ((h s).mpr hs)⟩
  · exact .inr ⟨s, (h s).mp s1, s2, fun t ht => s3 t ((h t).mpr ht)⟩
theorem LeastP.low {P : Nat → Prop} {d : Nat → Nat} {v : Int} (A : LeastP P d v) : -1 ≤ v := by
  rcases A with ⟨a1, _⟩ | ⟨s, _, s2, _⟩ <;> omega
theorem LeastP.none {P Q : Nat → Prop} {d : Nat → Nat} {v : Int} (A : LeastP P d v) (hQ : ∀ s, ¬ Q s) : LeastP (fun s => P s ∨ Q s) d v :=
  A.congr fun s => ⟨.inl, fun h => h.resolve_right (hQ s)⟩
theorem LeastP.more {P Q : Nat → Prop} {d : Nat → Nat} {v : Int} (A : LeastP P d v) {s0 : Nat} (h0 : Q s0) (hQ : ∀ t, Q t → d s0 ≤ d t) : LeastP (fun s => P s ∨ Q s) d (if v < 0 then (d s0 : Int) else if (d s0 : Int) < v then (d s0 : Int) else v) := by
  rcases A with ⟨a1, a2⟩ | ⟨s, s1, s2, s3⟩
  · rw [if_pos (by omega)]
    exact .inr ⟨s0, .inr h0, rfl, fun t ht => ht.elim (fun h => absurd h (a2 t)) (hQ t)⟩
  · rw [if_neg (by omega)]
    by_cases c : (d s0 : Int) < v
    · rw [if_pos c]
      exact .inr ⟨s0, .inr h0, rfl, fun t ht => ht.elim (fun h => by have := s3 t h; omega) (hQ t)⟩
    · rw [if_neg c]
      exact .inr ⟨s, .inl s1, s2, fun t ht => ht.elim (s3 t) (fun h => by have := hQ t h; omega)⟩
end Go.Proofs.Yteamphcehoaleaa
namespace Go.Proofs.Yteamphcehoaleaa
open PFA FM NR
namespace SQR
def upV (m : Nat → Bool) : Nat → Int
  | 0 => 1048576
  | y + 1 => if m y = true then 0 else upV m y + 1
def dnV (m : Nat → Bool) (H : Nat) : Nat → Int
  | 0 => 1048576
  | d + 1 => if dnV m H d + 1 < upV m (H - d) then dnV m H d + 1 else upV m (H - d)
theorem up_spec (m : Nat → Bool) : ∀ y, (∀ z, z < y → m z = true → upV m y + z + 1 ≤ y) ∧ ((∃ z, z < y ∧ m z = true ∧ upV m y + z + 1 = y) ∨ 1048576 ≤ upV m y) ∧ 0 ≤ upV m y ∧ upV m y ≤ 1048576 + y
  | 0 => ⟨fun z h => by omega, .inr (Int.le_refl _), by simp [upV], by simp [upV]⟩
  | y + 1 => by
    obtain ⟨h1, h2, h3, h4⟩ := up_spec m y
    rw [upV]
    by_cases c : m y = true
    · rw [if_pos c]
      exact ⟨fun z hz hm => by omega, .inl ⟨y, by omega, c, by omega⟩, by omega, by omega⟩
    · rw [if_neg c]
      refine ⟨fun z hz hm => ?_, ?_, by omega, by omega⟩
      · have hne : z ≠ y := fun e => c (by rw [← e]; exact hm)
        have := h1 z (by omega) hm
        omega
      · rcases h2 with ⟨z, z1, z2, z3⟩ | h2
        · exact .inl ⟨z, by omega, z2, by omega⟩
        · exact .inr (by omega)
theorem dn_spec (m : Nat → Bool) (H : Nat) : ∀ d, d ≤ H → (∀ z, H - d ≤ z → z < H → m z = true → dnV m H d + (H - d : Nat) ≤ z) ∧ ((∃ z, z < H ∧ m z = true ∧ dnV m H d = (ad (H - d) z : Nat)) ∨ 1048576 ≤ dnV m H d) ∧ 0 ≤ dnV m H d ∧ dnV m H d ≤ 1048576 + d
  | 0, _ => ⟨fun z h1 h2 => by omega, .inr (Int.le_refl _), by simp [dnV], by simp [dnV]⟩
  | d + 1, hd => by
    obtain ⟨h1, h2, h3, h4⟩ := dn_spec m H d (by omega)
    obtain ⟨u1, u2, u3, u4⟩ := up_spec m (H - d)
    rw [dnV]
    by_cases c : dnV m H d + 1 < upV m (H - d)
    · rw [if_pos c]
      refine ⟨fun z hz hzH hm => ?_, ?_, by omega, by omega⟩
      · by_cases e : z = H - (d + 1)
        · have := u1 z (by omega) hm
          omega
        · have := h1 z (by omega) hzH hm
          omega
      · rcases h2 with ⟨z, z1, z2, z3⟩ | h2
        · by_cases e : z < H - d
          · have := u1 z e z2
            unfold ad at z3
            omega
          · refine .inl ⟨z, z1, z2, ?_⟩
            unfold ad at *
            omega
        · exact .inr (by omega)
    · rw [if_neg c]
      refine ⟨fun z hz hzH hm => ?_, ?_, u3, by omega⟩
      · by_cases e : z = H - (d + 1)
        · have := u1 z (by omega) hm
          omega
        · have := h1 z (by omega) hzH hm
          omega
      · rcases u2 with ⟨z, z1, z2, z3⟩ | u2
        · refine .inl ⟨z, by omega, z2, ?_⟩
          unfold ad
          omega
        · exact .inr u2
def colV (m : Nat → Bool) (H y : Nat) : Int := dnV m H (H - y)
theorem col_spec (m : Nat → Bool) (H y : Nat) (hy : y < H) : (∀ z, z < H → m z = true → colV m H y ≤ (ad y z : Nat)) ∧ ((∃ z, z < H ∧ m z = true ∧ colV m H y = (ad y z : Nat)) ∨ 1048576 ≤ colV m H y) ∧ 0 ≤ colV m H y ∧ colV m H y ≤ 1048576 + H := by
  unfold colV
  obtain ⟨d, hd⟩ : ∃ d, H - y = d + 1 := ⟨H - y - 1, by omega⟩
  have e : H - (d + 1) = y := by omega
  have e2 : H - d = y + 1 := by omega
  have hd2 : d + 1 ≤ H := by omega
  obtain ⟨h1, h2, h3, h4⟩ := dn_spec m H (d + 1) hd2
  obtain ⟨u1, _⟩ := up_spec m (y + 1)
  have hle : dnV m H (d + 1) ≤ upV m (y + 1) := by
    rw [dnV, e2]
    generalize dnV m H d = a
    generalize upV m (y + 1) = b
    split <;> omega
  rw [e] at h1 h2
  rw [hd]
  generalize dnV m H (d + 1) = v at *
  generalize upV m (y + 1) = u at *
  refine ⟨fun z hz hm => ?_, h2, h3, by omega⟩
  by_cases c : y ≤ z
  · have := h1 z c hz hm
    unfold ad; omega
  · have hu := u1 z (by omega) hm
    unfold ad; omega
def colM (l : List Bool) (w x : Nat) (y : Nat) : Bool := l.getD (w * y + x) false
theorem idx_ne {w x y x' y' : Nat} (hx : x < w) (hx' : x' < w) (h : ¬(x = x' ∧ y = y')) : w * y + x ≠ w * y' + x' := by
  intro e
  obtain ⟨_, a1, a2⟩ := place_mk (w := w) (h := y + 1) (x := x) (y := y) hx (by omega)
  obtain ⟨_, b1, b2⟩ := place_mk (w := w) (h := y' + 1) (x := x') (y := y') hx' (by omega)
  rw [e] at a1 a2
  exact h ⟨a1.symm.trans b1, a2.symm.trans b2⟩
theorem idx_w (w x y : Nat) (hw : w ≤ 1024) (hx : x < w) (hy : y < 1024) : wrap64 ((wrap64 ((y : Int) * w)) + x) = ((w * y + x : Nat) : Int) := by
  have h1 : w * y ≤ 1024 * 1024 := Nat.mul_le_mul hw (by omega)
  have e : (y : Int) * w = ((w * y : Nat) : Int) := by rw [Int.mul_comm, ← Int.natCast_mul]
  rw [e]
  generalize w * y = p at *
  rw [wr (x := (p : Int)) (by omega) (by omega), wr (by omega) (by omega)]
  rfl
def Done (l : List Bool) (w h x : Nat) (out : List Int) : Prop := out.length = w * h ∧ ∀ x' y', x' < x → x' < w → y' < h → out.getD (w * y' + x') 0 = colV (colM l w x') h y'
theorem Done.set {l : List Bool} {w h x : Nat} {out : List Int} (D : Done l w h x out) (hx : x < w) (y : Nat) (v : Int) : Done l w h x (out.set (w * y + x) v) :=
  ⟨by rw [List.length_set]; exact D.1, fun x' y' h1 h2 h3 => by rw [FM.getD_set_ne _ _ _ _ (idx_ne hx h2 (by omega))]; exact D.2 x' y' h1 h2 h3⟩
theorem l2_ev {w h : Nat} {l : List Bool} (H : OKm w h l) (x : Nat) (hx : x < w) (R : List Int → Prop) (hnext : ∀ out, Done l w h (x + 1) out → ∃ r, Ev (fun k => Bb.l0 k out w ((x + 1 : Nat) : Int) w h l) r ∧ R r) :
    ∀ j, j ≤ h → ∀ (out : List Int) (last : Int), Done l w h x out → (∀ y', y' < j → out.getD (w * y' + x) 0 = upV (colM l w x) (y' + 1)) → (∀ y', j ≤ y' → y' < h → out.getD (w * y' + x) 0 = colV (colM l w x) h y') → last = dnV (colM l w x) h (h - j) →
    ∃ r, Ev (fun k => Bb.l2 k out x last ((j : Int) - 1) w x w h l) r ∧ R r := by
  have h2 := H.w2; have h4 := H.h2; have ha := H.a
  intro j
  induction j with
  | zero =>
    intro hj out last D hU hV hl
    obtain ⟨r, e, p⟩ := hnext out ⟨D.1, fun x' y' a b c => by
      by_cases ex : x' = x
      · rw [ex]; exact hV y' (by omega) c
      · exact D.2 x' y' (by omega) b c⟩
    refine ⟨r, Ev.step (fun k => ?_) e, p⟩
    rw [Bb.l2, if_neg (by omega), wr1 x (by omega)]
  | succ j ih =>
    intro hj out last D hU hV hl
    obtain ⟨i1, i2, i3⟩ := place_mk (w := w) (h := h) (x := x) (y := j) hx (by omega)
    have hj' : ((j + 1 : Nat) : Int) - 1 = (j : Int) := by omega
    have hlb := (dn_spec (colM l w x) h (h - (j + 1)) (by omega)).2.2
    rw [← hl] at hlb
    have hnv : (if last + 1 < upV (colM l w x) (j + 1) then last + 1 else upV (colM l w x) (j + 1)) = dnV (colM l w x) h (h - j) := by
      obtain ⟨d, hd⟩ : ∃ d, h - j = d + 1 := ⟨h - j - 1, by omega⟩
      rw [hd, dnV, show h - d = j + 1 by omega, hl, show h - (j + 1) = d by omega]
    have hmn : mn (last + 1) (upV (colM l w x) (j + 1)) = dnV (colM l w x) h (h - j) := by rw [← hnv]; unfold mn; split <;> split <;> omega
    obtain ⟨r, e, p⟩ := ih (by omega) (out.set (w * j + x) (dnV (colM l w x) h (h - j))) (dnV (colM l w x) h (h - j)) (D.set hx _ _) (fun y' hy' => by
      rw [FM.getD_set_ne _ _ _ _ (idx_ne hx hx (by omega))]
      exact hU y' (by omega)) (fun y' hy1 hy2 => by
      by_cases ey : y' = j
      · rw [ey, FM.getD_set_self _ _ _ (by rw [D.1]; exact i1)]; rfl
      · rw [FM.getD_set_ne _ _ _ _ (idx_ne hx hx (by omega))]
        exact hV y' (by omega) hy2) rfl
    refine ⟨r, Ev.step (fun k => ?_) e, p⟩
    have hwj : Aa (wrap64 ((j : Int) - 1) = (j : Int) - 1) := ⟨wr (by omega) (by omega)⟩
    have hwl : Aa (wrap64 (last + 1) = last + 1) := ⟨wr (by omega) (by omega)⟩
    rw [hj', Bb.l2, idx_w w x j h2 hx (by omega), rd_nat, hU j (by omega), hwj.out, hwl.out, hmn, Int.toNat_natCast, if_pos (Int.natCast_nonneg _), if_pos (Int.natCast_nonneg _), if_pos (by rw [D.1]; exact Int.ofNat_lt.mpr i1)]
theorem l1_ev {w h : Nat} {l : List Bool} (H : OKm w h l) (x : Nat) (hx : x < w) (R : List Int → Prop) (hnext : ∀ out, Done l w h (x + 1) out → ∃ r, Ev (fun k => Bb.l0 k out w ((x + 1 : Nat) : Int) w h l) r ∧ R r) :
    ∀ d y, y + d = h → ∀ (out : List Int), Done l w h x out → (∀ y', y' < y → out.getD (w * y' + x) 0 = upV (colM l w x) (y' + 1)) →
    ∃ r, Ev (fun k => Bb.l1 k out x (upV (colM l w x) y) w x h (y : Int) w h l) r ∧ R r := by
  have h2 := H.w2; have h4 := H.h2; have ha := H.a
  intro d
  induction d with
  | zero =>
    intro y hy out D hU
    obtain ⟨r, e, p⟩ := l2_ev H x hx R hnext h (Nat.le_refl _) out 1048576 D (fun y' hy' => hU y' (by omega)) (fun y' a b => by omega) (by rw [Nat.sub_self]; rfl)
    refine ⟨r, Ev.step (fun k => ?_) e, p⟩
    have hwh : Aa (wrap64 ((h : Int) - 1) = (h : Int) - 1) := ⟨wr (by omega) (by omega)⟩
    rw [Bb.l1, if_neg (by omega), hwh.out]
  | succ d ih =>
    intro y hy out D hU
    obtain ⟨i1, i2, i3⟩ := place_mk (w := w) (h := h) (x := x) (y := y) hx (by omega)
    obtain ⟨r, e, p⟩ := ih (y + 1) (by omega) (out.set (w * y + x) (upV (colM l w x) (y + 1))) (D.set hx _ _) (fun y' hy' => by
      by_cases ey : y' = y
      · rw [ey, FM.getD_set_self _ _ _ (by rw [D.1]; exact i1)]
      · rw [FM.getD_set_ne _ _ _ _ (idx_ne hx hx (by omega))]
        exact hU y' (by omega))
    refine ⟨r, Ev.step (fun k => ?_) e, p⟩
    have hub := (up_spec (colM l w x) y).2.2
    have hwu : Aa (wrap64 (upV (colM l w x) y + 1) = upV (colM l w x) y + 1) := ⟨wr (by omega) (by omega)⟩
    have hwy := Aa.mk (wr1 y (show y < 1000000 by omega))
    rw [Bb.l1, idx_w w x y h2 hx (by omega), rdb_nat, Int.toNat_natCast, hwu.out, hwy.out, if_pos (Int.ofNat_lt.mpr (by omega)), if_pos (Int.natCast_nonneg _), if_pos (by rw [H.len]; exact Int.ofNat_lt.mpr i1)]
    by_cases c : l.getD (w * y + x) false = true
    · have eu : upV (colM l w x) (y + 1) = 0 := by rw [upV, if_pos (show colM l w x y = true from c)]
      rw [if_pos c, eu, if_pos (by rw [D.1]; exact Int.ofNat_lt.mpr i1)]
    · have eu : upV (colM l w x) (y + 1) = upV (colM l w x) y + 1 := by rw [upV, if_neg (show ¬ colM l w x y = true from c)]
      rw [if_neg c, eu, if_pos (by rw [D.1]; exact Int.ofNat_lt.mpr i1)]
theorem l0_ev {w h : Nat} {l : List Bool} (H : OKm w h l) : ∀ d x, x + d = w → ∀ out, Done l w h x out → ∃ r, Ev (fun k => Bb.l0 k out w (x : Int) w h l) r ∧ Done l w h w r := by
  intro d
  induction d with
  | zero =>
    intro x hx out D
    obtain rfl : x = w := by omega
    refine ⟨out, ⟨1, fun k hk => ?_⟩, D⟩
    obtain ⟨k, rfl⟩ : ∃ q, k = q + 1 := ⟨k - 1, by omega⟩
    show Bb.l0 (k + 1) _ _ _ _ _ _ = _
    rw [Bb.l0, if_neg (by omega)]
  | succ d ih =>
    intro x hx out D
    obtain ⟨r, e, p⟩ := l1_ev H x (by omega) (Done l w h w) (fun out2 D2 => ih (x + 1) (by omega) out2 D2) h 0 (by omega) out D (fun y' hy' => by omega)
    refine ⟨r, Ev.step (fun k => ?_) e, p⟩
    rw [Bb.l0, if_pos (Int.ofNat_lt.mpr (by omega))]
    rfl
theorem columns_val {w h : Nat} {l : List Bool} (H : OKm w h l) : ∃ r, Ev (fun k => Bb.f k w h l) r ∧ Done l w h w r := by
  have ha := H.a
  obtain ⟨r, e, p⟩ := l0_ev H w 0 (by omega) (List.replicate (w * h) 0) ⟨by simp, fun x' y' a => by omega⟩
  refine ⟨r, Ev.congr (fun k => ?_) e, p⟩
  unfold Bb.f
  rw [H.len, Int.toNat_natCast, if_pos (Int.natCast_nonneg _), if_pos (by omega)]
  rfl
def sqD (w i s : Nat) : Nat := ad (s % w) (i % w) * ad (s % w) (i % w) + ad (s / w) (i / w) * ad (s / w) (i / w)
theorem ad_sq (a b : Nat) : ((a : Int) - b) * ((a : Int) - b) = ((ad a b * ad a b : Nat) : Int) := by
  rcases Nat.le_total a b with h | h
  · have e : (a : Int) - b = -((ad a b : Nat) : Int) := by unfold ad; omega
    rw [e, Int.neg_mul_neg, ← Int.natCast_mul]
  · have e : (a : Int) - b = ((ad a b : Nat) : Int) := by unfold ad; omega
    rw [e, ← Int.natCast_mul]
theorem ad_le {a b c : Nat} (ha : a ≤ c) (hb : b ≤ c) : ad a b ≤ c := by unfold ad; omega
theorem sqD_le {w h i s : Nat} (hw : 1 ≤ w) (hw2 : w ≤ 1024) (hh2 : h ≤ 1024) (hi : i < w * h) (hs : s < w * h) : sqD w i s ≤ 2097152 := by
  obtain ⟨a, b⟩ := place_lt hw hi
  obtain ⟨c, d⟩ := place_lt hw hs
  have e1 : ad (s % w) (i % w) ≤ 1024 := ad_le (by omega) (by omega)
  have e2 : ad (s / w) (i / w) ≤ 1024 := ad_le (by omega) (by omega)
  have f1 := Nat.mul_le_mul e1 e1
  have f2 := Nat.mul_le_mul e2 e2
  unfold sqD
  omega
theorem row_get {w h : Nat} (r : List Int) (hr : r.length = w * h) (y a : Nat) (hy : y < h) (ha : a < w) : ((r.take (w * y + w)).drop (w * y)).getD a 0 = r.getD (w * y + a) 0 := by
  rw [List.getD_eq_getElem?_getD, List.getD_eq_getElem?_getD, List.getElem?_drop, List.getElem?_take, if_pos (by omega)]
theorem row_len {w h : Nat} (r : List Int) (hr : r.length = w * h) (y : Nat) (hy : y < h) : ((r.take (w * y + w)).drop (w * y)).length = w := by
  have h1 : w * (y + 1) ≤ w * h := Nat.mul_le_mul_left w hy
  rw [Nat.mul_add, Nat.mul_one] at h1
  rw [List.length_drop, List.length_take, hr, Nat.min_eq_left h1]
  omega
def Fin' (l : List Bool) (w h i : Nat) (o : List Int) : Prop := o.length = w * h ∧ ∀ j, j < i → LeastP (inM l) (sqD w j) (o.getD j 0)
theorem s1_ev {w h : Nat} {l : List Bool} (H : OKm w h l) (x5 : List Int) (D : Done l w h w x5) (R : List Int → Prop) (i : Nat) (hi : i < w * h) (hnext : ∀ o, Fin' l w h (i + 1) o → ∃ r, Ev (fun k => Bf.l0 k x5 o ((w * h : Nat) : Int) ((i + 1 : Nat) : Int) w h l) (r, 0) ∧ R r) :
    ∀ d a, a + d = w → ∀ o, Fin' l w h i o → LeastP (fun s => inM l s ∧ s % w < a) (sqD w i) (o.getD i 0) →
    ∃ r, Ev (fun k => Bf.l1 k x5 o i ((i % w : Nat) : Int) ((w * h : Nat) : Int) i ((x5.take (w * (i / w) + w)).drop (w * (i / w))) (w : Int) (a : Int) w h l) (r, 0) ∧ R r := by
  have h1 := H.w1; have h2 := H.w2; have h4 := H.h2; have ha := H.a
  obtain ⟨px, py⟩ := place_lt h1 hi
  intro d
  induction d with
  | zero =>
    intro a hd o F L
    obtain rfl : a = w := by omega
    obtain ⟨r, e, p⟩ := hnext o ⟨F.1, fun j hj => by
      by_cases ej : j = i
      · subst ej
        exact L.congr fun s => ⟨fun q => q.1, fun q => ⟨q, Nat.mod_lt _ (by omega)⟩⟩
      · exact F.2 j (by omega)⟩
    refine ⟨r, Ev.step (fun k => ?_) e, p⟩
    have hwi := Aa.mk (wr1 i (show i < 1000000 by omega))
    rw [Bf.l1, if_neg (by omega), hwi.out]
  | succ d ih =>
    intro a hd o F L
    have haw : a < w := by omega
    have hc := col_spec (colM l w a) h (i / w) py
    have hrow : ((x5.take (w * (i / w) + w)).drop (w * (i / w))).getD a 0 = colV (colM l w a) h (i / w) := by rw [row_get x5 D.1 _ _ py haw, D.2 a _ haw haw py]
    have hsplit : ∀ s, (inM l s ∧ s % w < a + 1) ↔ ((inM l s ∧ s % w < a) ∨ (inM l s ∧ s % w = a)) := fun s => by
      constructor
      · rintro ⟨q1, q2⟩
        by_cases e : s % w = a
        · exact .inr ⟨q1, e⟩
        · exact .inl ⟨q1, by omega⟩
      · rintro (⟨q1, q2⟩ | ⟨q1, q2⟩)
        · exact ⟨q1, by omega⟩
        · exact ⟨q1, by omega⟩
    have hcol : ∀ s, inM l s → s % w = a → colM l w a (s / w) = true ∧ s / w < h := fun s hs e => by
      have hsN : s < w * h := by rw [← H.len]; exact hs.1
      refine ⟨?_, (place_lt h1 hsN).2⟩
      unfold colM
      rw [← e, Nat.div_add_mod]
      exact hs.2
    have hwa := Aa.mk (wr1 a (show a < 1000000 by omega))
    have hrl := row_len x5 D.1 (i / w) py
    by_cases cn : colV (colM l w a) h (i / w) < 1048576
    · obtain ⟨z, z1, z2, z3⟩ := hc.2.1.resolve_right (by omega)
      obtain ⟨i1, i2, i3⟩ := place_mk (w := w) (h := h) (x := a) (y := z) haw z1
      have hs0 : inM l (w * z + a) ∧ (w * z + a) % w = a := ⟨⟨by rw [H.len]; exact i1, z2⟩, i2⟩
      have hQ : ∀ t, (inM l t ∧ t % w = a) → sqD w i (w * z + a) ≤ sqD w i t := fun t ht => by
        obtain ⟨c1, c2⟩ := hcol t ht.1 ht.2
        have := hc.1 (t / w) c2 c1
        have h9 : ad z (i / w) ≤ ad (t / w) (i / w) := by unfold ad at *; omega
        unfold sqD
        rw [i2, i3, ht.2]
        exact Nat.add_le_add_left (Nat.mul_le_mul h9 h9) _
      have hM := (L.more hs0 hQ).congr fun s => (hsplit s).symm
      have hle := sqD_le h1 h2 h4 hi i1
      have hval : Aa (wrap64 ((wrap64 ((wrap64 ((a : Int) - ((i % w : Nat) : Int))) * (wrap64 ((a : Int) - ((i % w : Nat) : Int))))) + (wrap64 (colV (colM l w a) h (i / w) * colV (colM l w a) h (i / w)))) = ((sqD w i (w * z + a) : Nat) : Int)) := by
        refine ⟨?_⟩
        have e1 : wrap64 ((a : Int) - ((i % w : Nat) : Int)) = (a : Int) - ((i % w : Nat) : Int) := by
          clear L F hM hQ hs0 hcol hsplit hrow hc
          generalize i % w = q at *
          exact wr (by omega) (by omega)
        have e2 : ad (i / w) z = ad z (i / w) := by unfold ad; omega
        have hlo := hle
        unfold sqD at hlo ⊢
        rw [i2, i3] at hlo ⊢
        rw [e1, ad_sq, z3, e2, ← Int.natCast_mul]
        clear e1 e2 z3 hM hQ hs0 L F hcol hsplit hrow hc
        generalize ad a (i % w) * ad a (i % w) = p1 at *
        generalize ad z (i / w) * ad z (i / w) = p2 at *
        rw [wr (x := (p1 : Int)) (by omega) (by omega), wr (x := (p2 : Int)) (by omega) (by omega), wr (by omega) (by omega)]
        rfl
      by_cases c0 : o.getD i 0 < 0
      · rw [if_pos c0] at hM
        obtain ⟨r, e, p⟩ := ih (a + 1) (by omega) (o.set i ((sqD w i (w * z + a) : Nat) : Int)) ⟨by rw [List.length_set]; exact F.1, fun j hj => by rw [FM.getD_set_ne _ _ _ _ (by omega)]; exact F.2 j hj⟩ (by rw [FM.getD_set_self _ _ _ (by rw [F.1]; exact hi)]; exact hM)
        refine ⟨r, Ev.step (fun k => ?_) e, p⟩
        rw [Bf.l1, rd_nat, rd_nat, hrow, hval.out, hwa.out, Int.toNat_natCast, if_pos (by omega), if_pos (by omega), if_pos (by rw [hrl]; omega), if_pos cn, if_pos (by omega), if_pos (by rw [F.1]; omega), if_pos c0]
      · rw [if_neg c0] at hM
        by_cases c1 : ((sqD w i (w * z + a) : Nat) : Int) < o.getD i 0
        · rw [if_pos c1] at hM
          obtain ⟨r, e, p⟩ := ih (a + 1) (by omega) (o.set i ((sqD w i (w * z + a) : Nat) : Int)) ⟨by rw [List.length_set]; exact F.1, fun j hj => by rw [FM.getD_set_ne _ _ _ _ (by omega)]; exact F.2 j hj⟩ (by rw [FM.getD_set_self _ _ _ (by rw [F.1]; exact hi)]; exact hM)
          refine ⟨r, Ev.step (fun k => ?_) e, p⟩
          rw [Bf.l1, rd_nat, rd_nat, hrow, hval.out, hwa.out, Int.toNat_natCast, if_pos (by omega), if_pos (by omega), if_pos (by rw [hrl]; omega), if_pos cn, if_pos (by omega), if_pos (by rw [F.1]; omega), if_neg c0, if_pos c1]
        · rw [if_neg c1] at hM
          obtain ⟨r, e, p⟩ := ih (a + 1) (by omega) o F hM
          refine ⟨r, Ev.step (fun k => ?_) e, p⟩
          rw [Bf.l1, rd_nat, rd_nat, hrow, hval.out, hwa.out, Int.toNat_natCast, if_pos (by omega), if_pos (by omega), if_pos (by rw [hrl]; omega), if_pos cn, if_pos (by omega), if_pos (by rw [F.1]; omega), if_neg c0, if_neg c1]
    · have hno : ∀ s, ¬ (inM l s ∧ s % w = a) := fun s hs => by
        obtain ⟨c1, c2⟩ := hcol s hs.1 hs.2
        have := hc.1 (s / w) c2 c1
        have h9 : ad (i / w) (s / w) ≤ 1024 := ad_le (by omega) (by omega)
        omega
      obtain ⟨r, e, p⟩ := ih (a + 1) (by omega) o F ((L.none hno).congr fun s => (hsplit s).symm)
      refine ⟨r, Ev.step (fun k => ?_) e, p⟩
      rw [Bf.l1, rd_nat, hrow, hwa.out, if_pos (by omega), if_pos (by omega), if_pos (by rw [hrl]; omega), if_neg cn]
theorem s0_ev {w h : Nat} {l : List Bool} (H : OKm w h l) (x5 : List Int) (D : Done l w h w x5) : ∀ d i, i + d = w * h → ∀ o, Fin' l w h i o → ∃ r, Ev (fun k => Bf.l0 k x5 o ((w * h : Nat) : Int) (i : Int) w h l) (r, 0) ∧ Fin' l w h (w * h) r := by
  have h1 := H.w1; have h2 := H.w2; have h4 := H.h2; have ha := H.a
  intro d
  induction d with
  | zero =>
    intro i hi o F
    obtain rfl : i = w * h := by omega
    refine ⟨o, ⟨1, fun k hk => ?_⟩, F⟩
    obtain ⟨k, rfl⟩ : ∃ q, k = q + 1 := ⟨k - 1, by omega⟩
    show Bf.l0 (k + 1) _ _ _ _ _ _ _ = _
    rw [Bf.l0, if_neg (by omega)]
  | succ d ih =>
    intro i hi o F
    have hiN : i < w * h := by omega
    obtain ⟨px, py⟩ := place_lt h1 hiN
    obtain ⟨r, e, p⟩ := s1_ev H x5 D (Fin' l w h (w * h)) i hiN (fun o2 F2 => ih (i + 1) (by omega) o2 F2) w 0 (by omega) (o.set i (-1)) ⟨by rw [List.length_set]; exact F.1, fun j hj => by rw [FM.getD_set_ne _ _ _ _ (by omega)]; exact F.2 j hj⟩ (by
      rw [FM.getD_set_self _ _ _ (by rw [F.1]; exact hiN)]
      exact .inl ⟨rfl, fun s hs => by omega⟩)
    refine ⟨r, Ev.step (fun k => ?_) e, p⟩
    have hq : w * (i / w) + w ≤ w * h := by
      have := Nat.mul_le_mul_left w py
      rw [Nat.succ_eq_add_one, Nat.mul_add, Nat.mul_one] at this
      exact this
    have e1 : Int.tmod (i : Int) (w : Int) = ((i % w : Nat) : Int) := by rw [Int.tmod_eq_emod_of_nonneg (by omega)]; rfl
    have hdm := Nat.div_add_mod i w
    have hrl := row_len x5 D.1 (i / w) py
    generalize hmm : i % w = m at *
    generalize hqq : w * (i / w) = q at *
    have e2 : Aa (wrap64 ((i : Int) - (m : Int)) = (q : Int)) := ⟨by rw [wr (by omega) (by omega)]; omega⟩
    have e3 : Aa (wrap64 ((q : Int) + (w : Int)) = ((q + w : Nat) : Int)) := ⟨by rw [wr (by omega) (by omega)]; rfl⟩
    rw [Bf.l0, e1, e2.out, e3.out, if_pos (Int.ofNat_lt.mpr hiN), if_neg (by omega), if_pos (Int.natCast_nonneg _), if_pos (by rw [F.1]; exact Int.ofNat_lt.mpr hiN), if_pos (Int.natCast_nonneg _), if_pos (Int.ofNat_le.mpr (Nat.le_add_right _ _)), if_pos (by rw [D.1]; exact Int.ofNat_le.mpr hq), Option.bind_some, Int.toNat_natCast, Int.toNat_natCast, Int.toNat_natCast, hrl]
    rfl
theorem square_val {w h : Nat} {l : List Bool} (H : OKm w h l) : ∃ r, Ev (fun k => Bf.f k w h l) (r, 0) ∧ r.length = w * h ∧ ∀ j, j < w * h → LeastP (inM l) (sqD w j) (r.getD j 0) := by
  have ha := H.a
  obtain ⟨x5, e5, D⟩ := columns_val H
  obtain ⟨r, e, p⟩ := s0_ev H x5 D (w * h) 0 (by omega) (List.replicate (w * h) 0) ⟨by simp, fun j hj => by omega⟩
  refine ⟨r, ?_, p.1, p.2⟩
  unfold Bf.f
  rw [fcheck_ok H]
  simp only [Option.bind_some, if_true]
  refine Ev.bind e5 ?_
  refine Ev.congr (fun k => ?_) e
  rw [H.len, Int.toNat_natCast, if_pos (Int.natCast_nonneg _), if_pos (by omega), List.length_replicate]
  rfl
end SQR
end Go.Proofs.Yteamphcehoaleaa

