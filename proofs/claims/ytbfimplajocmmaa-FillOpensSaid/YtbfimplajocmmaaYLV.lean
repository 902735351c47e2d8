import Derived.Test.YtbfimplajocmmaaYRM14
import Derived.Test.YtbfimplajocmmaaYMJ
import Derived.Test.YtbfimplajocmmaaYLZ
set_option linter.unusedVariables false
set_option linter.unusedSimpArgs false
open Go Go.RowKit Go.Proofs.YtbfimplajocmmaaW.PrintWords
namespace Go.Proofs.Ytbfimplajocmmaa
open PFA PFK PFC PFD PRA PRB PRD PRO
namespace LV
theorem ob {α β : Type} {a : α} {f : α → Option β} : (some a).bind f = f a := rfl
theorem cz_ {e0 bk w h k : Int} (h0 : chk e0 bk w h k = 0) : e0 = 0 ∧ (1 ≤ w ∧ 1 ≤ h ∧ w ≤ 15 ∧ h ≤ 15) ∧ (0 ≤ k ∧ k < w * h) ∧ (1 ≤ bk ∧ bk ≤ 3) := by
 unfold chk at h0
 by_cases h1 : e0 = 0
 ·subst h1
  rw [if_neg (show ¬((0 : Int) ≠ 0) by simp)] at h0
  by_cases hf : 1 ≤ w ∧ 1 ≤ h ∧ w ≤ 15 ∧ h ≤ 15
  ·rw [if_pos hf] at h0
   by_cases hk : k < 0 ∨ k ≥ w * h
   ·rw [if_pos hk] at h0; omega
   ·rw [if_neg hk] at h0
    by_cases hb : 1 ≤ bk ∧ bk ≤ 3
    ·exact ⟨rfl, hf, by omega, hb⟩
    ·rw [if_neg hb] at h0; omega
  ·rw [if_neg hf] at h0; omega
 ·rw [if_pos h1] at h0; exact absurd h0 h1
theorem rg_ (K : Nat) (bk : Int) (W H : Nat) (l : List Int) (w h k X0 Y0 X1 Y1 : Nat) (hc : Ce.f W H l = some 0) (hz : chk 0 bk w h k = 0) (hk : 1 ≤ bk ∧ bk ≤ 3) (hW1 : 1 ≤ W) (hW : W ≤ 1024) (hH1 : 1 ≤ H) (hH : H ≤ 1024) (hl : l.length = W * H)
  (hw : w ≤ 15) (hh : h ≤ 15) (hkw : k < w * h) (hu : U32 l) (hK : H * (W + 2) + 400 ≤ K) (hx : X0 < X1) (hy : Y0 < Y1) (hX : X1 ≤ W) (hY : Y1 ≤ H) :
  Au.f K W H l bk w h k X0 Y0 X1 Y1 = some (((X1 - X0 : Nat) : Int), ((Y1 - Y0 : Nat) : Int), allP bk W H l w h k X0 Y0 (X1 - X0) (Y1 - Y0) 0, 0) := by
 have hHW : H * (W + 2) ≤ 1024 * 1026 := Nat.mul_le_mul hH (by omega); have hm : (Y1 - Y0) * (X1 - X0 + 2) ≤ H * (W + 2) := Nat.mul_le_mul (by omega) (by omega); have hm2 : (Y1 - Y0) * (X1 - X0) ≤ 1024 * 1024 := Nat.mul_le_mul (by omega) (by omega); have e1 : wrap64 ((X1 : Int) - (X0 : Int)) = ((X1 - X0 : Nat) : Int) := by rw [wd _ (by omega) (by omega)]; omega
 have e2 : wrap64 ((Y1 : Int) - (Y0 : Int)) = ((Y1 - Y0 : Nat) : Int) := by rw [wd _ (by omega) (by omega)]; omega
 obtain ⟨K, rfl⟩ : ∃ q, K = q + 1 := ⟨K - 1, by omega⟩; have h1 := refpart_rows bk W H l w h k X0 Y0 X1 Y1 (X1 - X0) ((X1 - X0 : Nat) : Int) ((Y1 - Y0 : Nat) : Int) hk hW1 hW hH1 hH hl hw hh hkw hu (by omega) (by omega) (by omega) (Y1 - Y0) 0 [] (by omega) (by rw [List.length_nil]; omega); rw [Nat.add_zero, List.nil_append] at h1
 have h2 : Au.f ((Y1 - Y0) * (X1 - X0 + 2) + 301 + 1) W H l bk w h k X0 Y0 X1 Y1 = some (((X1 - X0 : Nat) : Int), ((Y1 - Y0 : Nat) : Int), allP bk W H l w h k X0 Y0 (X1 - X0) (Y1 - Y0) 0, 0) := by
  unfold Au.f; rw [refcheck_eq _ (by omega) W H l bk w h k 0 hc, ob, hz, if_pos rfl, if_neg (by omega), if_neg (by omega), if_neg (by omega), if_neg (by omega), if_neg (by omega), decide_eq_false (by omega), Au.j0, if_neg (by decide), e1, e2]; exact h1
 exact upF (fun K => Au.f K W H l bk w h k X0 Y0 X1 Y1) (fun K => Au.mono _ _ _ _ _ _ _ _ _ _ _ K) h2 (by omega)
abbrev R4 := Int × Int × List Int × Int
theorem pb_ (a b : Int) (l : List Int) (bk w h k : Int) (hu : U32 l) : ∃ R : R4, (∀ K, 70000 ≤ K → Cw.f K a b l bk w h k = some R ∧ Cf.f K a b l bk w h k = some R) ∧ U32 R.2.2.1 ∧ R.2.2.1.length ≤ 65536 := by
 have bad : ∀ e0, Ce.f a b l = some e0 → chk e0 bk w h k ≠ 0 → ∃ R : R4, (∀ K, 70000 ≤ K → Cw.f K a b l bk w h k = some R ∧ Cf.f K a b l bk w h k = some R) ∧ U32 R.2.2.1 ∧ R.2.2.1.length ≤ 65536 := by
  intro e0 hc hz; refine ⟨(0, 0, [], chk e0 bk w h k), fun K hK => ?_, fun s hs => (by cases hs), by simp⟩; have h1 := check_eq K (by omega) a b l bk w h k e0 hc; have h2 := refcheck_eq K (by omega) a b l bk w h k e0 hc; unfold Cw.f Cf.f; rw [h1, h2, ob, ob, if_neg hz, if_neg hz]; exact ⟨rfl, rfl⟩
 rcases check_cases a b l with ⟨e0, hc, he⟩ | ⟨W, H, rfl, rfl, hW1, hW, hH1, hH, hWH, hlen, hc⟩
 ·exact bad e0 hc (fun hz => he (cz_ hz).1)
 ·by_cases hz : chk 0 bk w h k = 0
  rotate_left
  ·exact bad 0 hc hz
  obtain ⟨_, hf, hk, hb2⟩ := cz_ hz; obtain ⟨w, rfl⟩ := Int.eq_ofNat_of_zero_le (show 0 ≤ w by omega); obtain ⟨h, rfl⟩ := Int.eq_ofNat_of_zero_le (show 0 ≤ h by omega); obtain ⟨k, rfl⟩ := Int.eq_ofNat_of_zero_le (show 0 ≤ k by omega); have hkw : k < w * h := by exact_mod_cast hk.2
  have hsz : H * (W + 2) + 400 ≤ 70000 := by
   have : H * (W + 2) = W * H + 2 * H := by rw [Nat.mul_add, Nat.mul_comm H W, Nat.mul_comm H 2]
   omega
  refine ⟨((W : Int), (H : Int), allP bk W H l w h k 0 0 W H 0, 0), fun K hK => ⟨?_, ?_⟩, allP_u32 _ _ _ _ _ _ _ _ _ _ hu _ _, by show (allP bk W H l w h k 0 0 W H 0).length ≤ 65536; rw [allP_length, Nat.mul_comm]; omega⟩
  ·exact plane_fine K bk W H l w h k hc hb2 hW1 hW hH1 hH hlen (by omega) (by omega) (by omega) (by omega) hkw hu (by omega) (by omega)
  ·unfold Cf.f
   have h2 := rg_ K bk W H l w h k 0 0 W H hc hz hb2 hW1 hW hH1 hH hlen (by omega) (by omega) hkw hu (by omega) (by omega) (by omega) (by omega) (by omega); rw [Nat.sub_zero, Nat.sub_zero, show ((0 : Nat) : Int) = 0 from rfl] at h2; rw [refcheck_eq K (by omega) W H l bk w h k 0 hc, ob, hz, if_pos rfl, h2, ob]
theorem tm_ (w : Int) : (0 ≤ w ∧ Int.tmod w 2 = w % 2) ∨ (w < 0 ∧ Int.tmod w 2 ≤ 0) := by
 by_cases h : 0 ≤ w
 ·exact .inl ⟨h, Int.tmod_eq_emod_of_nonneg h⟩
 ·refine .inr ⟨by omega, ?_⟩
  have h1 := Int.neg_tmod (-w) 2; rw [Int.neg_neg] at h1; have h2 := Int.tmod_nonneg 2 (show 0 ≤ -w by omega)
  omega
abbrev okW (w h : Int) : Prop := Int.tmod w 2 = 1 ∧ Int.tmod h 2 = 1 ∧ w ≤ 15 ∧ h ≤ 15
theorem of_ {w h : Int} (o : okW w h) : 1 ≤ w ∧ 1 ≤ h ∧ w ≤ 15 ∧ h ≤ 15 := by
 obtain ⟨h1, h2, h3, h4⟩ := o
 rcases tm_ w with ⟨a, b⟩ | ⟨a, b⟩
 ·rcases tm_ h with ⟨c, d⟩ | ⟨c, d⟩
  ·omega
  ·omega
 ·omega
theorem al_ {w h : Int} (o : okW w h) : 1 ≤ w * h ∧ w * h ≤ 225 := by
 obtain ⟨h1, h2, h3, h4⟩ := of_ o; have a1 := Int.mul_pos (show 0 < w by omega) (show 0 < h by omega); have a2 : w * h ≤ 15 * 15 := Int.mul_le_mul h3 h4 (by omega) (by omega)
 omega
def kk (f w h : Int) : Int := f * (w * h - 1)
theorem ts_ (a b : Int) (l : List Int) (bk w h : Int) (hu : U32 l) (f t : Int) (hf : f = 0 ∨ f = 1) (ht : t = 0 ∨ t = 1) (E D : Nat → TW.RF) (hE : ∀ K a b l, okW w h → E K a b l bk w h = Cw.f K a b l bk w h (kk f w h)) (hD : ∀ K a b l, okW w h → D K a b l bk w h = Cw.f K a b l bk w h (kk t w h)) :
  ∃ R : R4, R.2.2.1.length ≤ 65536 ∧ ∀ K, 70001 ≤ K → TW.twoF (E K) (D K) a b l bk w h = some R ∧ Br.f K a b l bk w h f t = some R := by
 have hrc : Co.f a b l = Ce.f a b l := refpcheck_eq a b l
 obtain ⟨e0, hc⟩ : ∃ e0, Ce.f a b l = some e0 := by
  rcases check_cases a b l with ⟨e0, hc, he⟩ | ⟨W, H, rfl, rfl, hW1, hW, hH1, hH, hWH, hlen, hc⟩
  ·exact ⟨e0, hc⟩
  ·exact ⟨0, hc⟩
 by_cases h0 : e0 = 0
 case neg =>
  refine ⟨(0, 0, [], e0), by simp, fun K hK => ⟨?_, ?_⟩⟩
  ·unfold TW.twoF; rw [hc, ob, if_neg h0]
  ·unfold Br.f; rw [hrc, hc, ob, if_neg h0]
 subst h0
 by_cases ho : okW w h
 case neg =>
  refine ⟨(0, 0, [], 305), by simp, fun K hK => ⟨?_, ?_⟩⟩
  ·unfold TW.twoF; rw [hc, ob, if_pos rfl, if_neg ho]
  ·obtain ⟨K, rfl⟩ : ∃ q, K = q + 1 := ⟨K - 1, by omega⟩
   unfold Br.f; rw [hrc, hc, ob, if_pos rfl]; have j : Br.j0 (K + 1) bk w h f t true a b l = some (0, 0, [], 305) := by rw [Br.j0, if_pos rfl]
   by_cases c1 : w < 1
   ·rw [if_pos c1, j]
   ·rw [if_neg c1]
    by_cases c2 : w > 15
    ·rw [if_pos c2, j]
    ·rw [if_neg c2]
     by_cases c3 : Int.tmod w 2 = 0
     ·rw [if_pos c3, j]
     ·rw [if_neg c3]
      by_cases c4 : h < 1
      ·rw [if_pos c4, j]
      ·rw [if_neg c4]
       by_cases c5 : h > 15
       ·rw [if_pos c5, j]
       ·rw [if_neg c5]
        have c6 : Int.tmod h 2 = 0 := by
         rcases tm_ w with ⟨x1, x2⟩ | ⟨x1, x2⟩
         ·rcases tm_ h with ⟨y1, y2⟩ | ⟨y1, y2⟩
          ·have : ¬ (Int.tmod w 2 = 1 ∧ Int.tmod h 2 = 1) := fun q => ho ⟨q.1, q.2, by omega, by omega⟩
           omega
          ·omega
         ·omega
        rw [c6]; exact j
 have hfine := of_ ho; have ha := al_ ho
 have hkf : ∀ z : Int, (z = 0 ∨ z = 1) → wrap64 (z * wrap64 (wrap64 (w * h) - 1)) = kk z w h := fun z hz => by
  unfold kk; rw [wd (w * h) (by omega) (by omega), wd (w * h - 1) (by omega) (by omega)]
  rcases hz with rfl | rfl
  ·rw [Int.zero_mul, wd 0 (by omega) (by omega)]
  ·rw [Int.one_mul, wd _ (by omega) (by omega)]
 have href : ∀ K, Br.f (K + 1) a b l bk w h f t = ((Cf.f K a b l bk w h (kk f w h)).bind fun bt104 => (if bt104.2.2.2 = 0 then ((Cf.f K bt104.1 bt104.2.1 bt104.2.2.1 bk w h (kk t w h)).bind fun bt111 => (some (bt111.1, bt111.2.1, bt111.2.2.1, bt111.2.2.2))) else (some (0, 0, ([] : List Int), bt104.2.2.2)))) := fun K => by
  unfold Br.f; have x1 : Int.tmod w 2 ≠ 0 := by rw [ho.1]; decide
  have x2 : (Int.tmod h 2 == 0) = false := by rw [ho.2.1]; rfl
  rw [hrc, hc, ob, if_pos rfl, if_neg (by omega), if_neg (by omega), if_neg x1, if_neg (by omega), if_neg (by omega), x2, Br.j0, if_neg (by decide), hkf f hf, hkf t ht]
 obtain ⟨R1, p1, u1, n1⟩ := pb_ a b l bk w h (kk f w h) hu
 by_cases c4 : R1.2.2.2 = 0
 ·obtain ⟨R2, p2, u2, n2⟩ := pb_ R1.1 R1.2.1 R1.2.2.1 bk w h (kk t w h) u1
  refine ⟨R2, n2, fun K hK => ⟨?_, ?_⟩⟩
  ·unfold TW.twoF
   rw [hc, ob, if_pos rfl, if_pos ho, hE K a b l ho, (p1 K (by omega)).1, ob, if_pos c4, hD K _ _ _ ho]; exact (p2 K (by omega)).1
  ·obtain ⟨K, rfl⟩ : ∃ q, K = q + 1 := ⟨K - 1, by omega⟩
   rw [href K, (p1 K (by omega)).2, ob, if_pos c4, (p2 K (by omega)).2, ob]
 ·refine ⟨(0, 0, [], R1.2.2.2), by simp, fun K hK => ⟨?_, ?_⟩⟩
  ·unfold TW.twoF
   rw [hc, ob, if_pos rfl, if_pos ho, hE K a b l ho, (p1 K (by omega)).1, ob, if_neg c4]
  ·obtain ⟨K, rfl⟩ : ∃ q, K = q + 1 := ⟨K - 1, by omega⟩
   rw [href K, (p1 K (by omega)).2, ob, if_neg c4]
theorem ek_ (K : Nat) (a b : Int) (l : List Int) (bk w h : Int) (o : okW w h) : Cu.f K a b l bk w h = Cw.f K a b l bk w h (kk 0 w h) := by
 unfold Cu.f kk; rw [kOf_fine _ _ _ (of_ o), Int.zero_mul]
theorem dk_ (K : Nat) (a b : Int) (l : List Int) (bk w h : Int) (o : okW w h) : Cq.f K a b l bk w h = Cw.f K a b l bk w h (kk 1 w h) := by
 unfold Cq.f kk; rw [last_place _ _ (of_ o), Int.one_mul]
theorem os_ (a b : Int) (l : List Int) (bk w h : Int) (hu : U32 l) : ∃ R : R4, R.2.2.1.length ≤ 65536 ∧ ∀ K, 70001 ≤ K → TW.twoF (Cu.f K) (Cq.f K) a b l bk w h = some R ∧ Dd.f K a b l bk w h = some R := by
 obtain ⟨R, n, hR⟩ := ts_ a b l bk w h hu 0 1 (.inl rfl) (.inr rfl) (fun K => Cu.f K) (fun K => Cq.f K) (fun K a b l o => ek_ K a b l bk w h o) (fun K a b l o => dk_ K a b l bk w h o); refine ⟨R, n, fun K hK => ⟨(hR K hK).1, ?_⟩⟩; unfold Dd.f; rw [(hR K hK).2, ob]
theorem cs_ (a b : Int) (l : List Int) (bk w h : Int) (hu : U32 l) : ∃ R : R4, R.2.2.1.length ≤ 65536 ∧ ∀ K, 70001 ≤ K → TW.twoF (Cq.f K) (Cu.f K) a b l bk w h = some R ∧ Da.f K a b l bk w h = some R := by
 obtain ⟨R, n, hR⟩ := ts_ a b l bk w h hu 1 0 (.inr rfl) (.inl rfl) (fun K => Cq.f K) (fun K => Cu.f K) (fun K a b l o => dk_ K a b l bk w h o) (fun K a b l o => ek_ K a b l bk w h o); refine ⟨R, n, fun K hK => ⟨(hR K hK).1, ?_⟩⟩; unfold Da.f; rw [(hR K hK).2, ob]
theorem hs_ (a b : Int) (l : List Int) (w h : Int) : ∃ r, Cr.f a b l w h = some r := by
 unfold Cr.f
 by_cases c1 : w > 0
 ·by_cases c2 : h > 0
  ·by_cases c3 : w ≤ 1000
   ·by_cases c4 : h ≤ 1000
    ·have a1 := Int.mul_pos c1 c2
     have a2 : w * h ≤ 1000 * 1000 := Int.mul_le_mul c3 c4 (by omega) (by omega); rw [if_pos c1, if_pos c2, if_pos c3, if_pos c4, if_neg (by rw [wd _ (by omega) (by omega)]; omega)]; exact ⟨_, rfl⟩
    ·rw [if_pos c1, if_pos c2, if_pos c3, if_neg c4]; exact ⟨_, rfl⟩
   ·rw [if_pos c1, if_pos c2, if_neg c3]; exact ⟨_, rfl⟩
  ·rw [if_pos c1, if_neg c2]; exact ⟨_, rfl⟩
 ·rw [if_neg c1]; exact ⟨_, rfl⟩
theorem ws_ (l : List Int) (hl : l.length ≤ 65536) : Ev (fun k => Cd.f k l l) true := by
 have h : ∀ d i, i + d = l.length → Ev (fun k => Cd.l0 k l l (i : Nat)) true := by
  intro d
  induction d with
  | zero =>
   intro i hid; refine Ev.step (f := fun _ => some true) (fun k => ?_) (Ev.now _); rw [Cd.l0, if_neg (by omega)]
  | succ d ih =>
   intro i hid; refine Ev.step (fun k => ?_) (ih (i + 1) (by omega)); have e : Ac (wrap64 ((i : Int) + 1) = ((i + 1 : Nat) : Int)) := ⟨by rw [wd _ (by omega) (by omega)]; rfl⟩; rw [Cd.l0, if_pos (by omega), if_pos (by omega), if_pos (by omega), if_pos rfl, e.out]
 refine Ev.congr (f := fun k => Cd.l0 k l l 0) (fun k => ?_) (h l.length 0 (by omega)); unfold Cd.f; rw [if_pos rfl]
theorem ps_ (a b : Int) (l : List Int) (hl : l.length ≤ 65536) : Ev (fun k => Cz.f k a b l a b l) true := by
 obtain ⟨n, hn⟩ := ws_ l hl; refine ⟨n, fun k hk => ?_⟩; show Cz.f k a b l a b l = _; unfold Cz.f; rw [if_pos rfl, if_pos rfl, show Cd.f k l l = some true from hn k hk]; rfl
theorem uo_ {x : Int} (h : (Lit.int .u32 x).wf = true) : 0 ≤ x ∧ x < 4294967296 := by
 have h1 : IntKind.u32.min ≤ x ∧ x ≤ IntKind.u32.max := by simpa [Lit.wf] using h
 have e1 : IntKind.u32.min = 0 := rfl; have e2 : IntKind.u32.max = 4294967295 := rfl
 omega
theorem row (a b : Int) (l : List Int) (bk w h : Int) (_ : (Lit.int .i64 a).wf = true) (_ : (Lit.int .i64 b).wf = true) (hw : ∀ x ∈ l, (Lit.int .u32 x).wf = true) (hz : l.length * 4 ≤ 140737488351232) (_ : (Lit.int .i64 bk).wf = true) (_ : (Lit.int .i64 w).wf = true) (_ : (Lit.int .i64 h).wf = true) :
  ∃ k, true = true ∧ ((Ao.f k = some true ∧ Cr.f a b l w h = some true) ∨ ∃ p1 p2 pl pe q1 q2 ql qe, OpensOk k a b l bk w h p1 p2 pl pe q1 q2 ql qe) := by
 have hu : U32 l := fun s hs => uo_ (hw s hs)
 obtain ⟨k7, p7⟩ := known_true; obtain ⟨r, hr⟩ := hs_ a b l w h; cases r
 ·obtain ⟨⟨p1, p2, pl, pe⟩, n1, h1⟩ := os_ a b l bk w h hu
  obtain ⟨⟨q1, q2, ql, qe⟩, n2, h2⟩ := cs_ a b l bk w h hu; obtain ⟨k5, p5⟩ := ps_ p1 p2 pl n1; obtain ⟨k6, p6⟩ := ps_ q1 q2 ql n2; have hK : 70001 ≤ 70001 + k5 + k6 + k7 := by omega
  exact ⟨70001 + k5 + k6 + k7, rfl, .inr ⟨p1, p2, pl, pe, q1, q2, ql, qe, ⟨by omega, p7 _ (by omega), hr, (h1 _ hK).2, (h2 _ hK).2, (h1 _ hK).1, (h2 _ hK).1, p5 _ (by omega), p6 _ (by omega)⟩⟩⟩
 ·exact ⟨k7, rfl, .inl ⟨p7 _ (Nat.le_refl _), hr⟩⟩
end LV
theorem FillOpens_calls (k : Nat) (a0 a1 : Int) (A : Option Addr) (c : Nat) (l : List Int) (bk wd hd : Int) (r : Bool) (w : World) (hC : Kd.C (Kd.int .u32) w A l.length l) (hc : l.length ≤ c) (h : r = true ∧ ((Ao.f k = some true ∧ Cr.f a0 a1 l wd hd = some true) ∨ ∃ p1 p2 pl pe q1 q2 ql qe, OpensOk k a0 a1 l bk wd hd p1 p2 pl pe q1 q2 ql qe)) :
  Calls Try.prog 4 #[.agg #[.int .i64 a0, .int .i64 a1, .slice A l.length c], .int .i64 bk, .int .i64 wd, .int .i64 hd] w fun e w' => e = .returned (.bool r) ∧ Below w.heap.size w w' := by
 obtain ⟨rfl, ⟨h1, h2⟩ | ⟨p1, p2, pl, pe, q1, q2, ql, qe, H⟩⟩ := h
 ·exact LZ.walk_heavy k a0 a1 A c l bk wd hd w hC hc h1 h2
 ·exact LZ.walk k a0 a1 A c l bk wd hd p1 p2 pl pe q1 q2 ql qe w hC hc H
end Go.Proofs.Ytbfimplajocmmaa


