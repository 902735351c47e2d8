/- The plain law of DitherOrdered: the reference's plane is the program's. -/
import Derived.Test.YtmipbbkieadecaaM4
import Derived.Test.YtmipbbkieadecaaPDOx3
open Go Go.RowKit Go.Proofs.YtmipbbkieadecaaW.PrintWords Go.Proofs.YtmipbbkieadecaaW.PrintLast Go.Proofs.YtmipbbkieadecaaW.PrintMore
set_option linter.unusedVariables false
set_option linter.unusedSimpArgs false
namespace Go.Proofs.Ytmipbbkieadecaa
open PDA PDB PDC PDK PDO

theorem refLevel (n k : Nat) (h2 : 2 ≤ n) (h : n ≤ 256) (hk : k < n) : halideref13_Level.f n k = some ((lvlN n k : Int), 0) := level_some n k h2 h hk

theorem pick_end (n S b u : Nat) (h2 : 2 ≤ n) (h : n ≤ 256) (hS : S ≤ 16) (hb : b < 256) (hu : u ≤ 16777216) (k : Nat) :
    halideref13_Pick.l0 (k + 1) n S b u (fl n u : Nat) (n : Nat) = some (lvlN n (pick n S b u) : Int) := by
  have hlt := fl_lt n u h2 hu
  have hpl := pick_lt n S b u h2 hu
  have hlow := fl_below n u h2
  rw [halideref13_Pick.l0, if_neg (by omega)]
  rw [w_pred n h2 h, w_succ (fl n u) (by omega)]
  unfold pick at hpl ⊢
  by_cases hl : fl n u = n - 1
  · rw [if_neg (by omega), if_pos hl, refLevel n _ h2 h hlt]
    rfl
  · rw [if_pos (by omega), refUnit_eq n _ h2 h hlt, Option.bind_some, refUnit_eq n _ h2 h (by omega), Option.bind_some, if_neg hl]
    have hm := U_mono n h2 h (fl n u) (fl n u + 1) (by omega)
    have hx := U_le n (fl n u + 1) h2 (by omega)
    have hc := cmp_eq n S b u (fl n u) (U n (fl n u)) (U n (fl n u + 1)) hS hb hu hlow hm hx
    by_cases hq : 2 * S * S * (u - U n (fl n u)) > (2 * b + 1) * (U n (fl n u + 1) - U n (fl n u))
    · rw [if_pos (hc.mpr hq), if_pos hq, refLevel n _ h2 h (by omega)]
      rfl
    · rw [if_neg (fun h9 => hq (hc.mp h9)), if_neg hq, refLevel n _ h2 h hlt]
      rfl

theorem pick_scan (n S b u t : Nat) (V : Nat → Nat) (R : Int) (h2 : 2 ≤ n) (h : n ≤ 256) (hV : ∀ j, j < n → halideref13_Unit.f n j = some ((V j : Int), 0)) (htn : t < n)
    (hlo : ∀ j, j ≤ t → V j ≤ u) (hhi : ∀ j, t < j → j < n → u < V j) (hend : ∀ k, halideref13_Pick.l0 (k + 1) n S b u t n = some R) :
    ∀ m cur best fuel, cur + m = n → (t < cur → best = t) → m < fuel → halideref13_Pick.l0 fuel n S b u (best : Nat) (cur : Nat) = some R
  | 0, cur, best, fuel, hm, h4, hf => by
    obtain ⟨k, rfl⟩ : ∃ q, fuel = q + 1 := ⟨fuel - 1, by omega⟩
    obtain rfl : cur = n := by omega
    rw [h4 htn]
    exact hend k
  | m + 1, cur, best, fuel, hm, h4, hf => by
    obtain ⟨k, rfl⟩ : ∃ q, fuel = q + 1 := ⟨fuel - 1, by omega⟩
    rw [halideref13_Pick.l0, if_pos (by omega), hV cur (by omega), Option.bind_some, w_succ cur (by omega)]
    by_cases hc : V cur ≤ u
    · rw [if_pos (by omega)]
      refine pick_scan n S b u t V R h2 h hV htn hlo hhi hend m (cur + 1) cur k (by omega) (fun h5 => ?_) (by omega)
      rcases Nat.lt_or_ge t cur with h6 | h6
      · exact absurd (hhi cur h6 (by omega)) (by omega)
      · omega
    · rw [if_neg (by omega)]
      refine pick_scan n S b u t V R h2 h hV htn hlo hhi hend m (cur + 1) best k (by omega) (fun h5 => ?_) (by omega)
      rcases Nat.lt_or_ge t cur with h6 | h6
      · exact h4 h6
      · exact absurd (hlo cur h6) hc

theorem ref_rest (a : Int) (S : Nat) (h0 : 0 < S) (h16 : S ≤ 16) : Int.tmod (wrap64 (Int.tmod a S + S)) S = a % (S : Int) := by
  have hb : -(S : Int) < Int.tmod a S ∧ Int.tmod a S < S := by
    refine ⟨?_, Int.tmod_lt_of_pos a (by omega)⟩
    rcases Int.le_total 0 a with h | h
    · have := Int.tmod_nonneg (S : Int) h
      omega
    · have h1 : Int.tmod a S = -(Int.tmod (-a) S) := by rw [Int.neg_tmod, Int.neg_neg]
      have h2 := Int.tmod_lt_of_pos (-a) (show (0 : Int) < S by omega)
      omega
  have hd := Int.tmod_def a S
  generalize hm : Int.tmod a S = M at *
  rw [w64 _ (by omega) (by omega), Int.tmod_eq_emod_of_nonneg (by omega), Int.add_emod_right]
  rw [hd, Int.sub_mul_emod_self_left]

/-- The reference's pick. -/
theorem refPick_eq (n : Nat) (x y : Int) (E W i : Nat) (s : Int) (h2 : 2 ≤ n) (h : n ≤ 256) (hE : E ≤ 4) (h0 : 0 ≤ s) (h1 : s < 4294967296) (k : Nat) (hk : 300 ≤ k) :
    halideref13_Pick.f k s n ((2 ^ E : Nat) : Int) (wrap64 (x + ((i % W : Nat) : Int))) (wrap64 (y + ((i / W : Nat) : Int))) = some (ordV n x y E W i s) := by
  have hp : 0 < 2 ^ E := Nat.two_pow_pos E
  have h16 := pow_16 E hE
  unfold halideref13_Pick.f ordV
  rw [if_neg (by omega), ref_rest _ _ hp h16, ref_rest _ _ hp h16, wrap_mod _ E hE, wrap_mod _ E hE]
  have hu := unitsN_le s.toNat
  have m0 : ∀ z : Int, 0 ≤ z % ((2 ^ E : Nat) : Int) ∧ z % ((2 ^ E : Nat) : Int) < ((2 ^ E : Nat) : Int) := fun z => ⟨Int.emod_nonneg _ (by omega), Int.emod_lt_of_pos _ (by omega)⟩
  have mx := m0 (x + ((i % W : Nat) : Int))
  have my := m0 (y + ((i / W : Nat) : Int))
  obtain ⟨p, hpx⟩ := Int.eq_ofNat_of_zero_le mx.1
  obtain ⟨q, hqy⟩ := Int.eq_ofNat_of_zero_le my.1
  rw [hpx] at mx ⊢
  rw [hqy] at my ⊢
  rw [cell_eq E p q k hE (by omega) (by omega) (by omega), Option.bind_some]
  obtain ⟨s, rfl⟩ := Int.eq_ofNat_of_zero_le h0
  rw [refUnits_eq s (by omega) k (by omega), Option.bind_some]
  simp only [Int.toNat_natCast] at hu ⊢
  have ht := tb_nat E q p hE
  have he := pick_end n (2 ^ E) (tb E q p).toNat (unitsN s) h2 h h16 ht.2 hu
  rw [ht.1] at he
  have hv := fun j (hj : j < n) => refUnit_eq n j h2 h hj
  rw [← ht.1]
  rw [← ht.1] at he
  refine pick_scan n (2 ^ E) (tb E q p).toNat (unitsN s) (fl n (unitsN s)) (U n) _ h2 h hv (fl_lt n _ h2 hu) (fun j hj => ?_) (fun j hj hjn => fl_above n _ j h2 h hj hjn) he n 0 0 k (by omega) (fun hx => by omega) (by omega)
  exact Nat.le_trans (U_mono n h2 h j _ hj) (fl_below n _ h2)

theorem ref_inner (n : Nat) (x y : Int) (E W H j : Nat) (l : List Int) (h2 : 2 ≤ n) (h : n ≤ 256) (hE : E ≤ 4) (hl : ∀ s ∈ l, 0 ≤ s ∧ s < 4294967296) (hlen : l.length = W * H) (hW : W ≤ 1024) (hH : H ≤ 1024) (hj : j < H) (F : Nat) (hF : 300 ≤ F) :
    ∀ m i, i + m = W → halideref13_Ordered.l1 (m + 1 + F) n ((2 ^ E : Nat) : Int) x y j i W H l W H (ordR n x y E W 0 (l.take (j * W + i))) =
      halideref13_Ordered.l0 F n ((2 ^ E : Nat) : Int) x y ((j + 1 : Nat) : Int) W H l W H (ordR n x y E W 0 (l.take ((j + 1) * W)))
  | 0, i, hi => by
    obtain rfl : i = W := by omega
    rw [show 0 + 1 + F = F + 1 by omega, halideref13_Ordered.l1, if_neg (by omega)]
    rw [w_succ j (by omega), Nat.succ_mul]
  | m + 1, i, hi => by
    have hWp : 0 < W := by omega
    have hlt : j * W + i < W * H := by
      have h3 : (j + 1) * W ≤ H * W := Nat.mul_le_mul_right W hj
      rw [Nat.succ_mul, Nat.mul_comm H W] at h3
      omega
    have hb : W * H ≤ 1024 * 1024 := Nat.mul_le_mul hW hH
    have hjW : j * W ≤ W * H := by omega
    rw [show m + 1 + 1 + F = (m + 1 + F) + 1 by omega, halideref13_Ordered.l1, if_pos (by omega), w_at j W i (by omega), if_pos (by omega), if_pos (by omega)]
    have hs := hl (l.getD (j * W + i) 0) (by rw [List.getD_eq_getElem?_getD, List.getElem?_eq_getElem (show j * W + i < l.length by omega)]; exact List.getElem_mem _)
    have hrd : rd l ((j * W + i : Nat) : Int) = l.getD (j * W + i) 0 := by unfold rd; rw [Int.toNat_natCast]
    have hdv : (j * W + i) / W = j := by rw [Nat.mul_comm, Nat.mul_add_div hWp, Nat.div_eq_of_lt (show i < W by omega)]; omega
    have hmd : (j * W + i) % W = i := by rw [Nat.mul_comm, Nat.mul_add_mod, Nat.mod_eq_of_lt (show i < W by omega)]
    have hp := refPick_eq n x y E W (j * W + i) (l.getD (j * W + i) 0) h2 h hE hs.1 hs.2 (m + 1 + F) (by omega)
    rw [hdv, hmd] at hp
    rw [hrd, hp, Option.bind_some, if_pos (by rw [ordR_length, List.length_take]; omega), w_succ i (by omega)]
    have ht : ordR n x y E W 0 (l.take (j * W + i)) ++ [ordV n x y E W (j * W + i) (l.getD (j * W + i) 0)] = ordR n x y E W 0 (l.take (j * W + (i + 1))) := by
      rw [← Nat.add_assoc, take_step l _ (by omega), ordR_append, List.length_take, Nat.min_eq_left (by omega), Nat.zero_add]
    rw [ht]
    exact ref_inner n x y E W H j l h2 h hE hl hlen hW hH hj F hF m (i + 1) (by omega)

theorem ref_outer (n : Nat) (x y : Int) (E W H : Nat) (l : List Int) (h2 : 2 ≤ n) (h : n ≤ 256) (hE : E ≤ 4) (hl : ∀ s ∈ l, 0 ≤ s ∧ s < 4294967296) (hlen : l.length = W * H) (hW : W ≤ 1024) (hH : H ≤ 1024) :
    ∀ d j, j + d = H → halideref13_Ordered.l0 (d * (W + 2) + 301) n ((2 ^ E : Nat) : Int) x y j W H l W H (ordR n x y E W 0 (l.take (j * W))) = some ((W : Int), (H : Int), ordR n x y E W 0 l, 0)
  | 0, j, hj => by
    rw [show 0 * (W + 2) + 301 = 300 + 1 by omega, halideref13_Ordered.l0, if_neg (by omega)]
    obtain rfl : j = H := by omega
    rw [List.take_of_length_le (by rw [hlen, Nat.mul_comm]; omega)]
  | d + 1, j, hj => by
    rw [show (d + 1) * (W + 2) + 301 = (W + 1 + (d * (W + 2) + 301)) + 1 by rw [Nat.succ_mul]; omega, halideref13_Ordered.l0, if_pos (by omega)]
    have h3 := ref_inner n x y E W H j l h2 h hE hl hlen hW hH (by omega) (d * (W + 2) + 301) (by omega) W 0 (by omega)
    rw [Nat.add_zero] at h3
    refine Eq.trans h3 ?_
    exact ref_outer n x y E W H l h2 h hE hl hlen hW hH d (j + 1) (by omega)

theorem isSide_eq (side : Int) : halideref13_IsSide.f side = some (sideE side).isSome := by
  unfold halideref13_IsSide.f sideE
  by_cases h1 : side = 1
  · rw [if_pos h1, if_pos h1]; rfl
  by_cases h2 : side = 2
  · rw [if_neg h1, if_pos h2, if_neg h1, if_pos h2]; rfl
  by_cases h3 : side = 4
  · rw [if_neg h1, if_neg h2, if_pos h3, if_neg h1, if_neg h2, if_pos h3]; rfl
  by_cases h4 : side = 8
  · rw [if_neg h1, if_neg h2, if_neg h3, if_pos h4, if_neg h1, if_neg h2, if_neg h3, if_pos h4]; rfl
  by_cases h5 : side = 16
  · rw [if_neg h1, if_neg h2, if_neg h3, if_neg h4, if_neg h1, if_neg h2, if_neg h3, if_neg h4, if_pos h5, h5]; rfl
  · rw [if_neg h1, if_neg h2, if_neg h3, if_neg h4, if_neg h1, if_neg h2, if_neg h3, if_neg h4, if_neg h5]
    simp [h5]

theorem refOrdered_eq (n : Nat) (x y : Int) (E W H : Nat) (l : List Int) (h2 : 2 ≤ n) (h : n ≤ 256) (hE : E ≤ 4) (hS : sideE ((2 ^ E : Nat) : Int) = some E) (hl : ∀ s ∈ l, 0 ≤ s ∧ s < 4294967296) (hlen : l.length = W * H) (hW : W ≤ 1024) (hH : H ≤ 1024) (k : Nat) (hk : H * (W + 2) + 301 ≤ k) :
    halideref13_Ordered.f k W H l n ((2 ^ E : Nat) : Int) x y = some ((W : Int), (H : Int), ordR n x y E W 0 l, 0) := by
  have h0 := ref_outer n x y E W H l h2 h hE hl hlen hW hH H 0 (by omega)
  refine up (fun k => halideref13_Ordered.f k W H l n ((2 ^ E : Nat) : Int) x y) (fun k => halideref13_Ordered.mono _ _ _ _ _ _ _ k) (k := H * (W + 2) + 301) ?_ hk
  show halideref13_Ordered.f _ _ _ _ _ _ _ _ = _
  unfold halideref13_Ordered.f halideref13_Is.f
  rw [if_pos (by omega), Option.bind_some, if_pos (by simp; omega), isSide_eq, hS, Option.bind_some, if_pos (show (some E).isSome = true from rfl)]
  simpa [ordR] using h0

namespace OR
theorem law (a b : Int) (l : List Int) (n side x y : Int) (w0 : (Lit.int .i64 a).wf = true) (w1 : (Lit.int .i64 b).wf = true) (hw : ∀ s ∈ l, (Lit.int .u32 s).wf = true)
    (w3 : (Lit.int .i64 n).wf = true) (w4 : (Lit.int .i64 side).wf = true) (w5 : (Lit.int .i64 x).wf = true) (w6 : (Lit.int .i64 y).wf = true) : ∃ k, halidelaw13_DitherOrdered.f k a b l n side x y = some true := by
  refine ⟨20000, ?_⟩
  have hl := u32_all hw
  clear hw w0 w1 w3 w4 w5 w6
  unfold halidelaw13_DitherOrdered.f
  rw [known_up 20000 (by omega), Option.bind_some, if_pos rfl]
  obtain ⟨t, ht⟩ := few_some a b l
  rw [ht, Option.bind_some]
  cases t with
  | false => rw [if_neg (by decide)]
  | true =>
  obtain ⟨m, hm⟩ := may_some a b l
  obtain ⟨h5, h4⟩ := few_true hm ht
  rw [if_pos rfl, copy_eq a b l (by omega), Option.bind_some]
  show (dither_Ordered.f a b l n side x y).bind _ = _
  by_cases hn : 2 ≤ n ∧ n ≤ 256
  · cases hs : sideE side with
    | none =>
      rw [ordered_bad_side a b l n side x y hn hs, Option.bind_some]
      show (halidehelp_Plane.f 20000 a b l a b l).bind _ = _
      rw [plane_self a b l 20000 (by omega) (by omega), Option.bind_some, if_pos rfl, (levels_good hn).2, Option.bind_some, if_pos rfl, isSide_eq, hs, Option.bind_some, if_neg (by decide)]
      rw [show (20000 : Nat) = 19999 + 1 from rfl, halidelaw13_DitherOrdered.j0, if_neg (by decide), if_pos rfl]
      show (halidehelp_Plane.f 19999 0 0 [] 0 0 []).bind _ = _
      rw [plane_self 0 0 [] 19999 (by simp) (by simp)]; rfl
    | some E =>
      by_cases hm0 : m = 0
      · subst hm0
        have hc : plane_Check.f a b l = some 0 := hm
        have hz := check_zero hc
        obtain ⟨n, rfl⟩ := Int.eq_ofNat_of_zero_le (show 0 ≤ n by omega)
        obtain ⟨W, rfl⟩ := Int.eq_ofNat_of_zero_le (show 0 ≤ a by omega)
        obtain ⟨H, rfl⟩ := Int.eq_ofNat_of_zero_le (show 0 ≤ b by omega)
        have hlen : l.length = W * H := by
          have := hz.2.2.2.2.2
          exact_mod_cast this
        have hE := sideE_some hs
        have ho := ordered_good n W H E l side x y (by omega) hs hc hl
        have hr : halideref13_Ordered.f 19999 W H l n side x y = some ((W : Int), (H : Int), ordR n x y E W 0 l, 0) := by
          rw [hE.2]
          refine refOrdered_eq n x y E W H l (by omega) (by omega) hE.1 (by rw [← hE.2]; exact hs) hl hlen (by omega) (by omega) 19999 ?_
          have h9 : W * H ≤ 4096 := by have := h4 rfl; omega
          rw [Nat.mul_add, Nat.mul_comm H W]
          omega
        rw [ho, Option.bind_some]
        show (halidehelp_Plane.f 20000 W H l W H l).bind _ = _
        rw [plane_self W H l 20000 (by omega) (by omega), Option.bind_some, if_pos rfl, (levels_good hn).2, Option.bind_some, if_pos rfl, isSide_eq, hs, Option.bind_some, if_pos (show (some E).isSome = true from rfl), hm, Option.bind_some]
        show halidelaw13_DitherOrdered.j0 20000 n side x y 0 0 W H l W H l W H (ordR n x y E W 0 l) = _
        have hln := ordR_length n x y E W l 0
        rw [show (20000 : Nat) = 19999 + 1 from rfl, halidelaw13_DitherOrdered.j0, if_pos rfl, hr, Option.bind_some, if_pos rfl]
        show (halidehelp_Plane.f 19999 W H (ordR n x y E W 0 l) W H (ordR n x y E W 0 l)).bind _ = _
        rw [plane_self _ _ _ 19999 (by omega) (by omega), Option.bind_some]
        show halidelaw13_DitherOrdered.j1 19999 n side x y (!true) W H l W H (ordR n x y E W 0 l) W H (ordR n x y E W 0 l) = _
        rw [show (19999 : Nat) = 19998 + 1 from rfl, halidelaw13_DitherOrdered.j1, if_neg (by decide)]
        obtain ⟨r, hr2⟩ := spoil_some W H (ordR n x y E W 0 l).length 0 19998 (ordR n x y E W 0 l) (by omega) (by omega) (by omega)
        have hr3 : halidehelp_Spoil.f 19998 W H (ordR n x y E W 0 l) = some r := hr2
        rw [hr3, Option.bind_some, ho, Option.bind_some]
        show (halidehelp_Plane.f 19998 W H (ordR n x y E W 0 l) W H (ordR n x y E W 0 l)).bind _ = _
        rw [plane_self _ _ _ 19998 (by omega) (by omega)]; rfl
      · rw [ordered_bad_plane a b l n side x y m E hn hs hm hm0, Option.bind_some]
        show (halidehelp_Plane.f 20000 a b l a b l).bind _ = _
        rw [plane_self a b l 20000 (by omega) (by omega), Option.bind_some, if_pos rfl, (levels_good hn).2, Option.bind_some, if_pos rfl, isSide_eq, hs, Option.bind_some, if_pos (show (some E).isSome = true from rfl), hm, Option.bind_some]
        rw [show (20000 : Nat) = 19999 + 1 from rfl, halidelaw13_DitherOrdered.j0, if_neg hm0, if_pos rfl]
        show (halidehelp_Plane.f 19999 0 0 [] 0 0 []).bind _ = _
        rw [plane_self 0 0 [] 19999 (by simp) (by simp)]; rfl
  · obtain ⟨ho, hi⟩ := ordered_bad_n a b l n side x y hn
    rw [ho, Option.bind_some]
    show (halidehelp_Plane.f 20000 a b l a b l).bind _ = _
    rw [plane_self a b l 20000 (by omega) (by omega), Option.bind_some, if_pos rfl, hi, Option.bind_some, if_neg (by decide)]
    rw [show (20000 : Nat) = 19999 + 1 from rfl, halidelaw13_DitherOrdered.j0, if_neg (by decide), if_pos rfl]
    show (halidehelp_Plane.f 19999 0 0 [] 0 0 []).bind _ = _
    rw [plane_self 0 0 [] 19999 (by simp) (by simp)]; rfl
end OR
end Go.Proofs.Ytmipbbkieadecaa
