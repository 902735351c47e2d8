/- The plain law of DitherPieces: a piece dithered where it lies is that piece of the whole. -/
import Derived.Test.YtmipbbkieadecaaM4
import Derived.Test.YtmipbbkieadecaaPDPx1
open Go Go.RowKit Go.Proofs.YtmipbbkieadecaaW.PrintWords Go.Proofs.YtmipbbkieadecaaW.PrintLast Go.Proofs.YtmipbbkieadecaaW.PrintMore
set_option linter.unusedVariables false
set_option linter.unusedSimpArgs false
namespace Go.Proofs.Ytmipbbkieadecaa
open PDA PDB PDC PDK PDP

theorem ordR_app (n : Nat) (x y : Int) (E W : Nat) (B : List Int) : ∀ (A : List Int) (i : Nat), ordR n x y E W i (A ++ B) = ordR n x y E W i A ++ ordR n x y E W (i + A.length) B
  | [], i => rfl
  | a :: t, i => by
    rw [List.cons_append, ordR, ordR, ordR_app n x y E W B t, List.cons_append, List.length_cons]
    rw [show i + 1 + t.length = i + (t.length + 1) by omega]
theorem ordR_take (n : Nat) (x y : Int) (E W : Nat) : ∀ (a : Nat) (l : List Int) (i : Nat), (ordR n x y E W i l).take a = ordR n x y E W i (l.take a)
  | 0, l, i => by simp [ordR]
  | a + 1, [], i => by simp [ordR]
  | a + 1, s :: t, i => by rw [ordR, List.take_succ_cons, List.take_succ_cons, ordR, ordR_take n x y E W a t]
theorem ordR_drop (n : Nat) (x y : Int) (E W : Nat) : ∀ (a : Nat) (l : List Int) (i : Nat), (ordR n x y E W i l).drop a = ordR n x y E W (i + a) (l.drop a)
  | 0, l, i => by simp
  | a + 1, [], i => by simp [ordR]
  | a + 1, s :: t, i => by rw [ordR, List.drop_succ_cons, List.drop_succ_cons, ordR_drop n x y E W a t, show i + 1 + a = i + (a + 1) by omega]

/-- A row's piece. -/
def sl1 (l : List Int) (W X0 X1 y : Nat) : List Int := (l.take (y * W + X1)).drop (y * W + X0)
theorem sl1_length (l : List Int) (W X0 X1 y : Nat) (h : y * W + X1 ≤ l.length) (h0 : X0 ≤ X1) : (sl1 l W X0 X1 y).length = X1 - X0 := by
  unfold sl1; rw [List.length_drop, List.length_take]; omega
/-- m rows' pieces, from row y on. -/
def crp (l : List Int) (W X0 X1 y : Nat) : Nat → List Int
  | 0 => []
  | m + 1 => crp l W X0 X1 y m ++ sl1 l W X0 X1 (y + m)
theorem crp_length (l : List Int) (W X0 X1 y H : Nat) (hl : l.length = W * H) (h1 : X1 ≤ W) (h0 : X0 ≤ X1) : ∀ m, y + m ≤ H → (crp l W X0 X1 y m).length = m * (X1 - X0)
  | 0, hm => by simp [crp]
  | m + 1, hm => by
    have h3 : (y + m + 1) * W ≤ H * W := Nat.mul_le_mul_right W (by omega)
    rw [Nat.succ_mul, Nat.mul_comm H W, ← hl] at h3
    rw [crp, List.length_append, crp_length l W X0 X1 y H hl h1 h0 m (by omega), sl1_length _ _ _ _ _ (by omega) h0, Nat.succ_mul]

theorem ordV_shift (n : Nat) (x y : Int) (E W W2 X0 Y0 r c : Nat) (s : Int) (hE : E ≤ 4) (h1 : X0 + W2 ≤ W) (hc : c < W2) :
    ordV n (wrap64 (x + (X0 : Int))) (wrap64 (y + (Y0 : Int))) E W2 (r * W2 + c) s = ordV n x y E W ((Y0 + r) * W + X0 + c) s := by
  have d1 : (r * W2 + c) / W2 = r := by rw [Nat.mul_comm, Nat.mul_add_div (show W2 > 0 by omega), Nat.div_eq_of_lt hc]; omega
  have d2 : (r * W2 + c) % W2 = c := by rw [Nat.mul_comm, Nat.mul_add_mod, Nat.mod_eq_of_lt hc]
  have d3 : ((Y0 + r) * W + X0 + c) / W = Y0 + r := by rw [Nat.add_assoc, Nat.mul_comm, Nat.mul_add_div (show W > 0 by omega), Nat.div_eq_of_lt (show X0 + c < W by omega)]; omega
  have d4 : ((Y0 + r) * W + X0 + c) % W = X0 + c := by rw [Nat.add_assoc, Nat.mul_comm, Nat.mul_add_mod, Nat.mod_eq_of_lt (show X0 + c < W by omega)]
  have wm : ∀ (z : Int) (a b : Nat), (wrap64 (z + (a : Int)) + (b : Int)) % ((2 ^ E : Nat) : Int) = (z + ((a + b : Nat) : Int)) % ((2 ^ E : Nat) : Int) := by
    intro z a b
    rw [Int.add_emod, wrap_mod _ E hE, ← Int.add_emod]
    congr 1
    omega
  unfold ordV
  rw [d1, d2, d3, d4, wm, wm]
theorem ordR_shift (n : Nat) (x y : Int) (E W W2 X0 Y0 r : Nat) (hE : E ≤ 4) (h1 : X0 + W2 ≤ W) : ∀ (B : List Int) (c : Nat), c + B.length ≤ W2 →
    ordR n (wrap64 (x + (X0 : Int))) (wrap64 (y + (Y0 : Int))) E W2 (r * W2 + c) B = ordR n x y E W ((Y0 + r) * W + X0 + c) B
  | [], c, hc => rfl
  | s :: t, c, hc => by
    rw [List.length_cons] at hc
    rw [ordR, ordR, ordV_shift n x y E W W2 X0 Y0 r c s hE h1 (by omega)]
    have := ordR_shift n x y E W W2 X0 Y0 r hE h1 t (c + 1) (by omega)
    rw [← Nat.add_assoc, ← Nat.add_assoc] at this
    rw [this]
theorem crp_ord (n : Nat) (x y : Int) (E W H X0 X1 Y0 : Nat) (l : List Int) (hE : E ≤ 4) (h0 : X0 ≤ X1) (h1 : X1 ≤ W) (hl : l.length = W * H) : ∀ m, Y0 + m ≤ H →
    ordR n (wrap64 (x + (X0 : Int))) (wrap64 (y + (Y0 : Int))) E (X1 - X0) 0 (crp l W X0 X1 Y0 m) = crp (ordR n x y E W 0 l) W X0 X1 Y0 m
  | 0, hm => rfl
  | m + 1, hm => by
    have h3 : (Y0 + m + 1) * W ≤ H * W := Nat.mul_le_mul_right W (by omega)
    rw [Nat.succ_mul, Nat.mul_comm H W, ← hl] at h3
    rw [crp, crp, ordR_app, crp_ord n x y E W H X0 X1 Y0 l hE h0 h1 hl m (by omega), crp_length l W X0 X1 Y0 H hl h1 h0 m (by omega), Nat.zero_add]
    congr 1
    have hs := sl1_length l W X0 X1 (Y0 + m) (by omega) h0
    have := ordR_shift n x y E W (X1 - X0) X0 Y0 m hE (by omega) (sl1 l W X0 X1 (Y0 + m)) 0 (by omega)
    rw [Nat.add_zero, Nat.add_zero] at this
    rw [this]
    unfold sl1
    rw [ordR_take, ordR_drop, Nat.zero_add]

theorem crop_loop (W H X0 X1 Y0 Y1 : Nat) (l : List Int) (p q : Int) (h0 : X0 ≤ X1) (h1 : X1 ≤ W) (hY : Y1 ≤ H) (hl : l.length = W * H) (hs : l.length ≤ 100000) (hH : H ≤ 100000) : ∀ m y fuel (acc : List Int), y + m = Y1 → Y0 ≤ y → acc = crp l W X0 X1 Y0 (y - Y0) → m < fuel →
    halidehelp_Crop.l0 fuel (y : Nat) W H l (X0 : Nat) (Y0 : Nat) (X1 : Nat) (Y1 : Nat) p q acc = some (p, q, crp l W X0 X1 Y0 (Y1 - Y0))
  | 0, y, fuel, acc, hy, hy0, ha, hf => by
    obtain ⟨k, rfl⟩ : ∃ q, fuel = q + 1 := ⟨fuel - 1, by omega⟩
    rw [halidehelp_Crop.l0, if_neg (by omega), ha]
    rw [show y = Y1 by omega]
  | m + 1, y, fuel, acc, hy, hy0, ha, hf => by
    obtain ⟨k, rfl⟩ : ∃ q, fuel = q + 1 := ⟨fuel - 1, by omega⟩
    have h3 : (y + 1) * W ≤ H * W := Nat.mul_le_mul_right W (by omega)
    rw [Nat.succ_mul, Nat.mul_comm H W, ← hl] at h3
    have hal : acc.length ≤ 100000 := by
      rw [ha, crp_length l W X0 X1 Y0 H hl h1 h0 _ (by omega)]
      have h6 : (y - Y0) * (X1 - X0) ≤ y * W := Nat.mul_le_mul (by omega) (by omega)
      omega
    rw [halidehelp_Crop.l0, if_pos (by omega), w_at y W X0 (by omega), w_at y W X1 (by omega), if_pos (by omega), if_pos (by omega), if_pos (by omega), Int.toNat_natCast, Int.toNat_natCast]
    have hsl := sl1_length l W X0 X1 y (by omega) h0
    unfold sl1 at hsl
    rw [if_pos (by rw [hsl]; omega), w_succ y (by omega)]
    refine crop_loop W H X0 X1 Y0 Y1 l p q h0 h1 hY hl hs hH m (y + 1) k _ (by omega) (by omega) ?_ (by omega)
    rw [show y + 1 - Y0 = (y - Y0) + 1 by omega, crp, ha, show Y0 + (y - Y0) = y by omega]
    rfl
theorem crop_eq (W H X0 X1 Y0 Y1 : Nat) (l : List Int) (h0 : X0 ≤ X1) (h1 : X1 ≤ W) (hY0 : Y0 ≤ Y1) (hY : Y1 ≤ H) (hl : l.length = W * H) (hs : l.length ≤ 100000) (hH : H ≤ 100000) (hW : W ≤ 100000) (k : Nat) (hk : H < k) :
    halidehelp_Crop.f k W H l (X0 : Nat) (Y0 : Nat) (X1 : Nat) (Y1 : Nat) = some (((X1 - X0 : Nat) : Int), ((Y1 - Y0 : Nat) : Int), crp l W X0 X1 Y0 (Y1 - Y0)) := by
  unfold halidehelp_Crop.f
  have e1 : wrap64 ((X1 : Int) - (X0 : Int)) = ((X1 - X0 : Nat) : Int) := by rw [w64 _ (by omega) (by omega)]; omega
  have e2 : wrap64 ((Y1 : Int) - (Y0 : Int)) = ((Y1 - Y0 : Nat) : Int) := by rw [w64 _ (by omega) (by omega)]; omega
  rw [e1, e2]
  clear e1 e2
  exact crop_loop W H X0 X1 Y0 Y1 l _ _ h0 h1 hY hl hs hH (Y1 - Y0) Y0 k [] (by omega) (by omega) (by rw [Nat.sub_self, crp]) (by omega)

theorem within_true {a b x0 y0 x1 y1 : Int} (h : halidehelp_Within.f a b x0 y0 x1 y1 = some true) : 0 ≤ x0 ∧ x0 < x1 ∧ x1 ≤ a ∧ 0 ≤ y0 ∧ y0 < y1 ∧ y1 ≤ b := by
  unfold halidehelp_Within.f at h
  split at h
  · split at h
    · split at h
      · split at h
        · split at h
          · have := of_decide_eq_true (Option.some.inj h)
            omega
          · simp at h
        · simp at h
      · simp at h
    · simp at h
  · simp at h
theorem within_some (a b x0 y0 x1 y1 : Int) : ∃ t, halidehelp_Within.f a b x0 y0 x1 y1 = some t := by
  unfold halidehelp_Within.f
  repeat' split
  all_goals exact ⟨_, rfl⟩

namespace PI
theorem law (a b : Int) (l : List Int) (x0 y0 x1 y1 n side x y : Int) (w0 : (Lit.int .i64 a).wf = true) (w1 : (Lit.int .i64 b).wf = true) (hw : ∀ s ∈ l, (Lit.int .u32 s).wf = true)
    (v0 : (Lit.int .i64 x0).wf = true) (v1 : (Lit.int .i64 y0).wf = true) (v2 : (Lit.int .i64 x1).wf = true) (v3 : (Lit.int .i64 y1).wf = true)
    (w3 : (Lit.int .i64 n).wf = true) (w4 : (Lit.int .i64 side).wf = true) (w5 : (Lit.int .i64 x).wf = true) (w6 : (Lit.int .i64 y).wf = true) : ∃ k, halidelaw13_DitherPieces.f k a b l x0 y0 x1 y1 n side x y = some true := by
  refine ⟨20000, ?_⟩
  have hl := u32_all hw
  clear hw w0 w1 w3 w4 w5 w6 v0 v1 v2 v3
  unfold halidelaw13_DitherPieces.f
  rw [known_up 20000 (by omega), Option.bind_some, if_pos rfl]
  have out : halidelaw13_DitherPieces.j0 20000 n side x y true a b l x0 y0 x1 y1 = some true := by
    rw [show (20000 : Nat) = 19999 + 1 from rfl, halidelaw13_DitherPieces.j0, if_pos rfl]
  obtain ⟨t, ht⟩ := few_some a b l
  rw [ht, Option.bind_some]
  cases t with
  | false => rw [if_neg (by decide)]; exact out
  | true =>
  obtain ⟨m, hm⟩ := may_some a b l
  obtain ⟨h5, h4⟩ := few_true hm ht
  rw [if_pos rfl, hm, Option.bind_some]
  by_cases hm0 : m = 0
  · subst hm0
    obtain ⟨t, hwi⟩ := within_some a b x0 y0 x1 y1
    rw [if_pos rfl, hwi, Option.bind_some]
    cases t with
    | false => exact out
    | true =>
    clear out
    have hr := within_true hwi
    have hc : plane_Check.f a b l = some 0 := hm
    have hz := check_zero hc
    obtain ⟨W, rfl⟩ := Int.eq_ofNat_of_zero_le (show 0 ≤ a by omega)
    obtain ⟨H, rfl⟩ := Int.eq_ofNat_of_zero_le (show 0 ≤ b by omega)
    obtain ⟨X0, rfl⟩ := Int.eq_ofNat_of_zero_le (show 0 ≤ x0 by omega)
    obtain ⟨X1, rfl⟩ := Int.eq_ofNat_of_zero_le (show 0 ≤ x1 by omega)
    obtain ⟨Y0, rfl⟩ := Int.eq_ofNat_of_zero_le (show 0 ≤ y0 by omega)
    obtain ⟨Y1, rfl⟩ := Int.eq_ofNat_of_zero_le (show 0 ≤ y1 by omega)
    have hlen : l.length = W * H := by
      have := hz.2.2.2.2.2
      exact_mod_cast this
    have h9 : W * H ≤ 4096 := by have := h4 rfl; omega
    have hcr := crop_eq W H X0 X1 Y0 Y1 l (by omega) (by omega) (by omega) (by omega) hlen (by omega) (by omega) (by omega) 19999 (by omega)
    have hcl := crp_length l W X0 X1 Y0 H hlen (by omega) (by omega) (Y1 - Y0) (by omega)
    have hpr : (Y1 - Y0) * (X1 - X0) ≤ H * W := Nat.mul_le_mul (by omega) (by omega)
    rw [Nat.mul_comm H W] at hpr
    have hc2 : plane_Check.f ((X1 - X0 : Nat) : Int) ((Y1 - Y0 : Nat) : Int) (crp l W X0 X1 Y0 (Y1 - Y0)) = some 0 :=
      check_good _ _ _ (by omega) (by omega) (by omega) (by omega) (by rw [Nat.mul_comm]; omega) (by rw [hcl, Nat.mul_comm])
    have hl2 : ∀ s ∈ crp l W X0 X1 Y0 (Y1 - Y0), 0 ≤ s ∧ s < 4294967296 := by
      have : ∀ m, ∀ s ∈ crp l W X0 X1 Y0 m, 0 ≤ s ∧ s < 4294967296 := by
        intro m
        induction m with
        | zero => intro s hs; simp [crp] at hs
        | succ m ih =>
          intro s hs
          rw [crp, List.mem_append] at hs
          rcases hs with hs | hs
          · exact ih s hs
          · exact hl s (List.mem_of_mem_take (List.mem_of_mem_drop hs))
      exact this _
    show halidelaw13_DitherPieces.j0 20000 n side x y (!true) W H l X0 Y0 X1 Y1 = _
    rw [show (20000 : Nat) = 19999 + 1 from rfl, halidelaw13_DitherPieces.j0, if_neg (by decide), copy_eq _ _ l (by omega), Option.bind_some]
    show (dither_Ordered.f W H l n side x y).bind _ = _
    by_cases hn : 2 ≤ n ∧ n ≤ 256
    · cases hs : sideE side with
      | none =>
        rw [ordered_bad_side _ _ l n side x y hn hs, Option.bind_some, hcr, Option.bind_some]
        show (dither_Ordered.f _ _ _ n side _ _).bind _ = _
        rw [ordered_bad_side _ _ _ n side _ _ hn hs, Option.bind_some, if_neg (by decide)]
        rw [show (19999 : Nat) = 19998 + 1 from rfl, halidelaw13_DitherPieces.j1, if_pos rfl]
        rfl
      | some E =>
        obtain ⟨n, rfl⟩ := Int.eq_ofNat_of_zero_le (show 0 ≤ n by omega)
        have hE := sideE_some hs
        have ho := ordered_good n W H E l side x y (by omega) hs hc hl
        have ho2 := ordered_good n (X1 - X0) (Y1 - Y0) E (crp l W X0 X1 Y0 (Y1 - Y0)) side (wrap64 (x + (X0 : Int))) (wrap64 (y + (Y0 : Int))) (by omega) hs hc2 hl2
        rw [crp_ord n x y E W H X0 X1 Y0 l hE.1 (by omega) (by omega) hlen (Y1 - Y0) (by omega)] at ho2
        have hln := ordR_length n x y E W l 0
        have hcr2 := crop_eq W H X0 X1 Y0 Y1 (ordR n x y E W 0 l) (by omega) (by omega) (by omega) (by omega) (by rw [hln, hlen]) (by omega) (by omega) (by omega) 19998 (by omega)
        have hcl2 := crp_length (ordR n x y E W 0 l) W X0 X1 Y0 H (by rw [hln, hlen]) (by omega) (by omega) (Y1 - Y0) (by omega)
        rw [ho, Option.bind_some, hcr, Option.bind_some]
        show (dither_Ordered.f ((X1 - X0 : Nat) : Int) ((Y1 - Y0 : Nat) : Int) (crp l W X0 X1 Y0 (Y1 - Y0)) n side (wrap64 (x + (X0 : Int))) (wrap64 (y + (Y0 : Int)))).bind _ = _
        rw [ho2, Option.bind_some, if_pos rfl]
        show halidelaw13_DitherPieces.j1 19999 0 0 false W H l X0 Y0 X1 Y1 W H (ordR n x y E W 0 l) ((X1 - X0 : Nat) : Int) ((Y1 - Y0 : Nat) : Int) (crp (ordR n x y E W 0 l) W X0 X1 Y0 (Y1 - Y0)) = _
        rw [show (19999 : Nat) = 19998 + 1 from rfl, halidelaw13_DitherPieces.j1, if_neg (by decide), if_pos rfl, if_pos rfl, if_pos (by omega), hcr2, Option.bind_some]
        show (halidehelp_Plane.f 19998 ((X1 - X0 : Nat) : Int) ((Y1 - Y0 : Nat) : Int) (crp (ordR n x y E W 0 l) W X0 X1 Y0 (Y1 - Y0)) ((X1 - X0 : Nat) : Int) ((Y1 - Y0 : Nat) : Int) (crp (ordR n x y E W 0 l) W X0 X1 Y0 (Y1 - Y0))).bind _ = _
        rw [plane_self _ _ _ 19998 (by omega) (by omega)]
        rfl
    · rw [(ordered_bad_n _ _ l n side x y hn).1, Option.bind_some, hcr, Option.bind_some]
      show (dither_Ordered.f _ _ _ n side _ _).bind _ = _
      rw [(ordered_bad_n _ _ _ n side _ _ hn).1, Option.bind_some, if_neg (by decide)]
      rw [show (19999 : Nat) = 19998 + 1 from rfl, halidelaw13_DitherPieces.j1, if_pos rfl]
      rfl
  · rw [if_neg hm0]; exact out
end PI
end Go.Proofs.Ytmipbbkieadecaa
