/- Ordered of the program as a list; planes that may be. -/
import Derived.Test.YtmipbbkieadecaaM3
import Derived.Test.YtmipbbkieadecaaK
import Derived.Test.YtmipbbkieadecaaPDCx1
import Derived.Test.YtmipbbkieadecaaPDAx6
open Go Go.RowKit Go.Proofs.YtmipbbkieadecaaW.PrintWords Go.Proofs.YtmipbbkieadecaaW.PrintLast Go.Proofs.YtmipbbkieadecaaW.PrintMore
set_option linter.unusedVariables false
set_option linter.unusedSimpArgs false
namespace Go.Proofs.Ytmipbbkieadecaa
open PDA PDB PDC PDK

theorem up {α : Type} (f : Nat → Option α) (h : ∀ k, LeO (f k) (f (k + 1))) {k m : Nat} {v : α} (hv : f k = some v) (hk : k ≤ m) : f m = some v := by
  obtain ⟨d, rfl⟩ : ∃ d, m = k + d := ⟨m - k, by omega⟩
  clear hk
  induction d with
  | zero => exact hv
  | succ d ih => exact h _ _ ih
theorem known_up (k : Nat) (hk : 320 ≤ k) : halidelaw13_known.f k = some true := up _ halidelaw13_known.mono known_true hk

theorem wrap_mod (z : Int) (E : Nat) (hE : E ≤ 4) : wrap64 z % ((2 ^ E : Nat) : Int) = z % ((2 ^ E : Nat) : Int) := by
  unfold wrap64
  rcases (show E = 0 ∨ E = 1 ∨ E = 2 ∨ E = 3 ∨ E = 4 by omega) with rfl | rfl | rfl | rfl | rfl <;> simp <;> omega

theorem unitsN_le (s : Nat) : unitsN s ≤ 16777216 := by
  unfold unitsN
  by_cases h1 : 2147483648 ≤ s ∨ 2139095040 < s
  · rw [if_pos h1]; omega
  rw [if_neg h1]
  by_cases h2 : 1065353216 ≤ s
  · rw [if_pos h2]; omega
  rw [if_neg h2]
  by_cases h3 : s < 8388608
  · rw [if_pos h3]
    exact Nat.le_trans (rne_le s 125 1 (by omega)) (by omega)
  · rw [if_neg h3]
    refine rne_le _ _ _ ?_
    have := Nat.two_pow_pos (126 - s / 8388608)
    have h5 : 16777216 * 1 ≤ 16777216 * 2 ^ (126 - s / 8388608) := Nat.mul_le_mul_left _ this
    omega

/-- One place. -/
def ordV (n : Nat) (x y : Int) (E W i : Nat) (s : Int) : Int :=
  (lvlN n (pick n (2 ^ E) (tb E ((y + ((i / W : Nat) : Int)) % ((2 ^ E : Nat) : Int)).toNat ((x + ((i % W : Nat) : Int)) % ((2 ^ E : Nat) : Int)).toNat).toNat (unitsN s.toNat)) : Int)
def ordR (n : Nat) (x y : Int) (E W : Nat) : Nat → List Int → List Int
  | _, [] => []
  | i, s :: t => ordV n x y E W i s :: ordR n x y E W (i + 1) t
theorem ordR_length (n : Nat) (x y : Int) (E W : Nat) : ∀ (l : List Int) (i : Nat), (ordR n x y E W i l).length = l.length
  | [], i => rfl
  | s :: t, i => by rw [ordR, List.length_cons, List.length_cons, ordR_length n x y E W t]
theorem ordR_append (n : Nat) (x y : Int) (E W : Nat) (s : Int) : ∀ (l : List Int) (i : Nat), ordR n x y E W i (l ++ [s]) = ordR n x y E W i l ++ [ordV n x y E W (i + l.length) s]
  | [], i => rfl
  | a :: t, i => by
    rw [List.cons_append, ordR, ordR, ordR_append n x y E W s t, List.cons_append, List.length_cons]
    rw [show i + 1 + t.length = i + (t.length + 1) by omega]

theorem tb_nat (E a b : Nat) (hE : E ≤ 4) : (((tb E a b).toNat : Nat) : Int) = tb E a b ∧ (tb E a b).toNat < 256 := by
  have h := tb_bound E a b
  have h4 : (4 : Int) ^ E ≤ 256 := by
    have : E = 0 ∨ E = 1 ∨ E = 2 ∨ E = 3 ∨ E = 4 := by omega
    rcases this with rfl | rfl | rfl | rfl | rfl <;> decide
  omega

theorem units_some (s : Int) (h0 : 0 ≤ s) (h1 : s < 4294967296) : dither_Units.f s = some (unitsN s.toNat : Int) := by
  unfold dither_Units.f
  rw [if_pos ⟨h0, h1⟩]

theorem pow_16 (E : Nat) (hE : E ≤ 4) : 2 ^ E ≤ 16 := Nat.pow_le_pow_right (by omega) hE

theorem ordPix_eq (n : Nat) (x y : Int) (E W i : Nat) (s : Int) (h2 : 2 ≤ n) (h : n ≤ 256) (hE : E ≤ 4) (h0 : 0 ≤ s) (h1 : s < 4294967296) :
    ordPix n x y E W i s = some (ordV n x y E W i s) := by
  unfold ordPix ordV
  have ht := tb_nat E ((y + ((i / W : Nat) : Int)) % ((2 ^ E : Nat) : Int)).toNat ((x + ((i % W : Nat) : Int)) % ((2 ^ E : Nat) : Int)).toNat hE
  have hu := unitsN_le s.toNat
  rw [units_some s h0 h1, Option.bind_some, ← ht.1, rounded_eq n (2 ^ E) _ _ h2 h (pow_16 E hE) ht.2 hu 1024 (by omega), Option.bind_some, level_some n _ h2 h (pick_lt n _ _ _ h2 hu), Option.bind_some]
  rw [ht.1]

theorem ordL_eq (n : Nat) (x y : Int) (E W : Nat) (h2 : 2 ≤ n) (h : n ≤ 256) (hE : E ≤ 4) : ∀ (l : List Int) (i : Nat), (∀ s ∈ l, 0 ≤ s ∧ s < 4294967296) → ordL n x y E W i l = some (ordR n x y E W i l)
  | [], i, hl => rfl
  | s :: t, i, hl => by
    have h3 := hl s List.mem_cons_self
    rw [ordL, ordPix_eq n x y E W i s h2 h hE h3.1 h3.2, Option.bind_some, ordL_eq n x y E W h2 h hE t (i + 1) (fun r hr => hl r (List.mem_cons_of_mem _ hr)), Option.bind_some, ordR]

theorem w_at (j W i : Nat) (h : j * W + i ≤ 100000000) : wrap64 ((wrap64 ((j : Int) * (W : Int))) + (i : Int)) = ((j * W + i : Nat) : Int) := by
  rw [w_mul j W 0 (by omega)]
  generalize j * W = a at *
  rw [w64 _ (by omega) (by omega)]
  omega
theorem take_step (l : List Int) (i : Nat) (hi : i < l.length) : l.take (i + 1) = l.take i ++ [l.getD i 0] := by
  rw [List.take_add_one, List.getD_eq_getElem?_getD]
  rw [List.getElem?_eq_getElem hi]
  rfl

theorem words_self (l : List Int) (hl : l.length ≤ 100000) : ∀ m i fuel, i + m = l.length → m < fuel → halidehelp_Words.l0 fuel l l (i : Nat) = some true
  | 0, i, fuel, hi, hf => by
    obtain ⟨k, rfl⟩ : ∃ q, fuel = q + 1 := ⟨fuel - 1, by omega⟩
    rw [halidehelp_Words.l0, if_neg (by omega)]
  | m + 1, i, fuel, hi, hf => by
    obtain ⟨k, rfl⟩ : ∃ q, fuel = q + 1 := ⟨fuel - 1, by omega⟩
    rw [halidehelp_Words.l0, if_pos (by omega), if_pos (by omega), if_pos (by omega), if_pos rfl, w_succ i (by omega)]
    exact words_self l hl m (i + 1) k (by omega) (by omega)
theorem plane_self (a b : Int) (l : List Int) (k : Nat) (hl : l.length ≤ 100000) (hk : l.length < k) : halidehelp_Plane.f k a b l a b l = some true := by
  unfold halidehelp_Plane.f halidehelp_Words.f
  have := words_self l (by omega) l.length 0 k (by omega) hk
  rw [if_pos rfl, if_pos rfl, if_pos rfl]
  rw [show ((0 : Nat) : Int) = 0 from rfl] at this
  rw [this]; rfl

theorem spoil_some (a b : Int) : ∀ m i fuel (l : List Int), l.length ≤ 100000 → i + m = l.length → m < fuel → ∃ r, halidehelp_Spoil.l0 fuel (i : Nat) a b l = some r
  | 0, i, fuel, l, hl, hi, hf => by
    obtain ⟨k, rfl⟩ : ∃ q, fuel = q + 1 := ⟨fuel - 1, by omega⟩
    rw [halidehelp_Spoil.l0, if_neg (by omega)]
    exact ⟨_, rfl⟩
  | m + 1, i, fuel, l, hl, hi, hf => by
    obtain ⟨k, rfl⟩ : ∃ q, fuel = q + 1 := ⟨fuel - 1, by omega⟩
    rw [halidehelp_Spoil.l0, if_pos (by omega), if_pos (by omega), w_succ i (by omega)]
    exact spoil_some a b m (i + 1) k _ (by simpa using hl) (by simp; omega) (by omega)

theorem u32_all {l : List Int} (hw : ∀ x ∈ l, (Lit.int .u32 x).wf = true) : ∀ x ∈ l, 0 ≤ x ∧ x < 4294967296 := by
  intro x hx
  have h := hw x hx
  have h : IntKind.u32.min ≤ x ∧ x ≤ IntKind.u32.max := by simpa [Lit.wf] using h
  rw [show IntKind.u32.min = 0 from rfl, show IntKind.u32.max = 4294967295 from rfl] at h
  omega

theorem may_check (a b : Int) (l : List Int) : halidehelp_May.f a b l = plane_Check.f a b l := rfl
theorem may_some (a b : Int) (l : List Int) : ∃ m, halidehelp_May.f a b l = some m := by
  unfold halidehelp_May.f halidehelp_Size.f
  by_cases h1 : a ≥ 1
  · by_cases h2 : b ≥ 1
    · by_cases h3 : a ≤ 1024
      · by_cases h4 : b ≤ 1024
        · rw [if_pos h1, if_pos h2, if_pos h3, if_pos h4, Option.bind_some]
          split
          · split
            · exact ⟨_, rfl⟩
            · exact ⟨_, rfl⟩
          · exact ⟨_, rfl⟩
        · rw [if_pos h1, if_pos h2, if_pos h3, if_neg h4]; exact ⟨_, rfl⟩
      · rw [if_pos h1, if_pos h2, if_neg h3]; exact ⟨_, rfl⟩
    · rw [if_pos h1, if_neg h2]; exact ⟨_, rfl⟩
  · rw [if_neg h1]; exact ⟨_, rfl⟩
theorem few_true {a b : Int} {l : List Int} {m : Int} (hm : halidehelp_May.f a b l = some m) (h : halidelaw13_few.f a b l = some true) : l.length ≤ 5000 ∧ (m = 0 → l.length ≤ 4096) := by
  unfold halidelaw13_few.f at h
  rw [hm] at h
  split at h
  · rename_i h1
    refine ⟨by omega, fun h0 => ?_⟩
    subst h0
    rw [Option.bind_some, if_pos rfl] at h
    have h2 := of_decide_eq_true (Option.some.inj h)
    omega
  · simp at h
theorem few_some (a b : Int) (l : List Int) : ∃ t, halidelaw13_few.f a b l = some t := by
  obtain ⟨m, hm⟩ := may_some a b l
  unfold halidelaw13_few.f
  rw [hm]
  split
  · rw [Option.bind_some]; split
    · exact ⟨_, rfl⟩
    · exact ⟨_, rfl⟩
  · exact ⟨_, rfl⟩
theorem copy_eq (a b : Int) (l : List Int) (hl : l.length ≤ 100000) : halidehelp_Copy.f a b l = some (a, b, l) := by
  unfold halidehelp_Copy.f
  rw [if_pos (by simp; omega)]
  rfl

theorem check_good (W H : Nat) (l : List Int) (h1 : 1 ≤ W) (h2 : W ≤ 1024) (h3 : 1 ≤ H) (h4 : H ≤ 1024) (h5 : W * H ≤ 65536) (hl : l.length = W * H) : plane_Check.f W H l = some 0 := by
  unfold plane_Check.f plane_size.f
  rw [if_pos (by omega), if_pos (by omega), if_pos (by omega), if_pos (by omega), Option.bind_some, w_mul W H 0 (by omega), if_pos (by simp; omega), if_pos (by omega)]

/-- What Ordered of the program answers. -/
theorem ordered_bad_n (a b : Int) (l : List Int) (n side x y : Int) (h : ¬(2 ≤ n ∧ n ≤ 256)) : dither_Ordered.f a b l n side x y = some (0, 0, [], 130) ∧ halideref13_Is.f n = some false := by
  have h1 : dither_levels.f n = some false := by
    unfold dither_levels.f
    by_cases h1 : n ≥ 2
    · rw [if_pos h1]; simp; omega
    · rw [if_neg h1]
  have h2 : halideref13_Is.f n = some false := h1
  refine ⟨?_, h2⟩
  unfold dither_Ordered.f
  rw [h1, Option.bind_some, if_neg (by decide)]
theorem levels_good {n : Int} (h : 2 ≤ n ∧ n ≤ 256) : dither_levels.f n = some true ∧ halideref13_Is.f n = some true := by
  have h1 : dither_levels.f n = some true := by
    unfold dither_levels.f
    rw [if_pos h.1]; simp [h.2]
  exact ⟨h1, h1⟩
theorem ordered_bad_side (a b : Int) (l : List Int) (n side x y : Int) (h : 2 ≤ n ∧ n ≤ 256) (hs : sideE side = none) : dither_Ordered.f a b l n side x y = some (0, 0, [], 131) := by
  unfold dither_Ordered.f
  rw [(levels_good h).1, Option.bind_some, if_pos rfl, hs]
theorem ordered_bad_plane (a b : Int) (l : List Int) (n side x y m : Int) (E : Nat) (h : 2 ≤ n ∧ n ≤ 256) (hs : sideE side = some E) (hm : plane_Check.f a b l = some m) (h0 : m ≠ 0) : dither_Ordered.f a b l n side x y = some (0, 0, [], m) := by
  unfold dither_Ordered.f
  rw [(levels_good h).1, Option.bind_some, if_pos rfl, hs]
  show (plane_Check.f a b l).bind _ = _
  rw [hm, Option.bind_some, if_neg h0]
theorem ordered_good (n W H E : Nat) (l : List Int) (side x y : Int) (h : 2 ≤ n ∧ n ≤ 256) (hs : sideE side = some E) (hm : plane_Check.f W H l = some 0) (hl : ∀ s ∈ l, 0 ≤ s ∧ s < 4294967296) :
    dither_Ordered.f W H l n side x y = some ((W : Int), (H : Int), ordR n x y E W 0 l, 0) := by
  unfold dither_Ordered.f
  rw [(levels_good (n := n) (by omega)).1, Option.bind_some, if_pos rfl, hs]
  show (plane_Check.f W H l).bind _ = _
  rw [hm, Option.bind_some, if_pos rfl, Int.toNat_natCast, ordL_eq n x y E W h.1 h.2 (sideE_some hs).1 l 0 hl]
  rfl

end Go.Proofs.Ytmipbbkieadecaa
