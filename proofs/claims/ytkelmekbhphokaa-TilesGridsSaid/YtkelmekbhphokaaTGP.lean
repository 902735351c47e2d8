/- The plain law of TilesGrids: over numbers and lists alone, what the tiles tell is what the reference tells, at every size, side, number and rectangle. No condition. -/
import Derived.Test.YtkelmekbhphokaaPTGx5
open Go Go.RowKit Go.Proofs.YtkelmekbhphokaaW.PrintWords Go.Proofs.YtkelmekbhphokaaW.PrintLast Go.Proofs.YtkelmekbhphokaaW.PrintMore Go.Proofs.Ytkelmekbhphokaa.PTG
set_option linter.unusedVariables false
set_option linter.unusedSimpArgs false
namespace Go.Proofs.Ytkelmekbhphokaa.TG

theorem w64 {n : Int} (h1 : -9223372036854775808 ≤ n) (h2 : n ≤ 9223372036854775807) : wrap64 n = n := by unfold wrap64; omega

def OkS (w h : Int) : Prop := 1 ≤ w ∧ 1 ≤ h ∧ w ≤ 1024 ∧ h ≤ 1024 ∧ w * h ≤ 65536
def Ok (w h s : Int) : Prop := OkS w h ∧ 1 ≤ s ∧ s ≤ 1024

theorem cols (a s : Int) (ha : 1 ≤ a) (ha2 : a ≤ 1024) (hs : 1 ≤ s) (hs2 : s ≤ 1024) :
    wrap64 (Int.tdiv (wrap64 ((wrap64 (a + s)) - 1)) s) = (a - 1) / s + 1 := by
  rw [w64 (n := a + s) (by omega) (by omega), w64 (n := a + s - 1) (by omega) (by omega), Int.tdiv_eq_ediv_of_nonneg (by omega)]
  rw [show a + s - 1 = (a - 1) + 1 * s by omega, Int.add_mul_ediv_right _ _ (by omega)]
  have h2 : 0 ≤ (a - 1) / s := Int.ediv_nonneg (by omega) (by omega)
  have h3 : (a - 1) / s ≤ a - 1 := Int.ediv_le_self _ (by omega)
  exact w64 (by omega) (by omega)

theorem gridOf_yes {w h s : Int} (H : Ok w h s) : tiles_gridOf.f w h s = some (w, h, s, (w - 1) / s + 1, (h - 1) / s + 1, 0) := by
  obtain ⟨hk, h1, h2⟩ := H
  have hk' : 1 ≤ w ∧ 1 ≤ h ∧ w ≤ 1024 ∧ h ≤ 1024 ∧ w * h ≤ 65536 := hk
  unfold tiles_gridOf.f plane_New.f
  rw [if_pos hk']
  simp only [Option.bind_some, if_true]
  rw [if_neg (by omega), if_neg (by omega), if_neg (by omega), cols w s (by omega) (by omega) h1 h2, cols h s (by omega) (by omega) h1 h2]

theorem gridOf_no {w h s : Int} (H : ¬ Ok w h s) : tiles_gridOf.f w h s = some (0, 0, 0, 0, 0, 190) := by
  unfold tiles_gridOf.f plane_New.f
  by_cases hk : 1 ≤ w ∧ 1 ≤ h ∧ w ≤ 1024 ∧ h ≤ 1024 ∧ w * h ≤ 65536
  · rw [if_pos hk]
    simp only [Option.bind_some, if_true]
    by_cases h1 : s < 1
    · rw [if_pos h1]
    · rw [if_neg h1]
      by_cases h2 : s > 1024
      · rw [if_pos h2]
      · exact absurd ⟨hk, by omega, by omega⟩ H
  · rw [if_neg hk]
    simp

theorem refSize (w h : Int) : ∃ b, halideref19_Size.f w h = some b ∧ (b = true ↔ OkS w h) := by
  unfold halideref19_Size.f OkS
  by_cases h1 : w ≥ 1
  · rw [if_pos h1]
    by_cases h2 : h ≥ 1
    · rw [if_pos h2]
      by_cases h3 : w ≤ 1024
      · rw [if_pos h3]
        by_cases h4 : h ≤ 1024
        · rw [if_pos h4]
          have hb : w * h ≤ 1024 * 1024 := Int.mul_le_mul h3 h4 (by omega) (by omega)
          have hp : 0 ≤ w * h := Int.mul_nonneg (by omega) (by omega)
          rw [w64 (n := w * h) (by omega) (by omega)]
          exact ⟨_, rfl, by rw [decide_eq_true_eq]; omega⟩
        · rw [if_neg h4]
          exact ⟨_, rfl, fun hh => absurd hh (by simp), fun hh => by exfalso; omega⟩
      · rw [if_neg h3]
        exact ⟨_, rfl, fun hh => absurd hh (by simp), fun hh => by exfalso; omega⟩
    · rw [if_neg h2]
      exact ⟨_, rfl, fun hh => absurd hh (by simp), fun hh => by exfalso; omega⟩
  · rw [if_neg h1]
    exact ⟨_, rfl, fun hh => absurd hh (by simp), fun hh => by exfalso; omega⟩

theorem refSide (s : Int) : ∃ b, halideref19_side.f s = some b ∧ (b = true ↔ 1 ≤ s ∧ s ≤ 1024) := by
  unfold halideref19_side.f
  by_cases h1 : s ≥ 1
  · rw [if_pos h1]
    exact ⟨_, rfl, by rw [decide_eq_true_eq]; omega⟩
  · rw [if_neg h1]
    exact ⟨_, rfl, fun hh => absurd hh (by simp), fun hh => by exfalso; omega⟩

theorem refGrid_yes {w h s : Int} (H : Ok w h s) : halideref19_Grid.f w h s = some ((w - 1) / s + 1, (h - 1) / s + 1, 0) := by
  obtain ⟨hk, h1, h2⟩ := H
  obtain ⟨b, hb, hb'⟩ := refSize w h
  obtain ⟨c, hc, hc'⟩ := refSide s
  obtain ⟨k1, k2, k3, k4, k5⟩ := hk
  unfold halideref19_Grid.f
  rw [hb, hc]
  simp only [Option.bind_some]
  rw [if_pos (hb'.2 ⟨k1, k2, k3, k4, k5⟩), if_pos (hc'.2 ⟨h1, h2⟩), if_neg (by omega), cols w s (by omega) (by omega) h1 h2, cols h s (by omega) (by omega) h1 h2]

theorem refGrid_no {w h s : Int} (H : ¬ Ok w h s) : halideref19_Grid.f w h s = some (0, 0, 190) := by
  obtain ⟨b, hb, hb'⟩ := refSize w h
  obtain ⟨c, hc, hc'⟩ := refSide s
  unfold halideref19_Grid.f
  rw [hb, hc]
  simp only [Option.bind_some]
  by_cases hbt : b = true
  · rw [if_pos hbt]
    by_cases hct : c = true
    · exact absurd ⟨hb'.1 hbt, hc'.1 hct⟩ H
    · rw [if_neg hct]
  · rw [if_neg hbt]

/-- What is known of the columns and rows of a grid. -/
structure Dims (w h s C D : Int) : Prop where
  hw : 1 ≤ w ∧ w ≤ 1024
  hh : 1 ≤ h ∧ h ≤ 1024
  hs : 1 ≤ s ∧ s ≤ 1024
  hC : C = (w - 1) / s + 1
  hD : D = (h - 1) / s + 1
  c1 : 1 ≤ C ∧ C ≤ 1024
  d1 : 1 ≤ D ∧ D ≤ 1024
theorem dims {w h s : Int} (H : Ok w h s) : Dims w h s ((w - 1) / s + 1) ((h - 1) / s + 1) := by
  obtain ⟨⟨k1, k2, k3, k4, _⟩, h1, h2⟩ := H
  have a1 : 0 ≤ (w - 1) / s := Int.ediv_nonneg (by omega) (by omega)
  have a2 : (w - 1) / s ≤ w - 1 := Int.ediv_le_self _ (by omega)
  have b1 : 0 ≤ (h - 1) / s := Int.ediv_nonneg (by omega) (by omega)
  have b2 : (h - 1) / s ≤ h - 1 := Int.ediv_le_self _ (by omega)
  exact ⟨⟨k1, k3⟩, ⟨k2, k4⟩, ⟨h1, h2⟩, rfl, rfl, ⟨by omega, by omega⟩, ⟨by omega, by omega⟩⟩

theorem tile_yes {w h s : Int} (H : Ok w h s) (i : Int) : tiles_Tile.f w h s i = halideref19_Tile.f w h s i := by
  have d := dims H
  unfold tiles_Tile.f halideref19_Tile.f
  rw [gridOf_yes H, refGrid_yes H]
  have hc : ¬ ((w - 1) / s + 1 = 0) := by have := d.c1; omega
  simp only [Option.bind_some, tiles_grid_count.f, tiles_grid_tile.f, if_true, hc, if_false]

theorem mul_bd {a b : Int} (ha : 0 ≤ a) (ha2 : a ≤ 1024) (hb : 0 ≤ b) (hb2 : b ≤ 1024) : 0 ≤ a * b ∧ a * b ≤ 1048576 :=
  ⟨Int.mul_nonneg ha hb, Int.mul_le_mul ha2 hb2 hb (by omega)⟩

/-- A tile's rectangle. -/
theorem refTile_at {w h s : Int} (H : Ok w h s) (i : Int) (h0 : 0 ≤ i) (h1 : i < ((w - 1) / s + 1) * ((h - 1) / s + 1)) :
    halideref19_Tile.f w h s i = some (i % ((w - 1) / s + 1) * s, i / ((w - 1) / s + 1) * s, mn (i % ((w - 1) / s + 1) * s + s) w, mn (i / ((w - 1) / s + 1) * s + s) h, 0) := by
  have d := dims H
  generalize hC : (w - 1) / s + 1 = C at *
  generalize hD : (h - 1) / s + 1 = D at *
  obtain ⟨c1, c2⟩ := d.c1
  obtain ⟨d1, d2⟩ := d.d1
  obtain ⟨s1, s2⟩ := d.hs
  have p := mul_bd (show 0 ≤ C by omega) c2 (show 0 ≤ D by omega) d2
  have x0 : 0 ≤ i % C := Int.emod_nonneg _ (by omega)
  have x1 : i % C < C := Int.emod_lt_of_pos _ (by omega)
  have y0 : 0 ≤ i / C := Int.ediv_nonneg h0 (by omega)
  have y1 : i / C < D := Int.ediv_lt_of_lt_mul (by omega) (by rw [Int.mul_comm]; exact h1)
  have px := mul_bd x0 (show i % C ≤ 1024 by omega) (show 0 ≤ s by omega) s2
  have py := mul_bd y0 (show i / C ≤ 1024 by omega) (show 0 ≤ s by omega) s2
  unfold halideref19_Tile.f
  rw [refGrid_yes H, hC, hD]
  simp only [Option.bind_some, if_true]
  rw [if_neg (by omega), w64 (n := C * D) (by omega) (by omega), if_neg (by omega), if_neg (by omega)]
  rw [Int.tmod_eq_emod_of_nonneg h0, Int.tdiv_eq_ediv_of_nonneg h0, w64 (n := i / C) (by omega) (by omega), w64 (n := i % C * s) (by omega) (by omega), w64 (n := i / C * s) (by omega) (by omega), w64 (n := i % C * s + s) (by omega) (by omega), w64 (n := i / C * s + s) (by omega) (by omega)]

/-- A tile has a place of a rectangle. -/
def Hit (w h s C X0 Y0 X1 Y1 i : Int) : Prop := i % C * s < X1 ∧ X0 < mn (i % C * s + s) w ∧ i / C * s < Y1 ∧ Y0 < mn (i / C * s + s) h

theorem lt_mn {a b c : Int} (h : a < c) : a < mn b c ↔ a < b := by unfold mn; split <;> omega

theorem hit_axis (X0 X1 w s x : Int) (hs : 1 ≤ s) (h0 : 0 ≤ X0) (h1 : X0 < X1) (h2 : X1 ≤ w) : (x * s < X1 ∧ X0 < mn (x * s + s) w) ↔ (X0 / s ≤ x ∧ x ≤ (X1 - 1) / s) := by
  rw [lt_mn (by omega), Int.le_ediv_iff_mul_le (by omega)]
  have e : X0 / s < x + 1 ↔ X0 < (x + 1) * s := Int.ediv_lt_iff_lt_mul (by omega)
  have e2 : (x + 1) * s = x * s + s := by rw [Int.add_mul, Int.one_mul]
  rw [e2] at e
  constructor
  · rintro ⟨a, b⟩
    exact ⟨by have := e.2 b; omega, by omega⟩
  · rintro ⟨a, b⟩
    exact ⟨by omega, e.1 (by omega)⟩

/-! Rising lists with the same members are one. -/
theorem sorted_ext : ∀ (a b : List Int), a.Pairwise (· < ·) → b.Pairwise (· < ·) → (∀ x, x ∈ a ↔ x ∈ b) → a = b
  | [], [], _, _, _ => rfl
  | [], y :: b, _, _, h => absurd ((h y).2 List.mem_cons_self) (by simp)
  | x :: a, [], _, _, h => absurd ((h x).1 List.mem_cons_self) (by simp)
  | x :: a, y :: b, ha, hb, h => by
    rw [List.pairwise_cons] at ha hb
    have e : x = y := by
      have h1 := (h x).1 List.mem_cons_self
      have h2 := (h y).2 List.mem_cons_self
      rcases List.mem_cons.1 h1 with h1 | h1
      · exact h1
      · rcases List.mem_cons.1 h2 with h2 | h2
        · exact h2.symm
        · have := ha.1 y h2
          have := hb.1 x h1
          omega
    subst e
    congr 1
    refine sorted_ext a b ha.2 hb.2 fun z => ?_
    have hz := h z
    simp only [List.mem_cons] at hz
    constructor
    · intro hm
      rcases hz.1 (.inr hm) with e | hm'
      · have := ha.1 z hm; omega
      · exact hm'
    · intro hm
      rcases hz.2 (.inr hm) with e | hm'
      · have := hb.1 z hm; omega
      · exact hm'

theorem pairwise_snoc {l : List Int} {x : Int} (h : l.Pairwise (· < ·)) (hx : ∀ m, m ∈ l → m < x) : (l ++ [x]).Pairwise (· < ·) := by
  rw [List.pairwise_append]
  exact ⟨h, by simp, fun a ha b hb => by simp at hb; subst hb; exact hx a ha⟩

/-! The reference's loop. -/
def Inv2 (w h s C X0 Y0 X1 Y1 : Int) (acc : List Int) (i : Int) : Prop :=
  acc.Pairwise (· < ·) ∧ (∀ m, m ∈ acc ↔ 0 ≤ m ∧ m < i ∧ Hit w h s C X0 Y0 X1 Y1 m) ∧ (acc.length : Int) ≤ i

theorem ref_loop {w h s : Int} (H : Ok w h s) (X0 Y0 X1 Y1 : Int) : ∀ (n : Nat) (acc : List Int) (i : Int), (n : Int) = ((w - 1) / s + 1) * ((h - 1) / s + 1) - i → 0 ≤ i →
    Inv2 w h s ((w - 1) / s + 1) X0 Y0 X1 Y1 acc i →
    ∃ r, Ev (fun k => halideref19_Touched.l0 k w h s ((w - 1) / s + 1) ((h - 1) / s + 1) acc i X0 Y0 X1 Y1) (r, 0) ∧ Inv2 w h s ((w - 1) / s + 1) X0 Y0 X1 Y1 r (((w - 1) / s + 1) * ((h - 1) / s + 1)) := by
  have d := dims H
  obtain ⟨c1, c2⟩ := d.c1
  obtain ⟨d1, d2⟩ := d.d1
  have p := mul_bd (show 0 ≤ (w - 1) / s + 1 by omega) c2 (show 0 ≤ (h - 1) / s + 1 by omega) d2
  intro n
  induction n with
  | zero =>
    intro acc i hn h0 hI
    obtain rfl : i = ((w - 1) / s + 1) * ((h - 1) / s + 1) := by omega
    refine ⟨acc, Ev.step (f := fun _ => some (acc, 0)) (fun k => ?_) (Ev.now _), hI⟩
    simp only [halideref19_Touched.l0]
    rw [w64 (n := ((w - 1) / s + 1) * ((h - 1) / s + 1)) (by omega) (by omega), if_neg (by omega)]
  | succ n ih =>
    intro acc i hn h0 hI
    have hlt : i < ((w - 1) / s + 1) * ((h - 1) / s + 1) := by omega
    obtain ⟨i1, i2, i3⟩ := hI
    have next : ∀ acc', Inv2 w h s ((w - 1) / s + 1) X0 Y0 X1 Y1 acc' (i + 1) → ∃ r, Ev (fun k => halideref19_Touched.l0 k w h s ((w - 1) / s + 1) ((h - 1) / s + 1) acc' (wrap64 (i + 1)) X0 Y0 X1 Y1) (r, 0) ∧ Inv2 w h s ((w - 1) / s + 1) X0 Y0 X1 Y1 r (((w - 1) / s + 1) * ((h - 1) / s + 1)) := by
      intro acc' hI'
      rw [w64 (n := i + 1) (by omega) (by omega)]
      exact ih acc' (i + 1) (by omega) (by omega) hI'
    by_cases hit : Hit w h s ((w - 1) / s + 1) X0 Y0 X1 Y1 i
    · obtain ⟨r, hr, hp⟩ := next (acc ++ [i]) ⟨pairwise_snoc i1 (fun m hm => ((i2 m).1 hm).2.1), fun m => by
        rw [List.mem_append, i2 m, List.mem_singleton]
        constructor
        · rintro (⟨a, b, c⟩ | rfl)
          · exact ⟨a, by omega, c⟩
          · exact ⟨h0, by omega, hit⟩
        · rintro ⟨a, b, c⟩
          by_cases e : m = i
          · exact .inr e
          · exact .inl ⟨a, by omega, c⟩, by simp; omega⟩
      refine ⟨r, Ev.step (fun k => ?_) hr, hp⟩
      obtain ⟨q1, q2, q3, q4⟩ := hit
      simp only [halideref19_Touched.l0]
      rw [w64 (n := ((w - 1) / s + 1) * ((h - 1) / s + 1)) (by omega) (by omega), if_pos hlt, refTile_at H i h0 hlt]
      simp only [Option.bind_some]
      rw [if_pos q1, if_pos q2, if_pos q3, if_pos q4, if_pos (by omega)]
    · obtain ⟨r, hr, hp⟩ := next acc ⟨i1, fun m => by
        rw [i2 m]
        constructor
        · rintro ⟨a, b, c⟩
          exact ⟨a, by omega, c⟩
        · rintro ⟨a, b, c⟩
          by_cases e : m = i
          · exact absurd (e ▸ c) hit
          · exact ⟨a, by omega, c⟩, by omega⟩
      refine ⟨r, Ev.step (fun k => ?_) hr, hp⟩
      simp only [halideref19_Touched.l0]
      rw [w64 (n := ((w - 1) / s + 1) * ((h - 1) / s + 1)) (by omega) (by omega), if_pos hlt, refTile_at H i h0 hlt]
      simp only [Option.bind_some]
      by_cases q1 : i % ((w - 1) / s + 1) * s < X1
      · rw [if_pos q1]
        by_cases q2 : X0 < mn (i % ((w - 1) / s + 1) * s + s) w
        · rw [if_pos q2]
          by_cases q3 : i / ((w - 1) / s + 1) * s < Y1
          · rw [if_pos q3]
            by_cases q4 : Y0 < mn (i / ((w - 1) / s + 1) * s + s) h
            · exact absurd ⟨q1, q2, q3, q4⟩ hit
            · rw [if_neg q4]
          · rw [if_neg q3]
        · rw [if_neg q2]
      · rw [if_neg q1]

/-! The program's loops. xa, xb, ya, yb: the first and last column and row. -/
def Inv1 (C xa xb ya yb : Int) (acc : List Int) (y x : Int) : Prop :=
  acc.Pairwise (· < ·) ∧ (∀ m, m ∈ acc ↔ ∃ y' x', ya ≤ y' ∧ y' ≤ yb ∧ xa ≤ x' ∧ x' ≤ xb ∧ m = y' * C + x' ∧ (y' < y ∨ (y' = y ∧ x' < x))) ∧ (acc.length : Int) ≤ 1024 * (y - ya) + (x - xa)

theorem step_lt {C y y' x x' xb : Int} (hC : 1 ≤ C) (hx : 0 ≤ x) (hx' : x' ≤ xb) (hb : xb < C) (h : y' < y ∨ (y' = y ∧ x' < x)) : y' * C + x' < y * C + x := by
  rcases h with h | ⟨rfl, h⟩
  · have h1 : (y' + 1) * C ≤ y * C := Int.mul_le_mul_of_nonneg_right (by omega) (by omega)
    have h2 : (y' + 1) * C = y' * C + C := by rw [Int.add_mul, Int.one_mul]
    omega
  · omega

theorem inv1_push {C xa xb ya yb : Int} {acc : List Int} {y x : Int} (hC : 1 ≤ C) (h0 : 0 ≤ xa) (hb : xb < C) (hy : ya ≤ y) (hy2 : y ≤ yb) (hx : xa ≤ x) (hx2 : x ≤ xb) (hI : Inv1 C xa xb ya yb acc y x) :
    Inv1 C xa xb ya yb (acc ++ [y * C + x]) y (x + 1) := by
  obtain ⟨i1, i2, i3⟩ := hI
  refine ⟨pairwise_snoc i1 fun m hm => ?_, fun m => ?_, by simp; omega⟩
  · obtain ⟨y', x', a1, a2, a3, a4, rfl, a5⟩ := (i2 m).1 hm
    exact step_lt hC (by omega) a4 hb a5
  · rw [List.mem_append, i2 m, List.mem_singleton]
    constructor
    · rintro (⟨y', x', a1, a2, a3, a4, rfl, a5⟩ | rfl)
      · exact ⟨y', x', a1, a2, a3, a4, rfl, by omega⟩
      · exact ⟨y, x, hy, hy2, hx, hx2, rfl, .inr ⟨rfl, by omega⟩⟩
    · rintro ⟨y', x', a1, a2, a3, a4, rfl, a5⟩
      by_cases e : y' = y ∧ x' = x
      · exact .inr (by rw [e.1, e.2])
      · exact .inl ⟨y', x', a1, a2, a3, a4, rfl, by omega⟩

theorem inv1_row {C xa xb ya yb : Int} {acc : List Int} {y : Int} (hC : 1 ≤ C) (hC2 : C ≤ 1024) (h0 : 0 ≤ xa) (hab : xa ≤ xb) (hb : xb < C) (hI : Inv1 C xa xb ya yb acc y (xb + 1)) : Inv1 C xa xb ya yb acc (y + 1) xa := by
  obtain ⟨i1, i2, i3⟩ := hI
  refine ⟨i1, fun m => ?_, by omega⟩
  rw [i2 m]
  constructor
  · rintro ⟨y', x', a1, a2, a3, a4, rfl, a5⟩
    exact ⟨y', x', a1, a2, a3, a4, rfl, by omega⟩
  · rintro ⟨y', x', a1, a2, a3, a4, rfl, a5⟩
    exact ⟨y', x', a1, a2, a3, a4, rfl, by omega⟩

theorem axis_x {w h s C D X0 X1 : Int} (d : Dims w h s C D) (hX0 : 0 ≤ X0) (hX : X0 < X1) (hX1 : X1 ≤ w) : 0 ≤ X0 / s ∧ X0 / s ≤ (X1 - 1) / s ∧ (X1 - 1) / s < C := by
  obtain ⟨s1, s2⟩ := d.hs
  refine ⟨Int.ediv_nonneg hX0 (by omega), Int.ediv_le_ediv (by omega) (by omega), ?_⟩
  have := Int.ediv_le_ediv (show 0 < s by omega) (show X1 - 1 ≤ w - 1 by omega)
  rw [d.hC]
  omega
theorem axis_y {w h s C D Y0 Y1 : Int} (d : Dims w h s C D) (hY0 : 0 ≤ Y0) (hY : Y0 < Y1) (hY1 : Y1 ≤ h) : 0 ≤ Y0 / s ∧ Y0 / s ≤ (Y1 - 1) / s ∧ (Y1 - 1) / s < D := by
  obtain ⟨s1, s2⟩ := d.hs
  refine ⟨Int.ediv_nonneg hY0 (by omega), Int.ediv_le_ediv (by omega) (by omega), ?_⟩
  have := Int.ediv_le_ediv (show 0 < s by omega) (show Y1 - 1 ≤ h - 1 by omega)
  rw [d.hD]
  omega
theorem hit_iff {w h s C X0 Y0 X1 Y1 m : Int} (hs : 1 ≤ s) (hX0 : 0 ≤ X0) (hX : X0 < X1) (hX1 : X1 ≤ w) (hY0 : 0 ≤ Y0) (hY : Y0 < Y1) (hY1 : Y1 ≤ h) :
    Hit w h s C X0 Y0 X1 Y1 m ↔ (X0 / s ≤ m % C ∧ m % C ≤ (X1 - 1) / s) ∧ (Y0 / s ≤ m / C ∧ m / C ≤ (Y1 - 1) / s) := by
  have a := hit_axis X0 X1 w s (m % C) hs hX0 hX hX1
  have b := hit_axis Y0 Y1 h s (m / C) hs hY0 hY hY1
  unfold Hit
  constructor
  · rintro ⟨h1, h2, h3, h4⟩
    exact ⟨a.1 ⟨h1, h2⟩, b.1 ⟨h3, h4⟩⟩
  · rintro ⟨h1, h2⟩
    exact ⟨(a.2 h1).1, (a.2 h1).2, (b.2 h2).1, (b.2 h2).2⟩

section
variable {w h s C D X0 Y0 X1 Y1 : Int} (d : Dims w h s C D) (hX0 : 0 ≤ X0) (hX : X0 < X1) (hX1 : X1 ≤ w) (hY0 : 0 ≤ Y0) (hY : Y0 < Y1) (hY1 : Y1 ≤ h)
include d hX0 hX hX1 hY0 hY hY1

theorem row_loop (y : Int) (hy : Y0 / s ≤ y) (hy2 : y ≤ (Y1 - 1) / s)
    (next : ∀ acc, Inv1 C (X0 / s) ((X1 - 1) / s) (Y0 / s) ((Y1 - 1) / s) acc (y + 1) (X0 / s) →
      ∃ r, Ev (fun k => tiles_Touched.l0 k s acc (y + 1) X0 Y0 X1 Y1 w h s C D) (r, 0) ∧ Inv1 C (X0 / s) ((X1 - 1) / s) (Y0 / s) ((Y1 - 1) / s) r ((Y1 - 1) / s + 1) (X0 / s)) :
    ∀ (n : Nat) (acc : List Int) (x : Int), (n : Int) = (X1 - 1) / s + 1 - x → X0 / s ≤ x → Inv1 C (X0 / s) ((X1 - 1) / s) (Y0 / s) ((Y1 - 1) / s) acc y x →
      ∃ r, Ev (fun k => tiles_Touched.l1 k s acc y x X0 Y0 X1 Y1 w h s C D) (r, 0) ∧ Inv1 C (X0 / s) ((X1 - 1) / s) (Y0 / s) ((Y1 - 1) / s) r ((Y1 - 1) / s + 1) (X0 / s) := by
  obtain ⟨s1, s2⟩ := d.hs
  obtain ⟨c1, c2⟩ := d.c1
  obtain ⟨d1, d2⟩ := d.d1
  obtain ⟨w1, w2⟩ := d.hw
  obtain ⟨ax1, ax2, ax3⟩ := axis_x d hX0 hX hX1
  obtain ⟨ay1, ay2, ay3⟩ := axis_y d hY0 hY hY1
  have lim : wrap64 (Int.tdiv (wrap64 (X1 - 1)) s) = (X1 - 1) / s := by
    rw [w64 (n := X1 - 1) (by omega) (by omega), Int.tdiv_eq_ediv_of_nonneg (by omega)]
    exact w64 (by omega) (by omega)
  have py := mul_bd (show 0 ≤ y by omega) (show y ≤ 1024 by omega) (show 0 ≤ C by omega) c2
  intro n
  induction n with
  | zero =>
    intro acc x hn hx hI
    obtain rfl : x = (X1 - 1) / s + 1 := by omega
    obtain ⟨r, hr, hp⟩ := next acc (inv1_row c1 c2 ax1 ax2 ax3 hI)
    refine ⟨r, Ev.step (fun k => ?_) hr, hp⟩
    simp only [tiles_Touched.l1]
    rw [if_neg (by omega), lim, if_neg (by omega), w64 (n := y + 1) (by omega) (by omega)]
  | succ n ih =>
    intro acc x hn hx hI
    have hlt : x ≤ (X1 - 1) / s := by omega
    obtain ⟨r, hr, hp⟩ := ih (acc ++ [y * C + x]) (x + 1) (by omega) (by omega) (inv1_push c1 ax1 ax3 hy hy2 hx hlt hI)
    refine ⟨r, Ev.step (fun k => ?_) hr, hp⟩
    have hl := hI.2.2
    simp only [tiles_Touched.l1]
    rw [if_neg (by omega), lim, if_pos hlt, if_pos (by omega), w64 (n := y * C) (by omega) (by omega), w64 (n := y * C + x) (by omega) (by omega), w64 (n := x + 1) (by omega) (by omega)]

theorem rows_loop : ∀ (n : Nat) (acc : List Int) (y : Int), (n : Int) = (Y1 - 1) / s + 1 - y → Y0 / s ≤ y → Inv1 C (X0 / s) ((X1 - 1) / s) (Y0 / s) ((Y1 - 1) / s) acc y (X0 / s) →
      ∃ r, Ev (fun k => tiles_Touched.l0 k s acc y X0 Y0 X1 Y1 w h s C D) (r, 0) ∧ Inv1 C (X0 / s) ((X1 - 1) / s) (Y0 / s) ((Y1 - 1) / s) r ((Y1 - 1) / s + 1) (X0 / s) := by
  obtain ⟨s1, s2⟩ := d.hs
  obtain ⟨d1, d2⟩ := d.d1
  obtain ⟨c1, c2⟩ := d.c1
  obtain ⟨h1, h2⟩ := d.hh
  obtain ⟨w1, w2⟩ := d.hw
  obtain ⟨ax1, ax2, ax3⟩ := axis_x d hX0 hX hX1
  obtain ⟨ay1, ay2, ay3⟩ := axis_y d hY0 hY hY1
  have lim : wrap64 (Int.tdiv (wrap64 (Y1 - 1)) s) = (Y1 - 1) / s := by
    rw [w64 (n := Y1 - 1) (by omega) (by omega), Int.tdiv_eq_ediv_of_nonneg (by omega)]
    exact w64 (by omega) (by omega)
  have xs : wrap64 (Int.tdiv X0 s) = X0 / s := by
    rw [Int.tdiv_eq_ediv_of_nonneg hX0]
    exact w64 (by omega) (by omega)
  intro n
  induction n with
  | zero =>
    intro acc y hn hy hI
    obtain rfl : y = (Y1 - 1) / s + 1 := by omega
    refine ⟨acc, Ev.step (f := fun _ => some (acc, 0)) (fun k => ?_) (Ev.now _), hI⟩
    simp only [tiles_Touched.l0]
    rw [if_neg (by omega), lim, if_neg (by omega)]
  | succ n ih =>
    intro acc y hn hy hI
    obtain ⟨r, hr, hp⟩ := row_loop d hX0 hX hX1 hY0 hY hY1 y hy (by omega) (fun acc' hI' => ih acc' (y + 1) (by omega) (by omega) hI') ((X1 - 1) / s + 1 - X0 / s).toNat acc (X0 / s) (by omega) (by omega) hI
    refine ⟨r, Ev.step (fun k => ?_) hr, hp⟩
    simp only [tiles_Touched.l0]
    rw [if_neg (by omega), lim, if_pos (by omega), xs]

/-- The two lists are one. -/
theorem same_list {a b : List Int} (ha : Inv1 C (X0 / s) ((X1 - 1) / s) (Y0 / s) ((Y1 - 1) / s) a ((Y1 - 1) / s + 1) (X0 / s)) (hb : Inv2 w h s C X0 Y0 X1 Y1 b (C * D)) : a = b := by
  obtain ⟨s1, s2⟩ := d.hs
  obtain ⟨c1, c2⟩ := d.c1
  obtain ⟨ax1, ax2, ax3⟩ := axis_x d hX0 hX hX1
  obtain ⟨ay1, ay2, ay3⟩ := axis_y d hY0 hY hY1
  refine sorted_ext a b ha.1 hb.1 fun m => ?_
  rw [ha.2.1 m, hb.2.1 m, hit_iff s1 hX0 hX hX1 hY0 hY hY1]
  constructor
  · rintro ⟨y, x, a1, a2, a3, a4, rfl, _⟩
    have e1 : (y * C + x) % C = x := by rw [Int.add_comm, Int.add_mul_emod_self_right]; exact Int.emod_eq_of_lt (by omega) (by omega)
    have e2 : (y * C + x) / C = y := by rw [Int.add_comm, Int.add_mul_ediv_right _ _ (by omega), Int.ediv_eq_zero_of_lt (by omega) (by omega), Int.zero_add]
    rw [e1, e2]
    have := Int.mul_nonneg (show 0 ≤ y by omega) (show 0 ≤ C by omega)
    have := Int.mul_le_mul_of_nonneg_right (show y + 1 ≤ D by omega) (show 0 ≤ C by omega)
    have e3 : (y + 1) * C = y * C + C := by rw [Int.add_mul, Int.one_mul]
    have e4 : D * C = C * D := Int.mul_comm _ _
    exact ⟨by omega, by omega, ⟨a3, a4⟩, ⟨a1, a2⟩⟩
  · rintro ⟨a0, a1, ⟨a2, a3⟩, ⟨a4, a5⟩⟩
    exact ⟨m / C, m % C, a4, a5, a2, a3, by have := Int.mul_ediv_add_emod m C; rw [Int.mul_comm] at this; omega, .inl (by omega)⟩
end

/-! The two lists of numbers that are held against each other. -/
theorem ints_loop (l : List Int) (hl : l.length ≤ 1099511627776) : ∀ (n : Nat) (i : Int), (n : Int) = l.length - i → 0 ≤ i → Ev (fun k => halidehelp_Ints.l0 k l l i) true := by
  intro n
  induction n with
  | zero =>
    intro i hn h0
    refine Ev.step (f := fun _ => some true) (fun k => ?_) (Ev.now _)
    simp only [halidehelp_Ints.l0]
    rw [if_neg (by omega)]
  | succ n ih =>
    intro i hn h0
    refine Ev.step (fun k => ?_) (ih (i + 1) (by omega) (by omega))
    simp only [halidehelp_Ints.l0]
    rw [if_pos (by omega), if_pos h0, if_pos (by omega), if_pos trivial, w64 (n := i + 1) (by omega) (by omega)]
theorem ints_same (l : List Int) (hl : l.length ≤ 1099511627776) : Ev (fun k => halidehelp_Ints.f k l l) true := by
  unfold halidehelp_Ints.f
  simp only [if_true]
  exact ints_loop l hl l.length 0 (by omega) (by omega)

theorem touched_yes {w h s : Int} (H : Ok w h s) (X0 Y0 X1 Y1 : Int) : ∃ r, r.1.length ≤ 1099511627776 ∧ Ev (fun k => tiles_Touched.f k w h s X0 Y0 X1 Y1) r ∧ Ev (fun k => halideref19_Touched.f k w h s X0 Y0 X1 Y1) r := by
  have d := dims H
  obtain ⟨s1, s2⟩ := d.hs
  obtain ⟨h1, h2⟩ := d.hh
  obtain ⟨c1, c2⟩ := d.c1
  obtain ⟨d1, d2⟩ := d.d1
  have p := mul_bd (show 0 ≤ (w - 1) / s + 1 by omega) c2 (show 0 ≤ (h - 1) / s + 1 by omega) d2
  unfold tiles_Touched.f halideref19_Touched.f halideref19_Within.f
  rw [gridOf_yes H, refGrid_yes H]
  simp only [Option.bind_some, if_true]
  by_cases q1 : X0 < 0
  · have r1 : ¬ 0 ≤ X0 := by omega
    refine ⟨([], 52), by simp, ?_, ?_⟩
    · simp only [q1, if_true]; exact Ev.now _
    · simp only [r1, if_false, Option.bind_some, Bool.false_eq_true]; exact Ev.now _
  have r1 : 0 ≤ X0 := by omega
  by_cases q3 : X0 ≥ X1
  · have r3 : ¬ X0 < X1 := by omega
    refine ⟨([], 52), by simp, ?_, ?_⟩
    · by_cases q2 : Y0 < 0
      · simp only [q1, q2, if_true, if_false]; exact Ev.now _
      · simp only [q1, q2, q3, if_true, if_false]; exact Ev.now _
    · simp only [r1, r3, if_true, if_false, Option.bind_some, Bool.false_eq_true]; exact Ev.now _
  have r3 : X0 < X1 := by omega
  by_cases q5 : X1 > w
  · have r5 : ¬ X1 ≤ w := by omega
    refine ⟨([], 52), by simp, ?_, ?_⟩
    · by_cases q2 : Y0 < 0
      · simp only [q1, q2, if_true, if_false]; exact Ev.now _
      · by_cases q4 : Y0 ≥ Y1
        · simp only [q1, q2, q3, q4, if_true, if_false]; exact Ev.now _
        · simp only [q1, q2, q3, q4, q5, if_true, if_false]; exact Ev.now _
    · simp only [r1, r3, r5, if_true, if_false, Option.bind_some, Bool.false_eq_true]; exact Ev.now _
  have r5 : X1 ≤ w := by omega
  by_cases q2 : Y0 < 0
  · have r2 : ¬ 0 ≤ Y0 := by omega
    refine ⟨([], 52), by simp, ?_, ?_⟩
    · simp only [q1, q2, if_true, if_false]; exact Ev.now _
    · simp only [r1, r3, r5, r2, if_true, if_false, Option.bind_some, Bool.false_eq_true]; exact Ev.now _
  have r2 : 0 ≤ Y0 := by omega
  by_cases q4 : Y0 ≥ Y1
  · have r4 : ¬ Y0 < Y1 := by omega
    refine ⟨([], 52), by simp, ?_, ?_⟩
    · simp only [q1, q2, q3, q4, if_true, if_false]; exact Ev.now _
    · simp only [r1, r3, r5, r2, r4, if_true, if_false, Option.bind_some, Bool.false_eq_true]; exact Ev.now _
  have r4 : Y0 < Y1 := by omega
  by_cases q6 : Y1 > h
  · have r6 : ¬ Y1 ≤ h := by omega
    refine ⟨([], 52), by simp, ?_, ?_⟩
    · simp only [q1, q2, q3, q4, q5, q6, if_true, if_false]; exact Ev.now _
    · simp only [r1, r3, r5, r2, r4, r6, if_true, if_false, Option.bind_some, Bool.false_eq_true, decide_false]; exact Ev.now _
  have r6 : Y1 ≤ h := by omega
  have ys : wrap64 (Int.tdiv Y0 s) = Y0 / s := by
    have a1 : 0 ≤ Y0 / s := Int.ediv_nonneg (by omega) (by omega)
    have a2 : Y0 / s ≤ Y0 := Int.ediv_le_self _ (by omega)
    rw [Int.tdiv_eq_ediv_of_nonneg (by omega)]
    exact w64 (by omega) (by omega)
  obtain ⟨ay1, ay2, ay3⟩ := axis_y d (show 0 ≤ Y0 by omega) (show Y0 < Y1 by omega) (show Y1 ≤ h by omega)
  obtain ⟨r, hr, hp⟩ := rows_loop d (show 0 ≤ X0 by omega) (show X0 < X1 by omega) (show X1 ≤ w by omega) (show 0 ≤ Y0 by omega) (show Y0 < Y1 by omega) (show Y1 ≤ h by omega) ((Y1 - 1) / s + 1 - Y0 / s).toNat [] (Y0 / s) (by omega) (by omega)
    ⟨List.Pairwise.nil, fun m => ⟨fun hm => absurd hm (by simp), fun ⟨y', x', a1, a2, a3, a4, _, a5⟩ => by omega⟩, by simp⟩
  obtain ⟨r2, hr2, hp2⟩ := ref_loop H X0 Y0 X1 Y1 (((w - 1) / s + 1) * ((h - 1) / s + 1)).toNat [] 0 (by omega) (by omega) ⟨List.Pairwise.nil, fun m => ⟨fun hm => absurd hm (by simp), fun ⟨a1, a2, _⟩ => by omega⟩, by simp⟩
  obtain rfl := same_list d (show 0 ≤ X0 by omega) (show X0 < X1 by omega) (show X1 ≤ w by omega) (show 0 ≤ Y0 by omega) (show Y0 < Y1 by omega) (show Y1 ≤ h by omega) hp hp2
  refine ⟨(r, 0), by have := hp2.2.2; simp only; omega, ?_, ?_⟩
  · have hs0 : ¬ s = 0 := by omega
    simp only [q1, q2, q3, q4, q5, q6, hs0, if_false, ys]
    exact hr
  · simp only [r1, r2, r3, r4, r5, r6, if_true, Option.bind_some, decide_true]
    exact hr2

theorem known_ev : Ev (fun k => halidelaw19_known.f k) true := Ev.of (k := 40) halidelaw19_known.mono (by decide +kernel)

/-- The plain law. -/
theorem law (w h s i X0 Y0 X1 Y1 : Int) : ∃ k, halidelaw19_TilesGrids.f k w h s i X0 Y0 X1 Y1 = some true := by
  obtain ⟨K1, hk⟩ := known_ev
  replace hk : ∀ k, K1 ≤ k → halidelaw19_known.f k = some true := hk
  by_cases H : Ok w h s
  · have d := dims H
    obtain ⟨c1, c2⟩ := d.c1
    obtain ⟨d1, d2⟩ := d.d1
    obtain ⟨r, hl, ⟨K2, hp⟩, ⟨K3, hq⟩⟩ := touched_yes H X0 Y0 X1 Y1
    obtain ⟨K4, hi⟩ := ints_same r.1 hl
    replace hp : ∀ k, K2 ≤ k → tiles_Touched.f k w h s X0 Y0 X1 Y1 = some r := hp
    replace hq : ∀ k, K3 ≤ k → halideref19_Touched.f k w h s X0 Y0 X1 Y1 = some r := hq
    replace hi : ∀ k, K4 ≤ k → halidehelp_Ints.f k r.1 r.1 = some true := hi
    refine ⟨K1 + K2 + K3 + K4 + 2, ?_⟩
    unfold halidelaw19_TilesGrids.f tiles_Grid.f
    rw [hk _ (by omega), refGrid_yes H, gridOf_yes H]
    simp only [Option.bind_some, if_true, bne_self_eq_false, halidelaw19_TilesGrids.j0, Bool.false_eq_true, if_false, halidelaw19_TilesGrids.j1]
    by_cases big : decide (wrap64 (((w - 1) / s + 1) * ((h - 1) / s + 1)) > 20000) = true
    · rw [if_pos big]
    · rw [if_neg big, tile_yes H i]
      have ht : ∃ t, halideref19_Tile.f w h s i = some t := by
        unfold halideref19_Tile.f
        rw [refGrid_yes H]
        simp only [Option.bind_some, if_true]
        by_cases g1 : i < 0
        · rw [if_pos g1]; exact ⟨_, rfl⟩
        · rw [if_neg g1]
          by_cases g2 : i ≥ wrap64 (((w - 1) / s + 1) * ((h - 1) / s + 1))
          · rw [if_pos g2]; exact ⟨_, rfl⟩
          · rw [if_neg g2, if_neg (by omega)]; exact ⟨_, rfl⟩
      obtain ⟨t, ht⟩ := ht
      rw [ht, hp _ (by omega), hq _ (by omega)]
      simp only [Option.bind_some, if_true, beq_self_eq_true, Bool.and_self, hi _ (show K4 ≤ K1 + K2 + K3 + K4 by omega)]
  · refine ⟨K1 + 4, ?_⟩
    unfold halidelaw19_TilesGrids.f tiles_Grid.f
    rw [hk _ (by omega), refGrid_no H, gridOf_no H]
    simp only [Option.bind_some, if_true, bne_self_eq_false, halidelaw19_TilesGrids.j0, Bool.false_eq_true, if_false, halidelaw19_TilesGrids.j1, show ¬ ((190 : Int) = 0) by omega]
    unfold halideref19_Tile.f tiles_Tile.f halideref19_Touched.f tiles_Touched.f
    rw [refGrid_no H, gridOf_no H]
    simp [halidehelp_Ints.f, halidehelp_Ints.l0]
end Go.Proofs.Ytkelmekbhphokaa.TG
