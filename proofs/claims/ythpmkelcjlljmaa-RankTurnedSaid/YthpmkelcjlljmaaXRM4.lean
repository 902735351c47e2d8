import Derived.Test.YthpmkelcjlljmaaXRM3
import Derived.Test.YthpmkelcjlljmaaXRH2
open Go Go.RowKit Go.Proofs.YthpmkelcjlljmaaW.PrintWords Go.Proofs.YthpmkelcjlljmaaW.PrintLast Go.Proofs.YthpmkelcjlljmaaW.PrintMore
set_option linter.unusedVariables false
set_option linter.unusedSimpArgs false
namespace Go.Proofs.Ythpmkelcjlljmaa
open PRA

def rowL (bk : Int) (W : Nat) (l : List Int) (y : Nat) (x0 : Int) : Nat → Nat → List Int
  | 0, _ => []
  | m + 1, i => l.getD (y * W + bdr bk W (wrap64 (x0 + (i : Int)))) 0 :: rowL bk W l y x0 m (i + 1)
def allL (bk : Int) (W H : Nat) (l : List Int) (x0 y0 : Int) (w : Nat) : Nat → Nat → List Int
  | 0, _ => []
  | m + 1, j => rowL bk W l (bdr bk H (wrap64 (y0 + (j : Int)))) x0 w 0 ++ allL bk W H l x0 y0 w m (j + 1)
theorem idx_lt (W H y x : Nat) (hy : y < H) (hx : x < W) : y * W + x < W * H := by
  have h : (y + 1) * W ≤ H * W := Nat.mul_le_mul_right W hy
  rw [Nat.succ_mul, Nat.mul_comm H W] at h
  omega
theorem idx_wrap (W H y x : Nat) (hW : W ≤ 1024) (hH : H ≤ 1024) (hy : y < H) (hx : x < W) : wrap64 (wrap64 ((y : Int) * (W : Int)) + (x : Int)) = ((y * W + x : Nat) : Int) := by
  have h := idx_lt W H y x hy hx
  have hb : W * H ≤ 1024 * 1024 := Nat.mul_le_mul hW hH
  have e : (y : Int) * (W : Int) = ((y * W : Nat) : Int) := by push_cast; rfl
  rw [e]
  generalize y * W = a at *
  generalize W * H = b at *
  rw [wd (a : Int) (by omega) (by omega), wd _ (by omega) (by omega)]
  omega
theorem atRow_eq (bk : Int) (W H : Nat) (l : List Int) (y : Nat) (x0 : Int) (hk : 1 ≤ bk ∧ bk ≤ 3) (hW1 : 1 ≤ W) (hW : W ≤ 1024) (hH : H ≤ 1024) (hy : y < H) (hl : l.length = W * H) : ∀ m i acc,
    atRow bk W l y x0 m i acc = some (acc ++ rowL bk W l y x0 m i)
  | 0, i, acc => by rw [atRow, rowL, List.append_nil]
  | m + 1, i, acc => by
    have hb := bdr_lt bk W (wrap64 (x0 + (i : Int))) hW1
    have hi := idx_lt W H y _ hy hb
    rw [atRow, border_eq bk W _ hk hW1 hW 8 (by omega), Option.bind_some]
    dsimp only
    rw [idx_wrap W H y _ hW hH hy hb, if_pos (by omega), atRow_eq bk W H l y x0 hk hW1 hW hH hy hl m (i + 1), rowL, List.append_assoc]
    unfold rd
    rw [Int.toNat_natCast]
    rfl
theorem atAll_eq (bk : Int) (W H : Nat) (l : List Int) (x0 y0 : Int) (w : Nat) (hk : 1 ≤ bk ∧ bk ≤ 3) (hW1 : 1 ≤ W) (hW : W ≤ 1024) (hH1 : 1 ≤ H) (hH : H ≤ 1024) (hl : l.length = W * H) : ∀ m j acc,
    atAll bk W H l x0 y0 w m j acc = some (acc ++ allL bk W H l x0 y0 w m j)
  | 0, j, acc => by rw [atAll, allL, List.append_nil]
  | m + 1, j, acc => by
    have hb := bdr_lt bk H (wrap64 (y0 + (j : Int))) hH1
    rw [atAll, border_eq bk H _ hk hH1 hH 8 (by omega), Option.bind_some]
    dsimp only
    rw [atRow_eq bk W H l _ x0 hk hW1 hW hH hb hl, Option.bind_some, atAll_eq bk W H l x0 y0 w hk hW1 hW hH1 hH hl m (j + 1), allL, List.append_assoc]
def win (bk : Int) (W H : Nat) (l : List Int) (w h : Nat) (c r : Int) : List Int := allL bk W H l (wrap64 (c - ((w / 2 : Nat) : Int))) (wrap64 (r - ((h / 2 : Nat) : Int))) w h 0
def atV (bk : Int) (W H : Nat) (l : List Int) (w h k : Nat) (c r : Int) : Int := (isrt (win bk W H l w h c r)).getD k 0
theorem at_eq (bk : Int) (W H : Nat) (l : List Int) (w h k : Nat) (c r : Int) (hk : 1 ≤ bk ∧ bk ≤ 3) (hW1 : 1 ≤ W) (hW : W ≤ 1024) (hH1 : 1 ≤ H) (hH : H ≤ 1024) (hl : l.length = W * H)
    (hw : w ≤ 15) (hh : h ≤ 15) (hkw : k < w * h) (hu : ∀ s ∈ l, 0 ≤ s ∧ s < 4294967296) : B3.f W H l bk w h k c r = some (atV bk W H l w h k c r) := by
  unfold B3.f
  rw [if_pos ⟨⟨by omega, by omega, by omega, by omega, by omega, by exact_mod_cast hkw⟩, hu⟩]
  rw [Int.toNat_natCast, Int.toNat_natCast, Int.toNat_natCast, atAll_eq bk W H l _ _ w hk hW1 hW hH1 hH hl, Option.bind_some, List.nil_append]
  unfold atV win
  rw [show ((w : Int) / 2) = ((w / 2 : Nat) : Int) by omega, show ((h : Int) / 2) = ((h / 2 : Nat) : Int) by omega]
end Go.Proofs.Ythpmkelcjlljmaa

