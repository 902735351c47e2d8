import Derived.Test.YtbfimplajocmmaaYI1
import Derived.Test.YtbfimplajocmmaaYAW
section
set_option linter.unusedVariables false
set_option linter.unusedSimpArgs false
namespace Go.Proofs.Ytbfimplajocmmaa
namespace FM
def part1 (ms : Nat → Bool) (n : Int) : List Nat → List Int → List Nat → List Int × List Nat
 | [], out, s => (out, s)
 | k :: t, out, s => if ms k = true ∧ out.getD k 0 = 0 then part1 ms n t (out.set k n) (s ++ [k]) else part1 ms n t out s
def zeros (out : List Int) : Nat := out.countP (fun x => x == 0)
theorem zeros_set (out : List Int) (k : Nat) (n : Int) (hk : k < out.length) (h0 : out.getD k 0 = 0) (hn : n ≠ 0) : zeros (out.set k n) + 1 = zeros out := by
 induction out generalizing k with
 | nil => simp at hk
 | cons x t ih =>
  cases k with
  | zero =>
   rw [List.getD_cons_zero] at h0; subst h0
   simp [zeros, List.countP_cons, hn]
  | succ k =>
   rw [List.getD_cons_succ] at h0; have := ih k (by simpa using hk) h0
   simp only [zeros, List.set_cons_succ, List.countP_cons] at *
   omega
end FM
end Go.Proofs.Ytbfimplajocmmaa
end
section
open Go Go.RowKit Go.Shelf Go.Proofs.YtbfimplajocmmaaW.PrintWords Go.Proofs.YtbfimplajocmmaaW.PrintLast Go.Proofs.YtbfimplajocmmaaW.PrintMore
attribute [local go_sem] Oper.semAt_some
set_option linter.unusedVariables false
set_option linter.unusedSimpArgs false
namespace Go.Proofs.Ytbfimplajocmmaa
open PFA FM
def dfs (nb : Nat → List Nat) (ms : Nat → Bool) (n : Int) : Nat → List Int → List Nat → Option (List Int)
 | 0, _, _ => none
 | f + 1, out, s => if s = [] then some out else dfs nb ms n f (part1 ms n (nb (s.getD (s.length - 1) 0)) out (s.take (s.length - 1))).1 (part1 ms n (nb (s.getD (s.length - 1) 0)) out (s.take (s.length - 1))).2
def partsGo (nb : Nat → List Nat) (ms : Nat → Bool) (F : Nat) : List Nat → List Int → Int → Option (List Int × Int)
 | [], out, n => some (out, n)
 | i :: t, out, n => if 0 < out.getD i 0 then partsGo nb ms F t out n else (dfs nb ms (n + 1) F (out.set i (n + 1)) [i]).bind fun o => partsGo nb ms F t o (n + 1)
theorem partsGo_snoc (nb : Nat → List Nat) (ms : Nat → Bool) (F i : Nat) : ∀ (pre : List Nat) (out : List Int) (n : Int), partsGo nb ms F (pre ++ [i]) out n = (partsGo nb ms F pre out n).bind fun p => if 0 < p.1.getD i 0 then some p else (dfs nb ms (p.2 + 1) F (p.1.set i (p.2 + 1)) [i]).bind fun o => some (o, p.2 + 1)
 | [], out, n => by
  simp only [List.nil_append, partsGo, Option.bind_some]
 | j :: t, out, n => by
  rw [List.cons_append, partsGo, partsGo]
  split
  ·exact partsGo_snoc nb ms F i t out n
  ·cases h : dfs nb ms (n + 1) F (out.set j (n + 1)) [j] with
   | none => rfl
   | some o => exact partsGo_snoc nb ms F i t o (n + 1)
theorem partsGo_root {nb : Nat → List Nat} {ms : Nat → Bool} {F i : Nat} {pre : List Nat} {out0 out o : List Int} {n0 n : Int} (h : partsGo nb ms F pre out0 n0 = some (out, n)) (hp : ¬ 0 < out.getD i 0) (hd : dfs nb ms (n + 1) F (out.set i (n + 1)) [i] = some o) : partsGo nb ms F (pre ++ [i]) out0 n0 = some (o, n + 1) := by
 rw [partsGo_snoc, h, Option.bind_some, if_neg hp, hd, Option.bind_some]
theorem part1_count (ms : Nat → Bool) (n : Int) (hn : n ≠ 0) (N : Nat) : ∀ (ks : List Nat) (out : List Int) (s : List Nat), out.length = N → (∀ k ∈ ks, k < N) → (∀ k ∈ s, k < N) →
  (part1 ms n ks out s).1.length = N ∧ (∀ k ∈ (part1 ms n ks out s).2, k < N) ∧ zeros (part1 ms n ks out s).1 + (part1 ms n ks out s).2.length = zeros out + s.length
 | [], out, s, hl, hk, hs => ⟨hl, hs, rfl⟩
 | k :: t, out, s, hl, hk, hs => by
  rw [part1]; have hkN := hk k List.mem_cons_self
  split
  ·rename_i hc
   have hz := zeros_set out k n (by omega) hc.2 hn
   have h := part1_count ms n hn N t (out.set k n) (s ++ [k]) (by rw [List.length_set]; exact hl) (fun x hx => hk x (List.mem_cons_of_mem _ hx)) (fun x hx => by
    rcases List.mem_append.mp hx with hx | hx
    ·exact hs x hx
    ·rw [List.mem_singleton.mp hx]; exact hkN)
   refine ⟨h.1, h.2.1, ?_⟩; rw [h.2.2, List.length_append, List.length_singleton]
   omega
  ·exact part1_count ms n hn N t out s hl (fun x hx => hk x (List.mem_cons_of_mem _ hx)) hs
theorem part1_snoc (ms : Nat → Bool) (n : Int) (k : Nat) : ∀ (ks : List Nat) (out : List Int) (s : List Nat),
  part1 ms n (ks ++ [k]) out s = if ms k = true ∧ (part1 ms n ks out s).1.getD k 0 = 0 then ((part1 ms n ks out s).1.set k n, (part1 ms n ks out s).2 ++ [k]) else part1 ms n ks out s
 | [], out, s => by rw [List.nil_append]; rfl
 | x :: t, out, s => by
  rw [List.cons_append, part1, part1]
  split
  ·exact part1_snoc ms n k t _ _
  ·exact part1_snoc ms n k t _ _
theorem zeros_le (out : List Int) : zeros out ≤ out.length := List.countP_le_length
theorem dfs_some (nb : Nat → List Nat) (ms : Nat → Bool) (n : Int) (hn : n ≠ 0) (N : Nat) (hnb : ∀ i, i < N → ∀ k ∈ nb i, k < N) : ∀ (f : Nat) (out : List Int) (s : List Nat), out.length = N → (∀ k ∈ s, k < N) → zeros out + s.length < f → ∃ o, dfs nb ms n f out s = some o ∧ o.length = N
 | 0, _, _, _, _, h => by omega
 | f + 1, out, s, hl, hs, h => by
  rw [dfs]
  by_cases e : s = []
  ·rw [if_pos e]; exact ⟨out, rfl, hl⟩
  ·rw [if_neg e]
   have hpos : 0 < s.length := List.length_pos_iff.mpr e; have hj : s.getD (s.length - 1) 0 < N := hs _ (qget_mem s _ (by omega)); have hc := part1_count ms n hn N (nb (s.getD (s.length - 1) 0)) out (s.take (s.length - 1)) hl (hnb _ hj) (fun k hk => hs k (List.mem_of_mem_take hk)); refine dfs_some nb ms n hn N hnb f _ _ hc.1 hc.2.1 ?_; rw [hc.2.2, List.length_take]
   omega
theorem partsGo_some (nb : Nat → List Nat) (ms : Nat → Bool) (N : Nat) (hnb : ∀ i, i < N → ∀ k ∈ nb i, k < N) : ∀ (is : List Nat) (out : List Int) (n : Int), 0 ≤ n → out.length = N → (∀ i ∈ is, i < N) → ∃ o m, partsGo nb ms (N + 2) is out n = some (o, m) ∧ o.length = N ∧ n ≤ m ∧ m ≤ n + is.length
 | [], out, n, h0, hl, hi => ⟨out, n, rfl, hl, Int.le_refl _, by simp⟩
 | i :: t, out, n, h0, hl, hi => by
  rw [partsGo]
  by_cases e : 0 < out.getD i 0
  ·rw [if_pos e]
   obtain ⟨o, m, h1, h2, h3, h4⟩ := partsGo_some nb ms N hnb t out n h0 hl (fun x hx => hi x (List.mem_cons_of_mem _ hx)); exact ⟨o, m, h1, h2, h3, by rw [List.length_cons]; omega⟩
  ·rw [if_neg e]
   obtain ⟨o, ho, hol⟩ := dfs_some nb ms (n + 1) (by omega) N hnb (N + 2) (out.set i (n + 1)) [i] (by rw [List.length_set]; exact hl) (fun k hk => by rw [List.mem_singleton.mp hk]; exact hi i List.mem_cons_self) (by
    have := zeros_le (out.set i (n + 1)); rw [List.length_set, hl] at this
    simp only [List.length_singleton]
    omega)
   rw [ho, Option.bind_some]; obtain ⟨o2, m, h1, h2, h3, h4⟩ := partsGo_some nb ms N hnb t o (n + 1) (by omega) hol (fun x hx => hi x (List.mem_cons_of_mem _ hx)); exact ⟨o2, m, h1, h2, by omega, by rw [List.length_cons]; omega⟩
def Dc.f (a0_0 a0_1 : Int) (l0_2 : List Bool) (a1 : Int) : Option (List Int × Int × Int) :=
 (Do.f a0_0 a0_1 l0_2 a1).bind fun t => if t.2.2.2 = 0 then
  (if 1 ≤ t.1 ∧ t.1 ≤ 1024 ∧ 1 ≤ t.2.1 ∧ t.2.1 ≤ 1024 ∧ l0_2.length = t.1.toNat * t.2.1.toNat then
   (partsGo (nbs t.1.toNat t.2.1.toNat t.2.2.1) (fun k => l0_2.getD k false) (l0_2.length + 2) (trues l0_2 l0_2.length) (List.replicate l0_2.length 0) 0).bind fun p => some (p.1, p.2, 0)
  else none) else some ([], 0, t.2.2.2)
structure PW (B G : Nat) (W0 : World) (mask gr : Array Value) (out : List Int) (n : Int) (W : World) : Prop where
 m : W.heap[B]? = some (.cells mask 27 (0, 0))
 g : W.heap[G]? = some (.cells gr 103 (0, 0))
 s : W.heap[G + 1]? = some (.cells (ints out) 3 (0, 0))
 ob : W.heap[G + 2]? = some (.cells #[.slice (some ⟨G + 1, 0, none⟩) out.length out.length] 35 (0, 0))
 nb : W.heap[G + 3]? = some (.cells #[.int .i64 n] 3 (0, 0))
 mb : W.heap[G + 4]? = some (.cells mask 27 (0, 0))
 below : Below B W0 W
 le : B < G
theorem PW.lt {B G : Nat} {W0 W : World} {mask gr : Array Value} {out : List Int} {n : Int} (H : PW B G W0 mask gr out n W) : G + 4 < W.heap.size := Bh H.mb
theorem PW.step {B G : Nat} {W0 W W' : World} {mask gr : Array Value} {out : List Int} {n : Int} (H : PW B G W0 mask gr out n W) (hb : Below W.heap.size W W') : PW B G W0 mask gr out n W' :=
 ⟨An H.m hb, An H.g hb, An H.s hb, An H.ob hb, An H.nb hb, An H.mb hb, H.below.trans (hb.mono (Nat.le_of_lt (by have := H.lt; have := H.le; omega))), H.le⟩
theorem PW.kept {B C G : Nat} {W0 W W' : World} {mask gr : Array Value} {out : List Int} {n : Int} {row : Option Nat} (H : PW B G W0 mask gr out n W) (hBC : B ≤ C) (hg : W.grownBy W' row) (hr : ∀ r, row = some r → C ≤ r ∧ ∃ o : Obj, W.heap[r]? = some o ∧ o.isCells = false) : PW B G W0 mask gr out n W' := by
 have hr2 : ∀ r, row = some r → ∃ o : Obj, W.heap[r]? = some o ∧ o.isCells = false := fun r e => (hr r e).2
 exact ⟨Cs H.m hg hr2, Cs H.g hg hr2, Cs H.s hg hr2, Cs H.ob hg hr2, Cs H.nb hg hr2, Cs H.mb hg hr2, H.below.grown hg (by have := H.lt; have := H.le; omega) (fun k e => Nat.le_trans hBC (hr k e).1), H.le⟩
theorem PW.grown {B G : Nat} {W0 W W' : World} {mask gr : Array Value} {out : List Int} {n : Int} {row : Option Nat} (H : PW B G W0 mask gr out n W) (hg : W.grownBy W' row) (hr : ∀ r, row = some r → G + 4 < r) : PW B G W0 mask gr out n W' := by
 have hne : ∀ k, k < G + 5 → some k ≠ row := fun k hk e => by have := hr k e.symm; omega
 have hle := H.le; exact ⟨B3 H.m hg (hne B (by omega)), B3 H.g hg (hne G (by omega)), B3 H.s hg (hne (G + 1) (by omega)), B3 H.ob hg (hne (G + 2) (by omega)), B3 H.nb hg (hne (G + 3) (by omega)), B3 H.mb hg (hne (G + 4) (by omega)), H.below.grown hg (by have := H.lt; omega) (fun k e => by have := hr k e; omega), hle⟩
theorem PW.far {B G : Nat} {W0 W : World} {mask gr : Array Value} {out : List Int} {n : Int} (H : PW B G W0 mask gr out n W) (p : Addr) (hp : G + 4 < p.block) (u : Value) : PW B G W0 mask gr out n (W.setCell p u) := by
 have h1 := H.le; exact ⟨Bd H.m (show B ≠ p.block by omega) _, Bd H.g (show G ≠ p.block by omega) _, Bd H.s (show G + 1 ≠ p.block by omega) _, Bd H.ob (show G + 2 ≠ p.block by omega) _, Bd H.nb (show G + 3 ≠ p.block by omega) _, Bd H.mb (show G + 4 ≠ p.block by omega) _, H.below.setCell (show B ≤ p.block by omega) _, h1⟩
theorem PW.put {B G : Nat} {W0 W : World} {mask gr : Array Value} {out : List Int} {n : Int} (H : PW B G W0 mask gr out n W) (i : Nat) (x : Int) : PW B G W0 mask gr (out.set i x) n (W.setCell ⟨G + 1, i, none⟩ (.int .i64 x)) := by
 have h1 := H.le; exact ⟨Bd H.m (show B ≠ G + 1 by omega) _, Bd H.g (show G ≠ G + 1 by omega) _, Ax H.s i _ (ints_set out i x), by rw [List.length_set]; exact Bd H.ob (show G + 2 ≠ G + 1 by omega) _, Bd H.nb (show G + 3 ≠ G + 1 by omega) _, Bd H.mb (show G + 4 ≠ G + 1 by omega) _, H.below.setCell (show B ≤ G + 1 by omega) _, h1⟩
theorem PW.count {B G : Nat} {W0 W : World} {mask gr : Array Value} {out : List Int} {n : Int} (H : PW B G W0 mask gr out n W) (x : Int) : PW B G W0 mask gr out x (W.setCell ⟨G + 3, 0, none⟩ (.int .i64 x)) := by
 have h1 := H.le; exact ⟨Bd H.m (show B ≠ G + 3 by omega) _, Bd H.g (show G ≠ G + 3 by omega) _, Bd H.s (show G + 1 ≠ G + 3 by omega) _, Bd H.ob (show G + 2 ≠ G + 3 by omega) _, Ax H.nb 0 _ rfl, Bd H.mb (show G + 4 ≠ G + 3 by omega) _, H.below.setCell (show B ≤ G + 3 by omega) _, h1⟩
theorem PW.cells {B G : Nat} {W0 W : World} {mask gr : Array Value} {out : List Int} {n : Int} (H : PW B G W0 mask gr out n W) (i : Nat) (hi : i < out.length) : W.cell? ⟨G + 1, i, none⟩ = some (.int .i64 (out.getD i 0)) ∧ W.frozen? ⟨G + 1, i, none⟩ = false :=
 ⟨(Ad H.s i).trans (ints_get out i hi), Af H.s i⟩
structure PD (B G T l : Nat) (W0 : World) (mask gr : Array Value) (out : List Int) (n : Int) (s : List Nat) (v : Value) (W : World) : Prop where
 w : PW B G W0 mask gr out n W
 tb : W.heap[T + 1]? = some (.cells #[v] 35 (0, 0))
 o : W.ownsRow T 3 1 v s.length (s.map encN)
 lrec : ∃ r, W.heap[l]? = some (.loop r)
 le : G + 4 < T
theorem PD.ne {B G T l : Nat} {W0 W : World} {mask gr : Array Value} {out : List Int} {n : Int} {s : List Nat} {v : Value} (H : PD B G T l W0 mask gr out n s v W) (k : Nat) (hk : v.ownBlock = some k) : T ≤ k ∧ k ≠ T + 1 ∧ k ≠ l := by
 refine ⟨C9 H.o k hk, fun e => ?_, fun e => ?_⟩
 ·obtain ⟨cells, hc⟩ := Di H.o k hk
  rw [e, H.tb] at hc; cases hc
 ·obtain ⟨cells, hc⟩ := Di H.o k hk
  obtain ⟨r, hr⟩ := H.lrec; rw [e, hr] at hc; cases hc
theorem PD.step {B G T l : Nat} {W0 W W' : World} {mask gr : Array Value} {out : List Int} {n : Int} {s : List Nat} {v : Value} (H : PD B G T l W0 mask gr out n s v W) (hb : Below W.heap.size W W') : PD B G T l W0 mask gr out n s v W' := by
 obtain ⟨r, hr⟩ := H.lrec; exact ⟨H.w.step hb, An H.tb hb, own_move H.o (fun k hk => hb.block k (own_lt H.o k hk)), ⟨r, (hb.block l (Bh hr)).trans hr⟩, H.le⟩
theorem PD.kept {B C G T l : Nat} {W0 W W' : World} {mask gr : Array Value} {out : List Int} {n : Int} {s : List Nat} {v : Value} {row : Option Nat} (H : PD B G T l W0 mask gr out n s v W) (hlC : l < C) (hBC : B ≤ C) (hg : W.grownBy W' row) (hr : ∀ r, row = some r → C ≤ r ∧ ∃ o : Obj, W.heap[r]? = some o ∧ o.isCells = false) : PD B G T l W0 mask gr out n s v W' := by
 have hr2 : ∀ r, row = some r → ∃ o : Obj, W.heap[r]? = some o ∧ o.isCells = false := fun r e => (hr r e).2
 obtain ⟨r, hrr⟩ := H.lrec; refine ⟨H.w.kept hBC hg hr, Cs H.tb hg hr2, ?_, ⟨r, (hg.block l (Bh hrr) (fun e => by have := (hr l e.symm).1; omega)).trans hrr⟩, H.le⟩; refine own_move H.o (fun k hk => ?_); obtain ⟨cells, hc⟩ := Di H.o k hk; exact (Cs hc hg hr2).trans hc.symm
theorem PD.put {B G T l : Nat} {W0 W : World} {mask gr : Array Value} {out : List Int} {n : Int} {s : List Nat} {v : Value} (H : PD B G T l W0 mask gr out n s v W) (i : Nat) (x : Int) : PD B G T l W0 mask gr (out.set i x) n s v (W.setCell ⟨G + 1, i, none⟩ (.int .i64 x)) := by
 obtain ⟨r, hr⟩ := H.lrec; have hle := H.le; exact ⟨H.w.put i x, Bd H.tb (show T + 1 ≠ G + 1 by omega) _, C4 H.o (p := ⟨G + 1, i, none⟩) (fun e => by have := C9 H.o (G + 1) e.symm; omega) _, ⟨r, (KeepsOthers.setCell W ⟨G + 1, i, none⟩ (.int .i64 x)).same l _ hr rfl⟩, hle⟩
theorem PD.append {B G T l : Nat} {W0 W W1 : World} {mask gr : Array Value} {out : List Int} {n : Int} {s : List Nat} {v v' : Value} {x : Nat} (H : PD B G T l W0 mask gr out n s v W) (hown' : W1.ownsRow T 3 1 v' (s.length + 1) (s.map encN ++ [.int .i64 (x : Int)])) (hgrow : (W.alloc (.cells #[.int .i64 (x : Int)] 3)).grownBy W1 v.ownBlock)
  (hat : v'.ownBlock = v.ownBlock ∨ v'.ownBlock = some (W.alloc (.cells #[.int .i64 (x : Int)] 3)).heap.size) :
  (W1.cell? ⟨T + 1, 0, none⟩ = some v ∧ W1.frozen? ⟨T + 1, 0, none⟩ = false) ∧ PD B G T l W0 mask gr out n (s ++ [x]) v' (W1.setCell ⟨T + 1, 0, none⟩ v') ∧ KeepsOthers W (W1.setCell ⟨T + 1, 0, none⟩ v') ∧
   (∀ b, b < W.heap.size → b ≠ T + 1 → some b ≠ v.ownBlock → (W1.setCell ⟨T + 1, 0, none⟩ v').heap[b]? = W.heap[b]?) := by
 have hle := H.le; have hw1 := (H.w.step (Ah (Below.refl _ W) (.cells #[.int .i64 (x : Int)] 3))).grown hgrow (fun r e => by have := (H.ne r e).1; omega); have hTv : some (T + 1) ≠ v.ownBlock := fun e => (H.ne (T + 1) e.symm).2.1 rfl
 have k4 := B3 (Aj H.tb (.cells #[.int .i64 (x : Int)] 3)) hgrow hTv; have hTl : T + 1 < W.heap.size := Bh H.tb
 have hko : KeepsOthers W (W1.setCell ⟨T + 1, 0, none⟩ v') := ((KeepsOthers.alloc _ (.cells #[.int .i64 (x : Int)] 3)).trans (KeepsOthers.of_grownBy hgrow (fun j o e ho => by
   obtain ⟨cells, hc⟩ := Di (Dn H.o (.cells #[.int .i64 (x : Int)] 3)) j e; cases ho.symm.trans hc; rfl))).trans (KeepsOthers.setCell _ _ _)
 obtain ⟨r, hr⟩ := H.lrec; refine ⟨⟨(Ad k4 0).trans rfl, Af k4 0⟩, ⟨hw1.far _ (show G + 4 < T + 1 by omega) _, Ax k4 0 _ rfl, ?_, ⟨r, hko.same l _ hr rfl⟩, hle⟩, hko, fun b h1 h2 h3 => ?_⟩
 ·rw [List.length_append, List.length_singleton, List.map_append]
  refine C4 hown' (p := ⟨T + 1, 0, none⟩) (fun e => ?_) _
  rcases hat with h | h
  ·exact hTv (e.trans h)
  ·rw [h] at e
   have := Option.some.inj e
   simp at this
   omega
 ·rw [Below.heap_setCell _ _ _ _ (show b ≠ T + 1 from h2), hgrow.block b (by simp; omega) h3]
  exact Below.heap_alloc _ _ _ h1
theorem PD.pop {B G T l g cap : Nat} {W0 W : World} {mask gr : Array Value} {out : List Int} {n : Int} {s : List Nat} (H : PD B G T l W0 mask gr out n s (.slice (some ⟨g, 0, none⟩) s.length cap) W) :
  PD B G T l W0 mask gr out n (s.take (s.length - 1)) (.slice (some ⟨g, 0, none⟩) (s.length - 1) cap) (W.setCell ⟨T + 1, 0, none⟩ (.slice (some ⟨g, 0, none⟩) (s.length - 1) cap)) := by
 have hle := H.le; obtain ⟨r, hr⟩ := H.lrec; have hne := H.ne g rfl; refine ⟨H.w.far _ (show G + 4 < T + 1 by omega) _, Ax H.tb 0 _ rfl, ?_, ⟨r, (KeepsOthers.setCell _ _ _).same l _ hr rfl⟩, hle⟩; have h1 : Kd.R (Kd.int .i64) 3 W T (fun _ => True) (.slice (some ⟨g, 0, none⟩) s.length cap) (s.map (fun k : Nat => (k : Int))) := own_R H.o (Nat.le_refl _); have h2 := Kd.own_of_R (Kd.R_take (m := s.length - 1) h1 (by simp))
 have e : encs (Value.int .i64) ((s.map (fun k : Nat => (k : Int))).take (s.length - 1)) = (s.take (s.length - 1)).map encN := by
  unfold encs; rw [← List.map_take, List.map_map]; rfl
 rw [e] at h2; rw [show ((s.map (fun k : Nat => (k : Int))).take (s.length - 1)).length = s.length - 1 by simp] at h2; rw [show (s.take (s.length - 1)).length = s.length - 1 by simp]; exact C4 h2 (p := ⟨T + 1, 0, none⟩) (fun e => hne.2.1 (Option.some.inj e).symm) _
structure PE (B G T l Bx C : Nat) (wr0 W0 : World) (mask gr : Array Value) (ms : Nat → Bool) (n : Int) (out : List Int) (s ks : List Nat) (v : Value) (W : World) : Prop where
 d : PD B G T l W0 mask gr (part1 ms n ks out s).1 n (part1 ms n ks out s).2 v W
 far : ∀ k, v.ownBlock = some k → k < Bx ∨ Bx + 2 ≤ k
 sz : Bx + 2 ≤ W.heap.size
 kf : KeepsFrom C wr0 W
theorem PE.kept {B G T l Bx C : Nat} {wr0 W0 W W' : World} {mask gr : Array Value} {ms : Nat → Bool} {n : Int} {out : List Int} {s ks : List Nat} {v : Value} {row : Option Nat} (H : PE B G T l Bx C wr0 W0 mask gr ms n out s ks v W) (hl : l < Bx + 2) (hB : B ≤ Bx + 2) (h0 : wr0.heap.size ≤ Bx + 2) (hg : W.grownBy W' row) (hr : ∀ r, row = some r → Bx + 2 ≤ r ∧ ∃ o : Obj, W.heap[r]? = some o ∧ o.isCells = false) : PE B G T l Bx C wr0 W0 mask gr ms n out s ks v W' :=
 ⟨H.d.kept hl hB hg hr, H.far, Nat.le_trans H.sz hg.size, ownFrom_keepsFrom (β := Unit) h0 () W W' row H.kf hg hr⟩
theorem PE.no {B G T l Bx C : Nat} {wr0 W0 W : World} {mask gr : Array Value} {ms : Nat → Bool} {n : Int} {out : List Int} {s ks : List Nat} {v : Value} {k : Nat} (H : PE B G T l Bx C wr0 W0 mask gr ms n out s ks v W) (hno : ¬(ms k = true ∧ (part1 ms n ks out s).1.getD k 0 = 0)) : PE B G T l Bx C wr0 W0 mask gr ms n out s (ks ++ [k]) v W :=
 ⟨by rw [part1_snoc, if_neg hno]; exact H.d, H.far, H.sz, H.kf⟩
theorem PE.yes {B G T l Bx C : Nat} {wr0 W0 W w1 : World} {mask gr : Array Value} {ms : Nat → Bool} {n : Int} {out : List Int} {s ks : List Nat} {v v' : Value} {k : Nat} (H : PE B G T l Bx C wr0 W0 mask gr ms n out s ks v W) (hTB : T + 1 < Bx) (hyes : ms k = true ∧ (part1 ms n ks out s).1.getD k 0 = 0)
  (hown' : w1.ownsRow T 3 1 v' ((part1 ms n ks out s).2.length + 1) ((part1 ms n ks out s).2.map encN ++ [.int .i64 (k : Int)]))
  (hgrow : ((W.setCell ⟨G + 1, k, none⟩ (.int .i64 n)).alloc (.cells #[.int .i64 (k : Int)] 3)).grownBy w1 v.ownBlock)
  (hat : v'.ownBlock = v.ownBlock ∨ v'.ownBlock = some ((W.setCell ⟨G + 1, k, none⟩ (.int .i64 n)).alloc (.cells #[.int .i64 (k : Int)] 3)).heap.size) (C2 : Nat) :
  PE B G T l Bx C wr0 W0 mask gr ms n out s (ks ++ [k]) v' (w1.setCell ⟨T + 1, 0, none⟩ v') ∧ KeepsFrom C2 W (w1.setCell ⟨T + 1, 0, none⟩ v') ∧ KpG (Bx + 1) Bx W (w1.setCell ⟨T + 1, 0, none⟩ v') := by
 have hle := H.d.le; have hsz := H.sz
 have hs1 : (W.setCell ⟨G + 1, k, none⟩ (.int .i64 n)).heap.size = W.heap.size := by
  show (W.heap.modify _ _).size = _; rw [Array.size_modify]
 obtain ⟨_, h2, h3, h4⟩ := (H.d.put k n).append hown' hgrow hat; have hko : KeepsOthers W (w1.setCell ⟨T + 1, 0, none⟩ v') := (KeepsOthers.setCell _ _ _).trans h3
 have hsame : ∀ b, Bx ≤ b → b < Bx + 2 → (w1.setCell ⟨T + 1, 0, none⟩ v').heap[b]? = W.heap[b]? := fun b h5 h6 => by
  rw [h4 b (by omega) (by omega) (fun e => by have := H.far b e.symm; omega)]; exact Below.heap_setCell _ _ _ _ (show b ≠ G + 1 by omega)
 refine ⟨⟨by rw [part1_snoc, if_pos hyes]; exact h2, fun b hb => ?_, Nat.le_trans H.sz hko.size, H.kf.trans (hko.from _)⟩, hko.from _, hsame _ (by omega) (by omega), hsame _ (by omega) (by omega)⟩
 rcases hat with e | e
 ·exact H.far b (e.symm.trans hb)
 ·rw [e] at hb
  cases hb; refine .inr ?_
  simp only [World.size_alloc]
  omega
theorem rangeFunc_ownH1 {F : Fence} {n : Nat} {P : Program} {α : Type} {g : Operand} {ps : Array Tmp} {assign body : Code} {Q : Exit → Act → World → Prop} {a : Act} {w : World}
  (hro : F.round = none) (h1 : 1 ≤ n) {gf : Nat} {lb : Array Value} (hg : a.eval g = .func (.func gf) #[] lb) (hFg : F.fn gf) (eg : ∀ args w, (callFunc gf args).run P w = .ok (.enter gf args) w)
  {encs : α → Array Value} {Kp : World → World → Prop} {S Sp : List α → Prop} {N : Nat} {w0 : World} (hseq : SeqStopsK F (n - 1) P gf lb encs Kp S Sp N w0)
  (hKt : ∀ {A B C : World}, Kp A B → Kp B C → Kp A C) (hKb : ∀ (W : World) (l : Nat) (o o' : Obj), w.heap.size ≤ l → W.heap[l]? = some o → o.isCells = false → o.isWalk = false → Kp W (W.putObj l o')) (hb0 : Below w0.heap.size w0 w) (hps : ∀ x, (encs x).size = ps.size)
  (I : List α → World → Prop) (Ix : Code → List α → World → Prop) (hI : OwnFrom w.heap.size I) (hIx : ∀ c, OwnFrom w.heap.size (Ix c)) (h0 : I [] w) (a₁ : α → Act) (hKr : ∀ W, Kp W W)
  (hassign : ∀ (l : Nat) (x : α) (W : World) (K : Act → World → Prop), K (a₁ x) W →
   assign.wpIn (F.inRound l) (n - 1 - 1) P (Exit.then K (fun _ _ _ => False)) { tmps := (ps.zip (encs x)).foldl (fun t (p, v) => t.setIfInBounds p v) a.tmps, defers := [] } W)
  (hbody : ∀ (l : Nat) (pre : List α) (x : α) (W : World), w.heap.size ≤ l → (∃ r, W.heap[l]? = some (.loop r)) → I pre W → pre.length < N → body.wpIn (F.inRound l) (n - 1 - 1) P (ownPostG w.heap.size Kp I Ix (pre ++ [x]) W) (a₁ x) W)
  (hdone : ∀ (D : Nat) (xs : List α) (W : World), w.heap.size ≤ D → S xs → I xs W → W.heap[D]? = some (.deferred (some [])) → Q .normal { a with defers := { target := .collected D, args := #[] } :: a.defers } W)
  (hstop : ∀ (D : Nat) (c : Code) (pre : List α) (W : World), w.heap.size ≤ D → Sp pre → Ix c pre W → W.heap[D]? = some (.deferred (some [])) → c.wpIn F n P Q { a with defers := { target := .collected D, args := #[] } :: a.defers } W) :
  (Code.rangeFunc g ps assign body).wpIn F n P Q a w :=
 wpIn_rangeFunc_ownH hro h1 hg hFg eg hseq (fun h k => hKt h k) hKb hb0 hps I Ix hI hIx h0 (fun x a' _ => a' = a₁ x) (fun _ _ _ _ _ _ hs _ _ => hs)
  (fun l pre x W K hi hK => hassign l x W K (hK _ _ (KeepsFrom.refl _ _) (hKr W) hi rfl)) (fun l pre x a' W h1 h2 hi e => by subst e; exact hbody l pre x W h1 h2 hi) hdone hstop
theorem rangeFunc_ownN1 {F : Fence} {n : Nat} {P : Program} {α : Type} {g : Operand} {ps : Array Tmp} {assign body : Code} {Q : Exit → Act → World → Prop} {a : Act} {w : World}
  {l₀ : Nat} {r₀ : Loop} (hro : F.round = some l₀) (hl₀ : w.heap[l₀]? = some (.loop r₀)) (h1 : 1 ≤ n) {gf : Nat} {lb : Array Value} (hg : a.eval g = .func (.func gf) #[] lb) (hFg : F.fn gf) (eg : ∀ args w, (callFunc gf args).run P w = .ok (.enter gf args) w)
  {encs : α → Array Value} {Kp : World → World → Prop} {S Sp : List α → Prop} {N : Nat} {w0 : World} (hseq : SeqStopsK F (n - 1) P gf lb encs Kp S Sp N w0)
  (hKt : ∀ {A B C : World}, Kp A B → Kp B C → Kp A C) (hKb : ∀ (W : World) (l : Nat) (o o' : Obj), w.heap.size ≤ l → W.heap[l]? = some o → o.isCells = false → o.isWalk = false → Kp W (W.putObj l o')) (hb0 : Below w0.heap.size w0 w) (hps : ∀ x, (encs x).size = ps.size)
  (I : List α → World → Prop) (Ix : Code → List α → World → Prop) (hI : OwnFrom w.heap.size I) (hIx : ∀ c, OwnFrom w.heap.size (Ix c)) (h0 : I [] w) (a₁ : α → Act) (hKr : ∀ W, Kp W W)
  (hassign : ∀ (l : Nat) (x : α) (W : World) (K : Act → World → Prop), K (a₁ x) W →
   assign.wpIn (F.inRound l) (n - 1 - 1) P (Exit.then K (fun _ _ _ => False)) { tmps := (ps.zip (encs x)).foldl (fun t (p, v) => t.setIfInBounds p v) a.tmps, defers := [] } W)
  (hbody : ∀ (l : Nat) (pre : List α) (x : α) (W : World), I pre W → pre.length < N → body.wpIn (F.inRound l) (n - 1 - 1) P (ownPostG w.heap.size Kp I Ix (pre ++ [x]) W) (a₁ x) W)
  (hdone : ∀ (xs : List α) (W : World), S xs → I xs W → Q .normal a W)
  (hstop : ∀ (c : Code) (pre : List α) (W : World), Sp pre → Ix c pre W → c.wpIn F n P Q a W) :
  (Code.rangeFunc g ps assign body).wpIn F n P Q a w :=
 wpIn_rangeFunc_ownN hro hl₀ h1 hg hFg eg hseq (fun h k => hKt h k) hKb hb0 hps I Ix hI hIx h0 (fun x a' _ => a' = a₁ x) (fun _ _ _ _ _ _ hs _ _ => hs)
  (fun l pre x W K hi hK => hassign l x W K (hK _ _ (KeepsFrom.refl _ _) (hKr W) hi rfl)) (fun l pre x a' W _ _ hi e => by subst e; exact hbody l pre x W hi) hdone hstop
end Go.Proofs.Ytbfimplajocmmaa
end
