import Derived.Test.YtbfimplajocmmaaYI2
import Derived.Maps.OwnIn
import Derived.ScopeJumps
import Derived.BigRegion
import Derived.Deep.LoopGhost
section
open Go Go.RowKit Go.Shelf Go.Proofs.YtbfimplajocmmaaW.PrintWords Go.Proofs.YtbfimplajocmmaaW.PrintLast Go.Proofs.YtbfimplajocmmaaW.PrintMore
set_option linter.unusedVariables false
set_option linter.unusedSimpArgs false
namespace Go.Proofs.Ytbfimplajocmmaa
open PFA
theorem beside_made (a0 a1 a2 i : Int) (w : World) :
  Calls Try.prog 64 #[.agg #[.int .i64 a0, .int .i64 a1, .int .i64 a2], .int .i64 i] w fun e w' => e = .returned (.func (.func 87) #[] #[.pointer (some ⟨w.heap.size + 1, 0, none⟩), .pointer (some ⟨w.heap.size, 0, none⟩)]) ∧ w' = (w.alloc (.cells #[.int .i64 a0, .int .i64 a1, .int .i64 a2] 103)).alloc (.cells #[.int .i64 i] 3) := by
 go_enter Try.func64, Try.ntmps64
 go_wp2
 go_ret
 exact ⟨rfl, rfl⟩
theorem beside_stops (n : Nat) (hn : 1 ≤ n) (Bi Bg i w h : Nat) (ways : Int) (hw : 1 ≤ w) (hw2 : w ≤ 1024) (hh2 : h ≤ 1024) (hi : i < w * h) (W0 : World) (hB : GB Bi Bg i w h ways W0) :
  SeqStopsK Fence.wide n Try.prog 87 #[.pointer (some ⟨Bi, 0, none⟩), .pointer (some ⟨Bg, 0, none⟩)] encP (KpG Bi Bg) (fun ys : List (Pl (w * h)) => ys.map (·.1) = nbs w h ways i) (fun ys : List (Pl (w * h)) => ∀ q ∈ ys.map (·.1), q ∈ nbs w h ways i) 9 W0 := fun l J Jx W hW hJ _ hY h0 =>
 beside1 n hn l Bi Bg i w h ways hw hw2 hh2 hi J Jx hY W hJ ⟨An hB.1 hW, An hB.2 hW⟩ h0
theorem KpG_t {Bi Bg : Nat} {X Y Z : World} (h : KpG Bi Bg X Y) (k : KpG Bi Bg Y Z) : KpG Bi Bg X Z := ⟨k.1.trans h.1, k.2.trans h.2⟩
theorem KpG_b {Bi Bg : Nat} {w : World} (h1 : Bi < w.heap.size) (h2 : Bg < w.heap.size) (W : World) (l : Nat) (o o' : Obj) (hl : w.heap.size ≤ l) : KpG Bi Bg W (W.putObj l o') :=
 ⟨World.putObj_heap_other (by omega), World.putObj_heap_other (by omega)⟩
theorem nbs_lt {w h : Nat} {ways : Int} {i : Nat} (hw : 1 ≤ w) (hi : i < w * h) : ∀ q ∈ nbs w h ways i, q < w * h := by
 intro q hq; unfold nbs nbTo at hq; obtain ⟨t, ht, e⟩ := List.mem_filterMap.mp hq; unfold nbAt at e
 split at e
 ·cases e
 ·rename_i hs
  unfold nbSkip at hs; have hnum := nb_num (w := w) (h := h) (i := i) (dx := ((t % 3 : Nat) : Int) - 1) (dy := ((t / 3 : Nat) : Int) - 1) hw hi (by omega) (by omega) (by omega) (by omega); obtain ⟨q2, hq2⟩ := Int.eq_ofNat_of_zero_le hnum.1; rw [hq2] at e hnum; obtain rfl : q2 = q := by simpa using e
  exact Int.ofNat_lt.mp hnum.2
def mark (D : Nat) : Deferred := { target := .collected D, args := #[] }
def shutAll (W : World) (ds : List Nat) : World := ds.foldl (fun W D => W.putObj D (.deferred none)) W
theorem leaves_marks {F : Fence} {n : Nat} {P : Program} {fn : Func} {tmps : Array Value} {R : Ending → World → Prop} {u : FrameMode} (hu : u ≠ .run) : ∀ (ds : List Nat) (W : World), ds.Nodup → (∀ D ∈ ds, W.heap[D]? = some (.deferred (some []))) →
  LeavesIn F n P fn tmps R [] u (shutAll W ds) → LeavesInM F n P fn tmps R (ds.map mark) u W
 | [], W, _, _, h => h
 | D :: ds, W, hn, hd, h => by
  have hn2 := List.nodup_cons.mp hn; have hD := hd D List.mem_cons_self; refine ⟨hu, .inl ⟨D, _, rfl, run_takeDeferred hD, leaves_marks hu ds _ hn2.2 (fun E hE => ?_) h⟩⟩; have hne : E ≠ D := fun e => hn2.1 (e ▸ hE)
  exact (World.putObj_heap_other hne).trans (hd E (List.mem_cons_of_mem _ hE))
theorem shutAll_keep (ds : List Nat) : ∀ (W : World), (∀ D ∈ ds, W.heap[D]? = some (.deferred (some []))) → ds.Nodup → ∀ (Q : World → Prop), (∀ W' D, Q W' → W'.heap[D]? = some (.deferred (some [])) → D ∈ ds → Q (W'.putObj D (.deferred none))) → Q W → Q (shutAll W ds) := by
 induction ds with
 | nil => intro W _ _ Q _ h; exact h
 | cons D ds ih =>
  intro W hd hn Q hQ h; have hn2 := List.nodup_cons.mp hn; refine ih (W.putObj D (.deferred none)) (fun E hE => ?_) hn2.2 Q (fun W' E h1 h2 h3 => hQ W' E h1 h2 (List.mem_cons_of_mem _ h3)) (hQ W D h (hd D List.mem_cons_self) List.mem_cons_self); have hne : E ≠ D := fun e => hn2.1 (e ▸ hE)
  exact (World.putObj_heap_other hne).trans (hd E (List.mem_cons_of_mem _ hE))
end Go.Proofs.Ytbfimplajocmmaa
end
section
open Go Go.RowKit Go.Shelf Go.Proofs.YtbfimplajocmmaaW.PrintWords Go.Proofs.YtbfimplajocmmaaW.PrintLast Go.Proofs.YtbfimplajocmmaaW.PrintMore
attribute [local go_sem] Oper.semAt_some
set_option linter.unusedVariables false
set_option linter.unusedSimpArgs false
namespace Go.Proofs.Ytbfimplajocmmaa
open PFA FM
def ints (l : List Int) : Array Value := (l.map (Value.int .i64)).toArray
theorem ints_get (l : List Int) (i : Nat) (h : i < l.length) : (ints l)[i]? = some (.int .i64 (l.getD i 0)) := by
  simp [ints, List.getD_eq_getElem?_getD, List.getElem?_eq_getElem h]
theorem ints_set (l : List Int) (i : Nat) (v : Int) : (ints l).setIfInBounds i (.int .i64 v) = ints (l.set i v) := by
  simp [ints, List.map_set]
theorem ints_made (m : Nat) : madeCells #[Value.int .i64 0] m = ints (List.replicate m 0) := by
  apply Array.toList_inj.mp
  apply List.ext_getElem
  · simp [madeCells, ints]
  · intro i h1 h2
    simp [madeCells, ints, Nat.mod_one]
theorem info3 : (Try.prog.info? 3).map (fun i => (i.zero, i.size, i.bytes)) = some (some (.int .i64 0), 1, 8) := by kernel_rfl
def encN (k : Nat) : Value := .int .i64 (k : Int)
structure SQ (B : Nat) (W0 : World) (gr may : Array Value) (st : List Int) (q : List Nat) (v : Value) (W : World) : Prop where
  g : W.heap[B]? = some (.cells gr 103 (0, 0))
  m : W.heap[B + 1]? = some (.cells may 109 (0, 0))
  s : W.heap[B + 2]? = some (.cells (ints st) 3 (0, 0))
  sb : W.heap[B + 3]? = some (.cells #[.slice (some ⟨B + 2, 0, none⟩) st.length st.length] 35 (0, 0))
  ob : W.heap[B + 4]? = some (.cells #[v] 35 (0, 0))
  o : W.ownsRow (B + 5) 3 1 v q.length (q.map encN)
  below : Below B W0 W
structure S1 (B : Nat) (W0 : World) (gr may : Array Value) (st : List Int) (W : World) : Prop where
  g : W.heap[B]? = some (.cells gr 103 (0, 0))
  m : W.heap[B + 1]? = some (.cells may 109 (0, 0))
  s : W.heap[B + 2]? = some (.cells (ints st) 3 (0, 0))
  sb : W.heap[B + 3]? = some (.cells #[.slice (some ⟨B + 2, 0, none⟩) st.length st.length] 35 (0, 0))
  below : Below B W0 W
  eq : W0.heap.size = B
  sz : W.heap.size = B + 4
theorem S1.put {B : Nat} {W0 W : World} {gr may : Array Value} {st : List Int} (H : S1 B W0 gr may st W) (i : Nat) (x : Int) : S1 B W0 gr may (st.set i x) (W.setCell ⟨B + 2, i, none⟩ (.int .i64 x)) :=
  ⟨Bd H.g (show B ≠ B + 2 by omega) _, Bd H.m (show B + 1 ≠ B + 2 by omega) _, Ax H.s i _ (ints_set st i x), by rw [List.length_set]; exact Bd H.sb (show B + 3 ≠ B + 2 by omega) _, H.below.setCell (show B ≤ B + 2 by omega) _, H.eq, by rw [← H.sz]; show (W.heap.modify _ _).size = _; rw [Array.size_modify]⟩
theorem SQ.base {B : Nat} {W0 W : World} {gr may : Array Value} {st : List Int} {q : List Nat} {v : Value} (H : SQ B W0 gr may st q v W) (k : Nat) (h : v.ownBlock = some k) : B + 5 ≤ k := C9 H.o k h
theorem SQ.lt {B : Nat} {W0 W : World} {gr may : Array Value} {st : List Int} {q : List Nat} {v : Value} (H : SQ B W0 gr may st q v W) : B + 4 < W.heap.size := Bh H.ob
theorem SQ.step {B : Nat} {W0 W W' : World} {gr may : Array Value} {st : List Int} {q : List Nat} {v : Value} (H : SQ B W0 gr may st q v W) (hb : Below W.heap.size W W') : SQ B W0 gr may st q v W' :=
  ⟨An H.g hb, An H.m hb, An H.s hb, An H.sb hb, An H.ob hb, own_move H.o (fun k hk => hb.block k (own_lt H.o k hk)), H.below.trans (hb.mono (Nat.le_of_lt (by have := H.lt; omega)))⟩
theorem wp_scope_jumps2 {P : Program} {a : Act} {w : World} {Q : Exit → Act → World → Prop} {c rest : Code} (l : Nat) (J : Act → World → Prop) (μ : Act → World → Nat) (hf : findLabel c l = some (Code.skip.seq rest))
    (first : (∀ a w, J a w → rest.wp P (Exit.jump l J Q) a w) → c.wp P (Exit.jump l J Q) a w)
    (pass : ∀ a w, J a w → rest.wp P (Exit.jump l (fun a' w' => J a' w' ∧ μ a' w' < μ a w) Q) a w) : (Code.scope c).wp P Q a w := by
  refine wp_scope_jumps l J μ hf (first fun a w hJ => wp_mono (pass a w hJ) ?_) (fun a w hJ => wp_seq (wp_skip (pass a w hJ))); intro e a' w' hq; cases e with
  | goto l' => exact ⟨hq.1, hq.2.1⟩
  | normal => exact hq
  | exit id => exact hq
  | ret => exact hq
  | panic ch => exact hq
  | outgrown => exact hq
theorem own_of_ints {W : World} {base g : Nat} {l : List Int} (h : W.heap[g]? = some (.cells (ints l) 3 (0, 0))) (hb : base ≤ g) (hm : l.length ≤ 9223372036854775807) : W.ownsRow base 3 1 (.slice (some ⟨g, 0, none⟩) l.length l.length) l.length (l.map (Value.int .i64)) := by
  refine ⟨by simp, .inr ⟨g, l.length, ints l, rfl, hb, h, Nat.le_refl _, hm, by simp [ints], ?_⟩⟩
  simp only [ints, Nat.mul_one, List.toList_toArray]
  exact List.take_of_length_le (by simp)
def setAll (l : List Int) (ks : List Nat) : List Int := ks.foldl (fun l k => l.set k 0) l
theorem setAll_length (ks : List Nat) : ∀ l, (setAll l ks).length = l.length := by
  induction ks with
  | nil => intro l; rfl
  | cons k ks ih => intro l; show (setAll (l.set k 0) ks).length = _; rw [ih, List.length_set]
theorem setAll_snoc (l : List Int) (ks : List Nat) (k : Nat) : setAll l (ks ++ [k]) = (setAll l ks).set k 0 := by simp [setAll]
theorem setAll_get (N : Nat) (ks : List Nat) : ∀ l : List Int, l.length = N → (∀ k ∈ ks, k < N) → ∀ j, j < N → (setAll l ks).getD j 0 = if j ∈ ks then 0 else l.getD j 0 := by
  induction ks with
  | nil => intro l _ _ j _; simp [setAll]
  | cons k ks ih =>
    intro l hl hk j hj; show (setAll (l.set k 0) ks).getD j 0 = _; rw [ih (l.set k 0) (by rw [List.length_set]; exact hl) (fun x hx => hk x (List.mem_cons_of_mem _ hx)) j hj]; have hkN := hk k List.mem_cons_self
    by_cases e : k = j
    · subst e
      rw [FM.getD_set_self _ _ _ (by omega)]
      simp
    · rw [FM.getD_set_ne _ _ _ _ e]
      by_cases h2 : j ∈ ks
      · rw [if_pos h2, if_pos (List.mem_cons_of_mem _ h2)]
      · rw [if_neg h2, if_neg (by simp [h2, Ne.symm e])]
theorem fill_set (N k : Nat) (h : k < N) : (List.replicate k (-1) ++ List.replicate (N - k) (0 : Int)).set k (-1) = List.replicate (k + 1) (-1) ++ List.replicate (N - (k + 1)) 0 := by
  apply List.ext_getElem
  · simp; omega
  · intro i h1 h2
    rw [List.getElem_set]
    by_cases e : k = i
    · subst e; simp [List.getElem_append]
    · rw [if_neg e]
      simp only [List.getElem_append, List.length_replicate, List.getElem_replicate]
      by_cases h3 : i < k
      · rw [dif_pos h3, dif_pos (by omega)]
      · rw [dif_neg h3, dif_neg (by omega)]
theorem S1.cells {B : Nat} {W0 W : World} {gr may : Array Value} {st : List Int} (H : S1 B W0 gr may st W) (i : Nat) (hi : i < st.length) : W.cell? ⟨B + 2, i, none⟩ = some (.int .i64 (st.getD i 0)) ∧ W.frozen? ⟨B + 2, i, none⟩ = false :=
  ⟨(Ad H.s i).trans (ints_get st i hi), Af H.s i⟩
theorem S1.box {B : Nat} {W0 W : World} {gr may : Array Value} {st : List Int} (H : S1 B W0 gr may st W) : W.cell? ⟨B + 3, 0, none⟩ = some (.slice (some ⟨B + 2, 0, none⟩) st.length st.length) := (Ad H.sb 0).trans rfl
theorem SQ.ne {B : Nat} {W0 W : World} {gr may : Array Value} {st : List Int} {q : List Nat} {v : Value} (H : SQ B W0 gr may st q v W) (k : Nat) (hk : k < B + 5) : some k ≠ v.ownBlock := fun e => by have := H.base k e.symm; omega
theorem SQ.put {B : Nat} {W0 W : World} {gr may : Array Value} {st : List Int} {q : List Nat} {v : Value} (H : SQ B W0 gr may st q v W) (i : Nat) (x : Int) : SQ B W0 gr may (st.set i x) q v (W.setCell ⟨B + 2, i, none⟩ (.int .i64 x)) :=
  ⟨Bd H.g (show B ≠ B + 2 by omega) _, Bd H.m (show B + 1 ≠ B + 2 by omega) _, Ax H.s i _ (ints_set st i x), by rw [List.length_set]; exact Bd H.sb (show B + 3 ≠ B + 2 by omega) _, Bd H.ob (show B + 4 ≠ B + 2 by omega) _,
   C4 H.o (p := ⟨B + 2, i, none⟩) (H.ne (B + 2) (by omega)) _, H.below.setCell (show B ≤ B + 2 by omega) _⟩
theorem SQ.cells {B : Nat} {W0 W : World} {gr may : Array Value} {st : List Int} {q : List Nat} {v : Value} (H : SQ B W0 gr may st q v W) (i : Nat) (hi : i < st.length) : W.cell? ⟨B + 2, i, none⟩ = some (.int .i64 (st.getD i 0)) ∧ W.frozen? ⟨B + 2, i, none⟩ = false :=
  ⟨(Ad H.s i).trans (ints_get st i hi), Af H.s i⟩
theorem SQ.box {B : Nat} {W0 W : World} {gr may : Array Value} {st : List Int} {q : List Nat} {v : Value} (H : SQ B W0 gr may st q v W) : W.cell? ⟨B + 3, 0, none⟩ = some (.slice (some ⟨B + 2, 0, none⟩) st.length st.length) := (Ad H.sb 0).trans rfl
theorem SQ.obox {B : Nat} {W0 W : World} {gr may : Array Value} {st : List Int} {q : List Nat} {v : Value} (H : SQ B W0 gr may st q v W) : W.cell? ⟨B + 4, 0, none⟩ = some v ∧ W.frozen? ⟨B + 4, 0, none⟩ = false := ⟨(Ad H.ob 0).trans rfl, Af H.ob 0⟩
theorem SQ.append {B : Nat} {W0 W W1 : World} {gr may : Array Value} {st : List Int} {q : List Nat} {v v' : Value} {x : Nat} (H : SQ B W0 gr may st q v W) (hown' : W1.ownsRow (B + 5) 3 1 v' (q.length + 1) (q.map encN ++ [.int .i64 (x : Int)])) (hgrow : (W.alloc (.cells #[.int .i64 (x : Int)] 3)).grownBy W1 v.ownBlock) :
    (W1.cell? ⟨B + 4, 0, none⟩ = some v ∧ W1.frozen? ⟨B + 4, 0, none⟩ = false) ∧ SQ B W0 gr may st (q ++ [x]) v' (W1.setCell ⟨B + 4, 0, none⟩ v') := by
  have k0 := B3 (Aj H.g (.cells #[.int .i64 (x : Int)] 3)) hgrow (H.ne B (by omega)); have k1 := B3 (Aj H.m (.cells #[.int .i64 (x : Int)] 3)) hgrow (H.ne (B + 1) (by omega)); have k2 := B3 (Aj H.s (.cells #[.int .i64 (x : Int)] 3)) hgrow (H.ne (B + 2) (by omega)); have k3 := B3 (Aj H.sb (.cells #[.int .i64 (x : Int)] 3)) hgrow (H.ne (B + 3) (by omega)); have k4 := B3 (Aj H.ob (.cells #[.int .i64 (x : Int)] 3)) hgrow (H.ne (B + 4) (by omega)); have hb : Below B W0 W1 := Below.grown (H.below.alloc (Nat.le_of_lt (by have := H.lt; omega)) _) hgrow (by have := H.lt; simp; omega) (fun k e => by have := H.base k e; omega); refine ⟨⟨(Ad k4 0).trans rfl, Af k4 0⟩, Bd k0 (show B ≠ B + 4 by omega) _, Bd k1 (show B + 1 ≠ B + 4 by omega) _, Bd k2 (show B + 2 ≠ B + 4 by omega) _, Bd k3 (show B + 3 ≠ B + 4 by omega) _, Ax k4 0 _ rfl, ?_, hb.setCell (show B ≤ B + 4 by omega) _⟩; rw [List.length_append, List.length_singleton, List.map_append]; exact C4 hown' (p := ⟨B + 4, 0, none⟩) (fun e => by have h := C9 hown' (B + 4) e.symm; omega) _
theorem S1.made {B : Nat} {W0 W : World} {gr may : Array Value} {st : List Int} (H : S1 B W0 gr may st W) : SQ B W0 gr may st [] (.slice none 0 0) (W.alloc (.cells #[.slice none 0 0] 35)) :=
  ⟨Aj H.g _, Aj H.m _, Aj H.s _, Aj H.sb _, Go.Proofs.Ytbfimplajocmmaa.H.bnew _ H.sz, own_nil _ _ _ _, H.below.alloc (by rw [H.sz]; omega) _⟩
def steps0 (N : Nat) (src : List Nat) : List Int := setAll (List.replicate N (-1)) src
theorem BI_start {N : Nat} {nb : Nat → List Nat} {may : Nat → Bool} {src : List Nat} (hs : src.Nodup) (hlt : ∀ k ∈ src, k < N) : BI N nb may src 0 (steps0 N src) src := by
  have hget : ∀ j, j < N → (steps0 N src).getD j 0 = if j ∈ src then 0 else -1 := fun j hj => by
    unfold steps0; rw [setAll_get N src _ (by simp) hlt j hj]
    congr 1
    rw [List.getD_eq_getElem?_getD, List.getElem?_replicate, if_pos hj]; rfl
  have h0 : ∀ p, p < src.length → (steps0 N src).getD (src.getD p 0) 0 = 0 := fun p hp => by
    have hm := qget_mem src p hp; rw [hget _ (hlt _ hm), if_pos hm]
  refine ⟨by unfold steps0; rw [setAll_length]; simp, hs, fun k hk => ?_, hlt, ⟨[], by simp⟩, fun k hk => by rw [hget k (hlt k hk), if_pos hk], fun p h1 h2 => by omega, fun p h1 => by omega, fun a b h1 h2 => by rw [h0 a (by omega), h0 b h2]; exact Int.le_refl _, fun p h1 h2 => by rw [h0 p h1, h0 0 h2]; omega, Nat.zero_le _⟩; rw [hget k hk]
  by_cases e : k ∈ src
  · simp [e]
  · simp [e]
theorem BI.step_le {N : Nat} {nb : Nat → List Nat} {may : Nat → Bool} {src : List Nat} {h : Nat} {st : List Int} {q : List Nat} (H : BI N nb may src h st q) : ∀ p, p < q.length → 0 ≤ st.getD (q.getD p 0) 0 ∧ st.getD (q.getD p 0) 0 ≤ p := by
  intro p
  induction p using Nat.strongRecOn with
  | _ p ih =>
    intro hp; have hm := qget_mem q p hp; refine ⟨(H.mem _ (H.lt _ hm)).mpr hm, ?_⟩
    rcases Nat.lt_or_ge p src.length with h1 | h1
    · obtain ⟨r, hr⟩ := H.pre
      have : q.getD p 0 ∈ src := by rw [hr, qget_left src r p h1]; exact qget_mem src p h1
      rw [H.zero _ this]; omega
    · obtain ⟨_, o, ho, _, _, he⟩ := H.par p hp h1
      have := (ih o ho (by omega)).2
      omega
theorem SQ.kept {B C : Nat} {W0 W W' : World} {gr may : Array Value} {st : List Int} {q : List Nat} {v : Value} {row : Option Nat} (H : SQ B W0 gr may st q v W) (hBC : B ≤ C) (hg : W.grownBy W' row) (hr : ∀ r, row = some r → C ≤ r ∧ ∃ o : Obj, W.heap[r]? = some o ∧ o.isCells = false) : SQ B W0 gr may st q v W' := by
  have hr2 : ∀ r, row = some r → ∃ o : Obj, W.heap[r]? = some o ∧ o.isCells = false := fun r e => (hr r e).2
  refine ⟨Cs H.g hg hr2, Cs H.m hg hr2, Cs H.s hg hr2, Cs H.sb hg hr2, Cs H.ob hg hr2, ?_, H.below.grown hg (by have := H.lt; omega) (fun k e => Nat.le_trans hBC (hr k e).1)⟩; refine own_move H.o (fun k hk => ?_); obtain ⟨cells, hc⟩ := Di H.o k hk; exact (Cs hc hg hr2).trans hc.symm
structure SPI (B : Nat) (W0 : World) (gr mayc : Array Value) (may : Nat → Bool) (i : Nat) (st : List Int) (q ds : List Nat) (Bx : Nat) (ks : List Nat) (v : Value) (W : World) : Prop where
  sq : SQ B W0 gr mayc (reach1 may i ks st q).1 (reach1 may i ks st q).2 v W
  bx : W.heap[Bx]? = some (.cells #[.int .i64 (i : Int)] 3 (0, 0))
  far : ∀ k, v.ownBlock = some k → k < Bx ∨ Bx + 3 ≤ k
  dm : ∀ D ∈ ds, D < Bx ∧ W.heap[D]? = some (.deferred (some []))
  sz : Bx + 3 ≤ W.heap.size
theorem SPI.kept {B Bx : Nat} {W0 W W' : World} {gr mayc : Array Value} {may : Nat → Bool} {i : Nat} {st : List Int} {q ds ks : List Nat} {v : Value} {row : Option Nat} (H : SPI B W0 gr mayc may i st q ds Bx ks v W) (hB : B ≤ Bx) (hg : W.grownBy W' row) (hr : ∀ r, row = some r → Bx + 3 ≤ r ∧ ∃ o : Obj, W.heap[r]? = some o ∧ o.isCells = false) : SPI B W0 gr mayc may i st q ds Bx ks v W' :=
  ⟨H.sq.kept (show B ≤ Bx + 3 by omega) hg hr, Cs H.bx hg (fun r e => (hr r e).2), H.far, fun D hD => ⟨(H.dm D hD).1, (hg.block D (Bh (H.dm D hD).2) (fun e => by have := (hr D e.symm).1; have := (H.dm D hD).1; omega)).trans (H.dm D hD).2⟩, Nat.le_trans H.sz hg.size⟩
theorem SPI.drewN {B Bx : Nat} {W0 W : World} {gr mayc : Array Value} {may : Nat → Bool} {i : Nat} {st : List Int} {q ds ks : List Nat} {v : Value} (H : SPI B W0 gr mayc may i st q ds Bx ks v W) (n : Nat) : SPI B W0 gr mayc may i st q ds Bx ks v (W.drewN n) :=
  ⟨H.sq.step (Ae (Below.refl _ W) n), H.bx, H.far, H.dm, H.sz⟩
theorem reach1_snoc (may : Nat → Bool) (i : Nat) (k : Nat) : ∀ (ks : List Nat) (st : List Int) (q : List Nat),
    reach1 may i (ks ++ [k]) st q = if (reach1 may i ks st q).1.getD k 0 < 0 ∧ may k = true then ((reach1 may i ks st q).1.set k ((reach1 may i ks st q).1.getD i 0 + 1), (reach1 may i ks st q).2 ++ [k]) else reach1 may i ks st q
  | [], st, q => by
    rw [List.nil_append]; rfl
  | x :: t, st, q => by
    rw [List.cons_append, reach1, reach1]
    split
    · exact reach1_snoc may i k t _ _
    · exact reach1_snoc may i k t _ _
theorem KO_drewN (W : World) (n : Nat) : KeepsOthers W (W.drewN n) := ⟨Nat.le_refl _, fun _ _ h _ => h⟩
theorem SPI.same {B Bx : Nat} {W0 W : World} {gr mayc : Array Value} {may : Nat → Bool} {i : Nat} {st : List Int} {q ds ks : List Nat} {v : Value} {k : Nat} (H : SPI B W0 gr mayc may i st q ds Bx ks v W) (hno : ¬((reach1 may i ks st q).1.getD k 0 < 0 ∧ may k = true)) : SPI B W0 gr mayc may i st q ds Bx (ks ++ [k]) v W :=
  ⟨by rw [reach1_snoc, if_neg hno]; exact H.sq, H.bx, H.far, H.dm, H.sz⟩
theorem SPI.more {B Bx : Nat} {W0 W W' : World} {gr mayc : Array Value} {may : Nat → Bool} {i : Nat} {st : List Int} {q ds ks : List Nat} {v v' : Value} {k : Nat} (H : SPI B W0 gr mayc may i st q ds Bx ks v W) (hyes : (reach1 may i ks st q).1.getD k 0 < 0 ∧ may k = true)
    (hsq : SQ B W0 gr mayc ((reach1 may i ks st q).1.set k ((reach1 may i ks st q).1.getD i 0 + 1)) ((reach1 may i ks st q).2 ++ [k]) v' W') (hbx : W'.heap[Bx]? = W.heap[Bx]?) (hfar : ∀ b, v'.ownBlock = some b → b < Bx ∨ Bx + 3 ≤ b) (hds : ∀ D ∈ ds, W'.heap[D]? = W.heap[D]?) (hsz : W.heap.size ≤ W'.heap.size) : SPI B W0 gr mayc may i st q ds Bx (ks ++ [k]) v' W' :=
  ⟨by rw [reach1_snoc, if_pos hyes]; exact hsq, hbx.trans H.bx, hfar, fun D hD => ⟨(H.dm D hD).1, (hds D hD).trans (H.dm D hD).2⟩, Nat.le_trans H.sz hsz⟩
theorem SPI.appended {B Bx : Nat} {W0 w6 w1 : World} {gr mayc : Array Value} {may : Nat → Bool} {i : Nat} {st : List Int} {q ds ks : List Nat} {v v' : Value} {k : Nat} (x : Int) (H : SPI B W0 gr mayc may i st q ds Bx ks v w6) (hB : B + 4 < Bx)
    (hyes : (reach1 may i ks st q).1.getD k 0 < 0 ∧ may k = true) (hx : (reach1 may i ks st q).1.getD i 0 + 1 = x)
    (hown' : w1.ownsRow (B + 5) 3 1 v' ((reach1 may i ks st q).2.length + 1) ((reach1 may i ks st q).2.map encN ++ [.int .i64 (k : Int)]))
    (hgrow : ((w6.setCell ⟨B + 2, k, none⟩ (.int .i64 x)).drew.alloc (.cells #[.int .i64 (k : Int)] 3)).grownBy w1 v.ownBlock)
    (hat : v'.ownBlock = v.ownBlock ∨ v'.ownBlock = some ((w6.setCell ⟨B + 2, k, none⟩ (.int .i64 x)).drew.alloc (.cells #[.int .i64 (k : Int)] 3)).heap.size) :
    SPI B W0 gr mayc may i st q ds Bx (ks ++ [k]) v' (w1.setCell ⟨B + 4, 0, none⟩ v') ∧ KeepsFrom (Bx + 3) w6 (w1.setCell ⟨B + 4, 0, none⟩ v') ∧ KpG (Bx + 2) (Bx + 1) w6 (w1.setCell ⟨B + 4, 0, none⟩ v') := by
  have hq7 := (H.sq.put k x).step (Ae (Below.refl _ _) 1)
  have hsz7 : (w6.setCell ⟨B + 2, k, none⟩ (.int .i64 x)).drew.heap.size = w6.heap.size := by
    show (w6.heap.modify _ _).size = _; rw [Array.size_modify]
  have hsz := H.sz; have hnew := (hq7.append hown' hgrow).2
  have hsame : ∀ b, b < w6.heap.size → b ≠ B + 2 → b ≠ B + 4 → some b ≠ v.ownBlock → (w1.setCell ⟨B + 4, 0, none⟩ v').heap[b]? = w6.heap[b]? := fun b h1 h2 h3 h4 => by
    rw [Below.heap_setCell _ _ _ _ (show b ≠ B + 4 from h3), hgrow.block b (by simp; omega) h4, Below.heap_alloc _ _ _ (by omega)]; exact Below.heap_setCell _ _ _ _ (show b ≠ B + 2 from h2)
  have hko : KeepsOthers w6 (w1.setCell ⟨B + 4, 0, none⟩ v') :=
    ((((KeepsOthers.setCell w6 ⟨B + 2, k, none⟩ (.int .i64 x)).trans (KO_drewN _ 1)).trans (KeepsOthers.alloc _ (.cells #[.int .i64 (k : Int)] 3))).trans (KeepsOthers.of_grownBy hgrow (fun j o e ho => by
      obtain ⟨cells, hc⟩ := Di (Dn hq7.o (.cells #[.int .i64 (k : Int)] 3)) j e; cases ho.symm.trans hc; rfl))).trans (KeepsOthers.setCell _ _ _)
  have hnear : ∀ b, Bx ≤ b → b < Bx + 3 → some b ≠ v.ownBlock := fun b h1 h2 e => by
    have := H.far b e.symm
    omega
  refine ⟨H.more hyes (by rw [hx]; exact hnew) (hsame Bx (by omega) (by omega) (by omega) (hnear Bx (by omega) (by omega))) (fun b hb => ?_) (fun D hD => ?_) hko.size, hko.from _, hsame _ (by omega) (by omega) (by omega) (hnear _ (by omega) (by omega)), hsame _ (by omega) (by omega) (by omega) (hnear _ (by omega) (by omega))⟩
  · rcases hat with e | e
    · exact H.far b (e.symm.trans hb)
    · rw [e] at hb
      cases hb; refine .inr ?_
      simp
      omega
  · have hd := H.dm D hD
    have hlt := Bh hd.2; exact hko.same D _ hd.2 rfl |>.trans hd.2.symm
end Go.Proofs.Ytbfimplajocmmaa
end
