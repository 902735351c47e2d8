import Derived.Test.YteamphcehoaleaaZI2
open Go Go.RowKit Go.Shelf Go.Proofs.YteamphcehoaleaaW.PrintWords Go.Proofs.YteamphcehoaleaaW.PrintLast Go.Proofs.YteamphcehoaleaaW.PrintMore
set_option linter.unusedVariables false
set_option linter.unusedSimpArgs false
namespace Go.Proofs.Yteamphcehoaleaa
open PFA
theorem beside_made (a0 a1 a2 i : Int) (w : World) :
    Calls Try.prog 73 #[.agg #[.int .i64 a0, .int .i64 a1, .int .i64 a2], .int .i64 i] w fun e w' => e = .returned (.func (.func 101) #[] #[.pointer (some ⟨w.heap.size + 1, 0, none⟩), .pointer (some ⟨w.heap.size, 0, none⟩)]) ∧ w' = (w.alloc (.cells #[.int .i64 a0, .int .i64 a1, .int .i64 a2] 108)).alloc (.cells #[.int .i64 i] 3) := by
  go_enter Try.func73, Try.ntmps73
  go_wp2
  go_ret
  exact ⟨rfl, rfl⟩
theorem beside_stops (n : Nat) (hn : 1 ≤ n) (Bi Bg i w h : Nat) (ways : Int) (hw : 1 ≤ w) (hw2 : w ≤ 1024) (hh2 : h ≤ 1024) (hi : i < w * h) (W0 : World) (hB : GB Bi Bg i w h ways W0) :
    SeqStopsK Fence.wide n Try.prog 101 #[.pointer (some ⟨Bi, 0, none⟩), .pointer (some ⟨Bg, 0, none⟩)] encP (KpG Bi Bg) (fun ys : List (Pl (w * h)) => ys.map (·.1) = nbs w h ways i) (fun ys : List (Pl (w * h)) => ∀ q ∈ ys.map (·.1), q ∈ nbs w h ways i) 9 W0 := fun l J Jx W hW hJ _ hY h0 =>
  beside1 n hn l Bi Bg i w h ways hw hw2 hh2 hi J Jx hY W hJ ⟨Am hB.1 hW, Am hB.2 hW⟩ h0
theorem KpG_t {Bi Bg : Nat} {X Y Z : World} (h : KpG Bi Bg X Y) (k : KpG Bi Bg Y Z) : KpG Bi Bg X Z := ⟨k.1.trans h.1, k.2.trans h.2⟩
theorem KpG_b {Bi Bg : Nat} {w : World} (h1 : Bi < w.heap.size) (h2 : Bg < w.heap.size) (W : World) (l : Nat) (o o' : Obj) (hl : w.heap.size ≤ l) : KpG Bi Bg W (W.putObj l o') :=
  ⟨World.putObj_heap_other (by omega), World.putObj_heap_other (by omega)⟩
theorem nbs_lt {w h : Nat} {ways : Int} {i : Nat} (hw : 1 ≤ w) (hi : i < w * h) : ∀ q ∈ nbs w h ways i, q < w * h := by
  intro q hq
  unfold nbs nbTo at hq
  obtain ⟨t, ht, e⟩ := List.mem_filterMap.mp hq
  unfold nbAt at e
  split at e
  · cases e
  · rename_i hs
    unfold nbSkip at hs
    have hnum := nb_num (w := w) (h := h) (i := i) (dx := ((t % 3 : Nat) : Int) - 1) (dy := ((t / 3 : Nat) : Int) - 1) hw hi (by omega) (by omega) (by omega) (by omega)
    obtain ⟨q2, hq2⟩ := Int.eq_ofNat_of_zero_le hnum.1
    rw [hq2] at e hnum
    obtain rfl : q2 = q := by simpa using e
    exact Int.ofNat_lt.mp hnum.2
def mark (D : Nat) : Deferred := { target := .collected D, args := #[] }
def shutAll (W : World) (ds : List Nat) : World := ds.foldl (fun W D => W.putObj D (.deferred none)) W
theorem leaves_marks {F : Fence} {n : Nat} {P : Program} {fn : Func} {tmps : Array Value} {R : Ending → World → Prop} {u : FrameMode} (hu : u ≠ .run) : ∀ (ds : List Nat) (W : World), ds.Nodup → (∀ D ∈ ds, W.heap[D]? = some (.deferred (some []))) →
    LeavesIn F n P fn tmps R [] u (shutAll W ds) → LeavesInM F n P fn tmps R (ds.map mark) u W
  | [], W, _, _, h => h
  | D :: ds, W, hn, hd, h => by
    have hn2 := List.nodup_cons.mp hn
    have hD := hd D List.mem_cons_self
    refine ⟨hu, .inl ⟨D, _, rfl, run_takeDeferred hD, leaves_marks hu ds _ hn2.2 (fun E hE => ?_) h⟩⟩
    have hne : E ≠ D := fun e => hn2.1 (e ▸ hE)
    exact (World.putObj_heap_other hne).trans (hd E (List.mem_cons_of_mem _ hE))
theorem shutAll_keep (ds : List Nat) : ∀ (W : World), (∀ D ∈ ds, W.heap[D]? = some (.deferred (some []))) → ds.Nodup → ∀ (Q : World → Prop), (∀ W' D, Q W' → W'.heap[D]? = some (.deferred (some [])) → D ∈ ds → Q (W'.putObj D (.deferred none))) → Q W → Q (shutAll W ds) := by
  induction ds with
  | nil => intro W _ _ Q _ h; exact h
  | cons D ds ih =>
    intro W hd hn Q hQ h
    have hn2 := List.nodup_cons.mp hn
    refine ih (W.putObj D (.deferred none)) (fun E hE => ?_) hn2.2 Q (fun W' E h1 h2 h3 => hQ W' E h1 h2 (List.mem_cons_of_mem _ h3)) (hQ W D h (hd D List.mem_cons_self) List.mem_cons_self)
    have hne : E ≠ D := fun e => hn2.1 (e ▸ hE)
    exact (World.putObj_heap_other hne).trans (hd E (List.mem_cons_of_mem _ hE))
end Go.Proofs.Yteamphcehoaleaa

