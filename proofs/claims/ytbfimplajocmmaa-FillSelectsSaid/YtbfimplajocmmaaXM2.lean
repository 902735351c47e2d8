import Derived.Test.YtbfimplajocmmaaXI2
import Derived.Test.YtbfimplajocmmaaXMP
section
open Go Go.RowKit Go.Shelf Go.Proofs.YtbfimplajocmmaaW.PrintWords Go.Proofs.YtbfimplajocmmaaW.PrintLast Go.Proofs.YtbfimplajocmmaaW.PrintMore
set_option linter.unusedVariables false
set_option linter.unusedSimpArgs false
namespace Go.Proofs.Ytbfimplajocmmaa
open PFA
theorem beside_made (a0 a1 a2 i : Int) (w : World) :
    Calls Try.prog 64 #[.agg #[.int .i64 a0, .int .i64 a1, .int .i64 a2], .int .i64 i] w fun e w' => e = .returned (.func (.func 87) #[] #[.pointer (some ⟨w.heap.size + 1, 0, none⟩), .pointer (some ⟨w.heap.size, 0, none⟩)]) ∧ w' = (w.alloc (.cells #[.int .i64 a0, .int .i64 a1, .int .i64 a2] 103)).alloc (.cells #[.int .i64 i] 3) := by
  go_enter Try.func64, Try.ntmps64
  go_wp2
  go_ret
  exact ⟨rfl, rfl⟩
theorem beside_stops (n : Nat) (hn : 1 ≤ n) (Bi Bg i w h : Nat) (ways : Int) (hw : 1 ≤ w) (hw2 : w ≤ 1024) (hh2 : h ≤ 1024) (hi : i < w * h) (W0 : World) (hB : GB Bi Bg i w h ways W0) :
    SeqStopsK Fence.wide n Try.prog 87 #[.pointer (some ⟨Bi, 0, none⟩), .pointer (some ⟨Bg, 0, none⟩)] encP (KpG Bi Bg) (fun ys : List (Pl (w * h)) => ys.map (·.1) = nbs w h ways i) (fun ys : List (Pl (w * h)) => ∀ q ∈ ys.map (·.1), q ∈ nbs w h ways i) 9 W0 := fun l J Jx W hW hJ _ hY h0 =>
  beside1 n hn l Bi Bg i w h ways hw hw2 hh2 hi J Jx hY W hJ ⟨Ao hB.1 hW, Ao hB.2 hW⟩ h0
theorem KpG_t {Bi Bg : Nat} {X Y Z : World} (h : KpG Bi Bg X Y) (k : KpG Bi Bg Y Z) : KpG Bi Bg X Z := ⟨k.1.trans h.1, k.2.trans h.2⟩
theorem KpG_b {Bi Bg : Nat} {w : World} (h1 : Bi < w.heap.size) (h2 : Bg < w.heap.size) (W : World) (l : Nat) (o o' : Obj) (hl : w.heap.size ≤ l) : KpG Bi Bg W (W.putObj l o') :=
  ⟨World.putObj_heap_other (by omega), World.putObj_heap_other (by omega)⟩
theorem nbs_lt {w h : Nat} {ways : Int} {i : Nat} (hw : 1 ≤ w) (hi : i < w * h) : ∀ q ∈ nbs w h ways i, q < w * h := by
  intro q hq; unfold nbs nbTo at hq; obtain ⟨t, ht, e⟩ := List.mem_filterMap.mp hq; unfold nbAt at e
  split at e
  · cases e
  · rename_i hs
    unfold nbSkip at hs; have hnum := nb_num (w := w) (h := h) (i := i) (dx := ((t % 3 : Nat) : Int) - 1) (dy := ((t / 3 : Nat) : Int) - 1) hw hi (by omega) (by omega) (by omega) (by omega); obtain ⟨q2, hq2⟩ := Int.eq_ofNat_of_zero_le hnum.1; rw [hq2] at e hnum; obtain rfl : q2 = q := by simpa using e
    exact Int.ofNat_lt.mp hnum.2
def mark (D : Nat) : Deferred := { target := .collected D, args := #[] }
def shutAll (W : World) (ds : List Nat) : World := ds.foldl (fun W D => W.putObj D (.deferred none)) W
theorem leaves_marks {F : Fence} {n : Nat} {P : Program} {fn : Func} {tmps : Array Value} {R : Ending → World → Prop} {u : FrameMode} (hu : u ≠ .run) : ∀ (ds : List Nat) (W : World), ds.Nodup → (∀ D ∈ ds, W.heap[D]? = some (.deferred (some []))) →
    LeavesIn F n P fn tmps R [] u (shutAll W ds) → LeavesInM F n P fn tmps R (ds.map mark) u W
  | [], W, _, _, h => h
  | D :: ds, W, hn, hd, h => by
    have hn2 := List.nodup_cons.mp hn; have hD := hd D List.mem_cons_self; refine ⟨hu, .inl ⟨D, _, rfl, run_takeDeferred hD, leaves_marks hu ds _ hn2.2 (fun E hE => ?_) h⟩⟩; have hne : E ≠ D := fun e => hn2.1 (e ▸ hE)
    exact (World.putObj_heap_other hne).trans (hd E (List.mem_cons_of_mem _ hE))
theorem shutAll_keep (ds : List Nat) : ∀ (W : World), (∀ D ∈ ds, W.heap[D]? = some (.deferred (some []))) → ds.Nodup → ∀ (Q : World → Prop), (∀ W' D, Q W' → W'.heap[D]? = some (.deferred (some [])) → D ∈ ds → Q (W'.putObj D (.deferred none))) → Q W → Q (shutAll W ds) := by
  induction ds with
  | nil => intro W _ _ Q _ h; exact h
  | cons D ds ih =>
    intro W hd hn Q hQ h; have hn2 := List.nodup_cons.mp hn; refine ih (W.putObj D (.deferred none)) (fun E hE => ?_) hn2.2 Q (fun W' E h1 h2 h3 => hQ W' E h1 h2 (List.mem_cons_of_mem _ h3)) (hQ W D h (hd D List.mem_cons_self) List.mem_cons_self); have hne : E ≠ D := fun e => hn2.1 (e ▸ hE)
    exact (World.putObj_heap_other hne).trans (hd E (List.mem_cons_of_mem _ hE))
end Go.Proofs.Ytbfimplajocmmaa
end
section
set_option linter.unusedVariables false
set_option linter.unusedSimpArgs false
namespace Go.Proofs.Ytbfimplajocmmaa
namespace FM
structure CI (N : Nat) (nb : Nat → List Nat) (ms : Nat → Bool) (i : Nat) (out : List Int) (n : Int) : Prop where
  len : out.length = N
  n0 : 0 ≤ n
  rng : ∀ k, k < N → 0 ≤ out.getD k 0 ∧ out.getD k 0 ≤ n
  inm : ∀ k, k < N → 0 < out.getD k 0 → ms k = true
  all : ∀ k, k < i → k < N → ms k = true → 0 < out.getD k 0
  nbr : ∀ j, j < N → ∀ k ∈ nb j, ms j = true → ms k = true → 0 < out.getD j 0 → out.getD k 0 = out.getD j 0
  ord : ∀ k, k < N → ∀ v, 1 ≤ v → v < out.getD k 0 → ∃ j, j < k ∧ out.getD j 0 = v
  top : ∀ v, 1 ≤ v → v ≤ n → ∃ j, j < i ∧ j < N ∧ out.getD j 0 = v
theorem CI.root {N : Nat} {nb : Nat → List Nat} {ms : Nat → Bool} {i : Nat} {out o1 : List Int} {n : Int} (hnb : ∀ i, i < N → ∀ k ∈ nb i, k < N) (hsym : ∀ j, j < N → ∀ k ∈ nb j, j ∈ nb k) (H : CI N nb ms i out n) (hi : i < N) (hm : ms i = true) (h0 : out.getD i 0 = 0) (F : FillR N nb ms (n + 1) i out o1) : CI N nb ms (i + 1) o1 (n + 1) := by
  have hn := H.n0
  have old : ∀ k, k < N → out.getD k 0 ≠ 0 → o1.getD k 0 = out.getD k 0 := fun k hk h => by
    rcases F.either k hk with h1 | h1
    · exact h1
    · exact absurd h1.1 h
  have low : ∀ k, k < i → k < N → o1.getD k 0 = out.getD k 0 := fun k hk hkN => by
    rcases F.either k hkN with h1 | h1
    · exact h1
    · have := H.all k hk hkN h1.2.1; omega
  refine ⟨by rw [F.len]; exact H.len, by omega, fun k hk => ?_, fun k hk h => ?_, fun k hk hkN hmk => ?_, fun j hj k hk h1 h2 h3 => ?_, fun k hk v h1 h2 => ?_, fun v h1 h2 => ?_⟩
  · have := H.rng k hk
    rcases F.either k hk with h1 | h1 <;> omega
  · rcases F.either k hk with h1 | h1
    · exact H.inm k hk (by omega)
    · exact h1.2.1
  · by_cases e : k = i
    · rw [e, F.root]; omega
    · have := H.all k (by omega) hkN hmk
      rw [old k hkN (by omega)]; exact this
  · have hkN := hnb j hj k hk
    by_cases hz : out.getD j 0 = 0
    · have hjn : o1.getD j 0 = n + 1 := by
        rcases F.either j hj with h | h
        · omega
        · exact h.2.2
      have hc := F.closed j hj hz hjn k hk h2
      rcases F.either k hkN with h | h
      · have hko : out.getD k 0 ≠ 0 := by rw [← h]; exact hc
        have hr := H.rng k hkN; have := H.nbr k hkN j (hsym j hj k hk) h2 h1 (by omega)
        omega
      · rw [h.2.2, hjn]
    · have hr := H.rng j hj
      have h4 := H.nbr j hj k hk h1 h2 (by omega); rw [old j hj hz, old k hkN (by omega), h4]
  · by_cases hz : out.getD k 0 = 0
    · rcases F.either k hk with h | h
      · omega
      · obtain ⟨j, hj1, hj2, hj3⟩ := H.top v h1 (by omega)
        have hki : ¬ k < i := fun hlt => by have := H.all k hlt hk h.2.1; omega
        exact ⟨j, by omega, by rw [old j hj2 (by omega)]; exact hj3⟩
    · rw [old k hk hz] at h2
      obtain ⟨j, hj1, hj2⟩ := H.ord k hk v h1 h2; exact ⟨j, hj1, by rw [old j (by omega) (by omega)]; exact hj2⟩
  · by_cases e : v = n + 1
    · exact ⟨i, by omega, hi, by rw [F.root, e]⟩
    · obtain ⟨j, hj1, hj2, hj3⟩ := H.top v h1 (by omega)
      exact ⟨j, by omega, hj2, by rw [old j hj2 (by omega)]; exact hj3⟩
theorem Chain.CI {N : Nat} {nb : Nat → List Nat} {ms : Nat → Bool} (hnb : ∀ i, i < N → ∀ k ∈ nb i, k < N) (hsym : ∀ j, j < N → ∀ k ∈ nb j, j ∈ nb k) {i : Nat} {out : List Int} {n : Int} {o' : List Int} {n' : Int} (A : Chain N nb ms i out n o' n') : FM.CI N nb ms i out n → FM.CI N nb ms N o' n' := by
  induction A with
  | done out n => exact fun h => h
  | @skip i out n o' n' h1 h2 h3 ih =>
    refine fun H => ih ⟨H.len, H.n0, H.rng, H.inm, fun k hk hkN hmk => ?_, H.nbr, H.ord, fun v h1 h2 => by obtain ⟨j, a, b⟩ := H.top v h1 h2; exact ⟨j, by omega, b⟩⟩
    by_cases e : k = i
    · subst e
      have := H.rng k hkN
      rcases Int.lt_or_le 0 (out.getD k 0) with h | h
      · exact h
      · exact absurd ⟨hmk, by omega⟩ h2
    · exact H.all k (by omega) hkN hmk
  | root h1 h2 h3 h4 h5 ih => exact fun H => ih (H.root hnb hsym h1 h2 h3 h4)
theorem Chain.const {N : Nat} {nb : Nat → List Nat} {ms : Nat → Bool} {β : Type} (G : Nat → β) (hnb : ∀ i, i < N → ∀ k ∈ nb i, k < N) (hG : ∀ j, j < N → ∀ k ∈ nb j, ms j = true → ms k = true → G k = G j) {i : Nat} {out : List Int} {n : Int} {o' : List Int} {n' : Int} (A : Chain N nb ms i out n o' n') :
    out.length = N → 0 ≤ n → (∀ k, k < N → out.getD k 0 ≤ n) → (∀ a b, a < N → b < N → 0 < out.getD a 0 → out.getD a 0 = out.getD b 0 → G a = G b) → ∀ a b, a < N → b < N → 0 < o'.getD a 0 → o'.getD a 0 = o'.getD b 0 → G a = G b := by
  induction A with
  | done out n => exact fun _ _ _ h => h
  | skip h1 h2 h3 ih => exact ih
  | @root i out o1 n o' n' h1 h2 h3 h4 h5 ih =>
    intro hl hn hr h
    have hroot : ∀ j, j < N → out.getD j 0 = 0 → o1.getD j 0 = n + 1 → G j = G i := fun j hj hz hjn => by
      have := h4.least (fun j => j < N ∧ ms j = true ∧ G j = G i) ⟨h1, h2, rfl⟩ (fun j hj k hk hm hz => ⟨hnb j hj.1 k hk, hm, (hG j hj.1 k hk hj.2.1 hm).trans hj.2.2⟩) j hj hz hjn; exact this.2.2
    refine ih (by rw [h4.len]; exact hl) (by omega) (fun k hk => ?_) (fun a b ha hb h6 h7 => ?_)
    · have := hr k hk
      rcases h4.either k hk with h | h <;> omega
    · have ra := hr a ha
      have rb := hr b hb
      rcases h4.either a ha with ea | ea
      · rcases h4.either b hb with eb | eb
        · exact h a b ha hb (by omega) (by omega)
        · omega
      · rcases h4.either b hb with eb | eb
        · omega
        · exact (hroot a ha ea.1 ea.2.2).trans (hroot b hb eb.1 eb.2.2).symm
end FM
end Go.Proofs.Ytbfimplajocmmaa
end
