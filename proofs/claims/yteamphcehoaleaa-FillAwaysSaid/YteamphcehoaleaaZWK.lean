import Derived.Test.YteamphcehoaleaaZM6
import Derived.Test.YteamphcehoaleaaZNBFE
import Derived.Test.YteamphcehoaleaaZPFEx2
set_option linter.unusedVariables false
set_option linter.unusedSimpArgs false
open Go Go.RowKit Go.Proofs.YteamphcehoaleaaW.PrintWords
namespace Go.Proofs.Yteamphcehoaleaa
open PFA PFE FM NR
namespace WK
def cN (q : List Nat) : List Int := q.map (fun n : Nat => (n : Int))
theorem cN_len (q : List Nat) : (cN q).length = q.length := by simp [cN]
theorem rd_cN (q : List Nat) (u : Nat) (h : u < q.length) : rd (cN q) (u : Int) = ((q.getD u 0 : Nat) : Int) := by
  rw [rd_nat, cN, List.getD_eq_getElem?_getD, List.getD_eq_getElem?_getD, List.getElem?_map, List.getElem?_eq_getElem h]; rfl
theorem cN_snoc (q : List Nat) (x : Nat) : cN (q ++ [x]) = cN q ++ [(x : Int)] := by simp [cN]
section
variable {w h : Nat} {ways : Int} {l : List Bool}
theorem l3_val (hN : w * h ≤ 65536) (hl : l.length = w * h) (hh : Nat) (i : Nat) (hi : i < w * h) (r : List Int × List Int) (ns : List Nat) (hns : ∀ n ∈ ns, n < w * h) (hn9 : ns.length ≤ 9) : ∀ (d u : Nat), u + d = ns.length → ∀ (st : List Int) (q : List Nat), st.length = w * h → 0 ≤ st.getD i 0 → st.getD i 0 ≤ 65536 → hh < q.length → q.getD hh 0 = i → q.length ≤ 65536 + u →
    Ev (fun k => Ap.l2 k ways (reach1 (fun k => l.getD k false) i (ns.drop u) st q).1 (cN (reach1 (fun k => l.getD k false) i (ns.drop u) st q).2) (wrap64 ((hh : Int) + 1)) w h l) r → Ev (fun k => Ap.l3 k ways st (cN q) (hh : Int) (cN ns) (u : Nat) w h l) r := by
  intro d
  induction d with
  | zero =>
    intro u hu st q hs hi0 hi1 hq1 hq2 hq3 hr
    refine Ev.step (fun k => ?_) hr
    rw [List.drop_of_length_le (by omega), Ap.l3, if_neg (by rw [cN_len]; omega)]
    rfl
  | succ d ih =>
    intro u hu st q hs hi0 hi1 hq1 hq2 hq3 hr
    have hul : u < ns.length := by omega
    have hdr : ns.drop u = ns.getD u 0 :: ns.drop (u + 1) := by
      rw [List.drop_eq_getElem_cons hul, List.getD_eq_getElem?_getD, List.getElem?_eq_getElem hul]; rfl
    have hm : ns.getD u 0 ∈ ns := qget_mem ns u hul
    have hnN := hns _ hm
    obtain ⟨n, hne⟩ : ∃ n, n = ns.getD u 0 := ⟨_, rfl⟩
    rw [← hne] at hdr hnN
    have e1 : rd (cN ns) (u : Int) = (n : Int) := by rw [rd_cN ns u hul, hne]
    have e2 : rd (cN q) (hh : Int) = (i : Int) := by rw [rd_cN q hh hq1, hq2]
    have E4 : Aa (wrap64 ((u : Int) + 1) = ((u + 1 : Nat) : Int)) := ⟨wr1 u (by omega)⟩
    rw [hdr, reach1] at hr
    by_cases hc : st.getD n 0 < 0 ∧ l.getD n false = true
    · rw [if_pos hc] at hr
      have hni : n ≠ i := fun e => by rw [e] at hc; omega
      have E5 : Aa (wrap64 (st.getD i 0 + 1) = st.getD i 0 + 1) := ⟨wr (by omega) (by omega)⟩
      refine Ev.step (fun k => ?_) (ih (u + 1) (by omega) (st.set n (st.getD i 0 + 1)) (q ++ [n]) (by rw [List.length_set]; exact hs) (by rw [FM.getD_set_ne _ _ _ _ hni]; exact hi0) (by rw [FM.getD_set_ne _ _ _ _ hni]; exact hi1) (by rw [List.length_append]; omega) (by rw [qget_left _ _ _ hq1]; exact hq2) (by rw [List.length_append, List.length_singleton]; omega) hr)
      rw [Ap.l3, e1, e2, if_pos (by rw [cN_len]; omega), if_pos (by omega), if_pos (by omega), if_pos (by omega), rdb_nat, if_pos hc.2, if_pos (by omega), rd_nat, if_pos hc.1, if_pos (by omega), if_pos (by rw [cN_len]; omega), if_pos (by omega), if_pos (by omega), if_pos (by rw [cN_len]; omega), rd_nat, E5.out, E4.out, Int.toNat_natCast, cN_snoc]
    · rw [if_neg hc] at hr
      refine Ev.step (fun k => ?_) (ih (u + 1) (by omega) st q hs hi0 hi1 hq1 hq2 (by omega) hr)
      rw [Ap.l3, e1, e2, if_pos (by rw [cN_len]; omega), if_pos (by omega), if_pos (by omega), if_pos (by omega), rdb_nat, E4.out]
      by_cases h1 : l.getD n false = true
      · rw [if_pos h1, if_pos (by omega), rd_nat, if_neg (fun h2 => hc ⟨h2, h1⟩)]
      · rw [if_neg h1]
theorem l2_val (hw : 1 ≤ w) (hw2 : w ≤ 1024) (hh2 : h ≤ 1024) (hN : w * h ≤ 65536) (hl : l.length = w * h) (src : List Nat) : ∀ (f n : Nat) (st : List Int) (q : List Nat) (st' : List Int) (q' : List Nat), BI (w * h) (nbs w h ways) (fun k => l.getD k false) src n st q →
    spread (nbs w h ways) (fun k => l.getD k false) f n st q = some (st', q') → Ev (fun k => Ap.l2 k ways st (cN q) (n : Nat) w h l) (cN q', st') := by
  intro f
  induction f with
  | zero => intro n st q st' q' _ hs; simp [spread] at hs
  | succ f ih =>
    intro n st q st' q' B hs
    have hnb : ∀ i, i < w * h → ∀ k ∈ nbs w h ways i, k < w * h := fun i hi k hk => nbs_lt hw hi k hk
    have hqN := nodup_len _ q B.nodup B.lt
    have hle := B.hle
    rw [spread] at hs
    by_cases hq : n = q.length
    · rw [if_pos hq] at hs
      obtain ⟨rfl, rfl⟩ : st = st' ∧ q = q' := by simpa using hs
      refine Ev.step (f := fun _ => some (cN q, st)) (fun k => ?_) (Ev.now _)
      rw [Ap.l2, if_neg (by rw [cN_len]; omega)]
    · rw [if_neg hq] at hs
      have hlt : n < q.length := by omega
      have B1 := BI_step hnb B hlt
      have hr := ih (n + 1) _ _ st' q' B1 hs
      obtain ⟨i, hi⟩ : ∃ i, i = q.getD n 0 := ⟨_, rfl⟩
      have hiN : i < w * h := by rw [hi]; exact B.lt _ (qget_mem q n hlt)
      have hst := BI.step_le B n hlt
      rw [← hi] at hr hst
      rw [← wr1 n (by omega)] at hr
      have h9 : (nbs w h ways i).length ≤ 9 := nbTo_le w h ways i 9
      have hr2 := l3_val (ways := ways) (l := l) hN hl n i hiN (cN q', st') (nbs w h ways i) (fun x hx => hnb i hiN x hx) h9 (nbs w h ways i).length 0 (by omega) st q B.len hst.1 (by omega) hlt hi.symm (by omega) (by rw [List.drop_zero]; exact hr)
      have hNb : Ev (fun k => At.f k w h (i : Int) ways) (cN (nbs w h ways i)) := by
        refine ⟨16, fun k hk => ?_⟩
        obtain ⟨k, rfl⟩ : ∃ j, k = j + 16 := ⟨k - 16, by omega⟩
        exact NBFE.neighbours k w h i ways hw hw2 hh2 hiN
      refine Ev.step (f := fun k => (At.f k w h (i : Int) ways).bind fun t => Ap.l3 k ways st (cN q) (n : Int) t 0 w h l) (fun k => ?_) (Ev.bind hNb hr2)
      rw [Ap.l2, if_pos (by rw [cN_len]; omega), if_pos (by omega), rd_cN q n hlt, ← hi]
theorem l1_val (hN : w * h ≤ 65536) (r : List Int × List Int) (src : List Nat) (hs : ∀ k ∈ src, k < w * h) (hsl : src.length ≤ 65536) : ∀ (d u : Nat), u + d = src.length →
    Ev (fun k => Ap.l2 k ways (steps0 (w * h) src) (cN src) 0 w h l) r → Ev (fun k => Ap.l1 k (cN src) ways (setAll (List.replicate (w * h) (-1)) (src.take u)) (cN (src.take u)) (u : Nat) w h l) r := by
  intro d
  induction d with
  | zero =>
    intro u hu hr
    refine Ev.step (fun k => ?_) hr
    rw [Ap.l1, if_neg (by rw [cN_len]; omega), List.take_of_length_le (by omega)]
    rfl
  | succ d ih =>
    intro u hu hr
    have hul : u < src.length := by omega
    refine Ev.step (fun k => ?_) (ih (u + 1) (by omega) hr)
    have hm := hs _ (qget_mem src u hul)
    have hsn : src.take (u + 1) = src.take u ++ [src.getD u 0] := by
      rw [List.take_succ_eq_append_getElem hul, List.getD_eq_getElem?_getD, List.getElem?_eq_getElem hul]; rfl
    rw [Ap.l1, if_pos (by rw [cN_len]; omega), if_pos (by omega), rd_cN src u hul, if_pos (by omega), if_pos (by rw [setAll_length, List.length_replicate]; omega), if_pos (by rw [cN_len, List.length_take]; omega), hsn, setAll_snoc, cN_snoc, wr1 u (by omega), Int.toNat_natCast]
theorem l0_val (hN : w * h ≤ 65536) (r : List Int × List Int) (src : List Nat) : ∀ (d i : Nat), i + d = w * h →
    Ev (fun k => Ap.l1 k (cN src) ways (List.replicate (w * h) (-1)) [] 0 w h l) r → Ev (fun k => Ap.l0 k (cN src) ways (List.replicate i (-1) ++ List.replicate (w * h - i) 0) (i : Nat) w h l) r := by
  intro d
  induction d with
  | zero =>
    intro i hi hr
    refine Ev.step (fun k => ?_) hr
    obtain rfl : i = w * h := by omega
    rw [Ap.l0, if_neg (by simp), Nat.sub_self, List.replicate_zero, List.append_nil]
  | succ d ih =>
    intro i hi hr
    refine Ev.step (fun k => ?_) (ih (i + 1) (by omega) hr)
    rw [Ap.l0, if_pos (by simp; omega), if_pos (by omega), Int.toNat_natCast, fill_set (w * h) i (by omega), wr1 i (by omega)]
theorem walk_val (hw : 1 ≤ w) (hw2 : w ≤ 1024) (hh2 : h ≤ 1024) (hN : w * h ≤ 65536) (hl : l.length = w * h) (src : List Nat) (hnd : src.Nodup) (hs : ∀ k ∈ src, k < w * h) (st' : List Int) (q' : List Nat)
    (hsp : spread (nbs w h ways) (fun k => l.getD k false) (w * h + 1) 0 (steps0 (w * h) src) src = some (st', q')) : Ev (fun k => Ap.f k w h l (cN src) ways) (cN q', st') := by
  have h2 := l2_val (ways := ways) hw hw2 hh2 hN hl src (w * h + 1) 0 _ _ st' q' (BI_start hnd hs) hsp
  have hsl : src.length ≤ 65536 := Nat.le_trans (nodup_len _ src hnd hs) hN
  have h1 := l1_val (ways := ways) (l := l) hN (cN q', st') src hs hsl src.length 0 (by omega) h2
  have h0 := l0_val (ways := ways) (l := l) hN (cN q', st') src (w * h) 0 (by omega) h1
  refine Ev.congr (fun k => ?_) h0
  unfold Ap.f
  rw [if_pos (by omega), if_pos (by rw [hl, Int.toNat_natCast]; omega), hl, Int.toNat_natCast]
  simp
end
theorem reach1_le (may : Nat → Bool) (i : Nat) : ∀ (ks : List Nat) (st : List Int) (q : List Nat), q.length ≤ (reach1 may i ks st q).2.length
  | [], st, q => Nat.le_refl _
  | k :: t, st, q => by
    rw [reach1]
    split
    · refine Nat.le_trans ?_ (reach1_le may i t _ _)
      rw [List.length_append]; omega
    · exact reach1_le may i t _ _
theorem reach1_congr {N : Nat} {may may' : Nat → Bool} (hm : ∀ k, k < N → may k = may' k) (i : Nat) : ∀ (ks : List Nat) (st : List Int) (q : List Nat), (∀ k ∈ ks, k < N) → (∀ k ∈ q, k < N) → reach1 may i ks st q = reach1 may' i ks st q ∧ ∀ k ∈ (reach1 may i ks st q).2, k < N
  | [], st, q, hk, hq => ⟨rfl, hq⟩
  | k :: t, st, q, hk, hq => by
    have hkN := hk k List.mem_cons_self
    rw [reach1, reach1, hm k hkN]
    split
    · exact reach1_congr hm i t _ _ (fun x hx => hk x (List.mem_cons_of_mem _ hx)) (fun x hx => by
        rcases List.mem_append.mp hx with h | h
        · exact hq x h
        · rw [List.mem_singleton] at h; subst h; exact hkN)
    · exact reach1_congr hm i t _ _ (fun x hx => hk x (List.mem_cons_of_mem _ hx)) hq
theorem spread_congr {N : Nat} {nb : Nat → List Nat} {may may' : Nat → Bool} (hnb : ∀ i, i < N → ∀ k ∈ nb i, k < N) (hm : ∀ k, k < N → may k = may' k) : ∀ (f n : Nat) (st : List Int) (q : List Nat), n ≤ q.length → (∀ k ∈ q, k < N) → spread nb may f n st q = spread nb may' f n st q
  | 0, _, _, _, _, _ => rfl
  | f + 1, n, st, q, hn, hq => by
    rw [spread, spread]
    by_cases h : n = q.length
    · rw [if_pos h, if_pos h]
    · rw [if_neg h, if_neg h]
      have hi := hq _ (qget_mem q n (by omega))
      obtain ⟨h1, h2⟩ := reach1_congr hm (q.getD n 0) (nb (q.getD n 0)) st q (hnb _ hi) hq
      rw [← h1]
      exact spread_congr hnb hm f (n + 1) _ _ (by have := reach1_le may (q.getD n 0) (nb (q.getD n 0)) st q; omega) h2
end WK
end Go.Proofs.Yteamphcehoaleaa

