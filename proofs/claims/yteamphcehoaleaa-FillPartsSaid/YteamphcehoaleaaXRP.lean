import Derived.Test.YteamphcehoaleaaXM6
import Derived.Test.YteamphcehoaleaaXM3
import Derived.Test.YteamphcehoaleaaXEG
import Derived.Test.YteamphcehoaleaaXNBFP
import Derived.Test.YteamphcehoaleaaXMCFP
import Derived.Test.YteamphcehoaleaaXPFPx2
import Derived.Test.YteamphcehoaleaaXPFPx3
set_option linter.unusedVariables false
set_option linter.unusedSimpArgs false
open Go Go.RowKit Go.Proofs.YteamphcehoaleaaW.PrintWords
namespace Go.Proofs.Yteamphcehoaleaa
open PFA PFK PFP FM NR
namespace RP
def cN (q : List Nat) : List Int := q.map (fun n : Nat => (n : Int))
theorem cN_len (q : List Nat) : (cN q).length = q.length := by simp [cN]
theorem rd_cN (q : List Nat) (u : Nat) (h : u < q.length) : rd (cN q) (u : Int) = ((q.getD u 0 : Nat) : Int) := by
  rw [rd_nat, cN, List.getD_eq_getElem?_getD, List.getD_eq_getElem?_getD, List.getElem?_map, List.getElem?_eq_getElem h]; rfl
theorem cN_snoc (q : List Nat) (x : Nat) : cN (q ++ [x]) = cN q ++ [(x : Int)] := by simp [cN]
theorem part1_pre (ms : Nat → Bool) (n : Int) : ∀ (ks : List Nat) (out : List Int) (a s : List Nat), part1 ms n ks out (a ++ s) = ((part1 ms n ks out s).1, a ++ (part1 ms n ks out s).2)
  | [], out, a, s => rfl
  | k :: t, out, a, s => by
    rw [part1, part1]
    split
    · rw [List.append_assoc]; exact part1_pre ms n t _ a _
    · exact part1_pre ms n t _ a _
theorem part1_len (ms : Nat → Bool) (n : Int) : ∀ (ks : List Nat) (out : List Int) (s : List Nat), s.length ≤ (part1 ms n ks out s).2.length
  | [], out, s => Nat.le_refl _
  | k :: t, out, s => by
    rw [part1]
    split
    · have := part1_len ms n t (out.set k n) (s ++ [k])
      rw [List.length_append] at this
      omega
    · exact part1_len ms n t out s
section
variable {w h : Nat} {ways : Int} {l : List Bool}
theorem l2_val (hN : w * h ≤ 65536) (hl : l.length = w * h) (n i : Int) (hd : Nat) (r : List Int × Int × Int) (ns : List Nat) (hns : ∀ n ∈ ns, n < w * h) (hn9 : ns.length ≤ 9) : ∀ (d u : Nat), u + d = ns.length → ∀ (out : List Int) (q : List Nat), out.length = w * h → q.length ≤ 65540 + u →
    Ev (fun k => Ao.l1 k ways (part1 (fun k => l.getD k false) n (ns.drop u) out q).1 n i (cN (part1 (fun k => l.getD k false) n (ns.drop u) out q).2) (wrap64 ((hd : Int) + 1)) w h l) r → Ev (fun k => Ao.l2 k ways out n i (cN q) (hd : Int) (cN ns) (u : Nat) w h l) r := by
  intro d
  induction d with
  | zero =>
    intro u hu out q hs hq3 hr
    refine Ev.step (fun k => ?_) hr
    rw [List.drop_of_length_le (by omega), Ao.l2, if_neg (by rw [cN_len]; omega)]
    rfl
  | succ d ih =>
    intro u hu out q hs hq3 hr
    have hul : u < ns.length := by omega
    have hdr : ns.drop u = ns.getD u 0 :: ns.drop (u + 1) := by
      rw [List.drop_eq_getElem_cons hul, List.getD_eq_getElem?_getD, List.getElem?_eq_getElem hul]; rfl
    have hm : ns.getD u 0 ∈ ns := qget_mem ns u hul
    have hnN := hns _ hm
    obtain ⟨x, hne⟩ : ∃ x, x = ns.getD u 0 := ⟨_, rfl⟩
    rw [← hne] at hdr hnN
    have e1 : rd (cN ns) (u : Int) = (x : Int) := by rw [rd_cN ns u hul, hne]
    have E4 : Aa (wrap64 ((u : Int) + 1) = ((u + 1 : Nat) : Int)) := ⟨wr1 u (by omega)⟩
    rw [hdr, part1] at hr
    by_cases hc : l.getD x false = true ∧ out.getD x 0 = 0
    · rw [if_pos hc] at hr
      refine Ev.step (fun k => ?_) (ih (u + 1) (by omega) (out.set x n) (q ++ [x]) (by rw [List.length_set]; exact hs) (by rw [List.length_append, List.length_singleton]; omega) hr)
      rw [Ao.l2, e1, if_pos (by rw [cN_len]; omega), if_pos (by omega), if_pos (by omega), if_pos (by omega), rdb_nat, if_pos hc.1, if_pos (by omega), rd_nat, if_pos hc.2, if_pos (by rw [cN_len]; omega), E4.out, Int.toNat_natCast, cN_snoc]
    · rw [if_neg hc] at hr
      refine Ev.step (fun k => ?_) (ih (u + 1) (by omega) out q hs (by omega) hr)
      rw [Ao.l2, e1, if_pos (by rw [cN_len]; omega), if_pos (by omega), if_pos (by omega), if_pos (by omega), rdb_nat, E4.out]
      by_cases h1 : l.getD x false = true
      · rw [if_pos h1, if_pos (by omega), rd_nat, if_neg (fun h2 => hc ⟨h1, h2⟩)]
      · rw [if_neg h1]
theorem nb_ev (hw : 1 ≤ w) (hw2 : w ≤ 1024) (hh2 : h ≤ 1024) (i : Nat) (hi : i < w * h) : Ev (fun k => As.f k w h (i : Int) ways) (cN (nbs w h ways i)) := by
  refine ⟨16, fun k hk => ?_⟩
  obtain ⟨k, rfl⟩ : ∃ j, k = j + 16 := ⟨k - 16, by omega⟩
  exact NBFP.neighbours k w h i ways hw hw2 hh2 hi
theorem l1_val (hw : 1 ≤ w) (hw2 : w ≤ 1024) (hh2 : h ≤ 1024) (hN : w * h ≤ 65536) (hl : l.length = w * h) (n : Int) (hn : 0 < n) (i : Nat) (out0 : List Int) (h0 : out0.length = w * h) (r : List Int × Int × Int)
    (hr : ∀ o1, FillR (w * h) (nbs w h ways) (fun k => l.getD k false) n i out0 o1 → Ev (fun k => Ao.l0 k ways o1 n (wrap64 ((i : Int) + 1)) w h l) r) : ∀ (m : Nat) (out : List Int) (q : List Nat) (hd : Nat), zeros out + (q.length - hd) ≤ m → hd ≤ q.length → zeros out + q.length ≤ w * h + 1 → FI (w * h) (nbs w h ways) (fun k => l.getD k false) n i out0 out (q.drop hd) → Ev (fun k => Ao.l1 k ways out n (i : Int) (cN q) (hd : Nat) w h l) r := by
  have hnb : ∀ i, i < w * h → ∀ k ∈ nbs w h ways i, k < w * h := fun i hi k hk => nbs_lt hw hi k hk
  intro m
  induction m with
  | zero =>
    intro out q hd hm hle hz H
    have e : hd = q.length := by omega
    subst e
    rw [List.drop_length] at H
    refine Ev.step (fun k => ?_) (hr out (H.fin h0))
    rw [Ao.l1, if_neg (by rw [cN_len]; omega)]
  | succ m ih =>
    intro out q hd hm hle hz H
    by_cases e : hd = q.length
    · subst e
      rw [List.drop_length] at H
      refine Ev.step (fun k => ?_) (hr out (H.fin h0))
      rw [Ao.l1, if_neg (by rw [cN_len]; omega)]
    · have hlt : hd < q.length := by omega
      have hdr : q.drop hd = q.getD hd 0 :: q.drop (hd + 1) := by
        rw [List.drop_eq_getElem_cons hlt, List.getD_eq_getElem?_getD, List.getElem?_eq_getElem hlt]; rfl
      obtain ⟨j, hj⟩ : ∃ j, j = q.getD hd 0 := ⟨_, rfl⟩
      rw [hdr, ← hj] at H
      have hjN : j < w * h := (H.pnew j List.mem_cons_self).1
      obtain ⟨H2, hc⟩ := FI_step hnb hn H
      have hq : q = q.take (hd + 1) ++ q.drop (hd + 1) := (List.take_append_drop _ _).symm
      have hp := part1_pre (fun k => l.getD k false) n (nbs w h ways j) out (q.take (hd + 1)) (q.drop (hd + 1))
      rw [← hq] at hp
      have hpl := part1_len (fun k => l.getD k false) n (nbs w h ways j) out (q.drop (hd + 1))
      have htl : (q.take (hd + 1)).length = hd + 1 := by rw [List.length_take]; omega
      have hdl : (q.drop (hd + 1)).length = q.length - (hd + 1) := by rw [List.length_drop]
      generalize part1 (fun k => l.getD k false) n (nbs w h ways j) out (q.drop (hd + 1)) = P at *
      have hr2 := ih P.1 (q.take (hd + 1) ++ P.2) (hd + 1) (by rw [List.length_append]; omega) (by rw [List.length_append]; omega) (by rw [List.length_append]; omega) (by rw [List.drop_append_of_le_length (by omega), List.drop_of_length_le (by omega), List.nil_append]; exact H2)
      have h9 : (nbs w h ways j).length ≤ 9 := nbTo_le w h ways j 9
      have hr3 := l2_val (ways := ways) (l := l) hN hl n (i : Int) hd r (nbs w h ways j) (fun x hx => hnb j hjN x hx) h9 (nbs w h ways j).length 0 (by omega) out q H.len (by omega) (by
        rw [List.drop_zero, hp, wr1 hd (by omega)]
        exact hr2)
      refine Ev.step (f := fun k => (As.f k w h (j : Int) ways).bind fun t => Ao.l2 k ways out n (i : Int) (cN q) (hd : Int) t 0 w h l) (fun k => ?_) (Ev.bind (nb_ev hw hw2 hh2 j hjN) hr3)
      rw [Ao.l1, if_pos (by rw [cN_len]; omega), if_pos (by omega), rd_cN q hd hlt, ← hj]
theorem l0_val (hw : 1 ≤ w) (hw2 : w ≤ 1024) (hh2 : h ≤ 1024) (hN : w * h ≤ 65536) (hl : l.length = w * h) {i : Nat} {out : List Int} {n : Int} {po : List Int} {pn : Int} (A : Chain (w * h) (nbs w h ways) (fun k => l.getD k false) i out n po pn) :
    out.length = w * h → 0 ≤ n → n ≤ (i : Int) → (∀ k, k < w * h → 0 ≤ out.getD k 0) → Ev (fun k => Ao.l0 k ways out n (i : Nat) w h l) (po, pn, 0) := by
  have hnb : ∀ i, i < w * h → ∀ k ∈ nbs w h ways i, k < w * h := fun i hi k hk => nbs_lt hw hi k hk
  induction A with
  | done out n =>
    intro ho h1 h2 h3
    refine Ev.step (f := fun _ => some (out, n, 0)) (fun k => ?_) (Ev.now _)
    rw [Ao.l0, if_neg (by omega)]
  | @skip i out n o' n' hi hc _ ih =>
    intro ho h1 h2 h3
    have hr := ih ho h1 (by omega) h3
    rw [← wr1 i (by omega)] at hr
    refine Ev.step (f := fun k => Ao.j1 k ways out n (i : Nat) true w h l) (fun k => ?_) (Ev.step (fun k => ?_) hr)
    · rw [Ao.l0, if_pos (by omega), if_pos (by omega), rdb_nat]
      by_cases c : l.getD i false = true
      · have hp : rd out (i : Int) > 0 := by
          rw [rd_nat]
          have := h3 i hi
          have : out.getD i 0 ≠ 0 := fun e => hc ⟨c, e⟩
          omega
        rw [if_pos c, if_pos (by omega), decide_eq_true hp]
      · rw [if_neg c]
    · rw [Ao.j1, if_pos rfl]
  | @root i out o1 n o' n' hi hm h0 F _ ih =>
    intro ho h1 h2 h3
    have hr := ih (by rw [F.len]; exact ho) (by omega) (by omega) (fun k hk => by
      have := h3 k hk
      rcases F.either k hk with e | e <;> omega)
    rw [← wr1 i (by omega)] at hr
    have E5 : Aa (wrap64 (n + 1) = n + 1) := ⟨wr (by omega) (by omega)⟩
    have hz : zeros (out.set i (n + 1)) + 1 = zeros out := zeros_set out i (n + 1) (by omega) h0 (by omega)
    have hzl : zeros out ≤ out.length := List.countP_le_length
    have hr2 := l1_val (ways := ways) hw hw2 hh2 hN hl (n + 1) (by omega) i out ho (o', n', 0) (fun o2 F2 => by rw [FillR.unique hnb (by omega) hi ho h0 F2 F]; exact hr) (zeros out) (out.set i (n + 1)) [i] 0 (by simp only [List.length_singleton]; omega) (by simp) (by simp only [List.length_singleton]; omega) (by rw [List.drop_zero]; exact FI_start ho hi hm h0 (by omega))
    refine Ev.step (f := fun k => Ao.j1 k ways out n (i : Nat) false w h l) (fun k => ?_) (Ev.step (fun k => ?_) hr2)
    · rw [Ao.l0, if_pos (by omega), if_pos (by omega), rdb_nat, if_pos hm, if_pos (by omega), rd_nat, h0]
      rfl
    · rw [Ao.j1, if_neg (by decide), if_pos (by omega), if_pos (by omega), E5.out, Int.toNat_natCast]
      rfl
end
theorem nbs_ways {w h : Nat} {ways : Int} (hw : ways = 4 ∨ ways = 8) (i : Nat) : ((nbs w h ways i).length : Int) ≤ ways := by
  have h4 : nbAt w h ways i 4 = none := by unfold nbAt; rw [if_pos (.inl (by decide))]
  have hone : ∀ t, (if (nbAt w h ways i t).isSome = true then 1 else 0) ≤ 1 := fun t => by split <;> omega
  have e : (nbs w h ways i).length = ((((((((0 + (if (nbAt w h ways i 8).isSome = true then 1 else 0)) + (if (nbAt w h ways i 7).isSome = true then 1 else 0)) + (if (nbAt w h ways i 6).isSome = true then 1 else 0)) + (if (nbAt w h ways i 5).isSome = true then 1 else 0)) + (if (nbAt w h ways i 4).isSome = true then 1 else 0)) + (if (nbAt w h ways i 3).isSome = true then 1 else 0)) + (if (nbAt w h ways i 2).isSome = true then 1 else 0)) + (if (nbAt w h ways i 1).isSome = true then 1 else 0)) + (if (nbAt w h ways i 0).isSome = true then 1 else 0) := by
    unfold nbs nbTo
    rw [List.length_filterMap_eq_countP, show List.range 9 = [0, 1, 2, 3, 4, 5, 6, 7, 8] by decide]
    simp only [List.countP_cons, List.countP_nil]
  have a0 := hone 0; have a1 := hone 1; have a2 := hone 2; have a3 := hone 3; have a5 := hone 5; have a6 := hone 6; have a7 := hone 7; have a8 := hone 8
  rw [h4] at e
  rcases hw with rfl | rfl
  · have c : ∀ t, t = 0 ∨ t = 2 ∨ t = 6 ∨ t = 8 → nbAt w h 4 i t = none := fun t ht => by
      unfold nbAt
      rw [if_pos (.inr (.inl ⟨rfl, by rcases ht with rfl | rfl | rfl | rfl <;> decide⟩))]
    rw [c 0 (by omega), c 2 (by omega), c 6 (by omega), c 8 (by omega)] at e
    simp only [Option.isSome_none, Bool.false_eq_true, if_false] at e
    omega
  · simp only [Option.isSome_none, Bool.false_eq_true, if_false] at e
    omega
section
variable {w h : Nat} {ways : Int} {l : List Bool}
def cnt (l : List Bool) (ns : List Nat) : Nat := ns.countP (fun k => l.getD k false)
theorem edge_cnt (hw : ways = 4 ∨ ways = 8) (i : Nat) : edgeAt w h ways ways l i = (l.getD i false && decide (((cnt l (nbs w h ways i) : Nat) : Int) < ways)) := by
  have h1 := nbs_ways (w := w) (h := h) hw i
  unfold edgeAt cnt
  congr 1
  by_cases c : (nbs w h ways i).any (fun k => !(l.getD k false)) = true
  · rw [c, Bool.true_or]
    symm
    apply decide_eq_true
    have : (nbs w h ways i).countP (fun k => l.getD k false) < (nbs w h ways i).length := by
      rcases Nat.lt_or_eq_of_le (List.countP_le_length (p := fun k => l.getD k false) (l := nbs w h ways i)) with h | h
      · exact h
      · exfalso
        obtain ⟨k, hk, hf⟩ := List.any_eq_true.mp c
        have := (List.countP_eq_length.mp h) k hk
        rw [this] at hf
        exact absurd hf (by decide)
    omega
  · have e : (nbs w h ways i).countP (fun k => l.getD k false) = (nbs w h ways i).length := List.countP_eq_length.mpr fun k hk => by
      by_cases q : l.getD k false = true
      · exact q
      · exact absurd (List.any_eq_true.mpr ⟨k, hk, by rw [Bool.eq_false_iff.mpr q]; rfl⟩) c
    rw [Bool.eq_false_iff.mpr c, Bool.false_or, e]
theorem e1_val (hN : w * h ≤ 65536) (hl : l.length = w * h) (a b : Int) (out : List Bool) (ho : out.length = w * h) (i : Nat) (hi : i < w * h) (ns : List Nat) (hns : ∀ n ∈ ns, n < w * h) (hn9 : ns.length ≤ 9) (r : Int × Int × List Bool × Int) (hr : Ev (fun k => Ay.l0 k ways ((i + 1 : Nat) : Int) w h l a b (out.set i (l.getD i false && decide (((cnt l ns : Nat) : Int) < ways)))) r) : ∀ d u, u + d = ns.length →
    Ev (fun k => Ay.l1 k ways (i : Nat) (cN ns) ((cnt l (ns.take u) : Nat) : Int) (u : Nat) w h l a b out) r := by
  intro d
  induction d with
  | zero =>
    intro u hu
    have E4 : Aa (wrap64 ((i : Int) + 1) = ((i + 1 : Nat) : Int)) := ⟨wr1 i (by omega)⟩
    refine Ev.step (fun k => ?_) hr
    rw [Ay.l1, if_neg (by rw [cN_len]; omega), if_pos (by omega), if_pos (by omega), rdb_nat, List.take_of_length_le (by omega), E4.out, Int.toNat_natCast]
    by_cases c : l.getD i false = true
    · rw [if_pos c, if_pos (by omega), c, Bool.true_and]
    · rw [if_neg c, if_pos (by omega), Bool.eq_false_iff.mpr c, Bool.false_and]
  | succ d ih =>
    intro u hu
    have hul : u < ns.length := by omega
    have hm : ns.getD u 0 ∈ ns := qget_mem ns u hul
    have hnN := hns _ hm
    have htk : ns.take (u + 1) = ns.take u ++ [ns.getD u 0] := by
      rw [List.take_add_one, List.getElem?_eq_getElem hul, List.getD_eq_getElem?_getD, List.getElem?_eq_getElem hul]; rfl
    have hr2 := ih (u + 1) (by omega)
    rw [htk] at hr2
    obtain ⟨x, hne⟩ : ∃ x, x = ns.getD u 0 := ⟨_, rfl⟩
    rw [← hne] at hr2 hnN
    have e1 : rd (cN ns) (u : Int) = (x : Int) := by rw [rd_cN ns u hul, hne]
    have hcl : cnt l (ns.take u) ≤ 9 := Nat.le_trans List.countP_le_length (by rw [List.length_take]; omega)
    have E4 : Aa (wrap64 ((u : Int) + 1) = ((u + 1 : Nat) : Int)) := ⟨wr1 u (by omega)⟩
    have E5 : Aa (wrap64 (((cnt l (ns.take u) : Nat) : Int) + 1) = ((cnt l (ns.take u) + 1 : Nat) : Int)) := ⟨wr1 _ (by omega)⟩
    refine Ev.step (fun k => ?_) hr2
    rw [Ay.l1, e1, if_pos (by rw [cN_len]; omega), if_pos (by omega), if_pos (by omega), if_pos (by omega), rdb_nat, E4.out]
    by_cases c : l.getD x false = true
    · rw [if_pos c, E5.out]
      have : cnt l (ns.take u ++ [x]) = cnt l (ns.take u) + 1 := by
        unfold cnt
        rw [List.countP_append, List.countP_cons, List.countP_nil, if_pos c]
      rw [this]
    · rw [if_neg c]
      have : cnt l (ns.take u ++ [x]) = cnt l (ns.take u) := by
        unfold cnt
        rw [List.countP_append, List.countP_cons, List.countP_nil, if_neg c]
        rfl
      rw [this]
theorem e0_val (hw : 1 ≤ w) (hw2 : w ≤ 1024) (hh2 : h ≤ 1024) (hN : w * h ≤ 65536) (hl : l.length = w * h) (h48 : ways = 4 ∨ ways = 8) (a b : Int) : ∀ d i, i + d = w * h →
    Ev (fun k => Ay.l0 k ways (i : Nat) w h l a b (outOf (w * h) (edgeAt w h ways ways l) i)) (a, b, outOf (w * h) (edgeAt w h ways ways l) (w * h), 0) := by
  intro d
  induction d with
  | zero =>
    intro i hi
    obtain rfl : i = w * h := by omega
    refine Ev.step (f := fun _ => some (a, b, outOf (w * h) (edgeAt w h ways ways l) (w * h), 0)) (fun k => ?_) (Ev.now _)
    rw [Ay.l0, if_neg (by omega)]
  | succ d ih =>
    intro i hi
    have hi2 : i < w * h := by omega
    have hr := ih (i + 1) (by omega)
    rw [← outOf_set _ _ _ hi2, edge_cnt h48] at hr
    have hr2 := e1_val (ways := ways) hN hl a b (outOf (w * h) (edgeAt w h ways ways l) i) (outOf_len _ _ _) i hi2 (nbs w h ways i) (fun x hx => nbs_lt hw hi2 x hx) (nbTo_le w h ways i 9) _ hr (nbs w h ways i).length 0 (by omega)
    refine Ev.step (f := fun k => (As.f k w h (i : Int) ways).bind fun t => Ay.l1 k ways (i : Nat) t 0 0 w h l a b (outOf (w * h) (edgeAt w h ways ways l) i)) (fun k => ?_) (Ev.bind (nb_ev hw hw2 hh2 i hi2) hr2)
    rw [Ay.l0, if_pos (by omega)]
end
theorem ints_self (l : List Int) (hl : l.length ≤ 65536) : Ev (fun k => Ar.f k l l) true := by
  have h : ∀ d i, i + d = l.length → Ev (fun k => Ar.l0 k l l (i : Nat)) true := by
    intro d
    induction d with
    | zero =>
      intro i hi
      refine Ev.step (f := fun _ => some true) (fun k => ?_) (Ev.now _)
      rw [Ar.l0, if_neg (by omega)]
    | succ d ih =>
      intro i hi
      refine Ev.step (fun k => ?_) (ih (i + 1) (by omega))
      rw [Ar.l0, if_pos (by omega), if_pos (by omega), if_pos (by omega), if_pos rfl, wr1 i (by omega)]
  refine Ev.congr (f := fun k => Ar.l0 k l l 0) (fun k => ?_) (h l.length 0 (by omega))
  unfold Ar.f
  rw [if_pos rfl]
theorem same_self (a b : Int) (l : List Bool) (hl : l.length ≤ 140737488351232) : Ev (fun k => Az.f k a b l a b l) true := by
  have h : ∀ d i, i + d = l.length → Ev (fun k => Az.l0 k (i : Nat) a b l a b l) true := by
    intro d
    induction d with
    | zero =>
      intro i hi
      refine Ev.step (f := fun _ => some true) (fun k => ?_) (Ev.now _)
      rw [Az.l0, if_neg (by omega)]
    | succ d ih =>
      intro i hi
      refine Ev.step (fun k => ?_) (ih (i + 1) (by omega))
      have e : Aa (wrap64 ((i : Int) + 1) = ((i + 1 : Nat) : Int)) := ⟨by rw [wr (by omega) (by omega)]; rfl⟩
      rw [Az.l0, if_pos (by omega), if_pos (by omega), if_pos (by omega), if_neg (by simp), e.out]
  refine Ev.step (f := fun k => Az.l0 k 0 a b l a b l) (fun k => ?_) (h l.length 0 (by omega))
  unfold Az.f
  rw [if_pos rfl, if_pos rfl, Az.j0, if_neg (by simp)]
end RP
end Go.Proofs.Yteamphcehoaleaa

