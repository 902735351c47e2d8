import Derived.Test.YtobdfiglgdbecaaXPGAx0
import Derived.Shelf.Spec.SlicesGrow
import Derived.Shelf.Lay
import Derived.Ground.Names8Prog
import Derived.Test.YtobdfiglgdbecaaXUQ
section
namespace Go.Proofs
open Go.Shelf
shelf_lay_g Lays8.n4 Nm8 4 at Try 94 as Try.growS
end Go.Proofs
namespace Go.Proofs.Ytobdfiglgdbecaa
open Go Go.RowKit Go.Shelf Go.Lib Go.Proofs.YtobdfiglgdbecaaW.PrintWords Go.Proofs.YtobdfiglgdbecaaW.PrintLast Go.Proofs.YtobdfiglgdbecaaW.PrintMore
open PGB
set_option linter.unusedVariables false
set_option linter.unusedSimpArgs false
def Dm.f (l0 : List S93) (a1 : Int) : Option (List S93) := if 0 ≤ a1 ∧ a1 ≤ 4398046511104 then some [] else none
theorem R_empty {w : World} {base g cap : Nat} {cur : Array Value} (h : w.heap[g]? = some (.cells cur 93 (0, 0))) (hb : base ≤ g) (hc : cap ≤ maxLen) (hs : cur.size = cap * 2) : Kd.R k93 93 w base (fun _ => True) (.slice (some ⟨g, 0, none⟩) 0 cap) [] :=
  ⟨fun _ _ => trivial, [], ⟨rfl, .inr ⟨g, cap, cur, rfl, hb, h, Nat.zero_le _, hc, hs, by simp⟩⟩, Reps.none _ _⟩
theorem Dm.callsN (a1 : Int) (r : List S93) (w : World) (h : Dm.f [] a1 = some r) :
    Calls Try.prog 94 #[.slice none 0 0, .int .i64 a1] w fun e w' => ∃ v0_ : Value, e = .returned v0_ ∧ Kd.R k93 93 w' w.heap.size (fun _ => True) v0_ r ∧ Below w.heap.size w w' := by
  unfold Dm.f at h
  split at h
  · rename_i hc
    obtain rfl := Option.some.inj h; obtain ⟨n, rfl⟩ := Int.eq_ofNat_of_zero_le hc.1
    by_cases hn : n = 0
    · subst hn
      have h0 := Any8.slices_Grow_room Try.growS none 0 0 0 w (Nat.le_refl _) (by omega) (by omega) (by omega)
      change Calls Try.prog 94 _ _ _ at h0
      exact h0.mono fun e w' ⟨h1, h2⟩ => ⟨_, h1, by rw [h2]; exact Kd.De _ _ _ _ _, by rw [h2]; exact Below.refl _ _⟩
    · obtain ⟨i0, hi, hz0, hz1, hz2⟩ := info_parts info93
      have h0 := Any8.slices_Grow_grow Try.growS i0 _ hi hz0 (by rw [hz1]; omega) none 0 0 n [] w (Nat.le_refl _) (by omega) (by rw [hz2]; omega) (by omega) (by simp) (fun _ => rfl) (by simp)
      change Calls Try.prog 94 _ _ _ at h0
      refine h0.mono fun e w' ⟨h1, h2⟩ => ⟨_, h1, ?_, ?_⟩
      · rw [h2]
        refine R_empty (Dt _ _) (Nat.le_refl _) (grownCap_le_maxLen w _ _ _ (by unfold maxLen; omega)) ?_; rw [Array.size_append, Array.size_append, size_zeroCells, size_zeroCells]; show 0 + (0 + n - 0) * 2 + (_ - (0 + n)) * 2 = _; generalize hG : grownCap w (0 + n) 0 _ = G; have hge : 0 + n ≤ G := by rw [← hG]; exact grownCap_ge w _ _ _
        omega
      · rw [h2]
        exact Ad (Ac (Below.refl _ w)) _
  · cases h
end Go.Proofs.Ytobdfiglgdbecaa
end
section
namespace Go.Proofs.Ytobdfiglgdbecaa.PGB
open Go.RowKit Go.Proofs.YtobdfiglgdbecaaW.PrintWords Go.Proofs.YtobdfiglgdbecaaW.PrintLast Go.Proofs.YtobdfiglgdbecaaW.PrintMore
attribute [local go_sem] max2_int min2_int max_two min_two max_three min_three max_four min_four
set_option linter.unusedVariables false
set_option linter.unusedSimpArgs false

mutual
def Ca.l0 : Nat → List (List (S93)) → Int → List (List (S93)) → Int → Int → Option ((List (S93)))
 | 0, _, _, _, _, _ => none
 | k + 1, x0, x3, x9, x10, x11 => if x11 < x10 then (if 0 ≤ x11 then (if x11 < (x9.length : Int) then (if (wrap64 (x3 + ((rd_L2 x9 x11).length : Int))) < 0 then (if 0 ≤ (-1) then (if (-1) < (x9.length : Int) then (Ca.l0 k x0 (wrap64 (x3 + ((rd_L2 x9 x11).length : Int))) x9 x10 (wrap64 (x11 + 1))) else (none)) else (none)) else (Ca.l0 k x0 (wrap64 (x3 + ((rd_L2 x9 x11).length : Int))) x9 x10 (wrap64 (x11 + 1)))) else (none)) else (none)) else ((Dm.f ([] : List (S93)) x3).bind fun ak => (Ca.l1 k ak x0 (x0.length : Int) 0))
def Ca.l1 : Nat → List (S93) → List (List (S93)) → Int → Int → Option ((List (S93)))
 | 0, _, _, _, _ => none
 | k + 1, x6, x25, x26, x27 => if x27 < x26 then (if 0 ≤ x27 then (if x27 < (x25.length : Int) then (if x6.length + (rd_L2 x25 x27).length < 8796093022208 then (Ca.l1 k (x6 ++ (rd_L2 x25 x27)) x25 x26 (wrap64 (x27 + 1))) else (none)) else (none)) else (none)) else (some x6)
end
def Ca.f (k : Nat) (l0 : List (List (S93))) : Option ((List (S93))) := Ca.l0 k l0 0 l0 (l0.length : Int) 0
set_option maxHeartbeats 8000000 in
set_option maxRecDepth 100000 in
theorem Ca.calls (k : Nat) (A0 : Option Addr) (c0 : Nat) (l0 : List (List (S93))) (r : List (S93)) (w : World) (hr0 : Kd.C (Kd.slice 93 k93) w A0 l0.length l0) (hc0 : l0.length ≤ c0) (h : Ca.f k l0 = some r) :
  Calls Try.prog 85 #[.slice A0 l0.length c0] w fun e w' => ∃ v0_ : Value, e = .returned (v0_) ∧ Kd.R k93 93 w' w.heap.size (fun _ => True) v0_ r ∧ Below w.heap.size w w' := by
 have HR0 := Aa.mk hr0; have HC0 := Aa.mk hc0; clear hr0 hc0; have HB := Aa.mk (Below.refl w.heap.size w); have H : (Ca.l0 k l0 0 l0 (l0.length : Int) 0) = some r := h; clear h; have H' := Aa.mk H; clear H; go_enter Try.func85, Try.ntmps85
 go_wp2
 go_loopg [3, 11] k (fun kq v3 v11 w' => ∃ (ae : Int) (aa : Int), v3 = .int .i64 ae ∧ v11 = .int .i64 aa ∧ Aa (Ca.l0 kq l0 ae l0 (l0.length : Int) aa = some r) ∧ Aa (kq ≤ k) ∧ Aa (Below w.heap.size w w'))
 case atStart => exact ⟨(0), (0), (by first | rfl | (simp; done) | (simp [*]; done)), (by first | rfl | (simp; done) | (simp [*]; done)), H', ⟨Nat.le_refl _⟩, ⟨by repeat (first | (with_reducible first | exact HB.out | apply Ad | apply Ab | apply Ac) | exact HB.out)⟩⟩
 case round =>
  clear H'; obtain ⟨ae, aa, rfl, rfl, HA, HK1, HB⟩ := hrel; cases gk with
  | zero => exact absurd HA.out (by simp [Ca.l0])
  | succ k1 =>
   have H := HA.out; clear HA
   simp only [Ca.l0] at H
   by_cases c2 : aa < (l0.length : Int)
   ·rw [if_pos c2] at H
    have ar : decide (aa < (l0.length : Int)) = true := decide_eq_true c2; clear c2
    by_cases c3 : 0 ≤ aa
    ·rw [if_pos c3] at H
     have aE : decide (0 ≤ aa) = true := decide_eq_true c3; clear c3
     by_cases c4 : aa < (l0.length : Int)
     ·rw [if_pos c4] at H
      have aG : decide (aa < (l0.length : Int)) = true := decide_eq_true c4; clear c4
      by_cases c5 : (wrap64 (ae + ((rd_L2 l0 aa).length : Int))) < 0
      ·rw [if_pos c5] at H
       have au : decide ((wrap64 (ae + ((rd_L2 l0 aa).length : Int))) < 0) = true := decide_eq_true c5; clear c5
       by_cases c6 : 0 ≤ (-1)
       ·exact absurd c6 (by decide)
       ·rw [if_neg c6] at H
        exact absurd H (by simp)
      ·rw [if_neg c5] at H
       have au : decide ((wrap64 (ae + ((rd_L2 l0 aa).length : Int))) < 0) = false := decide_eq_false c5; clear c5; have H' := Aa.mk H; clear H; have al : 0 ≤ (aa : Int) := of_decide_eq_true (by with_reducible assumption); have am : aa < (l0.length : Int) := of_decide_eq_true (by with_reducible assumption); obtain ⟨aN, aH, aI, e101, ac, ag, hi101_0⟩ := at_L2 HR0.out aa al am; cases e101; replace ac := (HB.out.cell (World.block_lt_of_cell? w _ ac)).trans ac; have az := Aa.mk hi101_0; have aA := Aa.mk ag; clear hi101_0 ag; replace al := eq_true al; replace am := eq_true am
       go_wp2
       go_roundg k1
       case measure => have := HK1.out; omega
       case rel => exact ⟨(wrap64 (ae + ((rd_L2 l0 aa).length : Int))), (wrap64 (aa + 1)), (by first | rfl | (simp; done) | (simp [*]; done)), (by first | rfl | (simp; done) | (simp [*]; done)), H', ⟨by have := HK1.out; omega⟩, ⟨by repeat (first | (with_reducible first | exact HB.out | apply Ad | apply Ab | apply Ac) | exact HB.out)⟩⟩
     ·rw [if_neg c4] at H
      exact absurd H (by simp)
    ·rw [if_neg c3] at H
     exact absurd H (by simp)
   ·rw [if_neg c2] at H
    have ar : decide (aa < (l0.length : Int)) = false := decide_eq_false c2; clear c2; replace H := Option.bind_eq_some_iff.mp H; obtain ⟨ak, A80, H⟩ := H
    try dsimp only at H
    have A8 := Aa.mk A80; clear A80; have H' := Aa.mk H; clear H
    go_wp2_with (first | ((with_reducible refine Ay (f := 94) rfl ?_); refine gL (some 24) Try.func94 #[.slice none 0 0, .int .i64 ae] ?_; (refine (Dm.callsN ae ak _ A8.out).mono ?_); rintro e w9 ⟨v104, rfl, ho0, hb⟩; refine ⟨_, rfl, ?_⟩; have av := Aa.mk (Kd.Cg ho0 (Af (lU HB.out))); replace HB := Aa.mk (Aj (lU HB.out) hb); (try clear hb); (try clear hb2); (try clear hk); (try clear hi); (try clear ho0)))
    go_loopg [6, 27] k1 (fun kq v6 v27 w' => ∃ (ai : List (S93)) (ab : Int), v27 = .int .i64 ab ∧ Aa (Ca.l1 kq ai l0 (l0.length : Int) ab = some r) ∧ Aa (kq ≤ k1) ∧ Aa (Kd.R k93 93 w' w.heap.size (fun _ => True) v6 ai) ∧ Aa (Below w.heap.size w w'))
    case atStart => exact ⟨(ak), (0), (by first | rfl | (simp; done) | (simp [*]; done)), H', ⟨Nat.le_refl _⟩, ⟨by exact rU <| av.out⟩, ⟨by repeat (first | (with_reducible first | exact HB.out | apply Ad | apply Ab | apply Ac) | exact HB.out)⟩⟩
    case round =>
     clear H'; (try clear c1); (try clear p1); (try clear q1); (try clear hx1); (try clear c2); (try clear ar); (try clear p2); (try clear c3); (try clear aE); (try clear c4); (try clear aG); (try clear c5); (try clear au); (try clear c6); (try clear aV); (try clear p6); (try clear c7); (try clear aW); (try clear c8); (try clear c9); (try clear ac); (try clear aC); (try clear al); (try clear aX); (try clear am); (try clear aY); obtain ⟨ai, ab, rfl, HA, HK2, ao, HB⟩ := hrel; cases gk with
     | zero => exact absurd HA.out (by simp [Ca.l1])
     | succ k2 =>
      have H := HA.out; clear HA
      simp only [Ca.l1] at H
      by_cases c10 : ab < (l0.length : Int)
      ·rw [if_pos c10] at H
       have aw : decide (ab < (l0.length : Int)) = true := decide_eq_true c10; clear c10
       by_cases c11 : 0 ≤ ab
       ·rw [if_pos c11] at H
        have aQ : decide (0 ≤ ab) = true := decide_eq_true c11; clear c11
        by_cases c12 : ab < (l0.length : Int)
        ·rw [if_pos c12] at H
         have aT : decide (ab < (l0.length : Int)) = true := decide_eq_true c12; clear c12
         by_cases c13 : ai.length + (rd_L2 l0 ab).length < 8796093022208
         ·rw [if_pos c13] at H
          have LMc13 := Aa.mk c13; clear c13; obtain ⟨aJ, aj⟩ : ∃ y_ : List (S93), y_ = (ai ++ (rd_L2 l0 ab)) := ⟨_, rfl⟩; (try rw [Option.bind_some] at H); try rw [← aj] at H; have ax := Aa.mk aj; clear aj; have H' := Aa.mk H; clear H; have ap : 0 ≤ (ab : Int) := of_decide_eq_true (by with_reducible assumption); have aq : ab < (l0.length : Int) := of_decide_eq_true (by with_reducible assumption); obtain ⟨aU, aK, aM, e106, af, ah, hi106_0⟩ := at_L2 HR0.out ab ap aq; cases e106; replace af := (HB.out.cell (World.block_lt_of_cell? w _ af)).trans af; have an := Aa.mk hi106_0; have aD := Aa.mk ah; clear hi106_0 ah; replace ap := eq_true ap; replace aq := eq_true aq
          go_wp2_with (first | ((with_reducible refine Cw (b := .append) (xs := #[.tmp 31, .tmp 32]) rfl ?_); at_builtin; refine Kd.R_append_rows k93 (w0 := w) w.heap.size rfl (.tmp 31) (.tmp 32) 89 93 (.agg #[(.int .i64 0), (.int .i64 0)]) 16 rfl Try.underlying89 info93 rfl (by decide) (by omega) u6 ai (rd_L2 l0 ab) _ _ _ (fun _ => True) (fun _ => False) rfl rfl ?aO ?aR (fun _ _ h => h) (fun _ h => h.elim) ?aF ?aB ?aS ?aL ?_; (case aR => repeat (first | exact (Kd.Cs an.out HB.out) | (with_reducible refine Kd.Bn ?_ _) | (with_reducible refine Kd.Bm ?_ _) | (with_reducible refine Kd.Bx ?_))); (case aB => exact (lU HB.out)); (case aF => exact (fun _ _ => trivial)); (case aO => exact (by exact rU <| ao.out)); (case aS => exact (Af (lU HB.out))); (case aL => have := LMc13.out; omega); intro v108 w14 ho hb hg hat; rw [← ax.out] at ho; replace HB := Aa.mk (hb); have ay := Aa.mk (ho); clear ao; clear ho hb hg hat))
          go_roundg k2
          case measure => have := HK1.out; have := HK2.out; omega
          case rel => exact ⟨(aJ), (wrap64 (ab + 1)), (by first | rfl | (simp; done) | (simp [*]; done)), H', ⟨by have := HK1.out; have := HK2.out; omega⟩, ⟨by exact rU <| ay.out⟩, ⟨by repeat (first | (with_reducible first | exact HB.out | apply Ad | apply Ab | apply Ac) | exact HB.out)⟩⟩
         ·rw [if_neg c13] at H
          exact absurd H (by simp)
        ·rw [if_neg c12] at H
         exact absurd H (by simp)
       ·rw [if_neg c11] at H
        exact absurd H (by simp)
      ·rw [if_neg c10] at H
       have aw : decide (ab < (l0.length : Int)) = false := decide_eq_false c10; clear c10; obtain rfl := Option.some.inj H
       go_wp2
       go_ret
       exact ⟨_, by first | rfl | (simp [Ba, Az] <;> rfl) | (simp [*, Ba, Az] <;> rfl), by exact rU <| ao.out, by repeat (first | (with_reducible first | exact HB.out | apply Ad | apply Ab | apply Ac) | exact HB.out)⟩

end Go.Proofs.Ytobdfiglgdbecaa.PGB
end
