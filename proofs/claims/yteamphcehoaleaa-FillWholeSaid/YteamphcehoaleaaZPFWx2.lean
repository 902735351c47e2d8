import Derived.Test.YteamphcehoaleaaZWAt
import Derived.Test.YteamphcehoaleaaZPFWx0
import Derived.Test.YteamphcehoaleaaZPFWx1
import Derived.Test.YteamphcehoaleaaZFL
import Derived.Test.YteamphcehoaleaaZPA
import Derived.Test.YteamphcehoaleaaZPFAx6
import Derived.Test.YteamphcehoaleaaZPFKx2
namespace Go.Proofs.Yteamphcehoaleaa.PFW
open Go.Proofs.Yteamphcehoaleaa.PFA Go.Proofs.Yteamphcehoaleaa.PFK
open Go.RowKit Go.Proofs.YteamphcehoaleaaW.PrintWords Go.Proofs.YteamphcehoaleaaW.PrintLast Go.Proofs.YteamphcehoaleaaW.PrintMore
attribute [local go_sem] max2_int min2_int max_two min_two max_three min_three max_four min_four   -- for this text's walks alone
set_option linter.unusedVariables false
set_option linter.unusedSimpArgs false

mutual
def Ab.j0 : Nat → Int → Int → List Int → Bool → Int → Int → List Int → Option (Bool)
 | 0, _, _, _, _, _, _, _ => none
 | k + 1, x3, x4, x11, x91, x130000, x130001, x130002 => if x91 = true then (some false) else (if 0 < (x11.length : Int) then ((Bs.f k x130000 x130001 x130002 (rd x11 0) x3).bind fun bt140 => ((Ci.f bt140.1 bt140.2.1 bt140.2.2 x4).bind fun bt146 => ((B3.f bt146.2.2).bind fun t151 => (if t151 = 0 then (Ab.j1 k x4 x11 bt146.1 ((bt146.1.length : Int) != (x130002.length : Int)) x130000 x130001 x130002) else (Ab.j1 k x4 x11 bt146.1 true x130000 x130001 x130002))))) else (none))
def Ab.j1 : Nat → Int → List Int → List Int → Bool → Int → Int → List Int → Option (Bool)
 | 0, _, _, _, _, _, _, _ => none
 | k + 1, x4, x11, x14, x115, x130000, x130001, x130002 => if x115 = true then (some false) else (if 0 ≤ (x130002.length : Int) then (if ((x130002.length : Int) : Int).toNat ≤ 35184372088832 then (Ab.l0 k x4 x11 x14 (List.replicate ((x130002.length : Int) : Int).toNat 0) 0 x130000 x130001 x130002) else (none)) else (none))
def Ab.l0 : Nat → Int → List Int → List Int → List Int → Int → Int → Int → List Int → Option (Bool)
 | 0, _, _, _, _, _, _, _, _ => none
 | k + 1, x4, x11, x14, x17, x18, x130000, x130001, x130002 => if x18 < (x11.length : Int) then (if 0 ≤ x18 then (if (rd x11 x18) < 0 then (Ab.j3 k x4 x11 x14 x17 x18 true x130000 x130001 x130002) else (if (rd x11 x18) ≥ (x130002.length : Int) then (Ab.j3 k x4 x11 x14 x17 x18 true x130000 x130001 x130002) else (if 0 ≤ (rd x11 x18) then (if (rd x11 x18) < (x17.length : Int) then (if (rd x17 (rd x11 x18)) > 0 then (Ab.j3 k x4 x11 x14 x17 x18 true x130000 x130001 x130002) else (if (rd x11 x18) < (x14.length : Int) then (if 0 < (x11.length : Int) then (if 0 ≤ (rd x11 0) then (if (rd x11 0) < (x14.length : Int) then (Ab.j3 k x4 x11 x14 x17 x18 ((rd x14 (rd x11 x18)) != (rd x14 (rd x11 0))) x130000 x130001 x130002) else (none)) else (none)) else (none)) else (none))) else (none)) else (none)))) else (none)) else (Ab.l2 k x11 x14 x17 0)
def Ab.j3 : Nat → Int → List Int → List Int → List Int → Int → Bool → Int → Int → List Int → Option (Bool)
 | 0, _, _, _, _, _, _, _, _, _ => none
 | k + 1, x4, x11, x14, x17, x18, x166, x130000, x130001, x130002 => if x166 = true then (some false) else (if 0 ≤ x18 then (if x18 < (x11.length : Int) then ((Ao.f k x130000 x130001 (rd x11 x18) x4).bind fun t164 => (Ab.l1 k x4 x11 x14 x17 x18 0 t164 0 x130000 x130001 x130002)) else (none)) else (none))
def Ab.l1 : Nat → Int → List Int → List Int → List Int → Int → Int → List Int → Int → Int → Int → List Int → Option (Bool)
 | 0, _, _, _, _, _, _, _, _, _, _, _ => none
 | k + 1, x4, x11, x14, x17, x18, x19, x20, x21, x130000, x130001, x130002 => if x21 < (x20.length : Int) then (if 0 ≤ x21 then (if 0 ≤ (rd x20 x21) then (if (rd x20 x21) < (x17.length : Int) then (if (rd x17 (rd x20 x21)) > 0 then (if x19 = 0 then (Ab.l1 k x4 x11 x14 x17 x18 (rd x17 (rd x20 x21)) x20 (wrap64 (x21 + 1)) x130000 x130001 x130002) else (if (rd x17 (rd x20 x21)) < x19 then (Ab.l1 k x4 x11 x14 x17 x18 (rd x17 (rd x20 x21)) x20 (wrap64 (x21 + 1)) x130000 x130001 x130002) else (Ab.l1 k x4 x11 x14 x17 x18 x19 x20 (wrap64 (x21 + 1)) x130000 x130001 x130002))) else (Ab.l1 k x4 x11 x14 x17 x18 x19 x20 (wrap64 (x21 + 1)) x130000 x130001 x130002)) else (none)) else (none)) else (none)) else (if ((x19 == 0) != (x18 == 0)) = true then (some false) else (if 0 ≤ x18 then (if x18 < (x11.length : Int) then (if 0 ≤ (rd x11 x18) then (if (rd x11 x18) < (x17.length : Int) then ((some (x17.set ((rd x11 x18) : Int).toNat (wrap64 (x19 + 1)) : List Int)).bind fun y176 => (if x18 > 0 then (if 0 ≤ (wrap64 (x18 - 1)) then (if (wrap64 (x18 - 1)) < (x11.length : Int) then (if 0 ≤ (rd x11 (wrap64 (x18 - 1))) then (if (rd x11 (wrap64 (x18 - 1))) < (x17.length : Int) then (if (rd y176 (rd x11 x18)) < (rd y176 (rd x11 (wrap64 (x18 - 1)))) then (some false) else (Ab.l0 k x4 x11 x14 y176 (wrap64 (x18 + 1)) x130000 x130001 x130002)) else (none)) else (none)) else (none)) else (none)) else (Ab.l0 k x4 x11 x14 y176 (wrap64 (x18 + 1)) x130000 x130001 x130002))) else (none)) else (none)) else (none)) else (none)))
def Ab.l2 : Nat → List Int → List Int → List Int → Int → Option (Bool)
 | 0, _, _, _, _ => none
 | k + 1, x11, x14, x17, x22 => if x22 < (x14.length : Int) then (if 0 ≤ x22 then (if 0 < (x11.length : Int) then (if 0 ≤ (rd x11 0) then (if (rd x11 0) < (x14.length : Int) then (if (rd x14 x22) = (rd x14 (rd x11 0)) then (if x22 < (x17.length : Int) then (if (rd x17 x22) = 0 then (some false) else (Ab.l2 k x11 x14 x17 (wrap64 (x22 + 1)))) else (none)) else (Ab.l2 k x11 x14 x17 (wrap64 (x22 + 1)))) else (none)) else (none)) else (none)) else (none)) else (some true)
end
def Ab.f (k : Nat) (a0_0 : Int) (a0_1 : Int) (l0_2 : List Int) (a1 : Int) (a2 : Int) (a3 : Int) (a4 : Int) : Option (Bool) := (Ai.f k).bind fun t130 => (if t130 = true then ((Cf.f a0_0 a0_1 l0_2 a1 a2 a3 a4).bind fun bt131 => ((B3.f bt131.2).bind fun t135 => (if t135 = 0 then ((Cg.f a0_0 a0_1 l0_2).bind fun t136 => (if t136 = 0 then (if a1 < 0 then (Ab.j0 k a3 a4 bt131.1 true a0_0 a0_1 l0_2) else (if a1 ≥ a0_0 then (Ab.j0 k a3 a4 bt131.1 true a0_0 a0_1 l0_2) else (if a2 < 0 then (Ab.j0 k a3 a4 bt131.1 true a0_0 a0_1 l0_2) else (if a2 ≥ a0_1 then (Ab.j0 k a3 a4 bt131.1 true a0_0 a0_1 l0_2) else (if a3 < 0 then (Ab.j0 k a3 a4 bt131.1 true a0_0 a0_1 l0_2) else (if a4 = 4 then (if (bt131.1.length : Int) = 0 then (Ab.j0 k a3 a4 bt131.1 true a0_0 a0_1 l0_2) else (if 0 < (bt131.1.length : Int) then (Ab.j0 k a3 a4 bt131.1 ((rd bt131.1 0) != (wrap64 ((wrap64 (a2 * a0_0)) + a1))) a0_0 a0_1 l0_2) else (none))) else (if a4 = 8 then (if (bt131.1.length : Int) = 0 then (Ab.j0 k a3 a4 bt131.1 true a0_0 a0_1 l0_2) else (if 0 < (bt131.1.length : Int) then (Ab.j0 k a3 a4 bt131.1 ((rd bt131.1 0) != (wrap64 ((wrap64 (a2 * a0_0)) + a1))) a0_0 a0_1 l0_2) else (none))) else (Ab.j0 k a3 a4 bt131.1 true a0_0 a0_1 l0_2)))))))) else (Ab.j0 k a3 a4 bt131.1 true a0_0 a0_1 l0_2))) else (some ((bt131.1.length : Int) == 0))))) else (some false))
def Ab.T6 : Bool × List (List Nat × List Nat) := (true, [([], []), ([0], [0]), ([1], [1]), ([2, 1], [2]), ([3], [3]), ([4, 3], [3, 4]), ([3, 5], [3, 5]), ([6, 3], [6]), ([7], [7]), ([7], [7]), ([9, 7], [7, 9]), ([8, 10, 7], [7, 8, 10]), ([7, 11], [7, 11]), ([12, 7], [12]), ([13], [13]), ([14, 13], [13, 14]), ([13, 15], [13, 15]), ([16, 13], [16]), ([17], [17]), ([17], [17]), ([19, 17], [17, 19]), ([18, 20, 17], [17, 18, 20]), ([17, 21], [17, 21]), ([22, 17], [22]), ([23], [23]), ([24, 23], [23, 24]), ([23, 25], [23, 25]), ([26, 23], [26]), ([27], [27]), ([28, 27], [27, 28]), ([29, 27, 27], [27, 29]), ([30], [30]), ([31, 30], [30, 31]), ([30, 32, 27], [27, 30, 32]), ([27, 33], [27, 33]), ([34, 30], [34]), ([35], [35]), ([36, 35], [35, 36]), ([37, 35], [35, 37]), ([35, 38], [35, 38]), ([39, 35], [39]), ([40], [40]), ([41, 40], [40, 41]), ([42, 40], [40, 42]), ([40], [40]), ([40], [40]), ([45, 40], [40, 45]), ([44, 46, 40], [40, 44, 46]), ([40], [40]), ([47, 48, 40], [40, 47, 48]), ([43, 49, 40], [40, 43, 49]), ([40, 50], [40, 50])])
def Ab.B6 : List Nat := [0, 1, 3, 7, 15, 31, 63, 127, 255, 255, 767, 2047, 4095, 8191, 16383, 32767, 65535, 131071, 262143, 262143, 786431, 2097151, 4194303, 8388607, 16777215, 33554431, 67108863, 134217727, 268435455, 536870911, 1073741823, 2147483647, 4294967295, 8589934591, 17179869183, 34359738367, 68719476735, 137438953471, 274877906943, 549755813887, 1099511627775, 2199023255551, 4398046511103, 8796093022207, 2199023255551, 2199023255551, 37383395344383, 125344325566463, 2199023255551, 547556790632447, 1125899906842623, 2251799813685247]
theorem Ab.tab6 : rtab .any (opsOf Try.f6 6) = Ab.T6 := by kernel_rfl
theorem Ab.bits6 : waitsOk Ab.T6.2 Ab.B6 = true := by kernel_rfl
def Ab.T8 : Bool × List (List Nat × List Nat) := (true, [([], []), ([], []), ([1], [1]), ([2], [2]), ([], []), ([0, 3, 4], [0, 3, 4]), ([], []), ([6, 5, 5, 0, 1, 2, 3, 4, 5, 6], [5, 6])])
def Ab.B8 : List Nat := [0, 0, 2, 6, 0, 31, 0, 127]
theorem Ab.tab8 : rtab .any (opsOf Try.f6 8) = Ab.T8 := by kernel_rfl
theorem Ab.bits8 : waitsOk Ab.T8.2 Ab.B8 = true := by kernel_rfl
def Ab.T16 : Bool × List (List Nat × List Nat) := (true, [([], []), ([], []), ([0, 1], [0, 1]), ([2], [2]), ([3], [3]), ([4], [4]), ([5], [5]), ([5], [5]), ([6, 7, 5], [5, 6, 7]), ([8, 5], [5, 8]), ([5], [5]), ([10, 5], [5, 10]), ([11, 5], [5, 11]), ([9, 12, 5], [5, 9, 12]), ([5, 13], [5, 13]), ([14, 5], [14]), ([15], [15]), ([15], [15]), ([15], [15]), ([17, 18, 15], [15, 17, 18]), ([19, 15], [15, 19]), ([16, 20, 15], [15, 16, 20]), ([21, 15], [15, 21]), ([22, 15], [15, 22]), ([15, 23], [15, 23]), ([24, 15], [24]), ([25], [25]), ([25], [25]), ([25], [25]), ([27, 28, 25], [25, 27, 28]), ([29, 25], [25, 29]), ([26, 30, 25], [25, 26, 30]), ([31, 25], [25, 31]), ([25], [25]), ([25], [25]), ([34, 25], [25, 34]), ([35, 25], [25, 35]), ([33, 36, 25], [25, 33, 36]), ([37, 25], [25, 37]), ([32, 38, 25], [25, 32, 38]), ([25, 39], [25, 39])])
def Ab.B16 : List Nat := [0, 0, 3, 7, 15, 31, 63, 63, 255, 511, 63, 1087, 3135, 8191, 16383, 32767, 65535, 65535, 65535, 458751, 983039, 2097151, 4194303, 8388607, 16777215, 33554431, 67108863, 67108863, 67108863, 469762047, 1006632959, 2147483647, 4294967295, 67108863, 67108863, 17246978047, 51606716415, 128916127743, 266355081215, 549755813887, 1099511627775]
theorem Ab.tab16 : rtab .any (opsOf Try.f6 16) = Ab.T16 := by kernel_rfl
theorem Ab.bits16 : waitsOk Ab.T16.2 Ab.B16 = true := by kernel_rfl
def Ab.T19 : Bool × List (List Nat × List Nat) := (true, [([], []), ([0], [0]), ([], []), ([2], [2]), ([], []), ([], []), ([4, 5], [4, 5]), ([6], [6]), ([], []), ([1, 3, 7, 8], [1, 3, 7, 8]), ([9, 9, 0, 1, 2, 3, 4, 5, 6, 7, 8, 9], [9])])
def Ab.B19 : List Nat := [0, 1, 0, 4, 0, 0, 48, 112, 0, 511, 1023]
theorem Ab.tab19 : rtab .any (opsOf Try.f6 19) = Ab.T19 := by kernel_rfl
theorem Ab.bits19 : waitsOk Ab.T19.2 Ab.B19 = true := by kernel_rfl
def Ab.T28 : Bool × List (List Nat × List Nat) := (true, [([], []), ([0], [0]), ([1], [1]), ([2], [2]), ([2], [2]), ([2], [2]), ([4, 5, 2], [2, 4, 5]), ([6, 2], [2, 6]), ([3, 7, 2], [2, 3, 7]), ([8, 2], [2, 8]), ([2], [2]), ([2], [2]), ([2], [2]), ([12, 2], [2, 12]), ([11, 13, 2], [2, 11, 13]), ([14, 2], [2, 14]), ([10, 15, 2], [2, 10, 15]), ([16, 2], [2, 16]), ([9, 17, 2], [2, 9, 17]), ([2, 18], [2, 18])])
def Ab.B28 : List Nat := [0, 1, 3, 7, 7, 7, 55, 119, 255, 511, 7, 7, 7, 4103, 14343, 30727, 64519, 130055, 262143, 524287]
theorem Ab.tab28 : rtab .any (opsOf Try.f6 28) = Ab.T28 := by kernel_rfl
theorem Ab.bits28 : waitsOk Ab.T28.2 Ab.B28 = true := by kernel_rfl
def Ab.T33 : Bool × List (List Nat × List Nat) := (true, [([], []), ([], []), ([0, 1], [0, 1]), ([2], [2]), ([], []), ([], []), ([5], [5]), ([6], [6]), ([4, 7], [4, 7]), ([8], [8]), ([3, 9], [3, 9]), ([10], [10]), ([11], [11]), ([11], [11]), ([12, 13, 11], [11, 12, 13]), ([14, 11], [11, 14]), ([15, 11], [11, 15]), ([11, 16], [11, 16])])
def Ab.B33 : List Nat := [0, 0, 3, 7, 0, 0, 32, 96, 240, 496, 1023, 2047, 4095, 4095, 16383, 32767, 65535, 131071]
theorem Ab.tab33 : rtab .any (opsOf Try.f6 33) = Ab.T33 := by kernel_rfl
theorem Ab.bits33 : waitsOk Ab.T33.2 Ab.B33 = true := by kernel_rfl
set_option maxHeartbeats 8000000 in
set_option maxRecDepth 100000 in
theorem Ab.calls (k : Nat) (a0_0 : Int) (a0_1 : Int) (A0_2 : Option Addr) (c0_2 : Nat) (l0_2 : List Int) (a1 : Int) (a2 : Int) (a3 : Int) (a4 : Int) (r : Bool) (w : World) (hr0_2 : Kd.C (Kd.int .u32) w A0_2 l0_2.length l0_2) (hc0_2 : l0_2.length ≤ c0_2) (h : Ab.f k a0_0 a0_1 l0_2 a1 a2 a3 a4 = some r) (HT0 : r = true := by decide) :
  Calls Try.prog 6 #[.agg #[.int .i64 a0_0, .int .i64 a0_1, .slice A0_2 l0_2.length c0_2], .int .i64 a1, .int .i64 a2, .int .i64 a3, .int .i64 a4] w fun e w' => e = .returned (.bool r) ∧ Below w.heap.size w w' := by
 have HT := Aa.mk HT0
 clear HT0
 have hu24 := Try.underlying24
 have hu50 := Try.underlying50
 have HR0_2 := Aa.mk hr0_2
 have HC0_2 := Aa.mk hc0_2
 clear hr0_2 hc0_2
 have HB := Aa.mk (Below.refl w.heap.size w)
 have H : ((Ai.f k).bind fun t130 => (if t130 = true then ((Cf.f a0_0 a0_1 l0_2 a1 a2 a3 a4).bind fun bt131 => ((B3.f bt131.2).bind fun t135 => (if t135 = 0 then ((Cg.f a0_0 a0_1 l0_2).bind fun t136 => (if t136 = 0 then (if a1 < 0 then (Ab.j0 k a3 a4 bt131.1 true a0_0 a0_1 l0_2) else (if a1 ≥ a0_0 then (Ab.j0 k a3 a4 bt131.1 true a0_0 a0_1 l0_2) else (if a2 < 0 then (Ab.j0 k a3 a4 bt131.1 true a0_0 a0_1 l0_2) else (if a2 ≥ a0_1 then (Ab.j0 k a3 a4 bt131.1 true a0_0 a0_1 l0_2) else (if a3 < 0 then (Ab.j0 k a3 a4 bt131.1 true a0_0 a0_1 l0_2) else (if a4 = 4 then (if (bt131.1.length : Int) = 0 then (Ab.j0 k a3 a4 bt131.1 true a0_0 a0_1 l0_2) else (if 0 < (bt131.1.length : Int) then (Ab.j0 k a3 a4 bt131.1 ((rd bt131.1 0) != (wrap64 ((wrap64 (a2 * a0_0)) + a1))) a0_0 a0_1 l0_2) else (none))) else (if a4 = 8 then (if (bt131.1.length : Int) = 0 then (Ab.j0 k a3 a4 bt131.1 true a0_0 a0_1 l0_2) else (if 0 < (bt131.1.length : Int) then (Ab.j0 k a3 a4 bt131.1 ((rd bt131.1 0) != (wrap64 ((wrap64 (a2 * a0_0)) + a1))) a0_0 a0_1 l0_2) else (none))) else (Ab.j0 k a3 a4 bt131.1 true a0_0 a0_1 l0_2)))))))) else (Ab.j0 k a3 a4 bt131.1 true a0_0 a0_1 l0_2))) else (some ((bt131.1.length : Int) == 0))))) else (some false))) = some r := h
 clear h
 replace H := Option.bind_eq_some_iff.mp H
 obtain ⟨t130, A60, H⟩ := H
 replace H : (if t130 = true then ((Cf.f a0_0 a0_1 l0_2 a1 a2 a3 a4).bind fun bt131 => ((B3.f bt131.2).bind fun t135 => (if t135 = 0 then ((Cg.f a0_0 a0_1 l0_2).bind fun t136 => (if t136 = 0 then (if a1 < 0 then (Ab.j0 k a3 a4 bt131.1 true a0_0 a0_1 l0_2) else (if a1 ≥ a0_0 then (Ab.j0 k a3 a4 bt131.1 true a0_0 a0_1 l0_2) else (if a2 < 0 then (Ab.j0 k a3 a4 bt131.1 true a0_0 a0_1 l0_2) else (if a2 ≥ a0_1 then (Ab.j0 k a3 a4 bt131.1 true a0_0 a0_1 l0_2) else (if a3 < 0 then (Ab.j0 k a3 a4 bt131.1 true a0_0 a0_1 l0_2) else (if a4 = 4 then (if (bt131.1.length : Int) = 0 then (Ab.j0 k a3 a4 bt131.1 true a0_0 a0_1 l0_2) else (if 0 < (bt131.1.length : Int) then (Ab.j0 k a3 a4 bt131.1 ((rd bt131.1 0) != (wrap64 ((wrap64 (a2 * a0_0)) + a1))) a0_0 a0_1 l0_2) else (none))) else (if a4 = 8 then (if (bt131.1.length : Int) = 0 then (Ab.j0 k a3 a4 bt131.1 true a0_0 a0_1 l0_2) else (if 0 < (bt131.1.length : Int) then (Ab.j0 k a3 a4 bt131.1 ((rd bt131.1 0) != (wrap64 ((wrap64 (a2 * a0_0)) + a1))) a0_0 a0_1 l0_2) else (none))) else (Ab.j0 k a3 a4 bt131.1 true a0_0 a0_1 l0_2)))))))) else (Ab.j0 k a3 a4 bt131.1 true a0_0 a0_1 l0_2))) else (some ((bt131.1.length : Int) == 0))))) else (some false)) = some r := H
 have A6 := Aa.mk A60
 clear A60
 by_cases c7 : t130 = true
 ·subst c7
  have H1 : ((Cf.f a0_0 a0_1 l0_2 a1 a2 a3 a4).bind fun bt131 => ((B3.f bt131.2).bind fun t135 => (if t135 = 0 then ((Cg.f a0_0 a0_1 l0_2).bind fun t136 => (if t136 = 0 then (if a1 < 0 then (Ab.j0 k a3 a4 bt131.1 true a0_0 a0_1 l0_2) else (if a1 ≥ a0_0 then (Ab.j0 k a3 a4 bt131.1 true a0_0 a0_1 l0_2) else (if a2 < 0 then (Ab.j0 k a3 a4 bt131.1 true a0_0 a0_1 l0_2) else (if a2 ≥ a0_1 then (Ab.j0 k a3 a4 bt131.1 true a0_0 a0_1 l0_2) else (if a3 < 0 then (Ab.j0 k a3 a4 bt131.1 true a0_0 a0_1 l0_2) else (if a4 = 4 then (if (bt131.1.length : Int) = 0 then (Ab.j0 k a3 a4 bt131.1 true a0_0 a0_1 l0_2) else (if 0 < (bt131.1.length : Int) then (Ab.j0 k a3 a4 bt131.1 ((rd bt131.1 0) != (wrap64 ((wrap64 (a2 * a0_0)) + a1))) a0_0 a0_1 l0_2) else (none))) else (if a4 = 8 then (if (bt131.1.length : Int) = 0 then (Ab.j0 k a3 a4 bt131.1 true a0_0 a0_1 l0_2) else (if 0 < (bt131.1.length : Int) then (Ab.j0 k a3 a4 bt131.1 ((rd bt131.1 0) != (wrap64 ((wrap64 (a2 * a0_0)) + a1))) a0_0 a0_1 l0_2) else (none))) else (Ab.j0 k a3 a4 bt131.1 true a0_0 a0_1 l0_2)))))))) else (Ab.j0 k a3 a4 bt131.1 true a0_0 a0_1 l0_2))) else (some ((bt131.1.length : Int) == 0))))) = some r := by rw [if_pos rfl] at H; exact H
  clear H
  have H := H1
  clear H1
  replace H := Option.bind_eq_some_iff.mp H
  obtain ⟨⟨t131, t134⟩, A80, H⟩ := H
  replace H : ((B3.f t134).bind fun t135 => (if t135 = 0 then ((Cg.f a0_0 a0_1 l0_2).bind fun t136 => (if t136 = 0 then (if a1 < 0 then (Ab.j0 k a3 a4 t131 true a0_0 a0_1 l0_2) else (if a1 ≥ a0_0 then (Ab.j0 k a3 a4 t131 true a0_0 a0_1 l0_2) else (if a2 < 0 then (Ab.j0 k a3 a4 t131 true a0_0 a0_1 l0_2) else (if a2 ≥ a0_1 then (Ab.j0 k a3 a4 t131 true a0_0 a0_1 l0_2) else (if a3 < 0 then (Ab.j0 k a3 a4 t131 true a0_0 a0_1 l0_2) else (if a4 = 4 then (if (t131.length : Int) = 0 then (Ab.j0 k a3 a4 t131 true a0_0 a0_1 l0_2) else (if 0 < (t131.length : Int) then (Ab.j0 k a3 a4 t131 ((rd t131 0) != (wrap64 ((wrap64 (a2 * a0_0)) + a1))) a0_0 a0_1 l0_2) else (none))) else (if a4 = 8 then (if (t131.length : Int) = 0 then (Ab.j0 k a3 a4 t131 true a0_0 a0_1 l0_2) else (if 0 < (t131.length : Int) then (Ab.j0 k a3 a4 t131 ((rd t131 0) != (wrap64 ((wrap64 (a2 * a0_0)) + a1))) a0_0 a0_1 l0_2) else (none))) else (Ab.j0 k a3 a4 t131 true a0_0 a0_1 l0_2)))))))) else (Ab.j0 k a3 a4 t131 true a0_0 a0_1 l0_2))) else (some ((t131.length : Int) == 0)))) = some r := H
  have A8 := Aa.mk A80
  clear A80
  replace H := Option.bind_eq_some_iff.mp H
  obtain ⟨t135, A90, H⟩ := H
  replace H : (if t135 = 0 then ((Cg.f a0_0 a0_1 l0_2).bind fun t136 => (if t136 = 0 then (if a1 < 0 then (Ab.j0 k a3 a4 t131 true a0_0 a0_1 l0_2) else (if a1 ≥ a0_0 then (Ab.j0 k a3 a4 t131 true a0_0 a0_1 l0_2) else (if a2 < 0 then (Ab.j0 k a3 a4 t131 true a0_0 a0_1 l0_2) else (if a2 ≥ a0_1 then (Ab.j0 k a3 a4 t131 true a0_0 a0_1 l0_2) else (if a3 < 0 then (Ab.j0 k a3 a4 t131 true a0_0 a0_1 l0_2) else (if a4 = 4 then (if (t131.length : Int) = 0 then (Ab.j0 k a3 a4 t131 true a0_0 a0_1 l0_2) else (if 0 < (t131.length : Int) then (Ab.j0 k a3 a4 t131 ((rd t131 0) != (wrap64 ((wrap64 (a2 * a0_0)) + a1))) a0_0 a0_1 l0_2) else (none))) else (if a4 = 8 then (if (t131.length : Int) = 0 then (Ab.j0 k a3 a4 t131 true a0_0 a0_1 l0_2) else (if 0 < (t131.length : Int) then (Ab.j0 k a3 a4 t131 ((rd t131 0) != (wrap64 ((wrap64 (a2 * a0_0)) + a1))) a0_0 a0_1 l0_2) else (none))) else (Ab.j0 k a3 a4 t131 true a0_0 a0_1 l0_2)))))))) else (Ab.j0 k a3 a4 t131 true a0_0 a0_1 l0_2))) else (some ((t131.length : Int) == 0))) = some r := H
  have A9 := Aa.mk A90
  clear A90
  by_cases c10 : t135 = 0
  ·rw [if_pos c10] at H
   have c10b0 : (t135 == 0) = true := beq_iff_eq.mpr c10
   have c10b1 : (t135 != 0) = false := bne_eq_false_iff_eq.mpr c10
   clear c10
   have HC11 := Aa.mk H
   clear H
   go_enter Try.func6, Try.ntmps6
   go_upto_region 6 with (first | ((with_reducible refine Bk (N := 5) rfl ?_); (try (refine Cn (by rfl) ?_; dsimp only)); refine Bn ?hg (N := 5) ?hd (cs := #[.int .i64 a0_0, .int .i64 a0_1, .slice A0_2 l0_2.length c0_2]) (t := 24) ?hr ?_; (case hd => rfl); (case hg => rfl); (case hr => first | (go_simp; done) | (go_simp; rfl)); intro gb129 hg w12 hbox hb; have n0_ := Aa.mk (Ap (lU HB.out) hb); have n1_ := Aa.mk (hbox); have n2_ := Aa.mk ((by rw [hg]; exact (Ak (lU HB.out)) : w.heap.size ≤ gb129)); have n3_ := Aa.mk ((by rw [hg]; exact (Ak (lU HB.out)) : w.heap.size ≤ gb129)); clear HB; have HB := n0_; have BK129 := n1_; have GW129 := n2_; have GE129 := n3_; clear n0_ n1_ n2_ n3_; clear hb hbox hg) | ((with_reducible refine Bd (f := 13) rfl ?_); refine Cb (some 23) rfl rfl Try.func13 (by kernel_rfl) rfl #[] rfl (by (try simp only [List.map_toArray, List.map_cons, List.map_nil]); first | done | rfl | (simp only [List.length_drop, List.length_take]; rfl)) ?_; (with_reducible refine (Ai.calls k  true _ A6.out).mono ?_); rintro e w13 ⟨rfl, hb⟩; refine ⟨_, rfl, ?_⟩; have n0_ := Aa.mk (Am (g := gb129) (o := .cells #[.int .i64 a0_0, .int .i64 a0_1, .slice A0_2 l0_2.length c0_2] 24 (0, 0)) (by exact bU <| BK129.out) hb); have n1_ := Aa.mk (Ap (by repeat (first | (with_reducible first | exact HB.out | apply Ad | apply Ac | apply Ah | refine Ae ?_ GE129.out) | exact HB.out)) hb); clear BK129; clear HB; have BK129 := n0_; have HB := n1_; clear n0_ n1_; (try clear hb); (try clear hb2); (try clear hk); (try clear hi); have hcz14_0 : w13.cell? ⟨gb129, 0, none⟩ = some (.int .i64 a0_0) := (Af BK129.out 0).trans rfl; have hcz14_1 : w13.cell? ⟨gb129, 1, none⟩ = some (.int .i64 a0_1) := (Af BK129.out 1).trans rfl; have hcz14_2 : w13.cell? ⟨gb129, 2, none⟩ = some (.slice A0_2 l0_2.length c0_2) := (Af BK129.out 2).trans rfl; have hfz14_0 := Ag BK129.out 0; have hfz14_1 := Ag BK129.out 1; have hfz14_2 := Ag BK129.out 2) | ((with_reducible refine Bd (f := 16) rfl ?_); refine Cb (some 31) rfl rfl Try.func16 (by kernel_rfl) rfl #[.agg #[.int .i64 a0_0, .int .i64 a0_1, .slice A0_2 l0_2.length c0_2], .int .i64 a1, .int .i64 a2, .int .i64 a3, .int .i64 a4] rfl (by (try simp only [List.map_toArray, List.map_cons, List.map_nil]); first | done | rfl | (simp only [List.length_drop, List.length_take]; rfl)) ?_; (with_reducible refine (Cf.calls a0_0 a0_1 _ _ l0_2 a1 a2 a3 a4 t131 t134 _ ?side1 ?side2 A8.out).mono ?_); (case side1 => repeat (first | exact (Kd.Ce HR0_2.out HB.out) | (with_reducible refine Kd.Bo ?_ _) | (with_reducible refine Kd.B0 ?_ _) | (with_reducible refine Kd.Ca ?_))); (case side2 => exact HC0_2.out); rintro e w15 ⟨v132, rfl, ho0, hb⟩; refine ⟨_, rfl, ?_⟩; have n0_ := Aa.mk (Kd.B2 ho0 (Ak (by repeat (first | (with_reducible first | exact HB.out | apply Ad | apply Ac | apply Ah | refine Ae ?_ GE129.out) | exact HB.out)))); have n1_ := Aa.mk (Am (g := gb129) (o := .cells #[.int .i64 a0_0, .int .i64 a0_1, .slice A0_2 l0_2.length c0_2] 24 (0, 0)) (by exact bU <| BK129.out) hb); have n2_ := Aa.mk (Ap (by repeat (first | (with_reducible first | exact HB.out | apply Ad | apply Ac | apply Ah | refine Ae ?_ GE129.out) | exact HB.out)) hb); clear BK129; clear HB; have HO133 := n0_; have BK129 := n1_; have HB := n2_; clear n0_ n1_ n2_; (try clear hb); (try clear hb2); (try clear hk); (try clear hi); (try clear ho0)) | ((with_reducible refine Bd (f := 17) rfl ?_); refine Cb (some 35) rfl rfl Try.func17 (by kernel_rfl) rfl #[.int .i64 t134] rfl (by (try simp only [List.map_toArray, List.map_cons, List.map_nil]); first | done | rfl | (simp only [List.length_drop, List.length_take]; rfl)) ?_; (with_reducible refine (B3.calls t134 t135 _ A9.out).mono ?_); rintro e w' ⟨rfl, ⟨nd, rfl⟩⟩; refine ⟨_, rfl, ?_⟩))
   (try simp only [Act.put, sA, sB, sC])
   have n0_ := Aa.mk (Kd.R_drewN HO133.out nd)
   have n1_ := Aa.mk (Ar BK129.out nd)
   have n2_ := Aa.mk (Ac HB.out nd)
   clear HO133 BK129 HB
   have HO133 := n0_
   have BK129 := n1_
   have HB := n2_
   clear n0_ n1_ n2_
   generalize w15.drewN nd = w15 at HO133 BK129 HB ⊢
   go_cut [91] (fun v91 wc => ∃ (kq : Nat) (x91_10 : Bool), v91 = .bool x91_10 ∧ Aa (Ab.j0 kq a3 a4 t131 x91_10 a0_0 a0_1 l0_2 = some r) ∧ Aa (kq ≤ k) ∧ Aa (Kd.R (Kd.int .i64) 3 wc w.heap.size (fun _ => True) v132 t131) ∧ Aa (wc.heap[gb129]? = some (.cells #[.int .i64 a0_0, .int .i64 a0_1, (.slice A0_2 l0_2.length c0_2)] 24 (0, 0))) ∧ Aa (Below w.heap.size w wc))
   case first => as_aux_lemma =>
    have H := HC11.out
    clear HC11
    replace H := Option.bind_eq_some_iff.mp H
    obtain ⟨t136, A160, H⟩ := H
    replace H : (if t136 = 0 then (if a1 < 0 then (Ab.j0 k a3 a4 t131 true a0_0 a0_1 l0_2) else (if a1 ≥ a0_0 then (Ab.j0 k a3 a4 t131 true a0_0 a0_1 l0_2) else (if a2 < 0 then (Ab.j0 k a3 a4 t131 true a0_0 a0_1 l0_2) else (if a2 ≥ a0_1 then (Ab.j0 k a3 a4 t131 true a0_0 a0_1 l0_2) else (if a3 < 0 then (Ab.j0 k a3 a4 t131 true a0_0 a0_1 l0_2) else (if a4 = 4 then (if (t131.length : Int) = 0 then (Ab.j0 k a3 a4 t131 true a0_0 a0_1 l0_2) else (if 0 < (t131.length : Int) then (Ab.j0 k a3 a4 t131 ((rd t131 0) != (wrap64 ((wrap64 (a2 * a0_0)) + a1))) a0_0 a0_1 l0_2) else (none))) else (if a4 = 8 then (if (t131.length : Int) = 0 then (Ab.j0 k a3 a4 t131 true a0_0 a0_1 l0_2) else (if 0 < (t131.length : Int) then (Ab.j0 k a3 a4 t131 ((rd t131 0) != (wrap64 ((wrap64 (a2 * a0_0)) + a1))) a0_0 a0_1 l0_2) else (none))) else (Ab.j0 k a3 a4 t131 true a0_0 a0_1 l0_2)))))))) else (Ab.j0 k a3 a4 t131 true a0_0 a0_1 l0_2)) = some r := H
    have A16 := Aa.mk A160
    clear A160
    by_cases c17 : t136 = 0
    ·rw [if_pos c17] at H
     have c17b0 : (t136 == 0) = true := beq_iff_eq.mpr c17
     have c17b1 : (t136 != 0) = false := bne_eq_false_iff_eq.mpr c17
     clear c17
     (first | rw [c17b0] | (simp only [i64_w, i32_w]; rw [c17b0]) | skip)
     by_cases c18 : a1 < 0
     ·rw [if_pos c18] at H
      have c18b0 : decide (a1 < 0) = true := decide_eq_true c18
      clear c18
      exact absurd (H.trans (congrArg some HT.out)) (by first | (cases k <;> simp [Ab.j0, Ab.j1, Ab.j3]; done) | (cases kj10 <;> simp [Ab.j0, Ab.j1, Ab.j3]; done) | (cases k3 <;> simp [Ab.j0, Ab.j1, Ab.j3]; done))
     ·rw [if_neg c18] at H
      have c18b0 : decide (a1 < 0) = false := decide_eq_false c18
      clear c18
      by_cases c21 : a1 ≥ a0_0
      ·rw [if_pos c21] at H
       have c21b0 : decide (a0_0 ≤ a1) = true := decide_eq_true c21
       clear c21
       exact absurd (H.trans (congrArg some HT.out)) (by first | (cases k <;> simp [Ab.j0, Ab.j1, Ab.j3]; done) | (cases kj10 <;> simp [Ab.j0, Ab.j1, Ab.j3]; done) | (cases k3 <;> simp [Ab.j0, Ab.j1, Ab.j3]; done))
      ·rw [if_neg c21] at H
       have c21b0 : decide (a0_0 ≤ a1) = false := decide_eq_false c21
       clear c21
       by_cases c24 : a2 < 0
       ·rw [if_pos c24] at H
        have c24b0 : decide (a2 < 0) = true := decide_eq_true c24
        clear c24
        exact absurd (H.trans (congrArg some HT.out)) (by first | (cases k <;> simp [Ab.j0, Ab.j1, Ab.j3]; done) | (cases kj10 <;> simp [Ab.j0, Ab.j1, Ab.j3]; done) | (cases k3 <;> simp [Ab.j0, Ab.j1, Ab.j3]; done))
       ·rw [if_neg c24] at H
        have c24b0 : decide (a2 < 0) = false := decide_eq_false c24
        clear c24
        by_cases c27 : a2 ≥ a0_1
        ·rw [if_pos c27] at H
         have c27b0 : decide (a0_1 ≤ a2) = true := decide_eq_true c27
         clear c27
         exact absurd (H.trans (congrArg some HT.out)) (by first | (cases k <;> simp [Ab.j0, Ab.j1, Ab.j3]; done) | (cases kj10 <;> simp [Ab.j0, Ab.j1, Ab.j3]; done) | (cases k3 <;> simp [Ab.j0, Ab.j1, Ab.j3]; done))
        ·rw [if_neg c27] at H
         have c27b0 : decide (a0_1 ≤ a2) = false := decide_eq_false c27
         clear c27
         by_cases c30 : a3 < 0
         ·rw [if_pos c30] at H
          have c30b0 : decide (a3 < 0) = true := decide_eq_true c30
          clear c30
          exact absurd (H.trans (congrArg some HT.out)) (by first | (cases k <;> simp [Ab.j0, Ab.j1, Ab.j3]; done) | (cases kj10 <;> simp [Ab.j0, Ab.j1, Ab.j3]; done) | (cases k3 <;> simp [Ab.j0, Ab.j1, Ab.j3]; done))
         ·rw [if_neg c30] at H
          have c30b0 : decide (a3 < 0) = false := decide_eq_false c30
          clear c30
          by_cases c33 : a4 = 4
          ·rw [if_pos c33] at H
           have c33b0 : (a4 == 4) = true := beq_iff_eq.mpr c33
           have c33b1 : (a4 != 4) = false := bne_eq_false_iff_eq.mpr c33
           clear c33
           by_cases c34 : (t131.length : Int) = 0
           ·rw [if_pos c34] at H
            have c34b0 : ((t131.length : Int) == 0) = true := beq_iff_eq.mpr c34
            have c34b1 : ((t131.length : Int) != 0) = false := bne_eq_false_iff_eq.mpr c34
            clear c34
            exact absurd (H.trans (congrArg some HT.out)) (by first | (cases k <;> simp [Ab.j0, Ab.j1, Ab.j3]; done) | (cases kj10 <;> simp [Ab.j0, Ab.j1, Ab.j3]; done) | (cases k3 <;> simp [Ab.j0, Ab.j1, Ab.j3]; done))
           ·rw [if_neg c34] at H
            have c34b0 : ((t131.length : Int) == 0) = false := beq_eq_false_iff_ne.mpr c34
            have c34b1 : ((t131.length : Int) != 0) = true := bne_iff_ne.mpr c34
            have c34b2 : ¬ (t131 = []) := fun h_ => c34 (by rw [h_]; rfl)
            by_cases c38 : 0 < (t131.length : Int)
            ·rw [if_pos c38] at H
             have c38b0 : decide (0 < (t131.length : Int)) = true := decide_eq_true c38
             have c38b1 : decide (0 < t131.length) = true := decide_eq_true (by omega)
             clear c38
             have H' := Aa.mk H
             clear H
             try go_wp2
             have n0_ := Aa.mk (Kd.Cm HO133.out)
             have n1_ := Aa.mk (Aq BK129.out)
             have n2_ := Aa.mk (Ah HB.out)
             clear HO133
             clear BK129
             clear HB
             have HO133 := n0_
             have BK129 := n1_
             have HB := n2_
             clear n0_ n1_ n2_
             obtain ⟨Ao137, co137, eo137⟩ := Kd.Br HO133.out
             subst eo137
             have p137 : 0 ≤ (0 : Int) := (by omega)
             have q137 : 0 < (t131.length : Int) := of_decide_eq_true (by first | (with_reducible assumption) | assumption)
             obtain ⟨ad137, e137, hx137_0⟩ := Kd.at_int (Kd.As HO133.out).2.2 0 p137 q137
             cases e137
             have qi137 : (0 < t131.length) = True := eq_true (by omega)
             (try rw [show ((0 : Int)).toNat = 0 from rfl] at hx137_0)
             (try rw [Addr.add_zero'] at hx137_0)
             replace p137 := eq_true p137
             replace q137 := eq_true q137
             refine start_ (n := 52) (S := fun w' => w'.cell? ⟨gb129, 0, none⟩ = some (.int .i64 a0_0) ∧ w'.cell? ⟨gb129, 1, none⟩ = some (.int .i64 a0_1) ∧ w'.cell? ⟨gb129, 2, none⟩ = some (.slice A0_2 l0_2.length c0_2) ∧ w'.cell? ad137 = some (.int .i64 (rd t131 0))) (ds := []) #[false, false, false, false, false, false, false, false, false, false, false, false, false, false, false, false, false, false, false, false, false, false, false, false, false, false, false, false, false, false, false, false, false, false, false, false, false, false, false, false, false, false, false, false, false, false, false, false, false, false, false, false] (by kernel_rfl) rfl rfl ⟨(Af BK129.out 0).trans rfl, (Af BK129.out 1).trans rfl, (Af BK129.out 2).trans rfl, hx137_0⟩ (fun hHeld => ?_); refine with_tabW Ab.tab6 Ab.bits6 (fun HT_ HW_ => ?_)
             generalize w15.drew = w39 at HO133 BK129 HB hx137_0 hHeld ⊢
             refine take_ (i := 0) (N := some 40) (v := ?_) (a' := ?_) (bA 52 1) rfl rfl (take_ofW HT_.out HW_.out (by kernel_rfl)) (fun _ _ _ h => h) (Or.inl ⟨by rfl, ?_⟩) hHeld ?_ ?_
             rotate_left; (rintro w' ⟨s0, s1, s2, s3⟩; go_simp; with_reducible rfl); rotate_left; (simp only [Act.put, sA, sB, sC, i64_w, i32_w]; rfl)
             refine one_ (i := 1) (N := some 41) (bA 52 3) rfl rfl (one_of HT_.out (by kernel_rfl)) (by decide) (fun K hK => ?_)
             refine goes_ Try.func33 (by kernel_rfl) rfl #[.agg #[.int .i64 a0_0, .int .i64 a0_1, .slice A0_2 l0_2.length c0_2]] (by rfl) rfl rfl (by (try simp only [List.map_toArray, List.map_cons, List.map_nil]); first | done | rfl | (simp only [List.length_drop, List.length_take]; rfl)) ?_
             with_reducible refine (Cg.calls a0_0 a0_1 _ _ l0_2 t136 _ ?side1 ?side2 A16.out).mono ?_
             (case side1 => repeat (first | exact (Kd.Ce HR0_2.out HB.out) | (with_reducible refine Kd.Bo ?_ _) | (with_reducible refine Kd.B0 ?_ _) | (with_reducible refine Kd.Ca ?_)))
             (case side2 => exact HC0_2.out)
             rintro e w40 ⟨rfl, hb⟩
             have HS3_ := (hb.cell (World.block_lt_of_cell? _ _ (hHeld.2.2.2))).trans (hHeld.2.2.2)
             refine ⟨_, rfl, ?_⟩
             have n0_ := Aa.mk (Kd.At (by exact rU <| HO133.out) hb)
             have n1_ := Aa.mk (Am (g := gb129) (o := .cells #[.int .i64 a0_0, .int .i64 a0_1, .slice A0_2 l0_2.length c0_2] 24 (0, 0)) (by exact bU <| BK129.out) hb)
             have n2_ := Aa.mk (Ap (by repeat (first | (with_reducible first | exact HB.out | apply Ad | apply Ac | apply Ah | refine Ae ?_ GE129.out) | exact HB.out)) hb)
             clear HO133
             clear BK129
             clear HB
             have HO133 := n0_
             have BK129 := n1_
             have HB := n2_
             clear n0_ n1_ n2_
             (try clear hb)
             (try clear hb2)
             (try clear hk)
             (try clear hi)
             obtain ⟨Ao41, co41, eo41⟩ := Kd.Br HO133.out
             (first | subst eo41 | (injection eo41 with f1_ f2_ f3_; have f4_ := f1_.symm; have f5_ := f3_.symm; clear f1_ f2_ f3_; subst f4_; subst f5_))
             refine hK.out _ _ ⟨(Af BK129.out 0).trans rfl, (Af BK129.out 1).trans rfl, (Af BK129.out 2).trans rfl, HS3_⟩ (fun hHeld => ?_)
             clear hK K
             refine norm_ (a' := ?_) ?_ ?_
             rotate_left
             ·show Act.put _ (some 41) _ = _
              simp only [Act.put, sA, sB, sC, i64_w, i32_w]
              rfl
             refine pure_ (i := 2) (N := some 42) (v := ?_) (a' := ?_) (bA 52 7) rfl rfl (any_of HT_.out (by kernel_rfl)) (fun _ _ _ h => h) (Or.inl ⟨by rfl, ?_⟩) ?_ ?_
             rotate_left; (intro w'; go_simp; with_reducible rfl); rotate_left; (simp only [Act.put, sA, sB, sC, i64_w, i32_w]; rfl)
             refine pure_ (i := 3) (N := some 43) (v := ?_) (a' := ?_) (bA 52 15) rfl rfl (any_of HT_.out (by kernel_rfl)) (fun _ _ _ h => h) (Or.inl ⟨by rfl, ?_⟩) ?_ ?_
             rotate_left; (intro w'; go_simp; with_reducible rfl); rotate_left; (simp only [Act.put, sA, sB, sC, i64_w, i32_w]; rfl)
             refine pure_ (i := 4) (N := some 44) (v := ?_) (a' := ?_) (bA 52 31) rfl rfl (any_of HT_.out (by kernel_rfl)) (fun _ _ _ h => h) (Or.inl ⟨by rfl, ?_⟩) ?_ ?_
             rotate_left; (intro w'; go_simp; with_reducible rfl); rotate_left; (simp only [Act.put, sA, sB, sC, i64_w, i32_w]; rfl)
             refine pure_ (i := 5) (N := some 45) (v := ?_) (a' := ?_) (bA 52 63) rfl rfl (any_of HT_.out (by kernel_rfl)) (fun _ _ _ h => h) (Or.inl ⟨by rfl, ?_⟩) ?_ ?_
             rotate_left; (intro w'; go_simp; with_reducible rfl); rotate_left; (simp only [Act.put, sA, sB, sC, i64_w, i32_w]; rfl)
             refine pure_ (i := 6) (N := some 46) (v := ?_) (a' := ?_) (bA 52 127) rfl rfl (any_of HT_.out (by kernel_rfl)) (fun _ _ _ h => h) (Or.inl ⟨by rfl, ?_⟩) ?_ ?_
             rotate_left; (intro w'; go_simp; with_reducible rfl); rotate_left; (simp only [Act.put, sA, sB, sC, i64_w, i32_w]; rfl)
             refine pure_ (i := 7) (N := some 47) (v := ?_) (a' := ?_) (bA 52 255) rfl rfl (any_of HT_.out (by kernel_rfl)) (fun _ _ _ h => h) (Or.inl ⟨by rfl, ?_⟩) ?_ ?_
             rotate_left; (intro w'; go_simp; with_reducible rfl); rotate_left; (simp only [Act.put, sA, sB, sC, i64_w, i32_w]; rfl)
             refine pure_ (i := 8) (N := some 48) (v := ?_) (a' := ?_) (bA 52 511) rfl rfl (any_of HT_.out (by kernel_rfl)) (fun _ _ _ h => h) (Or.inl ⟨by rfl, ?_⟩) ?_ ?_
             rotate_left; (intro w'; go_simp; with_reducible rfl); rotate_left; (simp only [Act.put, sA, sB, sC, i64_w, i32_w]; rfl)
             refine pure_ (i := 9) (N := some 49) (v := ?_) (a' := ?_) (bA 52 1023) rfl rfl (any_of HT_.out (by kernel_rfl)) (fun _ _ _ h => h) (Or.inl ⟨by rfl, ?_⟩) ?_ ?_
             rotate_left; (intro w'; go_simp; with_reducible rfl); rotate_left; (simp only [Act.put, sA, sB, sC, i64_w, i32_w]; rfl)
             refine take_ (i := 10) (N := some 50) (v := ?_) (a' := ?_) (bA 52 2047) rfl rfl (take_ofW HT_.out HW_.out (by kernel_rfl)) (fun _ _ _ h => h) (Or.inl ⟨by rfl, ?_⟩) hHeld ?_ ?_
             rotate_left; (rintro w' ⟨s0, s1, s2, s3⟩; go_simp; with_reducible rfl); rotate_left; (simp only [Act.put, sA, sB, sC, i64_w, i32_w]; rfl)
             refine pure_ (i := 11) (N := some 51) (v := ?_) (a' := ?_) (bA 52 4095) rfl rfl (any_of HT_.out (by kernel_rfl)) (fun _ _ _ h => h) (Or.inl ⟨by rfl, ?_⟩) ?_ ?_
             rotate_left; (intro w'; go_simp; with_reducible rfl); rotate_left; (simp only [Act.put, sA, sB, sC, i64_w, i32_w]; rfl)
             refine pure_ (i := 12) (N := some 52) (v := ?_) (a' := ?_) (bA 52 8191) rfl rfl (any_of HT_.out (by kernel_rfl)) (fun _ _ _ h => h) (Or.inl ⟨by rfl, ?_⟩) ?_ ?_
             rotate_left; (intro w'; go_simp; with_reducible rfl); rotate_left; (simp only [Act.put, sA, sB, sC, i64_w, i32_w]; rfl)
             refine pure_ (i := 13) (N := some 53) (v := ?_) (a' := ?_) (bA 52 16383) rfl rfl (any_of HT_.out (by kernel_rfl)) (fun _ _ _ h => h) (Or.inl ⟨by rfl, ?_⟩) ?_ ?_
             rotate_left; (intro w'; go_simp; with_reducible rfl); rotate_left; (simp only [Act.put, sA, sB, sC, i64_w, i32_w]; rfl)
             refine pure_ (i := 14) (N := some 54) (v := ?_) (a' := ?_) (bA 52 32767) rfl rfl (any_of HT_.out (by kernel_rfl)) (fun _ _ _ h => h) (Or.inl ⟨by rfl, ?_⟩) ?_ ?_
             rotate_left; (intro w'; go_simp; with_reducible rfl); rotate_left; (simp only [Act.put, sA, sB, sC, i64_w, i32_w]; rfl)
             refine pure_ (i := 15) (N := some 55) (v := ?_) (a' := ?_) (bA 52 65535) rfl rfl (any_of HT_.out (by kernel_rfl)) (fun _ _ _ h => h) (Or.inl ⟨by rfl, ?_⟩) ?_ ?_
             rotate_left; (intro w'; go_simp; with_reducible rfl); rotate_left; (simp only [Act.put, sA, sB, sC, i64_w, i32_w]; rfl)
             refine pure_ (i := 16) (N := some 56) (v := ?_) (a' := ?_) (bA 52 131071) rfl rfl (any_of HT_.out (by kernel_rfl)) (fun _ _ _ h => h) (Or.inl ⟨by rfl, ?_⟩) ?_ ?_
             rotate_left; (intro w'; go_simp; with_reducible rfl); rotate_left; (simp only [Act.put, sA, sB, sC, i64_w, i32_w]; rfl)
             refine pure_ (i := 17) (N := some 57) (v := ?_) (a' := ?_) (bA 52 262143) rfl rfl (any_of HT_.out (by kernel_rfl)) (fun _ _ _ h => h) (Or.inl ⟨by rfl, ?_⟩) ?_ ?_
             rotate_left; (intro w'; go_simp; with_reducible rfl); rotate_left; (simp only [Act.put, sA, sB, sC, i64_w, i32_w]; rfl)
             refine pure_ (i := 18) (N := some 58) (v := ?_) (a' := ?_) (bA 52 524287) rfl rfl (any_of HT_.out (by kernel_rfl)) (fun _ _ _ h => h) (Or.inl ⟨by rfl, ?_⟩) ?_ ?_
             rotate_left; (intro w'; go_simp; with_reducible rfl); rotate_left; (simp only [Act.put, sA, sB, sC, i64_w, i32_w]; rfl)
             refine pure_ (i := 19) (N := some 59) (v := ?_) (a' := ?_) (bA 52 1048575) rfl rfl (any_of HT_.out (by kernel_rfl)) (fun _ _ _ h => h) (Or.inl ⟨by rfl, ?_⟩) ?_ ?_
             rotate_left; (intro w'; go_simp; with_reducible rfl); rotate_left; (simp only [Act.put, sA, sB, sC, i64_w, i32_w]; rfl)
             refine take_ (i := 20) (N := some 60) (v := ?_) (a' := ?_) (bA 52 2097151) rfl rfl (take_ofW HT_.out HW_.out (by kernel_rfl)) (fun _ _ _ h => h) (Or.inl ⟨by rfl, ?_⟩) hHeld ?_ ?_
             rotate_left; (rintro w' ⟨s0, s1, s2, s3⟩; go_simp; with_reducible rfl); rotate_left; (simp only [Act.put, sA, sB, sC, i64_w, i32_w]; rfl)
             refine pure_ (i := 21) (N := some 61) (v := ?_) (a' := ?_) (bA 52 4194303) rfl rfl (any_of HT_.out (by kernel_rfl)) (fun _ _ _ h => h) (Or.inl ⟨by rfl, ?_⟩) ?_ ?_
             rotate_left; (intro w'; go_simp; with_reducible rfl); rotate_left; (simp only [Act.put, sA, sB, sC, i64_w, i32_w]; rfl)
             refine pure_ (i := 22) (N := some 62) (v := ?_) (a' := ?_) (bA 52 8388607) rfl rfl (any_of HT_.out (by kernel_rfl)) (fun _ _ _ h => h) (Or.inl ⟨by rfl, ?_⟩) ?_ ?_
             rotate_left; (intro w'; go_simp; with_reducible rfl); rotate_left; (simp only [Act.put, sA, sB, sC, i64_w, i32_w]; rfl)
             refine pure_ (i := 23) (N := some 63) (v := ?_) (a' := ?_) (bA 52 16777215) rfl rfl (any_of HT_.out (by kernel_rfl)) (fun _ _ _ h => h) (Or.inl ⟨by rfl, ?_⟩) ?_ ?_
             rotate_left; (intro w'; go_simp; with_reducible rfl); rotate_left; (simp only [Act.put, sA, sB, sC, i64_w, i32_w]; rfl)
             refine pure_ (i := 24) (N := some 64) (v := ?_) (a' := ?_) (bA 52 33554431) rfl rfl (any_of HT_.out (by kernel_rfl)) (fun _ _ _ h => h) (Or.inl ⟨by rfl, ?_⟩) ?_ ?_
             rotate_left; (intro w'; go_simp; with_reducible rfl); rotate_left; (simp only [Act.put, sA, sB, sC, i64_w, i32_w]; rfl)
             refine pure_ (i := 25) (N := some 65) (v := ?_) (a' := ?_) (bA 52 67108863) rfl rfl (any_of HT_.out (by kernel_rfl)) (fun _ _ _ h => h) (Or.inl ⟨by rfl, ?_⟩) ?_ ?_
             rotate_left; (intro w'; go_simp; with_reducible rfl); rotate_left; (simp only [Act.put, sA, sB, sC, i64_w, i32_w]; rfl)
             refine pure_ (i := 26) (N := some 66) (v := ?_) (a' := ?_) (bA 52 134217727) rfl rfl (any_of HT_.out (by kernel_rfl)) (fun _ _ _ h => h) (Or.inl ⟨by rfl, ?_⟩) ?_ ?_
             rotate_left; (intro w'; go_simp; with_reducible rfl); rotate_left; (simp only [Act.put, sA, sB, sC, i64_w, i32_w]; rfl)
             refine pure_ (i := 27) (N := some 67) (v := ?_) (a' := ?_) (bA 52 268435455) rfl rfl (any_of HT_.out (by kernel_rfl)) (fun _ _ _ h => h) (Or.inl ⟨by rfl, ?_⟩) ?_ ?_
             rotate_left; (intro w'; go_simp; with_reducible rfl); rotate_left; (simp only [Act.put, sA, sB, sC, i64_w, i32_w]; rfl)
             refine pure_ (i := 28) (N := some 68) (v := ?_) (a' := ?_) (bA 52 536870911) rfl rfl (any_of HT_.out (by kernel_rfl)) (fun _ _ _ h => h) (Or.inl ⟨by rfl, ?_⟩) ?_ ?_
             rotate_left; (intro w'; go_simp; with_reducible rfl); rotate_left; (simp only [Act.put, sA, sB, sC, i64_w, i32_w]; rfl)
             refine pure_ (i := 29) (N := some 69) (v := ?_) (a' := ?_) (bA 52 1073741823) rfl rfl (any_of HT_.out (by kernel_rfl)) (fun _ _ _ h => h) (Or.inl ⟨by rfl, ?_⟩) ?_ ?_
             rotate_left; (intro w'; go_simp; with_reducible rfl); rotate_left; (simp only [Act.put, sA, sB, sC, i64_w, i32_w]; rfl)
             refine pure_ (i := 30) (N := some 70) (v := ?_) (a' := ?_) (bA 52 2147483647) rfl rfl (any_of HT_.out (by kernel_rfl)) (fun _ _ _ h => h) (Or.inl ⟨by rfl, ?_⟩) ?_ ?_
             rotate_left; (intro w'; go_simp; with_reducible rfl); rotate_left; (simp only [Act.put, sA, sB, sC, i64_w, i32_w]; rfl)
             refine pure_ (i := 31) (N := some 71) (v := undef) (a' := ?_) (bA 52 4294967295) rfl rfl (any_of HT_.out (by kernel_rfl)) (fun _ _ _ h => h) (Or.inr ⟨by rfl, rfl⟩) ?_ ?_
             rotate_left
             ·simp only [Act.put, sA, sB, sC, i64_w, i32_w]
              rfl
             refine pure_ (i := 32) (N := some 72) (v := undef) (a' := ?_) (bA 52 8589934591) rfl rfl (any_of HT_.out (by kernel_rfl)) (fun _ _ _ h => h) (Or.inr ⟨by rfl, rfl⟩) ?_ ?_
             rotate_left
             ·simp only [Act.put, sA, sB, sC, i64_w, i32_w]
              rfl
             refine pure_ (i := 33) (N := some 73) (v := ?_) (a' := ?_) (bA 52 17179869183) rfl rfl (any_of HT_.out (by kernel_rfl)) (fun _ _ _ h => h) (Or.inl ⟨by rfl, ?_⟩) ?_ ?_
             rotate_left; (intro w'; go_simp; with_reducible rfl); rotate_left; (simp only [Act.put, sA, sB, sC, i64_w, i32_w]; rfl)
             refine pure_ (i := 34) (N := some 74) (v := ?_) (a' := ?_) (bA 52 34359738367) rfl rfl (any_of HT_.out (by kernel_rfl)) (fun _ _ _ h => h) (Or.inl ⟨by rfl, ?_⟩) ?_ ?_
             rotate_left; (intro w'; go_simp; with_reducible rfl); rotate_left; (simp only [Act.put, sA, sB, sC, i64_w, i32_w]; rfl)
             refine pure_ (i := 35) (N := some 75) (v := ?_) (a' := ?_) (bA 52 68719476735) rfl rfl (any_of HT_.out (by kernel_rfl)) (fun _ _ _ h => h) (Or.inl ⟨by rfl, ?_⟩) ?_ ?_
             rotate_left; (intro w'; go_simp; with_reducible rfl); rotate_left; (simp only [Act.put, sA, sB, sC, i64_w, i32_w]; rfl)
             refine pure_ (i := 36) (N := some 76) (v := ?_) (a' := ?_) (bA 52 137438953471) rfl rfl (any_of HT_.out (by kernel_rfl)) (fun _ _ _ h => h) (Or.inl ⟨by rfl, ?_⟩) ?_ ?_
             rotate_left; (intro w'; go_simp; with_reducible rfl); rotate_left; (simp only [Act.put, sA, sB, sC, i64_w, i32_w]; rfl)
             refine pure_ (i := 37) (N := some 77) (v := ?_) (a' := ?_) (bA 52 274877906943) rfl rfl (any_of HT_.out (by kernel_rfl)) (fun _ _ _ h => h) (Or.inl ⟨by rfl, ?_⟩) ?_ ?_
             rotate_left; (intro w'; go_simp; with_reducible rfl); rotate_left; (simp only [Act.put, sA, sB, sC, i64_w, i32_w]; rfl)
             refine pure_ (i := 38) (N := some 78) (v := ?_) (a' := ?_) (bA 52 549755813887) rfl rfl (any_of HT_.out (by kernel_rfl)) (fun _ _ _ h => h) (Or.inl ⟨by rfl, ?_⟩) ?_ ?_
             rotate_left; (intro w'; go_simp; with_reducible rfl); rotate_left; (simp only [Act.put, sA, sB, sC, i64_w, i32_w]; rfl)
             refine pure_ (i := 39) (N := some 79) (v := ?_) (a' := ?_) (bA 52 1099511627775) rfl rfl (any_of HT_.out (by kernel_rfl)) (fun _ _ _ h => h) (Or.inl ⟨by rfl, ?_⟩) ?_ ?_
             rotate_left; (intro w'; go_simp; with_reducible rfl); rotate_left; (simp only [Act.put, sA, sB, sC, i64_w, i32_w]; rfl)
             refine pure_ (i := 40) (N := some 80) (v := ?_) (a' := ?_) (bA 52 2199023255551) rfl rfl (any_of HT_.out (by kernel_rfl)) (fun _ _ _ h => h) (Or.inl ⟨by rfl, ?_⟩) ?_ ?_
             rotate_left; (intro w'; go_simp; with_reducible rfl); rotate_left; (simp only [Act.put, sA, sB, sC, i64_w, i32_w]; rfl)
             refine pure_ (i := 41) (N := some 81) (v := ?_) (a' := ?_) (bA 52 4398046511103) rfl rfl (any_of HT_.out (by kernel_rfl)) (fun _ _ _ h => h) (Or.inl ⟨by rfl, ?_⟩) ?_ ?_
             rotate_left; (intro w'; go_simp; with_reducible rfl); rotate_left; (simp only [Act.put, sA, sB, sC, i64_w, i32_w]; rfl)
             refine pure_ (i := 42) (N := some 82) (v := ?_) (a' := ?_) (bA 52 8796093022207) rfl rfl (any_of HT_.out (by kernel_rfl)) (fun _ _ _ h => h) (Or.inl ⟨by rfl, ?_⟩) ?_ ?_
             rotate_left; (intro w'; go_simp; with_reducible rfl); rotate_left; (simp only [Act.put, sA, sB, sC, i64_w, i32_w]; rfl)
             refine pure_ (i := 44) (N := some 84) (v := ?_) (a' := ?_) (bA 52 26388279066623) rfl rfl (any_of HT_.out (by kernel_rfl)) (fun _ _ _ h => h) (Or.inl ⟨by rfl, ?_⟩) ?_ ?_
             rotate_left; (intro w'; go_simp; with_reducible rfl); rotate_left; (simp only [Act.put, sA, sB, sC, i64_w, i32_w]; rfl)
             refine pure_ (i := 45) (N := some 85) (v := ?_) (a' := ?_) (bA 52 61572651155455) rfl rfl (any_of HT_.out (by kernel_rfl)) (fun _ _ _ h => h) (Or.inl ⟨by rfl, ?_⟩) ?_ ?_
             rotate_left; (intro w'; go_simp; with_reducible rfl); rotate_left; (simp only [Act.put, sA, sB, sC, i64_w, i32_w]; rfl)
             refine pure_ (i := 48) (N := some 88) (v := ?_) (a' := ?_) (bA 52 343047627866111) rfl rfl (any_of HT_.out (by kernel_rfl)) (fun _ _ _ h => h) (Or.inl ⟨by rfl, ?_⟩) ?_ ?_
             rotate_left; (intro w'; go_simp; with_reducible rfl); rotate_left; (simp only [Act.put, sA, sB, sC, i64_w, i32_w]; rfl)
             refine take_ (i := 43) (N := some 83) (v := ?_) (a' := ?_) (bA 52 351843720888319) rfl rfl (take_ofW HT_.out HW_.out (by kernel_rfl)) (fun _ _ _ h => h) (Or.inl ⟨by rfl, ?_⟩) hHeld ?_ ?_
             rotate_left; (rintro w' ⟨s0, s1, s2, s3⟩; go_simp; with_reducible rfl); rotate_left; (simp only [Act.put, sA, sB, sC, i64_w, i32_w]; rfl)
             refine take_ (i := 46) (N := some 86) (v := ?_) (a' := ?_) (bA 52 422212465065983) rfl rfl (take_ofW HT_.out HW_.out (by kernel_rfl)) (fun _ _ _ h => h) (Or.inl ⟨by rfl, ?_⟩) hHeld ?_ ?_
             rotate_left; (rintro w' ⟨s0, s1, s2, s3⟩; go_simp; with_reducible rfl); rotate_left; (simp only [Act.put, sA, sB, sC, i64_w, i32_w]; rfl)
             refine pure_ (i := 47) (N := some 87) (v := ?_) (a' := ?_) (bA 52 562949953421311) rfl rfl (any_of HT_.out (by kernel_rfl)) (fun _ _ _ h => h) (Or.inl ⟨by rfl, ?_⟩) ?_ ?_
             rotate_left; (intro w'; go_simp; with_reducible rfl); rotate_left; (simp only [Act.put, sA, sB, sC, i64_w, i32_w]; rfl)
             refine pure_ (i := 49) (N := some 89) (v := ?_) (a' := ?_) (bA 52 1125899906842623) rfl rfl (any_of HT_.out (by kernel_rfl)) (fun _ _ _ h => h) (Or.inl ⟨by rfl, ?_⟩) ?_ ?_
             rotate_left; (intro w'; go_simp; with_reducible rfl); rotate_left; (simp only [Act.put, sA, sB, sC, i64_w, i32_w]; rfl)
             refine pure_ (i := 50) (N := some 90) (v := ?_) (a' := ?_) (bA 52 2251799813685247) rfl rfl (any_of HT_.out (by kernel_rfl)) (fun _ _ _ h => h) (Or.inl ⟨by rfl, ?_⟩) ?_ ?_
             rotate_left; (intro w'; go_simp; with_reducible rfl); rotate_left; (simp only [Act.put, sA, sB, sC, i64_w, i32_w]; rfl)
             refine pure_ (i := 51) (N := some 91) (v := ?_) (a' := ?_) (bA 52 4503599627370495) rfl rfl (any_of HT_.out (by kernel_rfl)) (fun _ _ _ h => h) (Or.inl ⟨by rfl, ?_⟩) ?_ ?_
             rotate_left; (intro w'; go_simp; with_reducible rfl); rotate_left; (simp only [Act.put, sA, sB, sC, i64_w, i32_w]; rfl)
             refine done_ (done_of HT_.out (by kernel_rfl)) ?_
             try go_wp2
             go_meet
             case rel => exact ⟨_, (((rd t131 0) != (wrap64 ((wrap64 (a2 * a0_0)) + a1)))), (by first | rfl | (simp; done) | (simp [*]; done)), H', ⟨by first | omega | exact Nat.le_refl _⟩, ⟨by exact rU <| HO133.out⟩, ⟨by exact bU <| BK129.out⟩, ⟨by repeat (first | (with_reducible first | exact HB.out | apply Ad | apply Ac | apply Ah | refine Ae ?_ GE129.out) | exact HB.out)⟩⟩
            ·rw [if_neg c38] at H
             exact absurd H (by simp)
          ·rw [if_neg c33] at H
           have c33b0 : (a4 == 4) = false := beq_eq_false_iff_ne.mpr c33
           have c33b1 : (a4 != 4) = true := bne_iff_ne.mpr c33
           by_cases c42 : a4 = 8
           ·rw [if_pos c42] at H
            have c42b0 : (a4 == 8) = true := beq_iff_eq.mpr c42
            have c42b1 : (a4 != 8) = false := bne_eq_false_iff_eq.mpr c42
            clear c42
            by_cases c43 : (t131.length : Int) = 0
            ·rw [if_pos c43] at H
             have c43b0 : ((t131.length : Int) == 0) = true := beq_iff_eq.mpr c43
             have c43b1 : ((t131.length : Int) != 0) = false := bne_eq_false_iff_eq.mpr c43
             clear c43
             exact absurd (H.trans (congrArg some HT.out)) (by first | (cases k <;> simp [Ab.j0, Ab.j1, Ab.j3]; done) | (cases kj10 <;> simp [Ab.j0, Ab.j1, Ab.j3]; done) | (cases k3 <;> simp [Ab.j0, Ab.j1, Ab.j3]; done))
            ·rw [if_neg c43] at H
             have c43b0 : ((t131.length : Int) == 0) = false := beq_eq_false_iff_ne.mpr c43
             have c43b1 : ((t131.length : Int) != 0) = true := bne_iff_ne.mpr c43
             have c43b2 : ¬ (t131 = []) := fun h_ => c43 (by rw [h_]; rfl)
             by_cases c47 : 0 < (t131.length : Int)
             ·rw [if_pos c47] at H
              have c47b0 : decide (0 < (t131.length : Int)) = true := decide_eq_true c47
              have c47b1 : decide (0 < t131.length) = true := decide_eq_true (by omega)
              clear c47
              have H' := Aa.mk H
              clear H
              try go_wp2
              have n0_ := Aa.mk (Kd.Cm HO133.out)
              have n1_ := Aa.mk (Aq BK129.out)
              have n2_ := Aa.mk (Ah HB.out)
              clear HO133
              clear BK129
              clear HB
              have HO133 := n0_
              have BK129 := n1_
              have HB := n2_
              clear n0_ n1_ n2_
              obtain ⟨Ao138, co138, eo138⟩ := Kd.Br HO133.out
              subst eo138
              have p138 : 0 ≤ (0 : Int) := (by omega)
              have q138 : 0 < (t131.length : Int) := of_decide_eq_true (by first | (with_reducible assumption) | assumption)
              obtain ⟨ad138, e138, hx138_0⟩ := Kd.at_int (Kd.As HO133.out).2.2 0 p138 q138
              cases e138
              have qi138 : (0 < t131.length) = True := eq_true (by omega)
              (try rw [show ((0 : Int)).toNat = 0 from rfl] at hx138_0)
              (try rw [Addr.add_zero'] at hx138_0)
              replace p138 := eq_true p138
              replace q138 := eq_true q138
              refine start_ (n := 52) (S := fun w' => w'.cell? ⟨gb129, 0, none⟩ = some (.int .i64 a0_0) ∧ w'.cell? ⟨gb129, 1, none⟩ = some (.int .i64 a0_1) ∧ w'.cell? ⟨gb129, 2, none⟩ = some (.slice A0_2 l0_2.length c0_2) ∧ w'.cell? ad138 = some (.int .i64 (rd t131 0))) (ds := []) #[false, false, false, false, false, false, false, false, false, false, false, false, false, false, false, false, false, false, false, false, false, false, false, false, false, false, false, false, false, false, false, false, false, false, false, false, false, false, false, false, false, false, false, false, false, false, false, false, false, false, false, false] (by kernel_rfl) rfl rfl ⟨(Af BK129.out 0).trans rfl, (Af BK129.out 1).trans rfl, (Af BK129.out 2).trans rfl, hx138_0⟩ (fun hHeld => ?_); refine with_tabW Ab.tab6 Ab.bits6 (fun HT_ HW_ => ?_)
              generalize w15.drew = w48 at HO133 BK129 HB hx138_0 hHeld ⊢
              refine take_ (i := 0) (N := some 40) (v := ?_) (a' := ?_) (bA 52 1) rfl rfl (take_ofW HT_.out HW_.out (by kernel_rfl)) (fun _ _ _ h => h) (Or.inl ⟨by rfl, ?_⟩) hHeld ?_ ?_
              rotate_left; (rintro w' ⟨s0, s1, s2, s3⟩; go_simp; with_reducible rfl); rotate_left; (simp only [Act.put, sA, sB, sC, i64_w, i32_w]; rfl)
              refine one_ (i := 1) (N := some 41) (bA 52 3) rfl rfl (one_of HT_.out (by kernel_rfl)) (by decide) (fun K hK => ?_)
              refine goes_ Try.func33 (by kernel_rfl) rfl #[.agg #[.int .i64 a0_0, .int .i64 a0_1, .slice A0_2 l0_2.length c0_2]] (by rfl) rfl rfl (by (try simp only [List.map_toArray, List.map_cons, List.map_nil]); first | done | rfl | (simp only [List.length_drop, List.length_take]; rfl)) ?_
              with_reducible refine (Cg.calls a0_0 a0_1 _ _ l0_2 t136 _ ?side1 ?side2 A16.out).mono ?_
              (case side1 => repeat (first | exact (Kd.Ce HR0_2.out HB.out) | (with_reducible refine Kd.Bo ?_ _) | (with_reducible refine Kd.B0 ?_ _) | (with_reducible refine Kd.Ca ?_)))
              (case side2 => exact HC0_2.out)
              rintro e w49 ⟨rfl, hb⟩
              have HS3_ := (hb.cell (World.block_lt_of_cell? _ _ (hHeld.2.2.2))).trans (hHeld.2.2.2)
              refine ⟨_, rfl, ?_⟩
              have n0_ := Aa.mk (Kd.At (by exact rU <| HO133.out) hb)
              have n1_ := Aa.mk (Am (g := gb129) (o := .cells #[.int .i64 a0_0, .int .i64 a0_1, .slice A0_2 l0_2.length c0_2] 24 (0, 0)) (by exact bU <| BK129.out) hb)
              have n2_ := Aa.mk (Ap (by repeat (first | (with_reducible first | exact HB.out | apply Ad | apply Ac | apply Ah | refine Ae ?_ GE129.out) | exact HB.out)) hb)
              clear HO133
              clear BK129
              clear HB
              have HO133 := n0_
              have BK129 := n1_
              have HB := n2_
              clear n0_ n1_ n2_
              (try clear hb)
              (try clear hb2)
              (try clear hk)
              (try clear hi)
              obtain ⟨Ao50, co50, eo50⟩ := Kd.Br HO133.out
              (first | subst eo50 | (injection eo50 with f1_ f2_ f3_; have f4_ := f1_.symm; have f5_ := f3_.symm; clear f1_ f2_ f3_; subst f4_; subst f5_))
              refine hK.out _ _ ⟨(Af BK129.out 0).trans rfl, (Af BK129.out 1).trans rfl, (Af BK129.out 2).trans rfl, HS3_⟩ (fun hHeld => ?_)
              clear hK K
              refine norm_ (a' := ?_) ?_ ?_
              rotate_left
              ·show Act.put _ (some 41) _ = _
               simp only [Act.put, sA, sB, sC, i64_w, i32_w]
               rfl
              refine pure_ (i := 2) (N := some 42) (v := ?_) (a' := ?_) (bA 52 7) rfl rfl (any_of HT_.out (by kernel_rfl)) (fun _ _ _ h => h) (Or.inl ⟨by rfl, ?_⟩) ?_ ?_
              rotate_left; (intro w'; go_simp; with_reducible rfl); rotate_left; (simp only [Act.put, sA, sB, sC, i64_w, i32_w]; rfl)
              refine pure_ (i := 3) (N := some 43) (v := ?_) (a' := ?_) (bA 52 15) rfl rfl (any_of HT_.out (by kernel_rfl)) (fun _ _ _ h => h) (Or.inl ⟨by rfl, ?_⟩) ?_ ?_
              rotate_left; (intro w'; go_simp; with_reducible rfl); rotate_left; (simp only [Act.put, sA, sB, sC, i64_w, i32_w]; rfl)
              refine pure_ (i := 4) (N := some 44) (v := ?_) (a' := ?_) (bA 52 31) rfl rfl (any_of HT_.out (by kernel_rfl)) (fun _ _ _ h => h) (Or.inl ⟨by rfl, ?_⟩) ?_ ?_
              rotate_left; (intro w'; go_simp; with_reducible rfl); rotate_left; (simp only [Act.put, sA, sB, sC, i64_w, i32_w]; rfl)
              refine pure_ (i := 5) (N := some 45) (v := ?_) (a' := ?_) (bA 52 63) rfl rfl (any_of HT_.out (by kernel_rfl)) (fun _ _ _ h => h) (Or.inl ⟨by rfl, ?_⟩) ?_ ?_
              rotate_left; (intro w'; go_simp; with_reducible rfl); rotate_left; (simp only [Act.put, sA, sB, sC, i64_w, i32_w]; rfl)
              refine pure_ (i := 6) (N := some 46) (v := ?_) (a' := ?_) (bA 52 127) rfl rfl (any_of HT_.out (by kernel_rfl)) (fun _ _ _ h => h) (Or.inl ⟨by rfl, ?_⟩) ?_ ?_
              rotate_left; (intro w'; go_simp; with_reducible rfl); rotate_left; (simp only [Act.put, sA, sB, sC, i64_w, i32_w]; rfl)
              refine pure_ (i := 7) (N := some 47) (v := ?_) (a' := ?_) (bA 52 255) rfl rfl (any_of HT_.out (by kernel_rfl)) (fun _ _ _ h => h) (Or.inl ⟨by rfl, ?_⟩) ?_ ?_
              rotate_left; (intro w'; go_simp; with_reducible rfl); rotate_left; (simp only [Act.put, sA, sB, sC, i64_w, i32_w]; rfl)
              refine pure_ (i := 8) (N := some 48) (v := ?_) (a' := ?_) (bA 52 511) rfl rfl (any_of HT_.out (by kernel_rfl)) (fun _ _ _ h => h) (Or.inl ⟨by rfl, ?_⟩) ?_ ?_
              rotate_left; (intro w'; go_simp; with_reducible rfl); rotate_left; (simp only [Act.put, sA, sB, sC, i64_w, i32_w]; rfl)
              refine pure_ (i := 9) (N := some 49) (v := ?_) (a' := ?_) (bA 52 1023) rfl rfl (any_of HT_.out (by kernel_rfl)) (fun _ _ _ h => h) (Or.inl ⟨by rfl, ?_⟩) ?_ ?_
              rotate_left; (intro w'; go_simp; with_reducible rfl); rotate_left; (simp only [Act.put, sA, sB, sC, i64_w, i32_w]; rfl)
              refine take_ (i := 10) (N := some 50) (v := ?_) (a' := ?_) (bA 52 2047) rfl rfl (take_ofW HT_.out HW_.out (by kernel_rfl)) (fun _ _ _ h => h) (Or.inl ⟨by rfl, ?_⟩) hHeld ?_ ?_
              rotate_left; (rintro w' ⟨s0, s1, s2, s3⟩; go_simp; with_reducible rfl); rotate_left; (simp only [Act.put, sA, sB, sC, i64_w, i32_w]; rfl)
              refine pure_ (i := 11) (N := some 51) (v := ?_) (a' := ?_) (bA 52 4095) rfl rfl (any_of HT_.out (by kernel_rfl)) (fun _ _ _ h => h) (Or.inl ⟨by rfl, ?_⟩) ?_ ?_
              rotate_left; (intro w'; go_simp; with_reducible rfl); rotate_left; (simp only [Act.put, sA, sB, sC, i64_w, i32_w]; rfl)
              refine pure_ (i := 12) (N := some 52) (v := ?_) (a' := ?_) (bA 52 8191) rfl rfl (any_of HT_.out (by kernel_rfl)) (fun _ _ _ h => h) (Or.inl ⟨by rfl, ?_⟩) ?_ ?_
              rotate_left; (intro w'; go_simp; with_reducible rfl); rotate_left; (simp only [Act.put, sA, sB, sC, i64_w, i32_w]; rfl)
              refine pure_ (i := 13) (N := some 53) (v := ?_) (a' := ?_) (bA 52 16383) rfl rfl (any_of HT_.out (by kernel_rfl)) (fun _ _ _ h => h) (Or.inl ⟨by rfl, ?_⟩) ?_ ?_
              rotate_left; (intro w'; go_simp; with_reducible rfl); rotate_left; (simp only [Act.put, sA, sB, sC, i64_w, i32_w]; rfl)
              refine pure_ (i := 14) (N := some 54) (v := ?_) (a' := ?_) (bA 52 32767) rfl rfl (any_of HT_.out (by kernel_rfl)) (fun _ _ _ h => h) (Or.inl ⟨by rfl, ?_⟩) ?_ ?_
              rotate_left; (intro w'; go_simp; with_reducible rfl); rotate_left; (simp only [Act.put, sA, sB, sC, i64_w, i32_w]; rfl)
              refine pure_ (i := 15) (N := some 55) (v := ?_) (a' := ?_) (bA 52 65535) rfl rfl (any_of HT_.out (by kernel_rfl)) (fun _ _ _ h => h) (Or.inl ⟨by rfl, ?_⟩) ?_ ?_
              rotate_left; (intro w'; go_simp; with_reducible rfl); rotate_left; (simp only [Act.put, sA, sB, sC, i64_w, i32_w]; rfl)
              refine pure_ (i := 16) (N := some 56) (v := ?_) (a' := ?_) (bA 52 131071) rfl rfl (any_of HT_.out (by kernel_rfl)) (fun _ _ _ h => h) (Or.inl ⟨by rfl, ?_⟩) ?_ ?_
              rotate_left; (intro w'; go_simp; with_reducible rfl); rotate_left; (simp only [Act.put, sA, sB, sC, i64_w, i32_w]; rfl)
              refine pure_ (i := 17) (N := some 57) (v := ?_) (a' := ?_) (bA 52 262143) rfl rfl (any_of HT_.out (by kernel_rfl)) (fun _ _ _ h => h) (Or.inl ⟨by rfl, ?_⟩) ?_ ?_
              rotate_left; (intro w'; go_simp; with_reducible rfl); rotate_left; (simp only [Act.put, sA, sB, sC, i64_w, i32_w]; rfl)
              refine pure_ (i := 18) (N := some 58) (v := ?_) (a' := ?_) (bA 52 524287) rfl rfl (any_of HT_.out (by kernel_rfl)) (fun _ _ _ h => h) (Or.inl ⟨by rfl, ?_⟩) ?_ ?_
              rotate_left; (intro w'; go_simp; with_reducible rfl); rotate_left; (simp only [Act.put, sA, sB, sC, i64_w, i32_w]; rfl)
              refine pure_ (i := 19) (N := some 59) (v := ?_) (a' := ?_) (bA 52 1048575) rfl rfl (any_of HT_.out (by kernel_rfl)) (fun _ _ _ h => h) (Or.inl ⟨by rfl, ?_⟩) ?_ ?_
              rotate_left; (intro w'; go_simp; with_reducible rfl); rotate_left; (simp only [Act.put, sA, sB, sC, i64_w, i32_w]; rfl)
              refine take_ (i := 20) (N := some 60) (v := ?_) (a' := ?_) (bA 52 2097151) rfl rfl (take_ofW HT_.out HW_.out (by kernel_rfl)) (fun _ _ _ h => h) (Or.inl ⟨by rfl, ?_⟩) hHeld ?_ ?_
              rotate_left; (rintro w' ⟨s0, s1, s2, s3⟩; go_simp; with_reducible rfl); rotate_left; (simp only [Act.put, sA, sB, sC, i64_w, i32_w]; rfl)
              refine pure_ (i := 21) (N := some 61) (v := ?_) (a' := ?_) (bA 52 4194303) rfl rfl (any_of HT_.out (by kernel_rfl)) (fun _ _ _ h => h) (Or.inl ⟨by rfl, ?_⟩) ?_ ?_
              rotate_left; (intro w'; go_simp; with_reducible rfl); rotate_left; (simp only [Act.put, sA, sB, sC, i64_w, i32_w]; rfl)
              refine pure_ (i := 22) (N := some 62) (v := ?_) (a' := ?_) (bA 52 8388607) rfl rfl (any_of HT_.out (by kernel_rfl)) (fun _ _ _ h => h) (Or.inl ⟨by rfl, ?_⟩) ?_ ?_
              rotate_left; (intro w'; go_simp; with_reducible rfl); rotate_left; (simp only [Act.put, sA, sB, sC, i64_w, i32_w]; rfl)
              refine pure_ (i := 23) (N := some 63) (v := ?_) (a' := ?_) (bA 52 16777215) rfl rfl (any_of HT_.out (by kernel_rfl)) (fun _ _ _ h => h) (Or.inl ⟨by rfl, ?_⟩) ?_ ?_
              rotate_left; (intro w'; go_simp; with_reducible rfl); rotate_left; (simp only [Act.put, sA, sB, sC, i64_w, i32_w]; rfl)
              refine pure_ (i := 24) (N := some 64) (v := ?_) (a' := ?_) (bA 52 33554431) rfl rfl (any_of HT_.out (by kernel_rfl)) (fun _ _ _ h => h) (Or.inl ⟨by rfl, ?_⟩) ?_ ?_
              rotate_left; (intro w'; go_simp; with_reducible rfl); rotate_left; (simp only [Act.put, sA, sB, sC, i64_w, i32_w]; rfl)
              refine pure_ (i := 25) (N := some 65) (v := ?_) (a' := ?_) (bA 52 67108863) rfl rfl (any_of HT_.out (by kernel_rfl)) (fun _ _ _ h => h) (Or.inl ⟨by rfl, ?_⟩) ?_ ?_
              rotate_left; (intro w'; go_simp; with_reducible rfl); rotate_left; (simp only [Act.put, sA, sB, sC, i64_w, i32_w]; rfl)
              refine pure_ (i := 26) (N := some 66) (v := ?_) (a' := ?_) (bA 52 134217727) rfl rfl (any_of HT_.out (by kernel_rfl)) (fun _ _ _ h => h) (Or.inl ⟨by rfl, ?_⟩) ?_ ?_
              rotate_left; (intro w'; go_simp; with_reducible rfl); rotate_left; (simp only [Act.put, sA, sB, sC, i64_w, i32_w]; rfl)
              refine pure_ (i := 27) (N := some 67) (v := ?_) (a' := ?_) (bA 52 268435455) rfl rfl (any_of HT_.out (by kernel_rfl)) (fun _ _ _ h => h) (Or.inl ⟨by rfl, ?_⟩) ?_ ?_
              rotate_left; (intro w'; go_simp; with_reducible rfl); rotate_left; (simp only [Act.put, sA, sB, sC, i64_w, i32_w]; rfl)
              refine pure_ (i := 28) (N := some 68) (v := ?_) (a' := ?_) (bA 52 536870911) rfl rfl (any_of HT_.out (by kernel_rfl)) (fun _ _ _ h => h) (Or.inl ⟨by rfl, ?_⟩) ?_ ?_
              rotate_left; (intro w'; go_simp; with_reducible rfl); rotate_left; (simp only [Act.put, sA, sB, sC, i64_w, i32_w]; rfl)
              refine pure_ (i := 29) (N := some 69) (v := ?_) (a' := ?_) (bA 52 1073741823) rfl rfl (any_of HT_.out (by kernel_rfl)) (fun _ _ _ h => h) (Or.inl ⟨by rfl, ?_⟩) ?_ ?_
              rotate_left; (intro w'; go_simp; with_reducible rfl); rotate_left; (simp only [Act.put, sA, sB, sC, i64_w, i32_w]; rfl)
              refine pure_ (i := 30) (N := some 70) (v := ?_) (a' := ?_) (bA 52 2147483647) rfl rfl (any_of HT_.out (by kernel_rfl)) (fun _ _ _ h => h) (Or.inl ⟨by rfl, ?_⟩) ?_ ?_
              rotate_left; (intro w'; go_simp; with_reducible rfl); rotate_left; (simp only [Act.put, sA, sB, sC, i64_w, i32_w]; rfl)
              refine pure_ (i := 31) (N := some 71) (v := ?_) (a' := ?_) (bA 52 4294967295) rfl rfl (any_of HT_.out (by kernel_rfl)) (fun _ _ _ h => h) (Or.inl ⟨by rfl, ?_⟩) ?_ ?_
              rotate_left; (intro w'; go_simp; with_reducible rfl); rotate_left; (simp only [Act.put, sA, sB, sC, i64_w, i32_w]; rfl)
              refine pure_ (i := 32) (N := some 72) (v := ?_) (a' := ?_) (bA 52 8589934591) rfl rfl (any_of HT_.out (by kernel_rfl)) (fun _ _ _ h => h) (Or.inl ⟨by rfl, ?_⟩) ?_ ?_
              rotate_left; (intro w'; go_simp; with_reducible rfl); rotate_left; (simp only [Act.put, sA, sB, sC, i64_w, i32_w]; rfl)
              refine pure_ (i := 33) (N := some 73) (v := ?_) (a' := ?_) (bA 52 17179869183) rfl rfl (any_of HT_.out (by kernel_rfl)) (fun _ _ _ h => h) (Or.inl ⟨by rfl, ?_⟩) ?_ ?_
              rotate_left; (intro w'; go_simp; with_reducible rfl); rotate_left; (simp only [Act.put, sA, sB, sC, i64_w, i32_w]; rfl)
              refine pure_ (i := 34) (N := some 74) (v := ?_) (a' := ?_) (bA 52 34359738367) rfl rfl (any_of HT_.out (by kernel_rfl)) (fun _ _ _ h => h) (Or.inl ⟨by rfl, ?_⟩) ?_ ?_
              rotate_left; (intro w'; go_simp; with_reducible rfl); rotate_left; (simp only [Act.put, sA, sB, sC, i64_w, i32_w]; rfl)
              refine pure_ (i := 35) (N := some 75) (v := ?_) (a' := ?_) (bA 52 68719476735) rfl rfl (any_of HT_.out (by kernel_rfl)) (fun _ _ _ h => h) (Or.inl ⟨by rfl, ?_⟩) ?_ ?_
              rotate_left; (intro w'; go_simp; with_reducible rfl); rotate_left; (simp only [Act.put, sA, sB, sC, i64_w, i32_w]; rfl)
              refine pure_ (i := 36) (N := some 76) (v := ?_) (a' := ?_) (bA 52 137438953471) rfl rfl (any_of HT_.out (by kernel_rfl)) (fun _ _ _ h => h) (Or.inl ⟨by rfl, ?_⟩) ?_ ?_
              rotate_left; (intro w'; go_simp; with_reducible rfl); rotate_left; (simp only [Act.put, sA, sB, sC, i64_w, i32_w]; rfl)
              refine pure_ (i := 37) (N := some 77) (v := ?_) (a' := ?_) (bA 52 274877906943) rfl rfl (any_of HT_.out (by kernel_rfl)) (fun _ _ _ h => h) (Or.inl ⟨by rfl, ?_⟩) ?_ ?_
              rotate_left; (intro w'; go_simp; with_reducible rfl); rotate_left; (simp only [Act.put, sA, sB, sC, i64_w, i32_w]; rfl)
              refine pure_ (i := 38) (N := some 78) (v := ?_) (a' := ?_) (bA 52 549755813887) rfl rfl (any_of HT_.out (by kernel_rfl)) (fun _ _ _ h => h) (Or.inl ⟨by rfl, ?_⟩) ?_ ?_
              rotate_left; (intro w'; go_simp; with_reducible rfl); rotate_left; (simp only [Act.put, sA, sB, sC, i64_w, i32_w]; rfl)
              refine pure_ (i := 39) (N := some 79) (v := ?_) (a' := ?_) (bA 52 1099511627775) rfl rfl (any_of HT_.out (by kernel_rfl)) (fun _ _ _ h => h) (Or.inl ⟨by rfl, ?_⟩) ?_ ?_
              rotate_left; (intro w'; go_simp; with_reducible rfl); rotate_left; (simp only [Act.put, sA, sB, sC, i64_w, i32_w]; rfl)
              refine pure_ (i := 40) (N := some 80) (v := ?_) (a' := ?_) (bA 52 2199023255551) rfl rfl (any_of HT_.out (by kernel_rfl)) (fun _ _ _ h => h) (Or.inl ⟨by rfl, ?_⟩) ?_ ?_
              rotate_left; (intro w'; go_simp; with_reducible rfl); rotate_left; (simp only [Act.put, sA, sB, sC, i64_w, i32_w]; rfl)
              refine pure_ (i := 41) (N := some 81) (v := ?_) (a' := ?_) (bA 52 4398046511103) rfl rfl (any_of HT_.out (by kernel_rfl)) (fun _ _ _ h => h) (Or.inl ⟨by rfl, ?_⟩) ?_ ?_
              rotate_left; (intro w'; go_simp; with_reducible rfl); rotate_left; (simp only [Act.put, sA, sB, sC, i64_w, i32_w]; rfl)
              refine pure_ (i := 42) (N := some 82) (v := ?_) (a' := ?_) (bA 52 8796093022207) rfl rfl (any_of HT_.out (by kernel_rfl)) (fun _ _ _ h => h) (Or.inl ⟨by rfl, ?_⟩) ?_ ?_
              rotate_left; (intro w'; go_simp; with_reducible rfl); rotate_left; (simp only [Act.put, sA, sB, sC, i64_w, i32_w]; rfl)
              refine pure_ (i := 44) (N := some 84) (v := ?_) (a' := ?_) (bA 52 26388279066623) rfl rfl (any_of HT_.out (by kernel_rfl)) (fun _ _ _ h => h) (Or.inl ⟨by rfl, ?_⟩) ?_ ?_
              rotate_left; (intro w'; go_simp; with_reducible rfl); rotate_left; (simp only [Act.put, sA, sB, sC, i64_w, i32_w]; rfl)
              refine pure_ (i := 45) (N := some 85) (v := ?_) (a' := ?_) (bA 52 61572651155455) rfl rfl (any_of HT_.out (by kernel_rfl)) (fun _ _ _ h => h) (Or.inl ⟨by rfl, ?_⟩) ?_ ?_
              rotate_left; (intro w'; go_simp; with_reducible rfl); rotate_left; (simp only [Act.put, sA, sB, sC, i64_w, i32_w]; rfl)
              refine pure_ (i := 48) (N := some 88) (v := ?_) (a' := ?_) (bA 52 343047627866111) rfl rfl (any_of HT_.out (by kernel_rfl)) (fun _ _ _ h => h) (Or.inl ⟨by rfl, ?_⟩) ?_ ?_
              rotate_left; (intro w'; go_simp; with_reducible rfl); rotate_left; (simp only [Act.put, sA, sB, sC, i64_w, i32_w]; rfl)
              refine take_ (i := 43) (N := some 83) (v := ?_) (a' := ?_) (bA 52 351843720888319) rfl rfl (take_ofW HT_.out HW_.out (by kernel_rfl)) (fun _ _ _ h => h) (Or.inl ⟨by rfl, ?_⟩) hHeld ?_ ?_
              rotate_left; (rintro w' ⟨s0, s1, s2, s3⟩; go_simp; with_reducible rfl); rotate_left; (simp only [Act.put, sA, sB, sC, i64_w, i32_w]; rfl)
              refine take_ (i := 46) (N := some 86) (v := ?_) (a' := ?_) (bA 52 422212465065983) rfl rfl (take_ofW HT_.out HW_.out (by kernel_rfl)) (fun _ _ _ h => h) (Or.inl ⟨by rfl, ?_⟩) hHeld ?_ ?_
              rotate_left; (rintro w' ⟨s0, s1, s2, s3⟩; go_simp; with_reducible rfl); rotate_left; (simp only [Act.put, sA, sB, sC, i64_w, i32_w]; rfl)
              refine pure_ (i := 47) (N := some 87) (v := ?_) (a' := ?_) (bA 52 562949953421311) rfl rfl (any_of HT_.out (by kernel_rfl)) (fun _ _ _ h => h) (Or.inl ⟨by rfl, ?_⟩) ?_ ?_
              rotate_left; (intro w'; go_simp; with_reducible rfl); rotate_left; (simp only [Act.put, sA, sB, sC, i64_w, i32_w]; rfl)
              refine pure_ (i := 49) (N := some 89) (v := ?_) (a' := ?_) (bA 52 1125899906842623) rfl rfl (any_of HT_.out (by kernel_rfl)) (fun _ _ _ h => h) (Or.inl ⟨by rfl, ?_⟩) ?_ ?_
              rotate_left; (intro w'; go_simp; with_reducible rfl); rotate_left; (simp only [Act.put, sA, sB, sC, i64_w, i32_w]; rfl)
              refine pure_ (i := 50) (N := some 90) (v := ?_) (a' := ?_) (bA 52 2251799813685247) rfl rfl (any_of HT_.out (by kernel_rfl)) (fun _ _ _ h => h) (Or.inl ⟨by rfl, ?_⟩) ?_ ?_
              rotate_left; (intro w'; go_simp; with_reducible rfl); rotate_left; (simp only [Act.put, sA, sB, sC, i64_w, i32_w]; rfl)
              refine pure_ (i := 51) (N := some 91) (v := ?_) (a' := ?_) (bA 52 4503599627370495) rfl rfl (any_of HT_.out (by kernel_rfl)) (fun _ _ _ h => h) (Or.inl ⟨by rfl, ?_⟩) ?_ ?_
              rotate_left; (intro w'; go_simp; with_reducible rfl); rotate_left; (simp only [Act.put, sA, sB, sC, i64_w, i32_w]; rfl)
              refine done_ (done_of HT_.out (by kernel_rfl)) ?_
              try go_wp2
              go_meet
              case rel => exact ⟨_, (((rd t131 0) != (wrap64 ((wrap64 (a2 * a0_0)) + a1)))), (by first | rfl | (simp; done) | (simp [*]; done)), H', ⟨by first | omega | exact Nat.le_refl _⟩, ⟨by exact rU <| HO133.out⟩, ⟨by exact bU <| BK129.out⟩, ⟨by repeat (first | (with_reducible first | exact HB.out | apply Ad | apply Ac | apply Ah | refine Ae ?_ GE129.out) | exact HB.out)⟩⟩
             ·rw [if_neg c47] at H
              exact absurd H (by simp)
           ·rw [if_neg c42] at H
            have c42b0 : (a4 == 8) = false := beq_eq_false_iff_ne.mpr c42
            have c42b1 : (a4 != 8) = true := bne_iff_ne.mpr c42
            exact absurd (H.trans (congrArg some HT.out)) (by first | (cases k <;> simp [Ab.j0, Ab.j1, Ab.j3]; done) | (cases kj10 <;> simp [Ab.j0, Ab.j1, Ab.j3]; done) | (cases k3 <;> simp [Ab.j0, Ab.j1, Ab.j3]; done))
    ·rw [if_neg c17] at H
     have c17b0 : (t136 == 0) = false := beq_eq_false_iff_ne.mpr c17
     have c17b1 : (t136 != 0) = true := bne_iff_ne.mpr c17
     (first | rw [c17b0] | (simp only [i64_w, i32_w]; rw [c17b0]) | skip)
     exact absurd (H.trans (congrArg some HT.out)) (by first | (cases k <;> simp [Ab.j0, Ab.j1, Ab.j3]; done) | (cases kj10 <;> simp [Ab.j0, Ab.j1, Ab.j3]; done) | (cases k3 <;> simp [Ab.j0, Ab.j1, Ab.j3]; done))
   case rest => as_aux_lemma =>
    clear HC11
    try clear c1
    try clear p2
    try clear c3
    try clear c17
    try clear c17b0
    try clear c17b1
    try clear c33
    obtain ⟨kq, x91_10, rfl, HA, HJ10, HO_11, BK129, HB⟩ := hcut
    cases kq with
    | zero => exact absurd HA.out (by simp [Ab.j0])
    | succ kj10 =>
     have H := HA.out
     clear HA
     simp only [Ab.j0] at H
     by_cases c55 : x91_10 = true
     ·subst c55
      have H1 : (some false) = some r := by rw [if_pos rfl] at H; exact H
      clear H
      have H := H1
      clear H1
      exact absurd (H.trans (congrArg some HT.out)) (by decide)
     ·replace c55 := Bool.eq_false_iff.mpr c55
      subst c55
      have H1 : (if 0 < (t131.length : Int) then ((Bs.f kj10 a0_0 a0_1 l0_2 (rd t131 0) a3).bind fun bt140 => ((Ci.f bt140.1 bt140.2.1 bt140.2.2 a4).bind fun bt146 => ((B3.f bt146.2.2).bind fun t151 => (if t151 = 0 then (Ab.j1 kj10 a4 t131 bt146.1 ((bt146.1.length : Int) != (l0_2.length : Int)) a0_0 a0_1 l0_2) else (Ab.j1 kj10 a4 t131 bt146.1 true a0_0 a0_1 l0_2))))) else (none)) = some r := by rw [if_neg (show ¬ (false = true) by decide)] at H; exact H
      clear H
      have H := H1
      clear H1
      by_cases c56 : 0 < (t131.length : Int)
      ·rw [if_pos c56] at H
       have c56b0 : decide (0 < (t131.length : Int)) = true := decide_eq_true c56
       have c56b1 : decide (0 < t131.length) = true := decide_eq_true (by omega)
       clear c56
       replace H := Option.bind_eq_some_iff.mp H
       obtain ⟨⟨t140, t141, t142⟩, A570, H⟩ := H
       replace H : ((Ci.f t140 t141 t142 a4).bind fun bt146 => ((B3.f bt146.2.2).bind fun t151 => (if t151 = 0 then (Ab.j1 kj10 a4 t131 bt146.1 ((bt146.1.length : Int) != (l0_2.length : Int)) a0_0 a0_1 l0_2) else (Ab.j1 kj10 a4 t131 bt146.1 true a0_0 a0_1 l0_2)))) = some r := H
       have A57 := Aa.mk A570
       clear A570
       replace H := Option.bind_eq_some_iff.mp H
       obtain ⟨⟨t146, t149, t150⟩, A580, H⟩ := H
       replace H : ((B3.f t150).bind fun t151 => (if t151 = 0 then (Ab.j1 kj10 a4 t131 t146 ((t146.length : Int) != (l0_2.length : Int)) a0_0 a0_1 l0_2) else (Ab.j1 kj10 a4 t131 t146 true a0_0 a0_1 l0_2))) = some r := H
       have A58 := Aa.mk A580
       clear A580
       have HC59 := Aa.mk H
       clear H
       try go_wp2
       have n0_ := Aa.mk (Kd.Cm HO_11.out)
       have n1_ := Aa.mk (Aq BK129.out)
       have n2_ := Aa.mk (Ah HB.out)
       clear HO_11
       clear BK129
       clear HB
       have HO_11 := n0_
       have BK129 := n1_
       have HB := n2_
       clear n0_ n1_ n2_
       obtain ⟨Ao61, co61, eo61⟩ := Kd.Br HO_11.out
       (first | subst eo61 | (injection eo61 with f1_ f2_ f3_; have f4_ := f1_.symm; have f5_ := f3_.symm; clear f1_ f2_ f3_; subst f4_; subst f5_))
       have p139 : 0 ≤ (0 : Int) := (by omega)
       have q139 : 0 < (t131.length : Int) := of_decide_eq_true (by first | (with_reducible assumption) | assumption)
       obtain ⟨ad139, e139, hx139_0⟩ := Kd.at_int (Kd.As HO_11.out).2.2 0 p139 q139
       cases e139
       have qi139 : (0 < t131.length) = True := eq_true (by omega)
       (try rw [show ((0 : Int)).toNat = 0 from rfl] at hx139_0)
       (try rw [Addr.add_zero'] at hx139_0)
       replace p139 := eq_true p139
       replace q139 := eq_true q139
       refine start_ (n := 8) (S := fun w' => w'.cell? ⟨gb129, 0, none⟩ = some (.int .i64 a0_0) ∧ w'.cell? ⟨gb129, 1, none⟩ = some (.int .i64 a0_1) ∧ w'.cell? ⟨gb129, 2, none⟩ = some (.slice A0_2 l0_2.length c0_2) ∧ w'.cell? ad139 = some (.int .i64 (rd t131 0))) (ds := []) #[false, false, false, false, false, false, false, false] (by kernel_rfl) rfl rfl ⟨(Af BK129.out 0).trans rfl, (Af BK129.out 1).trans rfl, (Af BK129.out 2).trans rfl, hx139_0⟩ (fun hHeld => ?_); refine with_tabW Ab.tab8 Ab.bits8 (fun HT_ HW_ => ?_)
       generalize wc.drew = w60 at HO_11 BK129 HB hx139_0 hHeld ⊢
       refine pure_ (i := 1) (N := some 93) (v := ?_) (a' := ?_) (bA 8 2) rfl rfl (any_of HT_.out (by kernel_rfl)) (fun _ _ _ h => h) (Or.inl ⟨by rfl, ?_⟩) ?_ ?_
       rotate_left; (intro w'; go_simp; with_reducible rfl); rotate_left; (simp only [Act.put, sA, sB, sC, i64_w, i32_w]; rfl)
       refine pure_ (i := 2) (N := some 94) (v := ?_) (a' := ?_) (bA 8 6) rfl rfl (any_of HT_.out (by kernel_rfl)) (fun _ _ _ h => h) (Or.inl ⟨by rfl, ?_⟩) ?_ ?_
       rotate_left; (intro w'; go_simp; with_reducible rfl); rotate_left; (simp only [Act.put, sA, sB, sC, i64_w, i32_w]; rfl)
       refine pure_ (i := 4) (N := some 96) (v := ?_) (a' := ?_) (bA 8 22) rfl rfl (any_of HT_.out (by kernel_rfl)) (fun _ _ _ h => h) (Or.inl ⟨by rfl, ?_⟩) ?_ ?_
       rotate_left; (intro w'; go_simp; with_reducible rfl); rotate_left; (simp only [Act.put, sA, sB, sC, i64_w, i32_w]; rfl)
       refine take_ (i := 0) (N := some 92) (v := ?_) (a' := ?_) (bA 8 23) rfl rfl (take_ofW HT_.out HW_.out (by kernel_rfl)) (fun _ _ _ h => h) (Or.inl ⟨by rfl, ?_⟩) hHeld ?_ ?_
       rotate_left; (rintro w' ⟨s0, s1, s2, s3⟩; go_simp; with_reducible rfl); rotate_left; (simp only [Act.put, sA, sB, sC, i64_w, i32_w]; rfl)
       refine take_ (i := 3) (N := some 95) (v := ?_) (a' := ?_) (bA 8 31) rfl rfl (take_ofW HT_.out HW_.out (by kernel_rfl)) (fun _ _ _ h => h) (Or.inl ⟨by rfl, ?_⟩) hHeld ?_ ?_
       rotate_left; (rintro w' ⟨s0, s1, s2, s3⟩; go_simp; with_reducible rfl); rotate_left; (simp only [Act.put, sA, sB, sC, i64_w, i32_w]; rfl)
       refine join_ (σ := Value × Nat) 1 #[true, true, true, true, true, true, true, false] (fun s_ => [(97, .agg #[.int .i64 t140, .int .i64 t141, s_.1]), (13, .pointer (some ⟨s_.2, 0, none⟩))]) (fun s_ w' => (w'.cell? ⟨gb129, 0, none⟩ = some (.int .i64 a0_0) ∧ w'.cell? ⟨gb129, 1, none⟩ = some (.int .i64 a0_1) ∧ w'.cell? ⟨gb129, 2, none⟩ = some (.slice A0_2 l0_2.length c0_2) ∧ w'.cell? ad139 = some (.int .i64 (rd t131 0))) ∧ (Kd.R Kd.bool 4 w' w.heap.size (fun _ => True) s_.1 t142) ∧ (Kd.R (Kd.int .i64) 3 w' w.heap.size (fun _ => True) (.slice (some ad139) t131.length co61) t131) ∧ (w'.heap[gb129]? = some (.cells #[.int .i64 a0_0, .int .i64 a0_1, .slice A0_2 l0_2.length c0_2] 24 (0, 0))) ∧ (w'.heap[s_.2]? = some (.cells #[.int .i64 0, .int .i64 0, .slice none 0 0] 50 (0, 0))) ∧ (w.heap.size ≤ s_.2) ∧ (w.heap.size ≤ s_.2) ∧ (gb129 ≠ s_.2) ∧ (s_.2 ≠ gb129) ∧ (Below w.heap.size w w')) ?_ ?_
       rotate_left
       ·intro hCont
        refine two_ (i := 5) (j := 6) (Ni := some 97) (Nj := some 13) #[true, true, true, true, true, true, false, false] #[true, true, true, true, true, false, true, false] rfl rfl rfl rfl (two_of HT_.out (by kernel_rfl)) (by decide) (by decide) (fun K hK => ?_) (fun K hK => ?_)
        ·skip
         refine goes_ Try.func34 (by kernel_rfl) rfl #[.agg #[.int .i64 a0_0, .int .i64 a0_1, .slice A0_2 l0_2.length c0_2], .int .i64 (rd t131 0), .int .i64 a3] (by rfl) rfl rfl (by (try simp only [List.map_toArray, List.map_cons, List.map_nil]); first | done | rfl | (simp only [List.length_drop, List.length_take]; rfl)) ?_
         with_reducible refine (Bs.calls kj10 a0_0 a0_1 _ _ l0_2 (rd t131 0) a3 t140 t141 t142 _ ?side1 ?side2 A57.out).mono ?_
         (case side1 => repeat (first | exact (Kd.Ce HR0_2.out HB.out) | (with_reducible refine Kd.Bo ?_ _) | (with_reducible refine Kd.B0 ?_ _) | (with_reducible refine Kd.Ca ?_)))
         (case side2 => exact HC0_2.out)
         rintro e w62 ⟨v143, rfl, ho0, hb⟩
         have HS3_ := (hb.cell (World.block_lt_of_cell? _ _ (hHeld.2.2.2))).trans (hHeld.2.2.2)
         refine ⟨_, rfl, ?_⟩
         have n0_ := Aa.mk (Kd.At (by exact rU <| HO_11.out) hb)
         have n1_ := Aa.mk (Kd.B2 ho0 (Ak (by repeat (first | (with_reducible first | exact HB.out | apply Ad | apply Ac | apply Ah | refine Ae ?_ GE129.out) | exact HB.out))))
         have n2_ := Aa.mk (Am (g := gb129) (o := .cells #[.int .i64 a0_0, .int .i64 a0_1, .slice A0_2 l0_2.length c0_2] 24 (0, 0)) (by exact bU <| BK129.out) hb)
         have n3_ := Aa.mk (Ap (by repeat (first | (with_reducible first | exact HB.out | apply Ad | apply Ac | apply Ah | refine Ae ?_ GE129.out) | exact HB.out)) hb)
         clear HO_11
         clear BK129
         clear HB
         have HO_11 := n0_
         have HO144 := n1_
         have BK129 := n2_
         have HB := n3_
         clear n0_ n1_ n2_ n3_
         (try clear hb)
         (try clear hb2)
         (try clear hk)
         (try clear hi)
         (try clear ho0)
         refine hK.out _ _ ⟨(Af BK129.out 0).trans rfl, (Af BK129.out 1).trans rfl, (Af BK129.out 2).trans rfl, HS3_⟩ (fun hHeld => ?_)
         clear hK K
         refine norm_ (a' := ?_) ?_ ?_
         rotate_left
         ·show Act.put _ (some 97) _ = _
          simp only [Act.put, sA, sB, sC, i64_w, i32_w]
          rfl
         refine one_ (i := 6) (N := some 13) (bA 8 127) rfl rfl (one_of HT_.out (by kernel_rfl)) (by decide) (fun K hK => ?_)
         refine box_step ?hg (N := 13) ?hd (cs := #[.int .i64 0, .int .i64 0, .slice none 0 0]) (t := 50) ?hr ?_; (case hd => rfl); (case hg => rfl); (case hr => first | (go_simp; done) | (go_simp; rfl))
         intro gb145 hg w63 hbox hb
         have HS3_ := (hb.cell (World.block_lt_of_cell? _ _ (hHeld.2.2.2))).trans (hHeld.2.2.2)
         have n0_ := Aa.mk (Kd.At (by exact rU <| HO_11.out) hb)
         have n1_ := Aa.mk (Kd.At (by exact rU <| HO144.out) hb)
         have n2_ := Aa.mk (Am (g := gb129) (o := .cells #[.int .i64 a0_0, .int .i64 a0_1, .slice A0_2 l0_2.length c0_2] 24 (0, 0)) (by exact bU <| BK129.out) hb)
         have n3_ := Aa.mk (Ap (by repeat (first | (with_reducible first | exact HB.out | apply Ad | apply Ac | apply Ah | refine Ae ?_ GE129.out) | exact HB.out)) hb)
         have n4_ := Aa.mk (hbox)
         have n5_ := Aa.mk ((by rw [hg]; exact (Ak (by repeat (first | (with_reducible first | exact HB.out | apply Ad | apply Ac | apply Ah | refine Ae ?_ GE129.out) | exact HB.out))) : w.heap.size ≤ gb145))
         have n6_ := Aa.mk ((by rw [hg]; exact (Ak (by repeat (first | (with_reducible first | exact HB.out | apply Ad | apply Ac | apply Ah | refine Ae ?_ GE129.out) | exact HB.out))) : w.heap.size ≤ gb145))
         have n7_ := Aa.mk ((by rw [hg]; exact Nat.ne_of_lt (Bp (g := gb129) (o := .cells #[.int .i64 a0_0, .int .i64 a0_1, .slice A0_2 l0_2.length c0_2] 24 (0, 0)) (by exact bU <| BK129.out)) : gb129 ≠ gb145))
         have n8_ := Aa.mk ((by rw [hg]; exact Nat.ne_of_gt (Bp (g := gb129) (o := .cells #[.int .i64 a0_0, .int .i64 a0_1, .slice A0_2 l0_2.length c0_2] 24 (0, 0)) (by exact bU <| BK129.out)) : gb145 ≠ gb129))
         clear HO_11
         clear HO144
         clear BK129
         clear HB
         have HO_11 := n0_
         have HO144 := n1_
         have BK129 := n2_
         have HB := n3_
         have BK145 := n4_
         have GW145 := n5_
         have GE145 := n6_
         have NB129_145 := n7_
         have NB145_129 := n8_
         clear n0_ n1_ n2_ n3_ n4_ n5_ n6_ n7_ n8_
         clear hb hbox hg
         refine hK.out _ _ ⟨(Af BK129.out 0).trans rfl, (Af BK129.out 1).trans rfl, (Af BK129.out 2).trans rfl, HS3_⟩ (fun hHeld => ?_)
         clear hK K
         refine norm_ (a' := ?_) ?_ ?_
         rotate_left
         ·show Act.put _ (some 13) _ = _
          simp only [Act.put, sA, sB, sC, i64_w, i32_w]
          rfl
         exact norm_ (by simp only [putAll, Act.put, sA, sB, sC]) (hCont (v143, gb145) _ ⟨hHeld, (by exact rU <| HO144.out), (by exact rU <| HO_11.out), (by exact bU <| BK129.out), (by exact bU <| BK145.out), GW145.out, GE145.out, NB129_145.out, NB145_129.out, (by repeat (first | (with_reducible first | exact HB.out | apply Ad | apply Ac | apply Ah | refine Ae ?_ GE129.out | refine Ae ?_ GE145.out) | exact HB.out))⟩)
        ·skip
         refine box_step ?hg (N := 13) ?hd (cs := #[.int .i64 0, .int .i64 0, .slice none 0 0]) (t := 50) ?hr ?_; (case hd => rfl); (case hg => rfl); (case hr => first | (go_simp; done) | (go_simp; rfl))
         intro gb145 hg w62 hbox hb
         have HS3_ := (hb.cell (World.block_lt_of_cell? _ _ (hHeld.2.2.2))).trans (hHeld.2.2.2)
         have n0_ := Aa.mk (Kd.At (by exact rU <| HO_11.out) hb)
         have n1_ := Aa.mk (Am (g := gb129) (o := .cells #[.int .i64 a0_0, .int .i64 a0_1, .slice A0_2 l0_2.length c0_2] 24 (0, 0)) (by exact bU <| BK129.out) hb)
         have n2_ := Aa.mk (Ap (by repeat (first | (with_reducible first | exact HB.out | apply Ad | apply Ac | apply Ah | refine Ae ?_ GE129.out) | exact HB.out)) hb)
         have n3_ := Aa.mk (hbox)
         have n4_ := Aa.mk ((by rw [hg]; exact (Ak (by repeat (first | (with_reducible first | exact HB.out | apply Ad | apply Ac | apply Ah | refine Ae ?_ GE129.out) | exact HB.out))) : w.heap.size ≤ gb145))
         have n5_ := Aa.mk ((by rw [hg]; exact (Ak (by repeat (first | (with_reducible first | exact HB.out | apply Ad | apply Ac | apply Ah | refine Ae ?_ GE129.out) | exact HB.out))) : w.heap.size ≤ gb145))
         have n6_ := Aa.mk ((by rw [hg]; exact Nat.ne_of_lt (Bp (g := gb129) (o := .cells #[.int .i64 a0_0, .int .i64 a0_1, .slice A0_2 l0_2.length c0_2] 24 (0, 0)) (by exact bU <| BK129.out)) : gb129 ≠ gb145))
         have n7_ := Aa.mk ((by rw [hg]; exact Nat.ne_of_gt (Bp (g := gb129) (o := .cells #[.int .i64 a0_0, .int .i64 a0_1, .slice A0_2 l0_2.length c0_2] 24 (0, 0)) (by exact bU <| BK129.out)) : gb145 ≠ gb129))
         clear HO_11
         clear BK129
         clear HB
         have HO_11 := n0_
         have BK129 := n1_
         have HB := n2_
         have BK145 := n3_
         have GW145 := n4_
         have GE145 := n5_
         have NB129_145 := n6_
         have NB145_129 := n7_
         clear n0_ n1_ n2_ n3_ n4_ n5_ n6_ n7_
         clear hb hbox hg
         refine hK.out _ _ ⟨(Af BK129.out 0).trans rfl, (Af BK129.out 1).trans rfl, (Af BK129.out 2).trans rfl, HS3_⟩ (fun hHeld => ?_)
         clear hK K
         refine norm_ (a' := ?_) ?_ ?_
         rotate_left
         ·show Act.put _ (some 13) _ = _
          simp only [Act.put, sA, sB, sC, i64_w, i32_w]
          rfl
         refine one_ (i := 5) (N := some 97) (bA 8 127) rfl rfl (one_of HT_.out (by kernel_rfl)) (by decide) (fun K hK => ?_)
         refine goes_ Try.func34 (by kernel_rfl) rfl #[.agg #[.int .i64 a0_0, .int .i64 a0_1, .slice A0_2 l0_2.length c0_2], .int .i64 (rd t131 0), .int .i64 a3] (by rfl) rfl rfl (by (try simp only [List.map_toArray, List.map_cons, List.map_nil]); first | done | rfl | (simp only [List.length_drop, List.length_take]; rfl)) ?_
         with_reducible refine (Bs.calls kj10 a0_0 a0_1 _ _ l0_2 (rd t131 0) a3 t140 t141 t142 _ ?side1 ?side2 A57.out).mono ?_
         (case side1 => repeat (first | exact (Kd.Ce HR0_2.out HB.out) | (with_reducible refine Kd.Bo ?_ _) | (with_reducible refine Kd.B0 ?_ _) | (with_reducible refine Kd.Ca ?_)))
         (case side2 => exact HC0_2.out)
         rintro e w63 ⟨v143, rfl, ho0, hb⟩
         have HS3_ := (hb.cell (World.block_lt_of_cell? _ _ (hHeld.2.2.2))).trans (hHeld.2.2.2)
         refine ⟨_, rfl, ?_⟩
         have n0_ := Aa.mk (Kd.At (by exact rU <| HO_11.out) hb)
         have n1_ := Aa.mk (Kd.B2 ho0 (Ak (by repeat (first | (with_reducible first | exact HB.out | apply Ad | apply Ac | apply Ah | refine Ae ?_ GE129.out | refine Ae ?_ GE145.out) | exact HB.out))))
         have n2_ := Aa.mk (Am (g := gb129) (o := .cells #[.int .i64 a0_0, .int .i64 a0_1, .slice A0_2 l0_2.length c0_2] 24 (0, 0)) (by exact bU <| BK129.out) hb)
         have n3_ := Aa.mk (Am (g := gb145) (o := .cells #[.int .i64 0, .int .i64 0, .slice none 0 0] 50 (0, 0)) (by exact bU <| BK145.out) hb)
         have n4_ := Aa.mk (Ap (by repeat (first | (with_reducible first | exact HB.out | apply Ad | apply Ac | apply Ah | refine Ae ?_ GE129.out | refine Ae ?_ GE145.out) | exact HB.out)) hb)
         clear HO_11
         clear BK129
         clear BK145
         clear HB
         have HO_11 := n0_
         have HO144 := n1_
         have BK129 := n2_
         have BK145 := n3_
         have HB := n4_
         clear n0_ n1_ n2_ n3_ n4_
         (try clear hb)
         (try clear hb2)
         (try clear hk)
         (try clear hi)
         (try clear ho0)
         refine hK.out _ _ ⟨(Af BK129.out 0).trans rfl, (Af BK129.out 1).trans rfl, (Af BK129.out 2).trans rfl, HS3_⟩ (fun hHeld => ?_)
         clear hK K
         refine norm_ (a' := ?_) ?_ ?_
         rotate_left
         ·show Act.put _ (some 97) _ = _
          simp only [Act.put, sA, sB, sC, i64_w, i32_w]
          rfl
         exact norm_ (by simp only [putAll, Act.put, sA, sB, sC]) (hCont (v143, gb145) _ ⟨hHeld, (by exact rU <| HO144.out), (by exact rU <| HO_11.out), (by exact bU <| BK129.out), (by exact bU <| BK145.out), GW145.out, GE145.out, NB129_145.out, NB145_129.out, (by repeat (first | (with_reducible first | exact HB.out | apply Ad | apply Ac | apply Ah | refine Ae ?_ GE129.out | refine Ae ?_ GE145.out) | exact HB.out))⟩)
       rintro ⟨v143, gb145⟩ w64 ⟨hS_, h0_, h1_, h2_, h3_, h4_, h5_, h6_, h7_, h8_⟩
       have n0_ : Aa (Kd.R Kd.bool 4 w64 w.heap.size (fun _ => True) v143 t142) := ⟨h0_⟩
       have n1_ : Aa (Kd.R (Kd.int .i64) 3 w64 w.heap.size (fun _ => True) (.slice (some ad139) t131.length co61) t131) := ⟨h1_⟩
       have n2_ : Aa (w64.heap[gb129]? = some (.cells #[.int .i64 a0_0, .int .i64 a0_1, .slice A0_2 l0_2.length c0_2] 24 (0, 0))) := ⟨h2_⟩
       have n3_ : Aa (w64.heap[gb145]? = some (.cells #[.int .i64 0, .int .i64 0, .slice none 0 0] 50 (0, 0))) := ⟨h3_⟩
       have n4_ : Aa (w.heap.size ≤ gb145) := ⟨h4_⟩
       have n5_ : Aa (w.heap.size ≤ gb145) := ⟨h5_⟩
       have n6_ : Aa (gb129 ≠ gb145) := ⟨h6_⟩
       have n7_ : Aa (gb145 ≠ gb129) := ⟨h7_⟩
       have n8_ : Aa (Below w.heap.size w w64) := ⟨h8_⟩
       clear HO_11
       clear BK129
       clear HB
       clear h0_ h1_ h2_ h3_ h4_ h5_ h6_ h7_ h8_
       have HO144 := n0_
       have HO_11 := n1_
       have BK129 := n2_
       have BK145 := n3_
       have GW145 := n4_
       have GE145 := n5_
       have NB129_145 := n6_
       have NB145_129 := n7_
       have HB := n8_
       clear n0_ n1_ n2_ n3_ n4_ n5_ n6_ n7_ n8_
       have hHeld : w64.cell? ⟨gb129, 0, none⟩ = some (.int .i64 a0_0) ∧ w64.cell? ⟨gb129, 1, none⟩ = some (.int .i64 a0_1) ∧ w64.cell? ⟨gb129, 2, none⟩ = some (.slice A0_2 l0_2.length c0_2) ∧ w64.cell? ad139 = some (.int .i64 (rd t131 0)) := hS_
       obtain ⟨Ao67, co67, eo67⟩ := Kd.Br HO144.out
       (first | subst eo67 | (injection eo67 with f1_ f2_ f3_; have f4_ := f1_.symm; have f5_ := f3_.symm; clear f1_ f2_ f3_; subst f4_; subst f5_))
       refine norm_ (a' := ?_) ?_ ?_
       rotate_left
       ·simp only [putAll, Act.put, sA, sB, sC]
        rfl
       refine one_ (i := 7) (N := none) (bA 8 255) rfl rfl (one_of HT_.out (by kernel_rfl)) (by decide) (fun K hK => ?_)
       have hs65 : w64.cell? ⟨gb145, 0, none⟩ = some (.int .i64 0) := (Af BK145.out 0).trans rfl
       have hfs65 := Ag BK145.out 0
       have hns65_0 := NB129_145.out
       have hms65_0 := NB145_129.out
       have hs66 : w64.cell? ⟨gb145, 1, none⟩ = some (.int .i64 0) := (Af BK145.out 1).trans rfl
       have hfs66 := Ag BK145.out 1
       have hns66_0 := NB129_145.out
       have hms66_0 := NB145_129.out
       have hs68 : w64.cell? ⟨gb145, 2, none⟩ = some (.slice none 0 0) := (Af BK145.out 2).trans rfl
       have hfs68 := Ag BK145.out 2
       have hns68_0 := NB129_145.out
       have hms68_0 := NB145_129.out
       refine skip_ (w1 := ?_) (by rfl) rfl ?_ ?_
       rotate_left
       ·go_simp
        rfl
       refine hK.out _ _ ⟨((cell_far (p := ⟨gb145, _, none⟩) NB129_145.out _).trans (((cell_far (p := ⟨gb145, _, none⟩) NB129_145.out _).trans (((cell_far (p := ⟨gb145, _, none⟩) NB129_145.out _).trans (hHeld.1)))))), ((cell_far (p := ⟨gb145, _, none⟩) NB129_145.out _).trans (((cell_far (p := ⟨gb145, _, none⟩) NB129_145.out _).trans (((cell_far (p := ⟨gb145, _, none⟩) NB129_145.out _).trans (hHeld.2.1)))))), ((cell_far (p := ⟨gb145, _, none⟩) NB129_145.out _).trans (((cell_far (p := ⟨gb145, _, none⟩) NB129_145.out _).trans (((cell_far (p := ⟨gb145, _, none⟩) NB129_145.out _).trans (hHeld.2.2.1)))))), ((cell_far (p := ⟨gb145, _, none⟩) (by first | exact Kd.Dc (Kd.C1 HO_11.out BK145.out (by decide)) | (rw [add_block]; exact Kd.Dc (Kd.C1 HO_11.out BK145.out (by decide))) | (show (Addr.add _ _).block ≠ _; rw [add_block]; exact Kd.Dc (Kd.C1 HO_11.out BK145.out (by decide))) | (dsimp only; exact Kd.Dc (Kd.C1 HO_11.out BK145.out (by decide)))) _).trans (((cell_far (p := ⟨gb145, _, none⟩) (by first | exact Kd.Dc (Kd.C1 HO_11.out BK145.out (by decide)) | (rw [add_block]; exact Kd.Dc (Kd.C1 HO_11.out BK145.out (by decide))) | (show (Addr.add _ _).block ≠ _; rw [add_block]; exact Kd.Dc (Kd.C1 HO_11.out BK145.out (by decide))) | (dsimp only; exact Kd.Dc (Kd.C1 HO_11.out BK145.out (by decide)))) _).trans (((cell_far (p := ⟨gb145, _, none⟩) (by first | exact Kd.Dc (Kd.C1 HO_11.out BK145.out (by decide)) | (rw [add_block]; exact Kd.Dc (Kd.C1 HO_11.out BK145.out (by decide))) | (show (Addr.add _ _).block ≠ _; rw [add_block]; exact Kd.Dc (Kd.C1 HO_11.out BK145.out (by decide))) | (dsimp only; exact Kd.Dc (Kd.C1 HO_11.out BK145.out (by decide)))) _).trans (hHeld.2.2.2))))))⟩ (fun hHeld => ?_)
       clear hK K
       refine done_ (done_of HT_.out (by kernel_rfl)) ?_
       have hnb69 := NB145_129.out
       have hnc69 := NB129_145.out
       have hcz70_0 : w64.cell? ⟨gb145, 0, none⟩ = some (.int .i64 0) := (Af BK145.out 0).trans rfl
       have hcz70_1 : w64.cell? ⟨gb145, 1, none⟩ = some (.int .i64 0) := (Af BK145.out 1).trans rfl
       have hcz70_2 : w64.cell? ⟨gb145, 2, none⟩ = some (.slice none 0 0) := (Af BK145.out 2).trans rfl
       have hfz70_0 := Ag BK145.out 0
       have hfz70_1 := Ag BK145.out 1
       have hfz70_2 := Ag BK145.out 2
       go_upto_region 10 with ((with_reducible refine Bd (f := 25) rfl ?_); refine Cb (some 101) rfl rfl Try.func25 (by kernel_rfl) rfl #[.agg #[.int .i64 t140, .int .i64 t141, .slice Ao67 t142.length co67], .int .i64 a4] rfl (by (try simp only [List.map_toArray, List.map_cons, List.map_nil]); first | done | rfl | (simp only [List.length_drop, List.length_take]; rfl)) ?_; (with_reducible refine (Ci.calls t140 t141 _ _ t142 a4 t146 t149 t150 _ ?side1 ?side2 A58.out).mono ?_); (case side1 => refine (Kd.As (e := 4) (base := w.heap.size) (ok := fun k_ => True) (n := t142.length) (c := co67) ?_).2.2; exact (by exact rU <| (Kd.Bj (Kd.Bb (p := ⟨gb145, 2, none⟩) (Kd.Bb (p := ⟨gb145, 1, none⟩) (Kd.Bb (p := ⟨gb145, 0, none⟩) (Kd.Bz HO144.out BK145.out (by decide)) (fun _ hk => hk.2) (.int .i64 t140)) (fun _ hk => hk.2) (.int .i64 t141)) (fun _ hk => hk.2) (.slice Ao67 t142.length co67)) (fun _ h_ => h_.1)))); (case side2 => exact (Kd.As HO144.out).2.1); rintro e w71 ⟨v147, rfl, ho0, hb⟩; refine ⟨_, rfl, ?_⟩; have n0_ := Aa.mk (Kd.Bt (by exact rU <| (Kd.Bj (Kd.Bb (p := ⟨gb145, 2, none⟩) (Kd.Bb (p := ⟨gb145, 1, none⟩) (Kd.Bb (p := ⟨gb145, 0, none⟩) (Kd.Bz HO_11.out BK145.out (by decide)) (fun _ hk => hk.2) (.int .i64 t140)) (fun _ hk => hk.2) (.int .i64 t141)) (fun _ hk => hk.2) (.slice Ao67 t142.length co67)) (fun _ h_ => h_.1))) (Kd.B9 ho0) hb); have n1_ := Aa.mk (Kd.At (by exact rU <| (Kd.Bj (Kd.Bb (p := ⟨gb145, 2, none⟩) (Kd.Bb (p := ⟨gb145, 1, none⟩) (Kd.Bb (p := ⟨gb145, 0, none⟩) (Kd.Bz HO144.out BK145.out (by decide)) (fun _ hk => hk.2) (.int .i64 t140)) (fun _ hk => hk.2) (.int .i64 t141)) (fun _ hk => hk.2) (.slice Ao67 t142.length co67)) (fun _ h_ => h_.1))) hb); have n2_ := Aa.mk (Kd.B2 (Kd.B7 ho0 (Kd.Cp (by exact rU <| (Kd.Bj (Kd.Bb (p := ⟨gb145, 2, none⟩) (Kd.Bb (p := ⟨gb145, 1, none⟩) (Kd.Bb (p := ⟨gb145, 0, none⟩) (Kd.Bz HO_11.out BK145.out (by decide)) (fun _ hk => hk.2) (.int .i64 t140)) (fun _ hk => hk.2) (.int .i64 t141)) (fun _ hk => hk.2) (.slice Ao67 t142.length co67)) (fun _ h_ => h_.1))))) (Ak (by repeat (first | (with_reducible first | exact HB.out | apply Ad | apply Ac | apply Ah | refine Ae ?_ GE129.out | refine Ae ?_ GE145.out) | exact HB.out)))); have n3_ := Aa.mk (Am (g := gb129) (o := .cells #[.int .i64 a0_0, .int .i64 a0_1, .slice A0_2 l0_2.length c0_2] 24 (0, 0)) (by (with_reducible repeat (first | refine Ar ?_ _ | refine Aq ?_ | refine Aj ?_ _)); refine Ba ?_ NB129_145.out _; (with_reducible repeat (first | refine Ar ?_ _ | refine Aq ?_ | refine Aj ?_ _)); refine Ba ?_ NB129_145.out _; (with_reducible repeat (first | refine Ar ?_ _ | refine Aq ?_ | refine Aj ?_ _)); refine Ba ?_ NB129_145.out _; exact bU <| BK129.out) hb); have n4_ := Aa.mk (Am (g := gb145) (o := .cells #[.int .i64 t140, .int .i64 t141, .slice Ao67 t142.length co67] 50 (0, 0)) (by (with_reducible repeat (first | refine Ar ?_ _ | refine Aq ?_ | refine Aj ?_ _)); refine Be (cs := #[.int .i64 t140, .int .i64 t141, .slice none 0 0]) ?_ 2 _ rfl; (with_reducible repeat (first | refine Ar ?_ _ | refine Aq ?_ | refine Aj ?_ _)); refine Be (cs := #[.int .i64 t140, .int .i64 0, .slice none 0 0]) ?_ 1 _ rfl; (with_reducible repeat (first | refine Ar ?_ _ | refine Aq ?_ | refine Aj ?_ _)); refine Be (cs := #[.int .i64 0, .int .i64 0, .slice none 0 0]) ?_ 0 _ rfl; exact bU <| BK145.out) hb); have n5_ := Aa.mk (Ap (by repeat (first | (with_reducible first | exact HB.out | apply Ad | apply Ac | apply Ah | refine Ae ?_ GE129.out | refine Ae ?_ GE145.out) | exact HB.out)) hb); clear HO_11; clear HO144; clear BK129; clear BK145; clear HB; have HO_11 := n0_; have HO144 := n1_; have HO148 := n2_; have BK129 := n3_; have BK145 := n4_; have HB := n5_; clear n0_ n1_ n2_ n3_ n4_ n5_; (try clear hb); (try clear hb2); (try clear hk); (try clear hi); (try clear ho0))
       (try simp only [Act.put, sA, sB, sC])
       go_cut [115] (fun v115 wc => ∃ (kq : Nat) (x115_58 : Bool), v115 = .bool x115_58 ∧ Aa (Ab.j1 kq a4 t131 t146 x115_58 a0_0 a0_1 l0_2 = some r) ∧ Aa (kq ≤ kj10) ∧ Aa (Kd.R (Kd.int .i64) 3 wc w.heap.size (fun k_ => some k_ ≠ (v147 : Value).ownBlock) (.slice (some ad139) t131.length co61) t131) ∧ Aa (Kd.R (Kd.int .i64) 3 wc w.heap.size (fun k_ => some k_ ≠ ((.slice (some ad139) t131.length co61) : Value).ownBlock) v147 t146) ∧ Aa (Kd.R Kd.bool 4 wc w.heap.size (fun _ => True) (.slice Ao67 t142.length co67) t142) ∧ Aa (wc.heap[gb129]? = some (.cells #[.int .i64 a0_0, .int .i64 a0_1, (.slice A0_2 l0_2.length c0_2)] 24 (0, 0))) ∧ Aa (wc.heap[gb145]? = some (.cells #[.int .i64 t140, .int .i64 t141, (.slice Ao67 t142.length co67)] 50 (0, 0))) ∧ Aa (Below w.heap.size w wc))
       case first => as_aux_lemma =>
        have H := HC59.out
        clear HC59
        replace H := Option.bind_eq_some_iff.mp H
        obtain ⟨t151, A720, H⟩ := H
        replace H : (if t151 = 0 then (Ab.j1 kj10 a4 t131 t146 ((t146.length : Int) != (l0_2.length : Int)) a0_0 a0_1 l0_2) else (Ab.j1 kj10 a4 t131 t146 true a0_0 a0_1 l0_2)) = some r := H
        have A72 := Aa.mk A720
        clear A720
        by_cases c73 : t151 = 0
        ·rw [if_pos c73] at H
         have c73b0 : (t151 == 0) = true := beq_iff_eq.mpr c73
         have c73b1 : (t151 != 0) = false := bne_eq_false_iff_eq.mpr c73
         clear c73
         (first | rw [c73b0] | (simp only [i64_w, i32_w]; rw [c73b0]) | skip)
         have H' := Aa.mk H
         clear H
         go_wp2_with ((with_reducible refine Bd (f := 17) rfl ?_); refine Cb (some 106) rfl rfl Try.func17 (by kernel_rfl) rfl #[.int .i64 t150] rfl (by (try simp only [List.map_toArray, List.map_cons, List.map_nil]); first | done | rfl | (simp only [List.length_drop, List.length_take]; rfl)) ?_; (with_reducible refine (B3.calls t150 t151 _ A72.out).mono ?_); rintro e w' ⟨rfl, ⟨nd, rfl⟩⟩; refine ⟨_, rfl, ?_⟩; obtain ⟨Ao74, co74, eo74⟩ := Kd.Br HO148.out; subst eo74; have hnb75 := NB129_145.out; have hnc75 := NB145_129.out; have hcz76_0 : w71.cell? ⟨gb129, 0, none⟩ = some (.int .i64 a0_0) := (Af BK129.out 0).trans rfl; have hcz76_1 : w71.cell? ⟨gb129, 1, none⟩ = some (.int .i64 a0_1) := (Af BK129.out 1).trans rfl; have hcz76_2 : w71.cell? ⟨gb129, 2, none⟩ = some (.slice A0_2 l0_2.length c0_2) := (Af BK129.out 2).trans rfl; have hfz76_0 := Ag BK129.out 0; have hfz76_1 := Ag BK129.out 1; have hfz76_2 := Ag BK129.out 2)
         go_meet
         case rel => exact ⟨_, (((t146.length : Int) != (l0_2.length : Int))), (by first | rfl | (simp; done) | (simp [*]; done)), H', ⟨by have := HJ10.out; first | omega | exact Nat.le_refl _⟩, ⟨by exact rU <| Kd.Bj HO_11.out (fun _ hk => hk.2)⟩, ⟨by exact rU <| Kd.Bj HO148.out (fun _ hk => hk.2)⟩, ⟨by exact rU <| HO144.out⟩, ⟨by exact bU <| BK129.out⟩, ⟨by exact bU <| BK145.out⟩, ⟨by repeat (first | (with_reducible first | exact HB.out | apply Ad | apply Ac | apply Ah | refine Ae ?_ GE129.out | refine Ae ?_ GE145.out) | exact HB.out)⟩⟩
        ·rw [if_neg c73] at H
         have c73b0 : (t151 == 0) = false := beq_eq_false_iff_ne.mpr c73
         have c73b1 : (t151 != 0) = true := bne_iff_ne.mpr c73
         (first | rw [c73b0] | (simp only [i64_w, i32_w]; rw [c73b0]) | skip)
         exact absurd (H.trans (congrArg some HT.out)) (by first | (cases k <;> simp [Ab.j0, Ab.j1, Ab.j3]; done) | (cases kj10 <;> simp [Ab.j0, Ab.j1, Ab.j3]; done) | (cases k3 <;> simp [Ab.j0, Ab.j1, Ab.j3]; done))
       case rest => as_aux_lemma =>
        clear HC59
        try clear c1
        try clear p1
        try clear q1
        try clear hx1
        try clear qi1
        try clear c2
        try clear p2
        try clear c3
        try clear c5
        try clear c6
        try clear c7
        try clear p13
        try clear q13
        try clear hx13
        try clear qi13
        try clear c17
        try clear c17b0
        try clear c17b1
        try clear c25
        try clear c33
        try clear c34
        try clear c55
        try clear c56
        try clear c56b0
        try clear c56b1
        try clear c69
        try clear c73
        try clear c73b0
        try clear c73b1
        try clear c75
        try clear hcz70_0
        try clear hcz70_1
        try clear hcz70_2
        try clear hcz76_0
        try clear hcz76_1
        try clear hcz76_2
        try clear hfz70_0
        try clear hfz70_1
        try clear hfz70_2
        try clear hfz76_0
        try clear hfz76_1
        try clear hfz76_2
        try clear hx139_0
        try clear p139
        try clear p2
        try clear q139
        obtain ⟨kq, x115_58, rfl, HA, HJ58, HO_11, HO_14, HO_146002, BK129, BK145, HB⟩ := hcut
        cases kq with
        | zero => exact absurd HA.out (by simp [Ab.j1])
        | succ kj58 =>
         have H := HA.out
         clear HA
         simp only [Ab.j1] at H
         by_cases c77 : x115_58 = true
         ·subst c77
          have H1 : (some false) = some r := by rw [if_pos rfl] at H; exact H
          clear H
          have H := H1
          clear H1
          exact absurd (H.trans (congrArg some HT.out)) (by decide)
         ·replace c77 := Bool.eq_false_iff.mpr c77
          subst c77
          have H1 : (if 0 ≤ (l0_2.length : Int) then (if ((l0_2.length : Int) : Int).toNat ≤ 35184372088832 then (Ab.l0 kj58 a4 t131 t146 (List.replicate ((l0_2.length : Int) : Int).toNat 0) 0 a0_0 a0_1 l0_2) else (none)) else (none)) = some r := by rw [if_neg (show ¬ (false = true) by decide)] at H; exact H
          clear H
          have H := H1
          clear H1
          by_cases c78 : 0 ≤ (l0_2.length : Int)
          ·rw [if_pos c78] at H
           have c78b0 := eq_true c78
           have c78b1 : decide (0 ≤ (l0_2.length : Int)) = true := decide_eq_true c78
           clear c78
           by_cases c79 : ((l0_2.length : Int) : Int).toNat ≤ 35184372088832
           ·rw [if_pos c79] at H
            have c79b0 := eq_true c79
            have c79b1 : decide (((l0_2.length : Int) : Int).toNat ≤ 35184372088832) = true := decide_eq_true c79
            clear c79
            obtain ⟨y152, hy152⟩ : ∃ y_ : List Int, y_ = (List.replicate ((l0_2.length : Int) : Int).toNat 0) := ⟨_, rfl⟩
            replace H : (Ab.l0 kj58 a4 t131 t146 y152 0 a0_0 a0_1 l0_2) = some r := by first | (rw [hy152]; with_reducible exact H) | (have H2_ := (Option.bind_some _ _).symm.trans H; rw [hy152]; with_reducible exact H2_) | (have H2_ := (Option.bind_some _ _).symm.trans H; with_reducible exact H2_) | with_reducible exact H | (rw [hy152]; exact H) | exact H
            have Ny152 := Aa.mk hy152
            clear hy152
            have H' := Aa.mk H
            clear H
            have hnb80 := NB129_145.out
            have hnc80 := NB145_129.out
            have hcz81_0 : wc.cell? ⟨gb129, 0, none⟩ = some (.int .i64 a0_0) := (Af BK129.out 0).trans rfl
            have hcz81_1 : wc.cell? ⟨gb129, 1, none⟩ = some (.int .i64 a0_1) := (Af BK129.out 1).trans rfl
            have hcz81_2 : wc.cell? ⟨gb129, 2, none⟩ = some (.slice A0_2 l0_2.length c0_2) := (Af BK129.out 2).trans rfl
            have hfz81_0 := Ag BK129.out 0
            have hfz81_1 := Ag BK129.out 1
            have hfz81_2 := Ag BK129.out 2
            go_wp2_with ((with_reducible refine Bk (N := 119) rfl ?_); (try (refine Cn (by rfl) ?_; dsimp only)); refine Kd.R_make (Kd.int .i64) _ 3 rfl (N := 119) rfl 31 _ _ rfl (l0_2.length : Int) rfl rfl Try.underlying31 (.int .i64 0) 8 info3 rfl (by decide) (by omega) 0 (ok := fun _ => True) (okp := fun _ => True) rfl (fun _ hk => hk) trivial (of_decide_eq_true (by first | (with_reducible assumption) | assumption)) (Nat.le_trans (Nat.mul_le_mul_right _ (of_decide_eq_true (by first | (with_reducible assumption) | assumption) : (l0_2.length : Int).toNat ≤ 35184372088832)) (by omega)) (Below.refl _ _) (Nat.le_refl _) ?_; intro v153 w82 ho83 hb hg_ hnew_; clear hg_ hnew_; (first | rw [← Ny152.out] at ho83 | (simp only [Int.reduceToNat] at ho83; rw [← Ny152.out] at ho83)); have n0_ := Aa.mk (Kd.Bt (by exact rU <| HO_11.out) (Kd.B9 ho83) hb); have n1_ := Aa.mk (Kd.Bt (by exact rU <| HO_14.out) (Kd.B9 ho83) hb); have n2_ := Aa.mk (Kd.At (by exact rU <| HO_146002.out) hb); have n3_ := Aa.mk (Kd.B2 (Kd.B7 (Kd.B7 ho83 (Kd.Cp (by exact rU <| HO_11.out))) (Kd.Cp (by exact rU <| HO_14.out))) (Ak (by repeat (first | (with_reducible first | exact HB.out | apply Ad | apply Ac | apply Ah | refine Ae ?_ GE129.out | refine Ae ?_ GE145.out) | exact HB.out)))); have n4_ := Aa.mk (Am (g := gb129) (o := .cells #[.int .i64 a0_0, .int .i64 a0_1, .slice A0_2 l0_2.length c0_2] 24 (0, 0)) (by exact bU <| BK129.out) hb); have n5_ := Aa.mk (Am (g := gb145) (o := .cells #[.int .i64 t140, .int .i64 t141, .slice Ao67 t142.length co67] 50 (0, 0)) (by exact bU <| BK145.out) hb); have n6_ := Aa.mk (Ap (by repeat (first | (with_reducible first | exact HB.out | apply Ad | apply Ac | apply Ah | refine Ae ?_ GE129.out | refine Ae ?_ GE145.out) | exact HB.out)) hb); clear HO_11; clear HO_14; clear HO_146002; clear BK129; clear BK145; clear HB; have HO_11 := n0_; have HO_14 := n1_; have HO_146002 := n2_; have HO154 := n3_; have BK129 := n4_; have BK145 := n5_; have HB := n6_; clear n0_ n1_ n2_ n3_ n4_ n5_ n6_; clear hb ho83)
            go_loopg [18] kj58 (fun kq v18 w' => ∃ (x17_3 : List Int) (x18_3 : Int), v18 = .int .i64 x18_3 ∧ Aa (Ab.l0 kq a4 t131 t146 x17_3 x18_3 a0_0 a0_1 l0_2 = some r) ∧ Aa (kq ≤ kj58) ∧ Aa (Kd.R (Kd.int .i64) 3 w' w.heap.size (fun k_ => some k_ ≠ (v147 : Value).ownBlock ∧ some k_ ≠ (v153 : Value).ownBlock) (.slice (some ad139) t131.length co61) t131) ∧ Aa (Kd.R (Kd.int .i64) 3 w' w.heap.size (fun k_ => some k_ ≠ ((.slice (some ad139) t131.length co61) : Value).ownBlock ∧ some k_ ≠ (v153 : Value).ownBlock) v147 t146) ∧ Aa (Kd.R (Kd.int .i64) 3 w' w.heap.size (fun k_ => some k_ ≠ ((.slice (some ad139) t131.length co61) : Value).ownBlock ∧ some k_ ≠ (v147 : Value).ownBlock) v153 x17_3) ∧ Aa (Kd.R Kd.bool 4 w' w.heap.size (fun _ => True) (.slice Ao67 t142.length co67) t142) ∧ Aa (w'.heap[gb129]? = some (.cells #[.int .i64 a0_0, .int .i64 a0_1, (.slice A0_2 l0_2.length c0_2)] 24 (0, 0))) ∧ Aa (w'.heap[gb145]? = some (.cells #[.int .i64 t140, .int .i64 t141, (.slice Ao67 t142.length co67)] 50 (0, 0))) ∧ Aa (Below w.heap.size w w'))
            case atStart => exact ⟨(y152), (0), (by first | rfl | (simp; done) | (simp [*]; done)), H', ⟨Nat.le_refl _⟩, ⟨by exact rU <| HO_11.out⟩, ⟨by exact rU <| HO_14.out⟩, ⟨by exact rU <| Kd.Bj HO154.out (fun _ hk => ⟨hk.1.2, hk.2⟩)⟩, ⟨by exact rU <| HO_146002.out⟩, ⟨by exact bU <| BK129.out⟩, ⟨by exact bU <| BK145.out⟩, ⟨by repeat (first | (with_reducible first | exact HB.out | apply Ad | apply Ac | apply Ah | refine Ae ?_ GE129.out | refine Ae ?_ GE145.out) | exact HB.out)⟩⟩
            case round => as_aux_lemma =>
             clear H'
             try clear c1
             try clear p1
             try clear q1
             try clear hx1
             try clear qi1
             try clear c2
             try clear p2
             try clear c3
             try clear c5
             try clear c6
             try clear c7
             try clear c8
             try clear p13
             try clear q13
             try clear hx13
             try clear qi13
             try clear c17
             try clear c17b0
             try clear c17b1
             try clear c25
             try clear c33
             try clear c34
             try clear c55
             try clear c56
             try clear c56b0
             try clear c56b1
             try clear c69
             try clear c73
             try clear c73b0
             try clear c73b1
             try clear c75
             try clear c77
             try clear c78
             try clear c78b0
             try clear c78b1
             try clear c79
             try clear c79b0
             try clear c79b1
             try clear c80
             try clear hcz70_0
             try clear hcz70_1
             try clear hcz70_2
             try clear hcz76_0
             try clear hcz76_1
             try clear hcz76_2
             try clear hcz81_0
             try clear hcz81_1
             try clear hcz81_2
             try clear hfz70_0
             try clear hfz70_1
             try clear hfz70_2
             try clear hfz76_0
             try clear hfz76_1
             try clear hfz76_2
             try clear hfz81_0
             try clear hfz81_1
             try clear hfz81_2
             try clear hx139_0
             try clear p1
             try clear p13
             try clear p139
             try clear p2
             try clear q1
             try clear q13
             try clear q139
             obtain ⟨x17_3, x18_3, rfl, HA, HK3, HO_11, HO_14, HO_17, HO_146002, BK129, BK145, HB⟩ := hrel
             cases gk with
             | zero => exact absurd HA.out (by simp [Ab.l0])
             | succ k3 =>
              have H := HA.out
              clear HA
              simp only [Ab.l0] at H
              by_cases c84 : x18_3 < (t131.length : Int)
              ·rw [if_pos c84] at H
               have c84b0 : decide (x18_3 < (t131.length : Int)) = true := decide_eq_true c84
               clear c84
               have HC85 := Aa.mk H
               clear H
               go_upto_region 16 with (fail)
               go_cut [166] (fun v166 wc => ∃ (kq : Nat) (x166_84 : Bool), v166 = .bool x166_84 ∧ Aa (Ab.j3 kq a4 t131 t146 x17_3 x18_3 x166_84 a0_0 a0_1 l0_2 = some r) ∧ Aa (kq ≤ k3) ∧ Aa (Kd.R (Kd.int .i64) 3 wc w.heap.size (fun k_ => some k_ ≠ (v147 : Value).ownBlock ∧ some k_ ≠ (v153 : Value).ownBlock) (.slice (some ad139) t131.length co61) t131) ∧ Aa (Kd.R (Kd.int .i64) 3 wc w.heap.size (fun k_ => some k_ ≠ ((.slice (some ad139) t131.length co61) : Value).ownBlock ∧ some k_ ≠ (v153 : Value).ownBlock) v147 t146) ∧ Aa (Kd.R (Kd.int .i64) 3 wc w.heap.size (fun k_ => some k_ ≠ ((.slice (some ad139) t131.length co61) : Value).ownBlock ∧ some k_ ≠ (v147 : Value).ownBlock) v153 x17_3) ∧ Aa (Kd.R Kd.bool 4 wc w.heap.size (fun _ => True) (.slice Ao67 t142.length co67) t142) ∧ Aa (wc.heap[gb129]? = some (.cells #[.int .i64 a0_0, .int .i64 a0_1, (.slice A0_2 l0_2.length c0_2)] 24 (0, 0))) ∧ Aa (wc.heap[gb145]? = some (.cells #[.int .i64 t140, .int .i64 t141, (.slice Ao67 t142.length co67)] 50 (0, 0))) ∧ Aa (Below w.heap.size w wc))
               case first => as_aux_lemma =>
                have H := HC85.out
                clear HC85
                by_cases c86 : 0 ≤ x18_3
                ·rw [if_pos c86] at H
                 have c86b0 : decide (0 ≤ x18_3) = true := decide_eq_true c86
                 clear c86
                 (first | rw [c86b0] | (simp only [i64_w, i32_w]; rw [c86b0]) | skip)
                 by_cases c87 : (rd t131 x18_3) < 0
                 ·rw [if_pos c87] at H
                  have c87b0 : decide ((rd t131 x18_3) < 0) = true := decide_eq_true c87
                  clear c87
                  exact absurd (H.trans (congrArg some HT.out)) (by first | (cases k <;> simp [Ab.j0, Ab.j1, Ab.j3]; done) | (cases kj10 <;> simp [Ab.j0, Ab.j1, Ab.j3]; done) | (cases k3 <;> simp [Ab.j0, Ab.j1, Ab.j3]; done))
                 ·rw [if_neg c87] at H
                  have c87b0 : decide ((rd t131 x18_3) < 0) = false := decide_eq_false c87
                  clear c87
                  by_cases c89 : (rd t131 x18_3) ≥ (l0_2.length : Int)
                  ·rw [if_pos c89] at H
                   have c89b0 : decide ((l0_2.length : Int) ≤ (rd t131 x18_3)) = true := decide_eq_true c89
                   clear c89
                   exact absurd (H.trans (congrArg some HT.out)) (by first | (cases k <;> simp [Ab.j0, Ab.j1, Ab.j3]; done) | (cases kj10 <;> simp [Ab.j0, Ab.j1, Ab.j3]; done) | (cases k3 <;> simp [Ab.j0, Ab.j1, Ab.j3]; done))
                  ·rw [if_neg c89] at H
                   have c89b0 : decide ((l0_2.length : Int) ≤ (rd t131 x18_3)) = false := decide_eq_false c89
                   clear c89
                   by_cases c91 : 0 ≤ (rd t131 x18_3)
                   ·rw [if_pos c91] at H
                    have c91b0 : decide (0 ≤ (rd t131 x18_3)) = true := decide_eq_true c91
                    clear c91
                    by_cases c92 : (rd t131 x18_3) < (x17_3.length : Int)
                    ·rw [if_pos c92] at H
                     have c92b0 : decide ((rd t131 x18_3) < (x17_3.length : Int)) = true := decide_eq_true c92
                     clear c92
                     by_cases c93 : (rd x17_3 (rd t131 x18_3)) > 0
                     ·rw [if_pos c93] at H
                      have c93b0 : decide (0 < (rd x17_3 (rd t131 x18_3))) = true := decide_eq_true c93
                      clear c93
                      exact absurd (H.trans (congrArg some HT.out)) (by first | (cases k <;> simp [Ab.j0, Ab.j1, Ab.j3]; done) | (cases kj10 <;> simp [Ab.j0, Ab.j1, Ab.j3]; done) | (cases k3 <;> simp [Ab.j0, Ab.j1, Ab.j3]; done))
                     ·rw [if_neg c93] at H
                      have c93b0 : decide (0 < (rd x17_3 (rd t131 x18_3))) = false := decide_eq_false c93
                      clear c93
                      by_cases c96 : (rd t131 x18_3) < (t146.length : Int)
                      ·rw [if_pos c96] at H
                       have c96b0 : decide ((rd t131 x18_3) < (t146.length : Int)) = true := decide_eq_true c96
                       clear c96
                       by_cases c97 : 0 < (t131.length : Int)
                       ·rw [if_pos c97] at H
                        have c97b0 : decide (0 < (t131.length : Int)) = true := decide_eq_true c97
                        have c97b1 : decide (0 < t131.length) = true := decide_eq_true (by omega)
                        clear c97
                        by_cases c98 : 0 ≤ (rd t131 0)
                        ·rw [if_pos c98] at H
                         have c98b0 : decide (0 ≤ (rd t131 0)) = true := decide_eq_true c98
                         clear c98
                         by_cases c99 : (rd t131 0) < (t146.length : Int)
                         ·rw [if_pos c99] at H
                          have c99b0 : decide ((rd t131 0) < (t146.length : Int)) = true := decide_eq_true c99
                          clear c99
                          have H' := Aa.mk H
                          clear H
                          try go_wp2
                          have n0_ := Aa.mk (Kd.Cm HO_11.out)
                          have n1_ := Aa.mk (Kd.Cm HO_14.out)
                          have n2_ := Aa.mk (Kd.Cm HO_17.out)
                          have n3_ := Aa.mk (Kd.Cm HO_146002.out)
                          have n4_ := Aa.mk (Aq BK129.out)
                          have n5_ := Aa.mk (Aq BK145.out)
                          have n6_ := Aa.mk (Ah HB.out)
                          clear HO_11
                          clear HO_14
                          clear HO_17
                          clear HO_146002
                          clear BK129
                          clear BK145
                          clear HB
                          have HO_11 := n0_
                          have HO_14 := n1_
                          have HO_17 := n2_
                          have HO_146002 := n3_
                          have BK129 := n4_
                          have BK145 := n5_
                          have HB := n6_
                          clear n0_ n1_ n2_ n3_ n4_ n5_ n6_
                          have p155 : 0 ≤ (x18_3 : Int) := of_decide_eq_true (by first | (with_reducible assumption) | assumption)
                          have q155 : x18_3 < (t131.length : Int) := of_decide_eq_true (by first | (with_reducible assumption) | assumption)
                          obtain ⟨ad155, e155, hx155_0⟩ := Kd.at_int (Kd.As HO_11.out).2.2 x18_3 p155 q155
                          obtain rfl : ad139 = ad155 := (by injection e155)
                          replace p155 := eq_true p155
                          replace q155 := eq_true q155
                          have p156 : 0 ≤ (x18_3 : Int) := of_decide_eq_true (by first | (with_reducible assumption) | assumption)
                          have q156 : x18_3 < (t131.length : Int) := of_decide_eq_true (by first | (with_reducible assumption) | assumption)
                          obtain ⟨ad156, e156, hx156_0⟩ := Kd.at_int (Kd.As HO_11.out).2.2 x18_3 p156 q156
                          obtain rfl : ad139 = ad156 := (by injection e156)
                          replace p156 := eq_true p156
                          replace q156 := eq_true q156
                          have p157 : 0 ≤ (x18_3 : Int) := of_decide_eq_true (by first | (with_reducible assumption) | assumption)
                          have q157 : x18_3 < (t131.length : Int) := of_decide_eq_true (by first | (with_reducible assumption) | assumption)
                          obtain ⟨ad157, e157, hx157_0⟩ := Kd.at_int (Kd.As HO_11.out).2.2 x18_3 p157 q157
                          obtain rfl : ad139 = ad157 := (by injection e157)
                          replace p157 := eq_true p157
                          replace q157 := eq_true q157
                          obtain ⟨Ao101, co101, eo101⟩ := Kd.Br HO_17.out
                          (first | subst eo101 | (injection eo101 with f1_ f2_ f3_; have f4_ := f1_.symm; have f5_ := f3_.symm; clear f1_ f2_ f3_; subst f4_; subst f5_))
                          have p158 : 0 ≤ ((rd t131 x18_3) : Int) := of_decide_eq_true (by first | (with_reducible assumption) | assumption)
                          have q158 : (rd t131 x18_3) < (x17_3.length : Int) := of_decide_eq_true (by first | (with_reducible assumption) | assumption)
                          obtain ⟨ad158, e158, hx158_0⟩ := Kd.at_int (Kd.As HO_17.out).2.2 (rd t131 x18_3) p158 q158
                          cases e158
                          replace p158 := eq_true p158
                          replace q158 := eq_true q158
                          have p159 : 0 ≤ (x18_3 : Int) := of_decide_eq_true (by first | (with_reducible assumption) | assumption)
                          have q159 : x18_3 < (t131.length : Int) := of_decide_eq_true (by first | (with_reducible assumption) | assumption)
                          obtain ⟨ad159, e159, hx159_0⟩ := Kd.at_int (Kd.As HO_11.out).2.2 x18_3 p159 q159
                          obtain rfl : ad139 = ad159 := (by injection e159)
                          replace p159 := eq_true p159
                          replace q159 := eq_true q159
                          obtain ⟨Ao102, co102, eo102⟩ := Kd.Br HO_14.out
                          (first | subst eo102 | (injection eo102 with f1_ f2_ f3_; have f4_ := f1_.symm; have f5_ := f3_.symm; clear f1_ f2_ f3_; subst f4_; subst f5_))
                          have p160 : 0 ≤ ((rd t131 x18_3) : Int) := of_decide_eq_true (by first | (with_reducible assumption) | assumption)
                          have q160 : (rd t131 x18_3) < (t146.length : Int) := of_decide_eq_true (by first | (with_reducible assumption) | assumption)
                          obtain ⟨ad160, e160, hx160_0⟩ := Kd.at_int (Kd.As HO_14.out).2.2 (rd t131 x18_3) p160 q160
                          cases e160
                          replace p160 := eq_true p160
                          replace q160 := eq_true q160
                          have p161 : 0 ≤ (0 : Int) := (by omega)
                          have q161 : 0 < (t131.length : Int) := of_decide_eq_true (by first | (with_reducible assumption) | assumption)
                          obtain ⟨ad161, e161, hx161_0⟩ := Kd.at_int (Kd.As HO_11.out).2.2 0 p161 q161
                          obtain rfl : ad139 = ad161 := (by injection e161)
                          have qi161 : (0 < t131.length) = True := eq_true (by omega)
                          (try rw [show ((0 : Int)).toNat = 0 from rfl] at hx161_0)
                          (try rw [Addr.add_zero'] at hx161_0)
                          replace p161 := eq_true p161
                          replace q161 := eq_true q161
                          have p162 : 0 ≤ ((rd t131 0) : Int) := of_decide_eq_true (by first | (with_reducible assumption) | assumption)
                          have q162 : (rd t131 0) < (t146.length : Int) := of_decide_eq_true (by first | (with_reducible assumption) | assumption)
                          obtain ⟨ad162, e162, hx162_0⟩ := Kd.at_int (Kd.As HO_14.out).2.2 (rd t131 0) p162 q162
                          obtain rfl : ad160 = ad162 := (by injection e162)
                          replace p162 := eq_true p162
                          replace q162 := eq_true q162
                          refine start_ (n := 41) (S := fun w' => w'.cell? ⟨gb129, 0, none⟩ = some (.int .i64 a0_0) ∧ w'.cell? ⟨gb129, 1, none⟩ = some (.int .i64 a0_1) ∧ w'.cell? ⟨gb129, 2, none⟩ = some (.slice A0_2 l0_2.length c0_2) ∧ w'.cell? (ad139.add (x18_3).toNat) = some (.int .i64 (rd t131 x18_3)) ∧ w'.cell? (ad139.add (x18_3).toNat) = some (.int .i64 (rd t131 x18_3)) ∧ w'.cell? (ad139.add (x18_3).toNat) = some (.int .i64 (rd t131 x18_3)) ∧ w'.cell? (ad158.add ((rd t131 x18_3)).toNat) = some (.int .i64 (rd x17_3 (rd t131 x18_3))) ∧ w'.cell? (ad139.add (x18_3).toNat) = some (.int .i64 (rd t131 x18_3)) ∧ w'.cell? (ad160.add ((rd t131 x18_3)).toNat) = some (.int .i64 (rd t146 (rd t131 x18_3))) ∧ w'.cell? ad139 = some (.int .i64 (rd t131 0)) ∧ w'.cell? (ad160.add ((rd t131 0)).toNat) = some (.int .i64 (rd t146 (rd t131 0)))) (ds := []) #[false, false, false, false, false, false, false, false, false, false, false, false, false, false, false, false, false, false, false, false, false, false, false, false, false, false, false, false, false, false, false, false, false, false, false, false, false, false, false, false, false] (by kernel_rfl) rfl rfl ⟨(Af BK129.out 0).trans rfl, (Af BK129.out 1).trans rfl, (Af BK129.out 2).trans rfl, hx155_0, hx156_0, hx157_0, hx158_0, hx159_0, hx160_0, hx161_0, hx162_0⟩ (fun hHeld => ?_); refine with_tabW Ab.tab16 Ab.bits16 (fun HT_ HW_ => ?_)
                          generalize wr.drew = w100 at HO_11 HO_14 HO_17 HO_146002 BK129 BK145 HB hx155_0 hx156_0 hx157_0 hx158_0 hx159_0 hx160_0 hx161_0 hx162_0 hHeld ⊢
                          refine pure_ (i := 0) (N := some 126) (v := ?_) (a' := ?_) (bA 41 1) rfl rfl (any_of HT_.out (by kernel_rfl)) (fun _ _ _ h => h) (Or.inl ⟨by rfl, ?_⟩) ?_ ?_
                          rotate_left; (intro w'; go_simp; with_reducible rfl); rotate_left; (simp only [Act.put, sA, sB, sC, i64_w, i32_w]; rfl)
                          refine pure_ (i := 1) (N := some 127) (v := ?_) (a' := ?_) (bA 41 3) rfl rfl (any_of HT_.out (by kernel_rfl)) (fun _ _ _ h => h) (Or.inl ⟨by rfl, ?_⟩) ?_ ?_
                          rotate_left; (intro w'; go_simp; with_reducible rfl); rotate_left; (simp only [Act.put, sA, sB, sC, i64_w, i32_w]; rfl)
                          refine pure_ (i := 2) (N := some 128) (v := ?_) (a' := ?_) (bA 41 7) rfl rfl (any_of HT_.out (by kernel_rfl)) (fun _ _ _ h => h) (Or.inl ⟨by rfl, ?_⟩) ?_ ?_
                          rotate_left; (intro w'; go_simp; with_reducible rfl); rotate_left; (simp only [Act.put, sA, sB, sC, i64_w, i32_w]; rfl)
                          refine take_ (i := 3) (N := some 129) (v := ?_) (a' := ?_) (bA 41 15) rfl rfl (take_ofW HT_.out HW_.out (by kernel_rfl)) (fun _ _ _ h => h) (Or.inl ⟨by rfl, ?_⟩) hHeld ?_ ?_
                          rotate_left; (rintro w' ⟨s0, s1, s2, s3, s4, s5, s6, s7, s8, s9, s10⟩; go_simp; with_reducible rfl); rotate_left; (simp only [Act.put, sA, sB, sC, i64_w, i32_w]; rfl)
                          refine pure_ (i := 4) (N := some 130) (v := ?_) (a' := ?_) (bA 41 31) rfl rfl (any_of HT_.out (by kernel_rfl)) (fun _ _ _ h => h) (Or.inl ⟨by rfl, ?_⟩) ?_ ?_
                          rotate_left; (intro w'; go_simp; with_reducible rfl); rotate_left; (simp only [Act.put, sA, sB, sC, i64_w, i32_w]; rfl)
                          refine pure_ (i := 5) (N := some 131) (v := ?_) (a' := ?_) (bA 41 63) rfl rfl (any_of HT_.out (by kernel_rfl)) (fun _ _ _ h => h) (Or.inl ⟨by rfl, ?_⟩) ?_ ?_
                          rotate_left; (intro w'; go_simp; with_reducible rfl); rotate_left; (simp only [Act.put, sA, sB, sC, i64_w, i32_w]; rfl)
                          refine pure_ (i := 6) (N := some 132) (v := ?_) (a' := ?_) (bA 41 127) rfl rfl (any_of HT_.out (by kernel_rfl)) (fun _ _ _ h => h) (Or.inl ⟨by rfl, ?_⟩) ?_ ?_
                          rotate_left; (intro w'; go_simp; with_reducible rfl); rotate_left; (simp only [Act.put, sA, sB, sC, i64_w, i32_w]; rfl)
                          refine pure_ (i := 7) (N := some 133) (v := ?_) (a' := ?_) (bA 41 255) rfl rfl (any_of HT_.out (by kernel_rfl)) (fun _ _ _ h => h) (Or.inl ⟨by rfl, ?_⟩) ?_ ?_
                          rotate_left; (intro w'; go_simp; with_reducible rfl); rotate_left; (simp only [Act.put, sA, sB, sC, i64_w, i32_w]; rfl)
                          refine pure_ (i := 8) (N := some 134) (v := ?_) (a' := ?_) (bA 41 511) rfl rfl (any_of HT_.out (by kernel_rfl)) (fun _ _ _ h => h) (Or.inl ⟨by rfl, ?_⟩) ?_ ?_
                          rotate_left; (intro w'; go_simp; with_reducible rfl); rotate_left; (simp only [Act.put, sA, sB, sC, i64_w, i32_w]; rfl)
                          refine pure_ (i := 10) (N := some 136) (v := ?_) (a' := ?_) (bA 41 1535) rfl rfl (any_of HT_.out (by kernel_rfl)) (fun _ _ _ h => h) (Or.inl ⟨by rfl, ?_⟩) ?_ ?_
                          rotate_left; (intro w'; go_simp; with_reducible rfl); rotate_left; (simp only [Act.put, sA, sB, sC, i64_w, i32_w]; rfl)
                          refine take_ (i := 9) (N := some 135) (v := ?_) (a' := ?_) (bA 41 2047) rfl rfl (take_ofW HT_.out HW_.out (by kernel_rfl)) (fun _ _ _ h => h) (Or.inl ⟨by rfl, ?_⟩) hHeld ?_ ?_
                          rotate_left; (rintro w' ⟨s0, s1, s2, s3, s4, s5, s6, s7, s8, s9, s10⟩; go_simp; with_reducible rfl); rotate_left; (simp only [Act.put, sA, sB, sC, i64_w, i32_w]; rfl)
                          refine take_ (i := 11) (N := some 137) (v := ?_) (a' := ?_) (bA 41 4095) rfl rfl (take_ofW HT_.out HW_.out (by kernel_rfl)) (fun _ _ _ h => h) (Or.inl ⟨by rfl, ?_⟩) hHeld ?_ ?_
                          rotate_left; (rintro w' ⟨s0, s1, s2, s3, s4, s5, s6, s7, s8, s9, s10⟩; go_simp; with_reducible rfl); rotate_left; (simp only [Act.put, sA, sB, sC, i64_w, i32_w]; rfl)
                          refine pure_ (i := 12) (N := some 138) (v := ?_) (a' := ?_) (bA 41 8191) rfl rfl (any_of HT_.out (by kernel_rfl)) (fun _ _ _ h => h) (Or.inl ⟨by rfl, ?_⟩) ?_ ?_
                          rotate_left; (intro w'; go_simp; with_reducible rfl); rotate_left; (simp only [Act.put, sA, sB, sC, i64_w, i32_w]; rfl)
                          refine pure_ (i := 13) (N := some 139) (v := ?_) (a' := ?_) (bA 41 16383) rfl rfl (any_of HT_.out (by kernel_rfl)) (fun _ _ _ h => h) (Or.inl ⟨by rfl, ?_⟩) ?_ ?_
                          rotate_left; (intro w'; go_simp; with_reducible rfl); rotate_left; (simp only [Act.put, sA, sB, sC, i64_w, i32_w]; rfl)
                          refine pure_ (i := 14) (N := some 140) (v := ?_) (a' := ?_) (bA 41 32767) rfl rfl (any_of HT_.out (by kernel_rfl)) (fun _ _ _ h => h) (Or.inl ⟨by rfl, ?_⟩) ?_ ?_
                          rotate_left; (intro w'; go_simp; with_reducible rfl); rotate_left; (simp only [Act.put, sA, sB, sC, i64_w, i32_w]; rfl)
                          refine pure_ (i := 15) (N := some 141) (v := ?_) (a' := ?_) (bA 41 65535) rfl rfl (any_of HT_.out (by kernel_rfl)) (fun _ _ _ h => h) (Or.inl ⟨by rfl, ?_⟩) ?_ ?_
                          rotate_left; (intro w'; go_simp; with_reducible rfl); rotate_left; (simp only [Act.put, sA, sB, sC, i64_w, i32_w]; rfl)
                          refine pure_ (i := 16) (N := some 142) (v := ?_) (a' := ?_) (bA 41 131071) rfl rfl (any_of HT_.out (by kernel_rfl)) (fun _ _ _ h => h) (Or.inl ⟨by rfl, ?_⟩) ?_ ?_
                          rotate_left; (intro w'; go_simp; with_reducible rfl); rotate_left; (simp only [Act.put, sA, sB, sC, i64_w, i32_w]; rfl)
                          refine pure_ (i := 17) (N := some 143) (v := ?_) (a' := ?_) (bA 41 262143) rfl rfl (any_of HT_.out (by kernel_rfl)) (fun _ _ _ h => h) (Or.inl ⟨by rfl, ?_⟩) ?_ ?_
                          rotate_left; (intro w'; go_simp; with_reducible rfl); rotate_left; (simp only [Act.put, sA, sB, sC, i64_w, i32_w]; rfl)
                          refine pure_ (i := 18) (N := some 144) (v := ?_) (a' := ?_) (bA 41 524287) rfl rfl (any_of HT_.out (by kernel_rfl)) (fun _ _ _ h => h) (Or.inl ⟨by rfl, ?_⟩) ?_ ?_
                          rotate_left; (intro w'; go_simp; with_reducible rfl); rotate_left; (simp only [Act.put, sA, sB, sC, i64_w, i32_w]; rfl)
                          refine pure_ (i := 19) (N := some 145) (v := ?_) (a' := ?_) (bA 41 1048575) rfl rfl (any_of HT_.out (by kernel_rfl)) (fun _ _ _ h => h) (Or.inl ⟨by rfl, ?_⟩) ?_ ?_
                          rotate_left; (intro w'; go_simp; with_reducible rfl); rotate_left; (simp only [Act.put, sA, sB, sC, i64_w, i32_w]; rfl)
                          refine take_ (i := 20) (N := some 146) (v := ?_) (a' := ?_) (bA 41 2097151) rfl rfl (take_ofW HT_.out HW_.out (by kernel_rfl)) (fun _ _ _ h => h) (Or.inl ⟨by rfl, ?_⟩) hHeld ?_ ?_
                          rotate_left; (rintro w' ⟨s0, s1, s2, s3, s4, s5, s6, s7, s8, s9, s10⟩; go_simp; with_reducible rfl); rotate_left; (simp only [Act.put, sA, sB, sC, i64_w, i32_w]; rfl)
                          refine pure_ (i := 21) (N := some 147) (v := ?_) (a' := ?_) (bA 41 4194303) rfl rfl (any_of HT_.out (by kernel_rfl)) (fun _ _ _ h => h) (Or.inl ⟨by rfl, ?_⟩) ?_ ?_
                          rotate_left; (intro w'; go_simp; with_reducible rfl); rotate_left; (simp only [Act.put, sA, sB, sC, i64_w, i32_w]; rfl)
                          refine take_ (i := 22) (N := some 148) (v := ?_) (a' := ?_) (bA 41 8388607) rfl rfl (take_ofW HT_.out HW_.out (by kernel_rfl)) (fun _ _ _ h => h) (Or.inl ⟨by rfl, ?_⟩) hHeld ?_ ?_
                          rotate_left; (rintro w' ⟨s0, s1, s2, s3, s4, s5, s6, s7, s8, s9, s10⟩; go_simp; with_reducible rfl); rotate_left; (simp only [Act.put, sA, sB, sC, i64_w, i32_w]; rfl)
                          refine pure_ (i := 23) (N := some 149) (v := ?_) (a' := ?_) (bA 41 16777215) rfl rfl (any_of HT_.out (by kernel_rfl)) (fun _ _ _ h => h) (Or.inl ⟨by rfl, ?_⟩) ?_ ?_
                          rotate_left; (intro w'; go_simp; with_reducible rfl); rotate_left; (simp only [Act.put, sA, sB, sC, i64_w, i32_w]; rfl)
                          refine pure_ (i := 24) (N := some 150) (v := ?_) (a' := ?_) (bA 41 33554431) rfl rfl (any_of HT_.out (by kernel_rfl)) (fun _ _ _ h => h) (Or.inl ⟨by rfl, ?_⟩) ?_ ?_
                          rotate_left; (intro w'; go_simp; with_reducible rfl); rotate_left; (simp only [Act.put, sA, sB, sC, i64_w, i32_w]; rfl)
                          refine pure_ (i := 25) (N := some 151) (v := ?_) (a' := ?_) (bA 41 67108863) rfl rfl (any_of HT_.out (by kernel_rfl)) (fun _ _ _ h => h) (Or.inl ⟨by rfl, ?_⟩) ?_ ?_
                          rotate_left; (intro w'; go_simp; with_reducible rfl); rotate_left; (simp only [Act.put, sA, sB, sC, i64_w, i32_w]; rfl)
                          refine pure_ (i := 26) (N := some 152) (v := ?_) (a' := ?_) (bA 41 134217727) rfl rfl (any_of HT_.out (by kernel_rfl)) (fun _ _ _ h => h) (Or.inl ⟨by rfl, ?_⟩) ?_ ?_
                          rotate_left; (intro w'; go_simp; with_reducible rfl); rotate_left; (simp only [Act.put, sA, sB, sC, i64_w, i32_w]; rfl)
                          refine pure_ (i := 27) (N := some 153) (v := ?_) (a' := ?_) (bA 41 268435455) rfl rfl (any_of HT_.out (by kernel_rfl)) (fun _ _ _ h => h) (Or.inl ⟨by rfl, ?_⟩) ?_ ?_
                          rotate_left; (intro w'; go_simp; with_reducible rfl); rotate_left; (simp only [Act.put, sA, sB, sC, i64_w, i32_w]; rfl)
                          refine pure_ (i := 28) (N := some 154) (v := ?_) (a' := ?_) (bA 41 536870911) rfl rfl (any_of HT_.out (by kernel_rfl)) (fun _ _ _ h => h) (Or.inl ⟨by rfl, ?_⟩) ?_ ?_
                          rotate_left; (intro w'; go_simp; with_reducible rfl); rotate_left; (simp only [Act.put, sA, sB, sC, i64_w, i32_w]; rfl)
                          refine pure_ (i := 29) (N := some 155) (v := ?_) (a' := ?_) (bA 41 1073741823) rfl rfl (any_of HT_.out (by kernel_rfl)) (fun _ _ _ h => h) (Or.inl ⟨by rfl, ?_⟩) ?_ ?_
                          rotate_left; (intro w'; go_simp; with_reducible rfl); rotate_left; (simp only [Act.put, sA, sB, sC, i64_w, i32_w]; rfl)
                          refine pure_ (i := 33) (N := some 159) (v := ?_) (a' := ?_) (bA 41 9663676415) rfl rfl (any_of HT_.out (by kernel_rfl)) (fun _ _ _ h => h) (Or.inl ⟨by rfl, ?_⟩) ?_ ?_
                          rotate_left; (intro w'; go_simp; with_reducible rfl); rotate_left; (simp only [Act.put, sA, sB, sC, i64_w, i32_w]; rfl)
                          refine pure_ (i := 34) (N := some 160) (v := ?_) (a' := ?_) (bA 41 26843545599) rfl rfl (any_of HT_.out (by kernel_rfl)) (fun _ _ _ h => h) (Or.inl ⟨by rfl, ?_⟩) ?_ ?_
                          rotate_left; (intro w'; go_simp; with_reducible rfl); rotate_left; (simp only [Act.put, sA, sB, sC, i64_w, i32_w]; rfl)
                          refine pure_ (i := 35) (N := some 161) (v := ?_) (a' := ?_) (bA 41 61203283967) rfl rfl (any_of HT_.out (by kernel_rfl)) (fun _ _ _ h => h) (Or.inl ⟨by rfl, ?_⟩) ?_ ?_
                          rotate_left; (intro w'; go_simp; with_reducible rfl); rotate_left; (simp only [Act.put, sA, sB, sC, i64_w, i32_w]; rfl)
                          refine take_ (i := 30) (N := some 156) (v := ?_) (a' := ?_) (bA 41 62277025791) rfl rfl (take_ofW HT_.out HW_.out (by kernel_rfl)) (fun _ _ _ h => h) (Or.inl ⟨by rfl, ?_⟩) hHeld ?_ ?_
                          rotate_left; (rintro w' ⟨s0, s1, s2, s3, s4, s5, s6, s7, s8, s9, s10⟩; go_simp; with_reducible rfl); rotate_left; (simp only [Act.put, sA, sB, sC, i64_w, i32_w]; rfl)
                          refine pure_ (i := 31) (N := some 157) (v := ?_) (a' := ?_) (bA 41 64424509439) rfl rfl (any_of HT_.out (by kernel_rfl)) (fun _ _ _ h => h) (Or.inl ⟨by rfl, ?_⟩) ?_ ?_
                          rotate_left; (intro w'; go_simp; with_reducible rfl); rotate_left; (simp only [Act.put, sA, sB, sC, i64_w, i32_w]; rfl)
                          refine take_ (i := 32) (N := some 158) (v := ?_) (a' := ?_) (bA 41 68719476735) rfl rfl (take_ofW HT_.out HW_.out (by kernel_rfl)) (fun _ _ _ h => h) (Or.inl ⟨by rfl, ?_⟩) hHeld ?_ ?_
                          rotate_left; (rintro w' ⟨s0, s1, s2, s3, s4, s5, s6, s7, s8, s9, s10⟩; go_simp; with_reducible rfl); rotate_left; (simp only [Act.put, sA, sB, sC, i64_w, i32_w]; rfl)
                          refine take_ (i := 36) (N := some 162) (v := ?_) (a' := ?_) (bA 41 137438953471) rfl rfl (take_ofW HT_.out HW_.out (by kernel_rfl)) (fun _ _ _ h => h) (Or.inl ⟨by rfl, ?_⟩) hHeld ?_ ?_
                          rotate_left; (rintro w' ⟨s0, s1, s2, s3, s4, s5, s6, s7, s8, s9, s10⟩; go_simp; with_reducible rfl); rotate_left; (simp only [Act.put, sA, sB, sC, i64_w, i32_w]; rfl)
                          refine pure_ (i := 37) (N := some 163) (v := ?_) (a' := ?_) (bA 41 274877906943) rfl rfl (any_of HT_.out (by kernel_rfl)) (fun _ _ _ h => h) (Or.inl ⟨by rfl, ?_⟩) ?_ ?_
                          rotate_left; (intro w'; go_simp; with_reducible rfl); rotate_left; (simp only [Act.put, sA, sB, sC, i64_w, i32_w]; rfl)
                          refine take_ (i := 38) (N := some 164) (v := ?_) (a' := ?_) (bA 41 549755813887) rfl rfl (take_ofW HT_.out HW_.out (by kernel_rfl)) (fun _ _ _ h => h) (Or.inl ⟨by rfl, ?_⟩) hHeld ?_ ?_
                          rotate_left; (rintro w' ⟨s0, s1, s2, s3, s4, s5, s6, s7, s8, s9, s10⟩; go_simp; with_reducible rfl); rotate_left; (simp only [Act.put, sA, sB, sC, i64_w, i32_w]; rfl)
                          refine pure_ (i := 39) (N := some 165) (v := ?_) (a' := ?_) (bA 41 1099511627775) rfl rfl (any_of HT_.out (by kernel_rfl)) (fun _ _ _ h => h) (Or.inl ⟨by rfl, ?_⟩) ?_ ?_
                          rotate_left; (intro w'; go_simp; with_reducible rfl); rotate_left; (simp only [Act.put, sA, sB, sC, i64_w, i32_w]; rfl)
                          refine pure_ (i := 40) (N := some 166) (v := ?_) (a' := ?_) (bA 41 2199023255551) rfl rfl (any_of HT_.out (by kernel_rfl)) (fun _ _ _ h => h) (Or.inl ⟨by rfl, ?_⟩) ?_ ?_
                          rotate_left; (intro w'; go_simp; with_reducible rfl); rotate_left; (simp only [Act.put, sA, sB, sC, i64_w, i32_w]; rfl)
                          refine done_ (done_of HT_.out (by kernel_rfl)) ?_
                          try go_wp2
                          go_meet
                          case rel => exact ⟨_, (((rd t146 (rd t131 x18_3)) != (rd t146 (rd t131 0)))), (by first | rfl | (simp; done) | (simp [*]; done)), H', ⟨by have := HJ10.out; have := HJ58.out; have := HK3.out; first | omega | exact Nat.le_refl _⟩, ⟨by exact rU <| HO_11.out⟩, ⟨by exact rU <| HO_14.out⟩, ⟨by exact rU <| HO_17.out⟩, ⟨by exact rU <| HO_146002.out⟩, ⟨by exact bU <| BK129.out⟩, ⟨by exact bU <| BK145.out⟩, ⟨by repeat (first | (with_reducible first | exact HB.out | apply Ad | apply Ac | apply Ah | refine Ae ?_ GE129.out | refine Ae ?_ GE145.out) | exact HB.out)⟩⟩
                         ·rw [if_neg c99] at H
                          exact absurd H (by simp)
                        ·rw [if_neg c98] at H
                         exact absurd H (by simp)
                       ·rw [if_neg c97] at H
                        exact absurd H (by simp)
                      ·rw [if_neg c96] at H
                       exact absurd H (by simp)
                    ·rw [if_neg c92] at H
                     exact absurd H (by simp)
                   ·rw [if_neg c91] at H
                    exact absurd H (by simp)
                ·rw [if_neg c86] at H
                 exact absurd H (by simp)
               case rest => as_aux_lemma =>
                clear HC85
                try clear p1
                try clear q1
                try clear hx1
                try clear qi1
                try clear p2
                try clear c8
                try clear c9
                try clear p15
                try clear q15
                try clear hx15
                try clear p16
                try clear q16
                try clear hx16
                try clear qi16
                try clear c86
                try clear c91
                try clear c92
                try clear c93
                try clear c93b0
                try clear c96
                try clear c96b0
                try clear c97
                try clear c97b0
                try clear c97b1
                try clear c98
                try clear c98b0
                try clear c99
                try clear c99b0
                try clear hx155_0
                try clear hx156_0
                try clear hx157_0
                try clear hx158_0
                try clear hx159_0
                try clear hx160_0
                try clear hx161_0
                try clear hx162_0
                try clear p155
                try clear p156
                try clear p157
                try clear p158
                try clear p159
                try clear p160
                try clear p161
                try clear p162
                try clear q155
                try clear q156
                try clear q157
                try clear q158
                try clear q159
                try clear q160
                try clear q161
                try clear q162
                obtain ⟨kq, x166_84, rfl, HA, HJ84, HO_11, HO_14, HO_17, HO_146002, BK129, BK145, HB⟩ := hcut
                cases kq with
                | zero => exact absurd HA.out (by simp [Ab.j3])
                | succ kj84 =>
                 have H := HA.out
                 clear HA
                 simp only [Ab.j3] at H
                 by_cases c103 : x166_84 = true
                 ·subst c103
                  have H1 : (some false) = some r := by rw [if_pos rfl] at H; exact H
                  clear H
                  have H := H1
                  clear H1
                  exact absurd (H.trans (congrArg some HT.out)) (by decide)
                 ·replace c103 := Bool.eq_false_iff.mpr c103
                  subst c103
                  have H1 : (if 0 ≤ x18_3 then (if x18_3 < (t131.length : Int) then ((Ao.f kj84 a0_0 a0_1 (rd t131 x18_3) a4).bind fun t164 => (Ab.l1 kj84 a4 t131 t146 x17_3 x18_3 0 t164 0 a0_0 a0_1 l0_2)) else (none)) else (none)) = some r := by rw [if_neg (show ¬ (false = true) by decide)] at H; exact H
                  clear H
                  have H := H1
                  clear H1
                  by_cases c104 : 0 ≤ x18_3
                  ·rw [if_pos c104] at H
                   have c104b0 : decide (0 ≤ x18_3) = true := decide_eq_true c104
                   clear c104
                   by_cases c105 : x18_3 < (t131.length : Int)
                   ·rw [if_pos c105] at H
                    have c105b0 : decide (x18_3 < (t131.length : Int)) = true := decide_eq_true c105
                    clear c105
                    replace H := Option.bind_eq_some_iff.mp H
                    obtain ⟨t164, A1060, H⟩ := H
                    replace H : (Ab.l1 kj84 a4 t131 t146 x17_3 x18_3 0 t164 0 a0_0 a0_1 l0_2) = some r := H
                    have A106 := Aa.mk A1060
                    clear A1060
                    have H' := Aa.mk H
                    clear H
                    try go_wp2
                    have n0_ := Aa.mk (Kd.Cm HO_11.out)
                    have n1_ := Aa.mk (Kd.Cm HO_14.out)
                    have n2_ := Aa.mk (Kd.Cm HO_17.out)
                    have n3_ := Aa.mk (Kd.Cm HO_146002.out)
                    have n4_ := Aa.mk (Aq BK129.out)
                    have n5_ := Aa.mk (Aq BK145.out)
                    have n6_ := Aa.mk (Ah HB.out)
                    clear HO_11
                    clear HO_14
                    clear HO_17
                    clear HO_146002
                    clear BK129
                    clear BK145
                    clear HB
                    have HO_11 := n0_
                    have HO_14 := n1_
                    have HO_17 := n2_
                    have HO_146002 := n3_
                    have BK129 := n4_
                    have BK145 := n5_
                    have HB := n6_
                    clear n0_ n1_ n2_ n3_ n4_ n5_ n6_
                    have p163 : 0 ≤ (x18_3 : Int) := of_decide_eq_true (by first | (with_reducible assumption) | assumption)
                    have q163 : x18_3 < (t131.length : Int) := of_decide_eq_true (by first | (with_reducible assumption) | assumption)
                    obtain ⟨ad163, e163, hx163_0⟩ := Kd.at_int (Kd.As HO_11.out).2.2 x18_3 p163 q163
                    obtain rfl : ad139 = ad163 := (by injection e163)
                    replace p163 := eq_true p163
                    replace q163 := eq_true q163
                    refine start_ (n := 11) (S := fun w' => w'.cell? ⟨gb129, 0, none⟩ = some (.int .i64 a0_0) ∧ w'.cell? ⟨gb129, 1, none⟩ = some (.int .i64 a0_1) ∧ w'.cell? ⟨gb129, 2, none⟩ = some (.slice A0_2 l0_2.length c0_2) ∧ w'.cell? (ad139.add (x18_3).toNat) = some (.int .i64 (rd t131 x18_3))) (ds := []) #[false, false, false, false, false, false, false, false, false, false, false] (by kernel_rfl) rfl rfl ⟨(Af BK129.out 0).trans rfl, (Af BK129.out 1).trans rfl, (Af BK129.out 2).trans rfl, hx163_0⟩ (fun hHeld => ?_); refine with_tabW Ab.tab19 Ab.bits19 (fun HT_ HW_ => ?_)
                    generalize wc.drew = w107 at HO_11 HO_14 HO_17 HO_146002 BK129 BK145 HB hx163_0 hHeld ⊢
                    refine pure_ (i := 0) (N := some 167) (v := ?_) (a' := ?_) (bA 11 1) rfl rfl (any_of HT_.out (by kernel_rfl)) (fun _ _ _ h => h) (Or.inl ⟨by rfl, ?_⟩) ?_ ?_
                    rotate_left; (intro w'; go_simp; with_reducible rfl); rotate_left; (simp only [Act.put, sA, sB, sC, i64_w, i32_w]; rfl)
                    refine pure_ (i := 2) (N := some 169) (v := ?_) (a' := ?_) (bA 11 5) rfl rfl (any_of HT_.out (by kernel_rfl)) (fun _ _ _ h => h) (Or.inl ⟨by rfl, ?_⟩) ?_ ?_
                    rotate_left; (intro w'; go_simp; with_reducible rfl); rotate_left; (simp only [Act.put, sA, sB, sC, i64_w, i32_w]; rfl)
                    refine pure_ (i := 4) (N := some 171) (v := ?_) (a' := ?_) (bA 11 21) rfl rfl (any_of HT_.out (by kernel_rfl)) (fun _ _ _ h => h) (Or.inl ⟨by rfl, ?_⟩) ?_ ?_
                    rotate_left; (intro w'; go_simp; with_reducible rfl); rotate_left; (simp only [Act.put, sA, sB, sC, i64_w, i32_w]; rfl)
                    refine pure_ (i := 5) (N := some 172) (v := ?_) (a' := ?_) (bA 11 53) rfl rfl (any_of HT_.out (by kernel_rfl)) (fun _ _ _ h => h) (Or.inl ⟨by rfl, ?_⟩) ?_ ?_
                    rotate_left; (intro w'; go_simp; with_reducible rfl); rotate_left; (simp only [Act.put, sA, sB, sC, i64_w, i32_w]; rfl)
                    refine pure_ (i := 6) (N := some 173) (v := ?_) (a' := ?_) (bA 11 117) rfl rfl (any_of HT_.out (by kernel_rfl)) (fun _ _ _ h => h) (Or.inl ⟨by rfl, ?_⟩) ?_ ?_
                    rotate_left; (intro w'; go_simp; with_reducible rfl); rotate_left; (simp only [Act.put, sA, sB, sC, i64_w, i32_w]; rfl)
                    refine pure_ (i := 8) (N := some 175) (v := ?_) (a' := ?_) (bA 11 373) rfl rfl (any_of HT_.out (by kernel_rfl)) (fun _ _ _ h => h) (Or.inl ⟨by rfl, ?_⟩) ?_ ?_
                    rotate_left; (intro w'; go_simp; with_reducible rfl); rotate_left; (simp only [Act.put, sA, sB, sC, i64_w, i32_w]; rfl)
                    refine take_ (i := 1) (N := some 168) (v := ?_) (a' := ?_) (bA 11 375) rfl rfl (take_ofW HT_.out HW_.out (by kernel_rfl)) (fun _ _ _ h => h) (Or.inl ⟨by rfl, ?_⟩) hHeld ?_ ?_
                    rotate_left; (rintro w' ⟨s0, s1, s2, s3⟩; go_simp; with_reducible rfl); rotate_left; (simp only [Act.put, sA, sB, sC, i64_w, i32_w]; rfl)
                    refine take_ (i := 3) (N := some 170) (v := ?_) (a' := ?_) (bA 11 383) rfl rfl (take_ofW HT_.out HW_.out (by kernel_rfl)) (fun _ _ _ h => h) (Or.inl ⟨by rfl, ?_⟩) hHeld ?_ ?_
                    rotate_left; (rintro w' ⟨s0, s1, s2, s3⟩; go_simp; with_reducible rfl); rotate_left; (simp only [Act.put, sA, sB, sC, i64_w, i32_w]; rfl)
                    refine take_ (i := 7) (N := some 174) (v := ?_) (a' := ?_) (bA 11 511) rfl rfl (take_ofW HT_.out HW_.out (by kernel_rfl)) (fun _ _ _ h => h) (Or.inl ⟨by rfl, ?_⟩) hHeld ?_ ?_
                    rotate_left; (rintro w' ⟨s0, s1, s2, s3⟩; go_simp; with_reducible rfl); rotate_left; (simp only [Act.put, sA, sB, sC, i64_w, i32_w]; rfl)
                    refine one_ (i := 9) (N := some 176) (bA 11 1023) rfl rfl (one_of HT_.out (by kernel_rfl)) (by decide) (fun K hK => ?_)
                    refine goes_ Try.func35 (by kernel_rfl) rfl #[.int .i64 a0_0, .int .i64 a0_1, .int .i64 (rd t131 x18_3), .int .i64 a4] (by rfl) rfl rfl (by (try simp only [List.map_toArray, List.map_cons, List.map_nil]); first | done | rfl | (simp only [List.length_drop, List.length_take]; rfl)) ?_
                    with_reducible refine (Ao.calls kj84 a0_0 a0_1 (rd t131 x18_3) a4 t164 _ A106.out).mono ?_
                    rintro e w108 ⟨v165, rfl, ho0, hb⟩
                    have HS3_ := (hb.cell (World.block_lt_of_cell? _ _ (hHeld.2.2.2))).trans (hHeld.2.2.2)
                    refine ⟨_, rfl, ?_⟩
                    have n0_ := Aa.mk (Kd.Bt (by exact rU <| HO_11.out) (Kd.B9 ho0) hb)
                    have n1_ := Aa.mk (Kd.Bt (by exact rU <| HO_14.out) (Kd.B9 ho0) hb)
                    have n2_ := Aa.mk (Kd.Bt (by exact rU <| HO_17.out) (Kd.B9 ho0) hb)
                    have n3_ := Aa.mk (Kd.At (by exact rU <| HO_146002.out) hb)
                    have n4_ := Aa.mk (Kd.B2 (Kd.B7 (Kd.B7 (Kd.B7 ho0 (Kd.Cp (by exact rU <| HO_11.out))) (Kd.Cp (by exact rU <| HO_14.out))) (Kd.Cp (by exact rU <| HO_17.out))) (Ak (by repeat (first | (with_reducible first | exact HB.out | apply Ad | apply Ac | apply Ah | refine Ae ?_ GE129.out | refine Ae ?_ GE145.out) | exact HB.out))))
                    have n5_ := Aa.mk (Am (g := gb129) (o := .cells #[.int .i64 a0_0, .int .i64 a0_1, .slice A0_2 l0_2.length c0_2] 24 (0, 0)) (by exact bU <| BK129.out) hb)
                    have n6_ := Aa.mk (Am (g := gb145) (o := .cells #[.int .i64 t140, .int .i64 t141, .slice Ao67 t142.length co67] 50 (0, 0)) (by exact bU <| BK145.out) hb)
                    have n7_ := Aa.mk (Ap (by repeat (first | (with_reducible first | exact HB.out | apply Ad | apply Ac | apply Ah | refine Ae ?_ GE129.out | refine Ae ?_ GE145.out) | exact HB.out)) hb)
                    clear HO_11
                    clear HO_14
                    clear HO_17
                    clear HO_146002
                    clear BK129
                    clear BK145
                    clear HB
                    have HO_11 := n0_
                    have HO_14 := n1_
                    have HO_17 := n2_
                    have HO_146002 := n3_
                    have HO166 := n4_
                    have BK129 := n5_
                    have BK145 := n6_
                    have HB := n7_
                    clear n0_ n1_ n2_ n3_ n4_ n5_ n6_ n7_
                    (try clear hb)
                    (try clear hb2)
                    (try clear hk)
                    (try clear hi)
                    (try clear ho0)
                    refine hK.out _ _ ⟨(Af BK129.out 0).trans rfl, (Af BK129.out 1).trans rfl, (Af BK129.out 2).trans rfl, HS3_⟩ (fun hHeld => ?_)
                    clear hK K
                    refine norm_ (a' := ?_) ?_ ?_
                    rotate_left
                    ·show Act.put _ (some 176) _ = _
                     simp only [Act.put, sA, sB, sC, i64_w, i32_w]
                     rfl
                    refine pure_ (i := 10) (N := some 20) (v := ?_) (a' := ?_) (bA 11 2047) rfl rfl (any_of HT_.out (by kernel_rfl)) (fun _ _ _ h => h) (Or.inl ⟨by rfl, ?_⟩) ?_ ?_
                    rotate_left; (intro w'; go_simp; with_reducible rfl); rotate_left; (simp only [Act.put, sA, sB, sC, i64_w, i32_w]; rfl)
                    refine done_ (done_of HT_.out (by kernel_rfl)) ?_
                    try go_wp2
                    go_loopg [19, 21] kj84 (fun kq v19 v21 w' => ∃ (x19_5 : Int) (x21_5 : Int), v19 = .int .i64 x19_5 ∧ v21 = .int .i64 x21_5 ∧ Aa (Ab.l1 kq a4 t131 t146 x17_3 x18_3 x19_5 t164 x21_5 a0_0 a0_1 l0_2 = some r) ∧ Aa (kq ≤ kj84) ∧ Aa (Kd.R (Kd.int .i64) 3 w' w.heap.size (fun k_ => some k_ ≠ (v147 : Value).ownBlock ∧ some k_ ≠ (v153 : Value).ownBlock ∧ some k_ ≠ (v165 : Value).ownBlock) (.slice (some ad139) t131.length co61) t131) ∧ Aa (Kd.R (Kd.int .i64) 3 w' w.heap.size (fun k_ => some k_ ≠ ((.slice (some ad139) t131.length co61) : Value).ownBlock ∧ some k_ ≠ (v153 : Value).ownBlock ∧ some k_ ≠ (v165 : Value).ownBlock) v147 t146) ∧ Aa (Kd.R (Kd.int .i64) 3 w' w.heap.size (fun k_ => some k_ ≠ ((.slice (some ad139) t131.length co61) : Value).ownBlock ∧ some k_ ≠ (v147 : Value).ownBlock ∧ some k_ ≠ (v165 : Value).ownBlock) v153 x17_3) ∧ Aa (Kd.R (Kd.int .i64) 3 w' w.heap.size (fun k_ => some k_ ≠ ((.slice (some ad139) t131.length co61) : Value).ownBlock ∧ some k_ ≠ (v147 : Value).ownBlock ∧ some k_ ≠ (v153 : Value).ownBlock) v165 t164) ∧ Aa (Kd.R Kd.bool 4 w' w.heap.size (fun _ => True) (.slice Ao67 t142.length co67) t142) ∧ Aa (w'.heap[gb129]? = some (.cells #[.int .i64 a0_0, .int .i64 a0_1, (.slice A0_2 l0_2.length c0_2)] 24 (0, 0))) ∧ Aa (w'.heap[gb145]? = some (.cells #[.int .i64 t140, .int .i64 t141, (.slice Ao67 t142.length co67)] 50 (0, 0))) ∧ Aa (Below w.heap.size w w'))
                    case atStart => exact ⟨(0), (0), (by first | rfl | (simp; done) | (simp [*]; done)), (by first | rfl | (simp; done) | (simp [*]; done)), H', ⟨Nat.le_refl _⟩, ⟨by exact rU <| Kd.Bj HO_11.out (fun _ hk => ⟨hk.1.1, ⟨hk.1.2, hk.2⟩⟩)⟩, ⟨by exact rU <| Kd.Bj HO_14.out (fun _ hk => ⟨hk.1.1, ⟨hk.1.2, hk.2⟩⟩)⟩, ⟨by exact rU <| Kd.Bj HO_17.out (fun _ hk => ⟨hk.1.1, ⟨hk.1.2, hk.2⟩⟩)⟩, ⟨by exact rU <| Kd.Bj HO166.out (fun _ hk => ⟨hk.1.1.2, ⟨hk.1.2, hk.2⟩⟩)⟩, ⟨by exact rU <| HO_146002.out⟩, ⟨by exact bU <| BK129.out⟩, ⟨by exact bU <| BK145.out⟩, ⟨by repeat (first | (with_reducible first | exact HB.out | apply Ad | apply Ac | apply Ah | refine Ae ?_ GE129.out | refine Ae ?_ GE145.out) | exact HB.out)⟩⟩
                    case round => as_aux_lemma =>
                     clear H'
                     try clear c1
                     try clear p1
                     try clear q1
                     try clear hx1
                     try clear qi1
                     try clear p2
                     try clear c3
                     try clear c8
                     try clear c9
                     try clear c10
                     try clear p15
                     try clear q15
                     try clear hx15
                     try clear p16
                     try clear q16
                     try clear hx16
                     try clear qi16
                     try clear c35
                     try clear c86
                     try clear c91
                     try clear c92
                     try clear c93
                     try clear c93b0
                     try clear c96
                     try clear c96b0
                     try clear c97
                     try clear c97b0
                     try clear c97b1
                     try clear c98
                     try clear c98b0
                     try clear c99
                     try clear c99b0
                     try clear c103
                     try clear c104
                     try clear c104b0
                     try clear c105
                     try clear c105b0
                     try clear hx155_0
                     try clear hx156_0
                     try clear hx157_0
                     try clear hx158_0
                     try clear hx159_0
                     try clear hx160_0
                     try clear hx161_0
                     try clear hx162_0
                     try clear hx163_0
                     try clear p1
                     try clear p15
                     try clear p155
                     try clear p156
                     try clear p157
                     try clear p158
                     try clear p159
                     try clear p16
                     try clear p160
                     try clear p161
                     try clear p162
                     try clear p163
                     try clear p2
                     try clear q1
                     try clear q15
                     try clear q155
                     try clear q156
                     try clear q157
                     try clear q158
                     try clear q159
                     try clear q16
                     try clear q160
                     try clear q161
                     try clear q162
                     try clear q163
                     obtain ⟨x19_5, x21_5, rfl, rfl, HA, HK5, HO_11, HO_14, HO_17, HO_20, HO_146002, BK129, BK145, HB⟩ := hrel
                     cases gk with
                     | zero => exact absurd HA.out (by simp [Ab.l1])
                     | succ k5 =>
                      have H := HA.out
                      clear HA
                      simp only [Ab.l1] at H
                      by_cases c109 : x21_5 < (t164.length : Int)
                      ·rw [if_pos c109] at H
                       have c109b0 : decide (x21_5 < (t164.length : Int)) = true := decide_eq_true c109
                       clear c109
                       by_cases c110 : 0 ≤ x21_5
                       ·rw [if_pos c110] at H
                        have c110b0 : decide (0 ≤ x21_5) = true := decide_eq_true c110
                        clear c110
                        by_cases c111 : 0 ≤ (rd t164 x21_5)
                        ·rw [if_pos c111] at H
                         have c111b0 : decide (0 ≤ (rd t164 x21_5)) = true := decide_eq_true c111
                         clear c111
                         by_cases c112 : (rd t164 x21_5) < (x17_3.length : Int)
                         ·rw [if_pos c112] at H
                          have c112b0 : decide ((rd t164 x21_5) < (x17_3.length : Int)) = true := decide_eq_true c112
                          clear c112
                          by_cases c113 : (rd x17_3 (rd t164 x21_5)) > 0
                          ·rw [if_pos c113] at H
                           have c113b0 : decide (0 < (rd x17_3 (rd t164 x21_5))) = true := decide_eq_true c113
                           clear c113
                           by_cases c114 : x19_5 = 0
                           ·rw [if_pos c114] at H
                            have c114b0 : (x19_5 == 0) = true := beq_iff_eq.mpr c114
                            have c114b1 : (x19_5 != 0) = false := bne_eq_false_iff_eq.mpr c114
                            clear c114
                            have H' := Aa.mk H
                            clear H
                            obtain ⟨Ao115, co115, eo115⟩ := Kd.Br HO_20.out
                            subst eo115
                            have p167 : 0 ≤ (x21_5 : Int) := of_decide_eq_true (by first | (with_reducible assumption) | assumption)
                            have q167 : x21_5 < (t164.length : Int) := of_decide_eq_true (by first | (with_reducible assumption) | assumption)
                            obtain ⟨ad167, e167, hx167_0⟩ := Kd.at_int (Kd.As HO_20.out).2.2 x21_5 p167 q167
                            cases e167
                            replace p167 := eq_true p167
                            replace q167 := eq_true q167
                            obtain ⟨Ao116, co116, eo116⟩ := Kd.Br HO_17.out
                            subst eo116
                            have p168 : 0 ≤ ((rd t164 x21_5) : Int) := of_decide_eq_true (by first | (with_reducible assumption) | assumption)
                            have q168 : (rd t164 x21_5) < (x17_3.length : Int) := of_decide_eq_true (by first | (with_reducible assumption) | assumption)
                            obtain ⟨ad168, e168, hx168_0⟩ := Kd.at_int (Kd.As HO_17.out).2.2 (rd t164 x21_5) p168 q168
                            cases e168
                            replace p168 := eq_true p168
                            replace q168 := eq_true q168
                            have p169 : 0 ≤ (x21_5 : Int) := of_decide_eq_true (by first | (with_reducible assumption) | assumption)
                            have q169 : x21_5 < (t164.length : Int) := of_decide_eq_true (by first | (with_reducible assumption) | assumption)
                            obtain ⟨ad169, e169, hx169_0⟩ := Kd.at_int (Kd.As HO_20.out).2.2 x21_5 p169 q169
                            obtain rfl : ad167 = ad169 := (by injection e169)
                            replace p169 := eq_true p169
                            replace q169 := eq_true q169
                            have p170 : 0 ≤ ((rd t164 x21_5) : Int) := of_decide_eq_true (by first | (with_reducible assumption) | assumption)
                            have q170 : (rd t164 x21_5) < (x17_3.length : Int) := of_decide_eq_true (by first | (with_reducible assumption) | assumption)
                            obtain ⟨ad170, e170, hx170_0⟩ := Kd.at_int (Kd.As HO_17.out).2.2 (rd t164 x21_5) p170 q170
                            obtain rfl : ad168 = ad170 := (by injection e170)
                            replace p170 := eq_true p170
                            replace q170 := eq_true q170
                            go_wp2
                            go_roundg k5
                            case measure => have := HJ10.out; have := HJ58.out; have := HK3.out; have := HJ84.out; have := HK5.out; omega
                            case rel => exact ⟨(rd x17_3 (rd t164 x21_5)), (wrap64 (x21_5 + 1)), (by first | rfl | (simp; done) | (simp [*]; done)), (by first | rfl | (simp; done) | (simp [*]; done)), H', ⟨by have := HJ10.out; have := HJ58.out; have := HK3.out; have := HJ84.out; have := HK5.out; omega⟩, ⟨by exact rU <| HO_11.out⟩, ⟨by exact rU <| HO_14.out⟩, ⟨by exact rU <| HO_17.out⟩, ⟨by exact rU <| HO_20.out⟩, ⟨by exact rU <| HO_146002.out⟩, ⟨by exact bU <| BK129.out⟩, ⟨by exact bU <| BK145.out⟩, ⟨by repeat (first | (with_reducible first | exact HB.out | apply Ad | apply Ac | apply Ah | refine Ae ?_ GE129.out | refine Ae ?_ GE145.out) | exact HB.out)⟩⟩
                           ·rw [if_neg c114] at H
                            have c114b0 : (x19_5 == 0) = false := beq_eq_false_iff_ne.mpr c114
                            have c114b1 : (x19_5 != 0) = true := bne_iff_ne.mpr c114
                            by_cases c117 : (rd x17_3 (rd t164 x21_5)) < x19_5
                            ·rw [if_pos c117] at H
                             have c117b0 : decide ((rd x17_3 (rd t164 x21_5)) < x19_5) = true := decide_eq_true c117
                             clear c117
                             have H' := Aa.mk H
                             clear H
                             obtain ⟨Ao118, co118, eo118⟩ := Kd.Br HO_20.out
                             subst eo118
                             have p167 : 0 ≤ (x21_5 : Int) := of_decide_eq_true (by first | (with_reducible assumption) | assumption)
                             have q167 : x21_5 < (t164.length : Int) := of_decide_eq_true (by first | (with_reducible assumption) | assumption)
                             obtain ⟨ad167, e167, hx167_0⟩ := Kd.at_int (Kd.As HO_20.out).2.2 x21_5 p167 q167
                             cases e167
                             replace p167 := eq_true p167
                             replace q167 := eq_true q167
                             obtain ⟨Ao119, co119, eo119⟩ := Kd.Br HO_17.out
                             subst eo119
                             have p168 : 0 ≤ ((rd t164 x21_5) : Int) := of_decide_eq_true (by first | (with_reducible assumption) | assumption)
                             have q168 : (rd t164 x21_5) < (x17_3.length : Int) := of_decide_eq_true (by first | (with_reducible assumption) | assumption)
                             obtain ⟨ad168, e168, hx168_0⟩ := Kd.at_int (Kd.As HO_17.out).2.2 (rd t164 x21_5) p168 q168
                             cases e168
                             replace p168 := eq_true p168
                             replace q168 := eq_true q168
                             have p171 : 0 ≤ (x21_5 : Int) := of_decide_eq_true (by first | (with_reducible assumption) | assumption)
                             have q171 : x21_5 < (t164.length : Int) := of_decide_eq_true (by first | (with_reducible assumption) | assumption)
                             obtain ⟨ad171, e171, hx171_0⟩ := Kd.at_int (Kd.As HO_20.out).2.2 x21_5 p171 q171
                             obtain rfl : ad167 = ad171 := (by injection e171)
                             replace p171 := eq_true p171
                             replace q171 := eq_true q171
                             have p172 : 0 ≤ ((rd t164 x21_5) : Int) := of_decide_eq_true (by first | (with_reducible assumption) | assumption)
                             have q172 : (rd t164 x21_5) < (x17_3.length : Int) := of_decide_eq_true (by first | (with_reducible assumption) | assumption)
                             obtain ⟨ad172, e172, hx172_0⟩ := Kd.at_int (Kd.As HO_17.out).2.2 (rd t164 x21_5) p172 q172
                             obtain rfl : ad168 = ad172 := (by injection e172)
                             replace p172 := eq_true p172
                             replace q172 := eq_true q172
                             have p173 : 0 ≤ (x21_5 : Int) := of_decide_eq_true (by first | (with_reducible assumption) | assumption)
                             have q173 : x21_5 < (t164.length : Int) := of_decide_eq_true (by first | (with_reducible assumption) | assumption)
                             obtain ⟨ad173, e173, hx173_0⟩ := Kd.at_int (Kd.As HO_20.out).2.2 x21_5 p173 q173
                             obtain rfl : ad167 = ad173 := (by injection e173)
                             replace p173 := eq_true p173
                             replace q173 := eq_true q173
                             have p174 : 0 ≤ ((rd t164 x21_5) : Int) := of_decide_eq_true (by first | (with_reducible assumption) | assumption)
                             have q174 : (rd t164 x21_5) < (x17_3.length : Int) := of_decide_eq_true (by first | (with_reducible assumption) | assumption)
                             obtain ⟨ad174, e174, hx174_0⟩ := Kd.at_int (Kd.As HO_17.out).2.2 (rd t164 x21_5) p174 q174
                             obtain rfl : ad168 = ad174 := (by injection e174)
                             replace p174 := eq_true p174
                             replace q174 := eq_true q174
                             go_wp2
                             go_roundg k5
                             case measure => have := HJ10.out; have := HJ58.out; have := HK3.out; have := HJ84.out; have := HK5.out; omega
                             case rel => exact ⟨(rd x17_3 (rd t164 x21_5)), (wrap64 (x21_5 + 1)), (by first | rfl | (simp; done) | (simp [*]; done)), (by first | rfl | (simp; done) | (simp [*]; done)), H', ⟨by have := HJ10.out; have := HJ58.out; have := HK3.out; have := HJ84.out; have := HK5.out; omega⟩, ⟨by exact rU <| HO_11.out⟩, ⟨by exact rU <| HO_14.out⟩, ⟨by exact rU <| HO_17.out⟩, ⟨by exact rU <| HO_20.out⟩, ⟨by exact rU <| HO_146002.out⟩, ⟨by exact bU <| BK129.out⟩, ⟨by exact bU <| BK145.out⟩, ⟨by repeat (first | (with_reducible first | exact HB.out | apply Ad | apply Ac | apply Ah | refine Ae ?_ GE129.out | refine Ae ?_ GE145.out) | exact HB.out)⟩⟩
                            ·rw [if_neg c117] at H
                             have c117b0 : decide ((rd x17_3 (rd t164 x21_5)) < x19_5) = false := decide_eq_false c117
                             clear c117
                             have H' := Aa.mk H
                             clear H
                             obtain ⟨Ao120, co120, eo120⟩ := Kd.Br HO_20.out
                             subst eo120
                             have p167 : 0 ≤ (x21_5 : Int) := of_decide_eq_true (by first | (with_reducible assumption) | assumption)
                             have q167 : x21_5 < (t164.length : Int) := of_decide_eq_true (by first | (with_reducible assumption) | assumption)
                             obtain ⟨ad167, e167, hx167_0⟩ := Kd.at_int (Kd.As HO_20.out).2.2 x21_5 p167 q167
                             cases e167
                             replace p167 := eq_true p167
                             replace q167 := eq_true q167
                             obtain ⟨Ao121, co121, eo121⟩ := Kd.Br HO_17.out
                             subst eo121
                             have p168 : 0 ≤ ((rd t164 x21_5) : Int) := of_decide_eq_true (by first | (with_reducible assumption) | assumption)
                             have q168 : (rd t164 x21_5) < (x17_3.length : Int) := of_decide_eq_true (by first | (with_reducible assumption) | assumption)
                             obtain ⟨ad168, e168, hx168_0⟩ := Kd.at_int (Kd.As HO_17.out).2.2 (rd t164 x21_5) p168 q168
                             cases e168
                             replace p168 := eq_true p168
                             replace q168 := eq_true q168
                             have p171 : 0 ≤ (x21_5 : Int) := of_decide_eq_true (by first | (with_reducible assumption) | assumption)
                             have q171 : x21_5 < (t164.length : Int) := of_decide_eq_true (by first | (with_reducible assumption) | assumption)
                             obtain ⟨ad171, e171, hx171_0⟩ := Kd.at_int (Kd.As HO_20.out).2.2 x21_5 p171 q171
                             obtain rfl : ad167 = ad171 := (by injection e171)
                             replace p171 := eq_true p171
                             replace q171 := eq_true q171
                             have p172 : 0 ≤ ((rd t164 x21_5) : Int) := of_decide_eq_true (by first | (with_reducible assumption) | assumption)
                             have q172 : (rd t164 x21_5) < (x17_3.length : Int) := of_decide_eq_true (by first | (with_reducible assumption) | assumption)
                             obtain ⟨ad172, e172, hx172_0⟩ := Kd.at_int (Kd.As HO_17.out).2.2 (rd t164 x21_5) p172 q172
                             obtain rfl : ad168 = ad172 := (by injection e172)
                             replace p172 := eq_true p172
                             replace q172 := eq_true q172
                             go_wp2
                             go_roundg k5
                             case measure => have := HJ10.out; have := HJ58.out; have := HK3.out; have := HJ84.out; have := HK5.out; omega
                             case rel => exact ⟨(x19_5), (wrap64 (x21_5 + 1)), (by first | rfl | (simp; done) | (simp [*]; done)), (by first | rfl | (simp; done) | (simp [*]; done)), H', ⟨by have := HJ10.out; have := HJ58.out; have := HK3.out; have := HJ84.out; have := HK5.out; omega⟩, ⟨by exact rU <| HO_11.out⟩, ⟨by exact rU <| HO_14.out⟩, ⟨by exact rU <| HO_17.out⟩, ⟨by exact rU <| HO_20.out⟩, ⟨by exact rU <| HO_146002.out⟩, ⟨by exact bU <| BK129.out⟩, ⟨by exact bU <| BK145.out⟩, ⟨by repeat (first | (with_reducible first | exact HB.out | apply Ad | apply Ac | apply Ah | refine Ae ?_ GE129.out | refine Ae ?_ GE145.out) | exact HB.out)⟩⟩
                          ·rw [if_neg c113] at H
                           have c113b0 : decide (0 < (rd x17_3 (rd t164 x21_5))) = false := decide_eq_false c113
                           clear c113
                           have H' := Aa.mk H
                           clear H
                           obtain ⟨Ao122, co122, eo122⟩ := Kd.Br HO_20.out
                           subst eo122
                           have p167 : 0 ≤ (x21_5 : Int) := of_decide_eq_true (by first | (with_reducible assumption) | assumption)
                           have q167 : x21_5 < (t164.length : Int) := of_decide_eq_true (by first | (with_reducible assumption) | assumption)
                           obtain ⟨ad167, e167, hx167_0⟩ := Kd.at_int (Kd.As HO_20.out).2.2 x21_5 p167 q167
                           cases e167
                           replace p167 := eq_true p167
                           replace q167 := eq_true q167
                           obtain ⟨Ao123, co123, eo123⟩ := Kd.Br HO_17.out
                           subst eo123
                           have p168 : 0 ≤ ((rd t164 x21_5) : Int) := of_decide_eq_true (by first | (with_reducible assumption) | assumption)
                           have q168 : (rd t164 x21_5) < (x17_3.length : Int) := of_decide_eq_true (by first | (with_reducible assumption) | assumption)
                           obtain ⟨ad168, e168, hx168_0⟩ := Kd.at_int (Kd.As HO_17.out).2.2 (rd t164 x21_5) p168 q168
                           cases e168
                           replace p168 := eq_true p168
                           replace q168 := eq_true q168
                           go_wp2
                           go_roundg k5
                           case measure => have := HJ10.out; have := HJ58.out; have := HK3.out; have := HJ84.out; have := HK5.out; omega
                           case rel => exact ⟨(x19_5), (wrap64 (x21_5 + 1)), (by first | rfl | (simp; done) | (simp [*]; done)), (by first | rfl | (simp; done) | (simp [*]; done)), H', ⟨by have := HJ10.out; have := HJ58.out; have := HK3.out; have := HJ84.out; have := HK5.out; omega⟩, ⟨by exact rU <| HO_11.out⟩, ⟨by exact rU <| HO_14.out⟩, ⟨by exact rU <| HO_17.out⟩, ⟨by exact rU <| HO_20.out⟩, ⟨by exact rU <| HO_146002.out⟩, ⟨by exact bU <| BK129.out⟩, ⟨by exact bU <| BK145.out⟩, ⟨by repeat (first | (with_reducible first | exact HB.out | apply Ad | apply Ac | apply Ah | refine Ae ?_ GE129.out | refine Ae ?_ GE145.out) | exact HB.out)⟩⟩
                         ·rw [if_neg c112] at H
                          exact absurd H (by simp)
                        ·rw [if_neg c111] at H
                         exact absurd H (by simp)
                       ·rw [if_neg c110] at H
                        exact absurd H (by simp)
                      ·rw [if_neg c109] at H
                       have c109b0 : decide (x21_5 < (t164.length : Int)) = false := decide_eq_false c109
                       clear c109
                       by_cases c124 : ((x19_5 == 0) != (x18_3 == 0)) = true
                       ·rw [if_pos c124] at H
                        have c124b0 : ((x19_5 == 0) != (x18_3 == 0)) = true := c124
                        (try (have c124b1 : decide ((x19_5 == 0) = (x18_3 == 0)) = false := by simpa using c124))
                        (try (have c124b2 : ((x19_5 == 0) == (x18_3 == 0)) = false := by simpa using c124))
                        (try (have c124b3 : ¬ ((x19_5 == 0) = (x18_3 == 0)) := by simpa using c124))
                        clear c124
                        obtain rfl := Option.some.inj H
                        obtain ⟨Ao125, co125, eo125⟩ := Kd.Br HO_20.out
                        subst eo125
                        go_wp2
                        go_ret
                        exact ⟨by first | rfl | (simp [Ay, Ax] <;> rfl) | (simp [*, Ay, Ax] <;> rfl), by repeat (first | (with_reducible first | exact HB.out | apply Ad | apply Ac | apply Ah | refine Ae ?_ GE129.out | refine Ae ?_ GE145.out) | exact HB.out)⟩
                       ·rw [if_neg c124] at H
                        have c124b0 : ((x19_5 == 0) != (x18_3 == 0)) = false := by simpa using c124
                        (try (have c124b1 : decide ((x19_5 == 0) = (x18_3 == 0)) = true := by simpa using c124))
                        (try (have c124b2 : ((x19_5 == 0) == (x18_3 == 0)) = true := by simpa using c124))
                        clear c124
                        by_cases c126 : 0 ≤ x18_3
                        ·rw [if_pos c126] at H
                         have c126b0 : decide (0 ≤ x18_3) = true := decide_eq_true c126
                         clear c126
                         by_cases c127 : x18_3 < (t131.length : Int)
                         ·rw [if_pos c127] at H
                          have c127b0 : decide (x18_3 < (t131.length : Int)) = true := decide_eq_true c127
                          clear c127
                          by_cases c128 : 0 ≤ (rd t131 x18_3)
                          ·rw [if_pos c128] at H
                           have c128b0 : decide (0 ≤ (rd t131 x18_3)) = true := decide_eq_true c128
                           clear c128
                           by_cases c129 : (rd t131 x18_3) < (x17_3.length : Int)
                           ·rw [if_pos c129] at H
                            have c129b0 : decide ((rd t131 x18_3) < (x17_3.length : Int)) = true := decide_eq_true c129
                            clear c129
                            obtain ⟨y176, hy176⟩ : ∃ y_ : List Int, y_ = (x17_3.set ((rd t131 x18_3) : Int).toNat (wrap64 (x19_5 + 1))) := ⟨_, rfl⟩
                            replace H : (if x18_3 > 0 then (if 0 ≤ (wrap64 (x18_3 - 1)) then (if (wrap64 (x18_3 - 1)) < (t131.length : Int) then (if 0 ≤ (rd t131 (wrap64 (x18_3 - 1))) then (if (rd t131 (wrap64 (x18_3 - 1))) < (x17_3.length : Int) then (if (rd y176 (rd t131 x18_3)) < (rd y176 (rd t131 (wrap64 (x18_3 - 1)))) then (some false) else (Ab.l0 k5 a4 t131 t146 y176 (wrap64 (x18_3 + 1)) a0_0 a0_1 l0_2)) else (none)) else (none)) else (none)) else (none)) else (Ab.l0 k5 a4 t131 t146 y176 (wrap64 (x18_3 + 1)) a0_0 a0_1 l0_2)) = some r := by first | (rw [hy176]; with_reducible exact H) | (have H2_ := (Option.bind_some _ _).symm.trans H; rw [hy176]; with_reducible exact H2_) | (have H2_ := (Option.bind_some _ _).symm.trans H; with_reducible exact H2_) | with_reducible exact H | (rw [hy176]; exact H) | exact H
                            have Ny176 := Aa.mk hy176
                            clear hy176
                            by_cases c131 : x18_3 > 0
                            ·rw [if_pos c131] at H
                             have c131b0 : decide (0 < x18_3) = true := decide_eq_true c131
                             clear c131
                             obtain ⟨ji132, hji132⟩ : ∃ j_ : Int, (wrap64 (x18_3 - 1)) = j_ := ⟨_, rfl⟩
                             replace H : (if 0 ≤ (ji132) then (if (ji132) < (t131.length : Int) then (if 0 ≤ (rd t131 (ji132)) then (if (rd t131 (ji132)) < (x17_3.length : Int) then (if (rd y176 (rd t131 x18_3)) < (rd y176 (rd t131 (ji132))) then (some false) else (Ab.l0 k5 a4 t131 t146 y176 (wrap64 (x18_3 + 1)) a0_0 a0_1 l0_2)) else (none)) else (none)) else (none)) else (none)) = some r := by first | (rw [hji132] at H; exact H) | (simp only [hji132] at H ⊢; exact H)
                             have hji132w : (IntKind.i64.wrap (x18_3 - 1)) = ji132 := (i64_w _).trans hji132
                             by_cases c133 : 0 ≤ (ji132)
                             ·rw [if_pos c133] at H
                              have c133b0 : decide (0 ≤ (ji132)) = true := decide_eq_true c133
                              clear c133
                              by_cases c134 : (ji132) < (t131.length : Int)
                              ·rw [if_pos c134] at H
                               have c134b0 : decide ((ji132) < (t131.length : Int)) = true := decide_eq_true c134
                               clear c134
                               by_cases c135 : 0 ≤ (rd t131 (ji132))
                               ·rw [if_pos c135] at H
                                have c135b0 : decide (0 ≤ (rd t131 (ji132))) = true := decide_eq_true c135
                                clear c135
                                by_cases c136 : (rd t131 (ji132)) < (x17_3.length : Int)
                                ·rw [if_pos c136] at H
                                 have c136b0 : decide ((rd t131 (ji132)) < (x17_3.length : Int)) = true := decide_eq_true c136
                                 clear c136
                                 by_cases c137 : (rd y176 (rd t131 x18_3)) < (rd y176 (rd t131 (ji132)))
                                 ·rw [if_pos c137] at H
                                  have c137b0 : decide ((rd y176 (rd t131 x18_3)) < (rd y176 (rd t131 (ji132)))) = true := decide_eq_true c137
                                  clear c137
                                  exact absurd (H.trans (congrArg some HT.out)) (by decide)
                                 ·rw [if_neg c137] at H
                                  have c137b0 : decide ((rd y176 (rd t131 x18_3)) < (rd y176 (rd t131 (ji132)))) = false := decide_eq_false c137
                                  clear c137
                                  have H' := Aa.mk H
                                  clear H
                                  obtain ⟨Ao142, co142, eo142⟩ := Kd.Br HO_20.out
                                  subst eo142
                                  have p175 : 0 ≤ (x18_3 : Int) := of_decide_eq_true (by first | (with_reducible assumption) | assumption)
                                  have q175 : x18_3 < (t131.length : Int) := of_decide_eq_true (by first | (with_reducible assumption) | assumption)
                                  obtain ⟨ad175, e175, hx175_0⟩ := Kd.at_int (Kd.As HO_11.out).2.2 x18_3 p175 q175
                                  obtain rfl : ad139 = ad175 := (by injection e175)
                                  replace p175 := eq_true p175
                                  replace q175 := eq_true q175
                                  have p130 : 0 ≤ ((rd t131 x18_3) : Int) := of_decide_eq_true (by first | (with_reducible assumption) | assumption)
                                  have q130 : ((rd t131 x18_3) : Int) < ((x17_3.length : Int) : Int) := of_decide_eq_true (by first | (with_reducible assumption) | assumption)
                                  obtain ⟨go130, co130, eo130, gb130, gl130, cl130, HG130⟩ := Kd.R_form HO_17.out (by omega)
                                  (first | cases eo130 | (injection eo130 with ea_ en_ ec_; (first | subst ea_ | (injection ea_ with ea_; subst ea_)); subst ec_; clear en_))
                                  have GB130 := Aa.mk gb130
                                  have GG130 := Aa.mk HG130
                                  clear gb130 gl130 HG130
                                  obtain ⟨hx130_0, hf130_0⟩ := Kd.C6 0 HO_17.out ((rd t131 x18_3) : Int) p130 q130
                                  replace p130 := eq_true p130
                                  replace q130 := eq_true q130
                                  have HP143 := Kd.Dd HO_17.out ((rd t131 x18_3) : Int) (wrap64 (x19_5 + 1))
                                  try go_wp2_with ((with_reducible refine Cr (t := 3) (p := 225) rfl ?_); refine store_event (t := 3) (p := 225) (v := ?vo_w144) (w1 := (wr.setCell ⟨go130, ((rd t131 x18_3) : Int).toNat, none⟩ (.int .i64 (wrap64 (x19_5 + 1))))) ?hg ?ho ?hn ?hr ?_; (case ho => rfl); (case hg => rfl); (case hn => rfl); (case hr => first | (go_simp; done) | (go_simp; rfl)); intro w144 hw; have hg : wr.grownBy w144 (some go130) := (by rw [hw]; exact HP143.2); have hp_ : Kd.R (Kd.int .i64) 3 w144 w.heap.size (fun k_ => some k_ ≠ (.slice (some ad139) t131.length co61 : Value).ownBlock ∧ some k_ ≠ (v147 : Value).ownBlock ∧ some k_ ≠ (.slice Ao142 t164.length co142 : Value).ownBlock) (.slice (some ⟨go130, 0, none⟩) x17_3.length co130) y176 := (by rw [hw, Ny176.out]; exact HP143.1); clear HP143; have n0_ := Aa.mk (Kd.C0 (v := (.slice (some ⟨go130, 0, none⟩) x17_3.length co130)) (v1 := (.slice (some ⟨go130, 0, none⟩) x17_3.length co130)) (ok := (fun k_ => some k_ ≠ (v147 : Value).ownBlock ∧ some k_ ≠ (.slice Ao142 t164.length co142 : Value).ownBlock)) (by exact rU <| Kd.Bj HO_11.out (fun _ hk => ⟨⟨hk.1, hk.2.2⟩, hk.2.1⟩)) hg (.inl rfl)); have n1_ := Aa.mk (Kd.C0 (v := (.slice (some ⟨go130, 0, none⟩) x17_3.length co130)) (v1 := (.slice (some ⟨go130, 0, none⟩) x17_3.length co130)) (ok := (fun k_ => some k_ ≠ (.slice (some ad139) t131.length co61 : Value).ownBlock ∧ some k_ ≠ (.slice Ao142 t164.length co142 : Value).ownBlock)) (by exact rU <| Kd.Bj HO_14.out (fun _ hk => ⟨⟨hk.1, hk.2.2⟩, hk.2.1⟩)) hg (.inl rfl)); have n2_ := Aa.mk (hp_); have n3_ := Aa.mk (Kd.C0 (v := (.slice (some ⟨go130, 0, none⟩) x17_3.length co130)) (v1 := (.slice (some ⟨go130, 0, none⟩) x17_3.length co130)) (ok := (fun k_ => some k_ ≠ (.slice (some ad139) t131.length co61 : Value).ownBlock ∧ some k_ ≠ (v147 : Value).ownBlock)) (by exact rU <| Kd.Bj HO_20.out (fun _ hk => ⟨⟨hk.1, hk.2.1⟩, hk.2.2⟩)) hg (.inl rfl)); have n4_ := Aa.mk (Kd.R_over' (v := (.slice (some ⟨go130, 0, none⟩) x17_3.length co130)) (by exact rU <| HO_146002.out) (Kd.R_typed HO_17.out) (by decide) hg); have n5_ := Aa.mk (Bv (g := gb129) (o := .cells #[.int .i64 a0_0, .int .i64 a0_1, .slice A0_2 l0_2.length c0_2] 24 (0, 0)) (by exact bU <| BK129.out) hg (Kd.C1 HO_17.out BK129.out (by decide))); have n6_ := Aa.mk (Bv (g := gb145) (o := .cells #[.int .i64 t140, .int .i64 t141, .slice Ao67 t142.length co67] 50 (0, 0)) (by exact bU <| BK145.out) hg (Kd.C1 HO_17.out BK145.out (by decide))); have n7_ := Aa.mk ((by rw [hw]; exact Ae (HB.out) GB130.out : Below w.heap.size w w144)); clear HO_11; clear HO_14; clear HO_17; clear HO_20; clear HO_146002; clear BK129; clear BK145; clear HB; have HO_11 := n0_; have HO_14 := n1_; have HO_17 := n2_; have HO_20 := n3_; have HO_146002 := n4_; have BK129 := n5_; have BK145 := n6_; have HB := n7_; clear n0_ n1_ n2_ n3_ n4_ n5_ n6_ n7_; clear hg hw hp_)
                                  have n0_ := Aa.mk (Kd.Cm HO_11.out)
                                  have n1_ := Aa.mk (Kd.Cm HO_14.out)
                                  have n2_ := Aa.mk (Kd.Cm HO_17.out)
                                  have n3_ := Aa.mk (Kd.Cm HO_20.out)
                                  have n4_ := Aa.mk (Kd.Cm HO_146002.out)
                                  have n5_ := Aa.mk (Aq BK129.out)
                                  have n6_ := Aa.mk (Aq BK145.out)
                                  have n7_ := Aa.mk (Ah HB.out)
                                  clear HO_11
                                  clear HO_14
                                  clear HO_17
                                  clear HO_20
                                  clear HO_146002
                                  clear BK129
                                  clear BK145
                                  clear HB
                                  have HO_11 := n0_
                                  have HO_14 := n1_
                                  have HO_17 := n2_
                                  have HO_20 := n3_
                                  have HO_146002 := n4_
                                  have BK129 := n5_
                                  have BK145 := n6_
                                  have HB := n7_
                                  clear n0_ n1_ n2_ n3_ n4_ n5_ n6_ n7_
                                  have p177 : 0 ≤ (x18_3 : Int) := of_decide_eq_true (by first | (with_reducible assumption) | assumption)
                                  have q177 : x18_3 < (t131.length : Int) := of_decide_eq_true (by first | (with_reducible assumption) | assumption)
                                  obtain ⟨ad177, e177, hx177_0⟩ := Kd.at_int (Kd.As HO_11.out).2.2 x18_3 p177 q177
                                  obtain rfl : ad139 = ad177 := (by injection e177)
                                  replace p177 := eq_true p177
                                  replace q177 := eq_true q177
                                  have p178 : 0 ≤ ((rd t131 x18_3) : Int) := of_decide_eq_true (by first | (with_reducible assumption) | assumption)
                                  have q178 : (rd t131 x18_3) < (y176.length : Int) := (by have h_ : ((rd t131 x18_3) : Int) < ((x17_3.length : Int) : Int) := of_decide_eq_true (by first | (with_reducible assumption) | assumption); first | (have e_ := (Kd.As HO_17.out).1; omega) | simpa only [Ny176.out, List.length_set] using h_)
                                  have ql178 : (((rd t131 x18_3) : Int) < ((x17_3.length : Int) : Int)) = True := eq_true (of_decide_eq_true (by first | (with_reducible assumption) | assumption))
                                  obtain ⟨ad178, e178, hx178_0⟩ := Kd.at_int (Kd.As HO_17.out).2.2 (rd t131 x18_3) p178 q178
                                  obtain rfl : (⟨go130, 0, none⟩ : Addr) = ad178 := (by injection e178)
                                  (first | simp only [add_plain] at hx178_0 | simp only [add_at] at hx178_0 | simp only [Addr.add, Nat.zero_add] at hx178_0 | skip)
                                  replace p178 := eq_true p178
                                  replace q178 := eq_true q178
                                  have p179 : 0 ≤ ((ji132) : Int) := of_decide_eq_true (by first | (with_reducible assumption) | assumption)
                                  have q179 : (ji132) < (t131.length : Int) := of_decide_eq_true (by first | (with_reducible assumption) | assumption)
                                  obtain ⟨ad179, e179, hx179_0⟩ := Kd.at_int (Kd.As HO_11.out).2.2 (ji132) p179 q179
                                  obtain rfl : ad139 = ad179 := (by injection e179)
                                  replace p179 := eq_true p179
                                  replace q179 := eq_true q179
                                  have p180 : 0 ≤ ((rd t131 (ji132)) : Int) := of_decide_eq_true (by first | (with_reducible assumption) | assumption)
                                  have q180 : (rd t131 (ji132)) < (y176.length : Int) := (by have h_ : ((rd t131 (ji132)) : Int) < ((x17_3.length : Int) : Int) := of_decide_eq_true (by first | (with_reducible assumption) | assumption); first | (have e_ := (Kd.As HO_17.out).1; omega) | simpa only [Ny176.out, List.length_set] using h_)
                                  have ql180 : (((rd t131 (ji132)) : Int) < ((x17_3.length : Int) : Int)) = True := eq_true (of_decide_eq_true (by first | (with_reducible assumption) | assumption))
                                  obtain ⟨ad180, e180, hx180_0⟩ := Kd.at_int (Kd.As HO_17.out).2.2 (rd t131 (ji132)) p180 q180
                                  obtain rfl : (⟨go130, 0, none⟩ : Addr) = ad180 := (by injection e180)
                                  (first | simp only [add_plain] at hx180_0 | simp only [add_at] at hx180_0 | simp only [Addr.add, Nat.zero_add] at hx180_0 | skip)
                                  replace p180 := eq_true p180
                                  replace q180 := eq_true q180
                                  refine start_ (n := 20) (S := fun w' => w'.cell? (ad139.add (x18_3).toNat) = some (.int .i64 (rd t131 x18_3)) ∧ w'.cell? ⟨go130, ((rd t131 x18_3)).toNat, none⟩ = some (.int .i64 (rd y176 (rd t131 x18_3))) ∧ w'.cell? (ad139.add ((ji132)).toNat) = some (.int .i64 (rd t131 (ji132))) ∧ w'.cell? ⟨go130, ((rd t131 (ji132))).toNat, none⟩ = some (.int .i64 (rd y176 (rd t131 (ji132))))) (ds := []) #[false, false, false, false, false, false, false, false, false, false, false, false, false, false, false, false, false, false, false, false] (by kernel_rfl) rfl rfl ⟨hx177_0, hx178_0, hx179_0, hx180_0⟩ (fun hHeld => ?_); refine with_tabW Ab.tab28 Ab.bits28 (fun HT_ HW_ => ?_)
                                  generalize w144.drew = w145 at HO_11 HO_14 HO_17 HO_20 HO_146002 BK129 BK145 HB hx177_0 hx178_0 hx179_0 hx180_0 hHeld ⊢
                                  refine pure_ (i := 0) (N := some 226) (v := ?_) (a' := ?_) (bA 20 1) rfl rfl (any_of HT_.out (by kernel_rfl)) (fun _ _ _ h => h) (Or.inl ⟨by rfl, ?_⟩) ?_ ?_
                                  rotate_left; (intro w'; go_simp; with_reducible rfl); rotate_left; (simp only [Act.put, sA, sB, sC, i64_w, i32_w]; rfl)
                                  refine pure_ (i := 1) (N := some 227) (v := ?_) (a' := ?_) (bA 20 3) rfl rfl (any_of HT_.out (by kernel_rfl)) (fun _ _ _ h => h) (Or.inl ⟨by rfl, ?_⟩) ?_ ?_
                                  rotate_left; (intro w'; go_simp; with_reducible rfl); rotate_left; (simp only [Act.put, sA, sB, sC, i64_w, i32_w]; rfl)
                                  refine pure_ (i := 2) (N := some 228) (v := ?_) (a' := ?_) (bA 20 7) rfl rfl (any_of HT_.out (by kernel_rfl)) (fun _ _ _ h => h) (Or.inl ⟨by rfl, ?_⟩) ?_ ?_
                                  rotate_left; (intro w'; go_simp; with_reducible rfl); rotate_left; (simp only [Act.put, sA, sB, sC, i64_w, i32_w]; rfl)
                                  refine pure_ (i := 3) (N := some 229) (v := ?_) (a' := ?_) (bA 20 15) rfl rfl (any_of HT_.out (by kernel_rfl)) (fun _ _ _ h => h) (Or.inl ⟨by rfl, ?_⟩) ?_ ?_
                                  rotate_left; (intro w'; go_simp; with_reducible rfl); rotate_left; (simp only [Act.put, sA, sB, sC, i64_w, i32_w]; rfl)
                                  refine pure_ (i := 4) (N := some 230) (v := ?_) (a' := ?_) (bA 20 31) rfl rfl (any_of HT_.out (by kernel_rfl)) (fun _ _ _ h => h) (Or.inl ⟨by rfl, ?_⟩) ?_ ?_
                                  rotate_left; (intro w'; go_simp; with_reducible rfl); rotate_left; (simp only [Act.put, sA, sB, sC, i64_w, i32_w]; rfl)
                                  refine pure_ (i := 5) (N := some 231) (v := ?_) (a' := ?_) (bA 20 63) rfl rfl (any_of HT_.out (by kernel_rfl)) (fun _ _ _ h => h) (Or.inl ⟨by rfl, ?_⟩) ?_ ?_
                                  rotate_left; (intro w'; go_simp; with_reducible rfl); rotate_left; (simp only [Act.put, sA, sB, sC, i64_w, i32_w]; rfl)
                                  refine pure_ (i := 6) (N := some 232) (v := ?_) (a' := ?_) (bA 20 127) rfl rfl (any_of HT_.out (by kernel_rfl)) (fun _ _ _ h => h) (Or.inl ⟨by rfl, ?_⟩) ?_ ?_
                                  rotate_left; (intro w'; go_simp; with_reducible rfl); rotate_left; (simp only [Act.put, sA, sB, sC, i64_w, i32_w]; rfl)
                                  refine pure_ (i := 10) (N := some 236) (v := ?_) (a' := ?_) (bA 20 1151) rfl rfl (any_of HT_.out (by kernel_rfl)) (fun _ _ _ h => h) (Or.inl ⟨by rfl, ?_⟩) ?_ ?_
                                  rotate_left; (intro w'; go_simp; with_reducible rfl); rotate_left; (simp only [Act.put, sA, sB, sC, i64_w, i32_w]; rfl)
                                  refine pure_ (i := 11) (N := some 237) (v := ?_) (a' := ?_) (bA 20 3199) rfl rfl (any_of HT_.out (by kernel_rfl)) (fun _ _ _ h => h) (Or.inl ⟨by rfl, ?_⟩) ?_ ?_
                                  rotate_left; (intro w'; go_simp; with_reducible rfl); rotate_left; (simp only [Act.put, sA, sB, sC, i64_w, i32_w]; rfl)
                                  refine pure_ (i := 12) (N := some 238) (v := ?_) (a' := ?_) (bA 20 7295) rfl rfl (any_of HT_.out (by kernel_rfl)) (fun _ _ _ h => h) (Or.inl ⟨by rfl, ?_⟩) ?_ ?_
                                  rotate_left; (intro w'; go_simp; with_reducible rfl); rotate_left; (simp only [Act.put, sA, sB, sC, i64_w, i32_w]; rfl)
                                  refine pure_ (i := 13) (N := some 239) (v := ?_) (a' := ?_) (bA 20 15487) rfl rfl (any_of HT_.out (by kernel_rfl)) (fun _ _ _ h => h) (Or.inl ⟨by rfl, ?_⟩) ?_ ?_
                                  rotate_left; (intro w'; go_simp; with_reducible rfl); rotate_left; (simp only [Act.put, sA, sB, sC, i64_w, i32_w]; rfl)
                                  refine pure_ (i := 14) (N := some 240) (v := ?_) (a' := ?_) (bA 20 31871) rfl rfl (any_of HT_.out (by kernel_rfl)) (fun _ _ _ h => h) (Or.inl ⟨by rfl, ?_⟩) ?_ ?_
                                  rotate_left; (intro w'; go_simp; with_reducible rfl); rotate_left; (simp only [Act.put, sA, sB, sC, i64_w, i32_w]; rfl)
                                  refine take_ (i := 7) (N := some 233) (v := ?_) (a' := ?_) (bA 20 31999) rfl rfl (take_ofW HT_.out HW_.out (by kernel_rfl)) (fun _ _ _ h => h) (Or.inl ⟨by rfl, ?_⟩) hHeld ?_ ?_
                                  rotate_left; (rintro w' ⟨s0, s1, s2, s3⟩; go_simp; with_reducible rfl); rotate_left; (simp only [Act.put, sA, sB, sC, i64_w, i32_w]; rfl)
                                  refine pure_ (i := 8) (N := some 234) (v := ?_) (a' := ?_) (bA 20 32255) rfl rfl (any_of HT_.out (by kernel_rfl)) (fun _ _ _ h => h) (Or.inl ⟨by rfl, ?_⟩) ?_ ?_
                                  rotate_left; (intro w'; go_simp; with_reducible rfl); rotate_left; (simp only [Act.put, sA, sB, sC, i64_w, i32_w]; rfl)
                                  refine take_ (i := 9) (N := some 235) (v := ?_) (a' := ?_) (bA 20 32767) rfl rfl (take_ofW HT_.out HW_.out (by kernel_rfl)) (fun _ _ _ h => h) (Or.inl ⟨by rfl, ?_⟩) hHeld ?_ ?_
                                  rotate_left; (rintro w' ⟨s0, s1, s2, s3⟩; go_simp; with_reducible rfl); rotate_left; (simp only [Act.put, sA, sB, sC, i64_w, i32_w]; rfl)
                                  refine take_ (i := 15) (N := some 241) (v := ?_) (a' := ?_) (bA 20 65535) rfl rfl (take_ofW HT_.out HW_.out (by kernel_rfl)) (fun _ _ _ h => h) (Or.inl ⟨by rfl, ?_⟩) hHeld ?_ ?_
                                  rotate_left; (rintro w' ⟨s0, s1, s2, s3⟩; go_simp; with_reducible rfl); rotate_left; (simp only [Act.put, sA, sB, sC, i64_w, i32_w]; rfl)
                                  refine pure_ (i := 16) (N := some 242) (v := ?_) (a' := ?_) (bA 20 131071) rfl rfl (any_of HT_.out (by kernel_rfl)) (fun _ _ _ h => h) (Or.inl ⟨by rfl, ?_⟩) ?_ ?_
                                  rotate_left; (intro w'; go_simp; with_reducible rfl); rotate_left; (simp only [Act.put, sA, sB, sC, i64_w, i32_w]; rfl)
                                  refine take_ (i := 17) (N := some 243) (v := ?_) (a' := ?_) (bA 20 262143) rfl rfl (take_ofW HT_.out HW_.out (by kernel_rfl)) (fun _ _ _ h => h) (Or.inl ⟨by rfl, ?_⟩) hHeld ?_ ?_
                                  rotate_left; (rintro w' ⟨s0, s1, s2, s3⟩; go_simp; with_reducible rfl); rotate_left; (simp only [Act.put, sA, sB, sC, i64_w, i32_w]; rfl)
                                  refine pure_ (i := 18) (N := some 244) (v := ?_) (a' := ?_) (bA 20 524287) rfl rfl (any_of HT_.out (by kernel_rfl)) (fun _ _ _ h => h) (Or.inl ⟨by rfl, ?_⟩) ?_ ?_
                                  rotate_left; (intro w'; go_simp; with_reducible rfl); rotate_left; (simp only [Act.put, sA, sB, sC, i64_w, i32_w]; rfl)
                                  refine pure_ (i := 19) (N := some 245) (v := ?_) (a' := ?_) (bA 20 1048575) rfl rfl (any_of HT_.out (by kernel_rfl)) (fun _ _ _ h => h) (Or.inl ⟨by rfl, ?_⟩) ?_ ?_
                                  rotate_left; (intro w'; go_simp; with_reducible rfl); rotate_left; (simp only [Act.put, sA, sB, sC, i64_w, i32_w]; rfl)
                                  refine done_ (done_of HT_.out (by kernel_rfl)) ?_
                                  try go_wp2
                                  go_roundg k5
                                  case measure => have := HJ10.out; have := HJ58.out; have := HK3.out; have := HJ84.out; have := HK5.out; omega
                                  case rel => exact ⟨(y176), (wrap64 (x18_3 + 1)), (by first | rfl | (simp; done) | (simp [*]; done)), H', ⟨by have := HJ10.out; have := HJ58.out; have := HK3.out; have := HJ84.out; have := HK5.out; omega⟩, ⟨by exact rU <| Kd.Bj HO_11.out (fun _ hk => ⟨hk.1.1, hk.2⟩)⟩, ⟨by exact rU <| Kd.Bj HO_14.out (fun _ hk => ⟨hk.1.1, hk.2⟩)⟩, ⟨by exact rU <| Kd.Bj HO_17.out (fun _ hk => ⟨hk.1, hk.2.1⟩)⟩, ⟨by exact rU <| HO_146002.out⟩, ⟨by exact bU <| BK129.out⟩, ⟨by exact bU <| BK145.out⟩, ⟨by repeat (first | (with_reducible first | exact HB.out | apply Ad | apply Ac | apply Ah | refine Ae ?_ GE129.out | refine Ae ?_ GE145.out) | exact HB.out)⟩⟩
                                ·rw [if_neg c136] at H
                                 exact absurd H (by simp)
                               ·rw [if_neg c135] at H
                                exact absurd H (by simp)
                              ·rw [if_neg c134] at H
                               exact absurd H (by simp)
                             ·rw [if_neg c133] at H
                              exact absurd H (by simp)
                            ·rw [if_neg c131] at H
                             have c131b0 : decide (0 < x18_3) = false := decide_eq_false c131
                             clear c131
                             have H' := Aa.mk H
                             clear H
                             obtain ⟨Ao146, co146, eo146⟩ := Kd.Br HO_20.out
                             subst eo146
                             have p175 : 0 ≤ (x18_3 : Int) := of_decide_eq_true (by first | (with_reducible assumption) | assumption)
                             have q175 : x18_3 < (t131.length : Int) := of_decide_eq_true (by first | (with_reducible assumption) | assumption)
                             obtain ⟨ad175, e175, hx175_0⟩ := Kd.at_int (Kd.As HO_11.out).2.2 x18_3 p175 q175
                             obtain rfl : ad139 = ad175 := (by injection e175)
                             replace p175 := eq_true p175
                             replace q175 := eq_true q175
                             have p130 : 0 ≤ ((rd t131 x18_3) : Int) := of_decide_eq_true (by first | (with_reducible assumption) | assumption)
                             have q130 : ((rd t131 x18_3) : Int) < ((x17_3.length : Int) : Int) := of_decide_eq_true (by first | (with_reducible assumption) | assumption)
                             obtain ⟨go130, co130, eo130, gb130, gl130, cl130, HG130⟩ := Kd.R_form HO_17.out (by omega)
                             (first | cases eo130 | (injection eo130 with ea_ en_ ec_; (first | subst ea_ | (injection ea_ with ea_; subst ea_)); subst ec_; clear en_))
                             have GB130 := Aa.mk gb130
                             have GG130 := Aa.mk HG130
                             clear gb130 gl130 HG130
                             obtain ⟨hx130_0, hf130_0⟩ := Kd.C6 0 HO_17.out ((rd t131 x18_3) : Int) p130 q130
                             replace p130 := eq_true p130
                             replace q130 := eq_true q130
                             have HP147 := Kd.Dd HO_17.out ((rd t131 x18_3) : Int) (wrap64 (x19_5 + 1))
                             try go_wp2_with ((with_reducible refine Cr (t := 3) (p := 225) rfl ?_); refine store_event (t := 3) (p := 225) (v := ?vo_w148) (w1 := (wr.setCell ⟨go130, ((rd t131 x18_3) : Int).toNat, none⟩ (.int .i64 (wrap64 (x19_5 + 1))))) ?hg ?ho ?hn ?hr ?_; (case ho => rfl); (case hg => rfl); (case hn => rfl); (case hr => first | (go_simp; done) | (go_simp; rfl)); intro w148 hw; have hg : wr.grownBy w148 (some go130) := (by rw [hw]; exact HP147.2); have hp_ : Kd.R (Kd.int .i64) 3 w148 w.heap.size (fun k_ => some k_ ≠ (.slice (some ad139) t131.length co61 : Value).ownBlock ∧ some k_ ≠ (v147 : Value).ownBlock ∧ some k_ ≠ (.slice Ao146 t164.length co146 : Value).ownBlock) (.slice (some ⟨go130, 0, none⟩) x17_3.length co130) y176 := (by rw [hw, Ny176.out]; exact HP147.1); clear HP147; have n0_ := Aa.mk (Kd.C0 (v := (.slice (some ⟨go130, 0, none⟩) x17_3.length co130)) (v1 := (.slice (some ⟨go130, 0, none⟩) x17_3.length co130)) (ok := (fun k_ => some k_ ≠ (v147 : Value).ownBlock ∧ some k_ ≠ (.slice Ao146 t164.length co146 : Value).ownBlock)) (by exact rU <| Kd.Bj HO_11.out (fun _ hk => ⟨⟨hk.1, hk.2.2⟩, hk.2.1⟩)) hg (.inl rfl)); have n1_ := Aa.mk (Kd.C0 (v := (.slice (some ⟨go130, 0, none⟩) x17_3.length co130)) (v1 := (.slice (some ⟨go130, 0, none⟩) x17_3.length co130)) (ok := (fun k_ => some k_ ≠ (.slice (some ad139) t131.length co61 : Value).ownBlock ∧ some k_ ≠ (.slice Ao146 t164.length co146 : Value).ownBlock)) (by exact rU <| Kd.Bj HO_14.out (fun _ hk => ⟨⟨hk.1, hk.2.2⟩, hk.2.1⟩)) hg (.inl rfl)); have n2_ := Aa.mk (hp_); have n3_ := Aa.mk (Kd.C0 (v := (.slice (some ⟨go130, 0, none⟩) x17_3.length co130)) (v1 := (.slice (some ⟨go130, 0, none⟩) x17_3.length co130)) (ok := (fun k_ => some k_ ≠ (.slice (some ad139) t131.length co61 : Value).ownBlock ∧ some k_ ≠ (v147 : Value).ownBlock)) (by exact rU <| Kd.Bj HO_20.out (fun _ hk => ⟨⟨hk.1, hk.2.1⟩, hk.2.2⟩)) hg (.inl rfl)); have n4_ := Aa.mk (Kd.R_over' (v := (.slice (some ⟨go130, 0, none⟩) x17_3.length co130)) (by exact rU <| HO_146002.out) (Kd.R_typed HO_17.out) (by decide) hg); have n5_ := Aa.mk (Bv (g := gb129) (o := .cells #[.int .i64 a0_0, .int .i64 a0_1, .slice A0_2 l0_2.length c0_2] 24 (0, 0)) (by exact bU <| BK129.out) hg (Kd.C1 HO_17.out BK129.out (by decide))); have n6_ := Aa.mk (Bv (g := gb145) (o := .cells #[.int .i64 t140, .int .i64 t141, .slice Ao67 t142.length co67] 50 (0, 0)) (by exact bU <| BK145.out) hg (Kd.C1 HO_17.out BK145.out (by decide))); have n7_ := Aa.mk ((by rw [hw]; exact Ae (HB.out) GB130.out : Below w.heap.size w w148)); clear HO_11; clear HO_14; clear HO_17; clear HO_20; clear HO_146002; clear BK129; clear BK145; clear HB; have HO_11 := n0_; have HO_14 := n1_; have HO_17 := n2_; have HO_20 := n3_; have HO_146002 := n4_; have BK129 := n5_; have BK145 := n6_; have HB := n7_; clear n0_ n1_ n2_ n3_ n4_ n5_ n6_ n7_; clear hg hw hp_)
                             have n0_ := Aa.mk (Kd.Cm HO_11.out)
                             have n1_ := Aa.mk (Kd.Cm HO_14.out)
                             have n2_ := Aa.mk (Kd.Cm HO_17.out)
                             have n3_ := Aa.mk (Kd.Cm HO_20.out)
                             have n4_ := Aa.mk (Kd.Cm HO_146002.out)
                             have n5_ := Aa.mk (Aq BK129.out)
                             have n6_ := Aa.mk (Aq BK145.out)
                             have n7_ := Aa.mk (Ah HB.out)
                             clear HO_11
                             clear HO_14
                             clear HO_17
                             clear HO_20
                             clear HO_146002
                             clear BK129
                             clear BK145
                             clear HB
                             have HO_11 := n0_
                             have HO_14 := n1_
                             have HO_17 := n2_
                             have HO_20 := n3_
                             have HO_146002 := n4_
                             have BK129 := n5_
                             have BK145 := n6_
                             have HB := n7_
                             clear n0_ n1_ n2_ n3_ n4_ n5_ n6_ n7_
                             refine start_ (n := 20) (S := fun w' => True) (ds := []) #[false, false, false, false, false, false, false, false, false, false, false, false, false, false, false, false, false, false, false, false] (by kernel_rfl) rfl rfl trivial (fun hHeld => ?_); refine with_tabW Ab.tab28 Ab.bits28 (fun HT_ HW_ => ?_)
                             generalize w148.drew = w149 at HO_11 HO_14 HO_17 HO_20 HO_146002 BK129 BK145 HB hHeld ⊢
                             refine pure_ (i := 0) (N := some 226) (v := ?_) (a' := ?_) (bA 20 1) rfl rfl (any_of HT_.out (by kernel_rfl)) (fun _ _ _ h => h) (Or.inl ⟨by rfl, ?_⟩) ?_ ?_
                             rotate_left; (intro w'; go_simp; with_reducible rfl); rotate_left; (simp only [Act.put, sA, sB, sC, i64_w, i32_w]; rfl)
                             refine pure_ (i := 1) (N := some 227) (v := ?_) (a' := ?_) (bA 20 3) rfl rfl (any_of HT_.out (by kernel_rfl)) (fun _ _ _ h => h) (Or.inl ⟨by rfl, ?_⟩) ?_ ?_
                             rotate_left; (intro w'; go_simp; with_reducible rfl); rotate_left; (simp only [Act.put, sA, sB, sC, i64_w, i32_w]; rfl)
                             refine pure_ (i := 2) (N := some 228) (v := ?_) (a' := ?_) (bA 20 7) rfl rfl (any_of HT_.out (by kernel_rfl)) (fun _ _ _ h => h) (Or.inl ⟨by rfl, ?_⟩) ?_ ?_
                             rotate_left; (intro w'; go_simp; with_reducible rfl); rotate_left; (simp only [Act.put, sA, sB, sC, i64_w, i32_w]; rfl)
                             refine pure_ (i := 3) (N := some 229) (v := undef) (a' := ?_) (bA 20 15) rfl rfl (any_of HT_.out (by kernel_rfl)) (fun _ _ _ h => h) (Or.inr ⟨by rfl, rfl⟩) ?_ ?_
                             rotate_left
                             ·simp only [Act.put, sA, sB, sC, i64_w, i32_w]
                              rfl
                             refine pure_ (i := 4) (N := some 230) (v := undef) (a' := ?_) (bA 20 31) rfl rfl (any_of HT_.out (by kernel_rfl)) (fun _ _ _ h => h) (Or.inr ⟨by rfl, rfl⟩) ?_ ?_
                             rotate_left
                             ·simp only [Act.put, sA, sB, sC, i64_w, i32_w]
                              rfl
                             refine pure_ (i := 5) (N := some 231) (v := undef) (a' := ?_) (bA 20 63) rfl rfl (any_of HT_.out (by kernel_rfl)) (fun _ _ _ h => h) (Or.inr ⟨by rfl, rfl⟩) ?_ ?_
                             rotate_left
                             ·simp only [Act.put, sA, sB, sC, i64_w, i32_w]
                              rfl
                             refine pure_ (i := 6) (N := some 232) (v := undef) (a' := ?_) (bA 20 127) rfl rfl (any_of HT_.out (by kernel_rfl)) (fun _ _ _ h => h) (Or.inr ⟨by rfl, rfl⟩) ?_ ?_
                             rotate_left
                             ·simp only [Act.put, sA, sB, sC, i64_w, i32_w]
                              rfl
                             refine pure_ (i := 7) (N := some 233) (v := undef) (a' := ?_) (bA 20 255) rfl rfl (any_of HT_.out (by kernel_rfl)) (fun _ _ _ h => h) (Or.inr ⟨by rfl, rfl⟩) ?_ ?_
                             rotate_left
                             ·simp only [Act.put, sA, sB, sC, i64_w, i32_w]
                              rfl
                             refine pure_ (i := 8) (N := some 234) (v := undef) (a' := ?_) (bA 20 511) rfl rfl (any_of HT_.out (by kernel_rfl)) (fun _ _ _ h => h) (Or.inr ⟨by rfl, rfl⟩) ?_ ?_
                             rotate_left
                             ·simp only [Act.put, sA, sB, sC, i64_w, i32_w]
                              rfl
                             refine pure_ (i := 9) (N := some 235) (v := undef) (a' := ?_) (bA 20 1023) rfl rfl (any_of HT_.out (by kernel_rfl)) (fun _ _ _ h => h) (Or.inr ⟨by rfl, rfl⟩) ?_ ?_
                             rotate_left
                             ·simp only [Act.put, sA, sB, sC, i64_w, i32_w]
                              rfl
                             refine pure_ (i := 10) (N := some 236) (v := undef) (a' := ?_) (bA 20 2047) rfl rfl (any_of HT_.out (by kernel_rfl)) (fun _ _ _ h => h) (Or.inr ⟨by rfl, rfl⟩) ?_ ?_
                             rotate_left
                             ·simp only [Act.put, sA, sB, sC, i64_w, i32_w]
                              rfl
                             refine pure_ (i := 11) (N := some 237) (v := undef) (a' := ?_) (bA 20 4095) rfl rfl (any_of HT_.out (by kernel_rfl)) (fun _ _ _ h => h) (Or.inr ⟨by rfl, rfl⟩) ?_ ?_
                             rotate_left
                             ·simp only [Act.put, sA, sB, sC, i64_w, i32_w]
                              rfl
                             refine pure_ (i := 12) (N := some 238) (v := undef) (a' := ?_) (bA 20 8191) rfl rfl (any_of HT_.out (by kernel_rfl)) (fun _ _ _ h => h) (Or.inr ⟨by rfl, rfl⟩) ?_ ?_
                             rotate_left
                             ·simp only [Act.put, sA, sB, sC, i64_w, i32_w]
                              rfl
                             refine pure_ (i := 13) (N := some 239) (v := undef) (a' := ?_) (bA 20 16383) rfl rfl (any_of HT_.out (by kernel_rfl)) (fun _ _ _ h => h) (Or.inr ⟨by rfl, rfl⟩) ?_ ?_
                             rotate_left
                             ·simp only [Act.put, sA, sB, sC, i64_w, i32_w]
                              rfl
                             refine pure_ (i := 14) (N := some 240) (v := undef) (a' := ?_) (bA 20 32767) rfl rfl (any_of HT_.out (by kernel_rfl)) (fun _ _ _ h => h) (Or.inr ⟨by rfl, rfl⟩) ?_ ?_
                             rotate_left
                             ·simp only [Act.put, sA, sB, sC, i64_w, i32_w]
                              rfl
                             refine pure_ (i := 15) (N := some 241) (v := undef) (a' := ?_) (bA 20 65535) rfl rfl (any_of HT_.out (by kernel_rfl)) (fun _ _ _ h => h) (Or.inr ⟨by rfl, rfl⟩) ?_ ?_
                             rotate_left
                             ·simp only [Act.put, sA, sB, sC, i64_w, i32_w]
                              rfl
                             refine pure_ (i := 16) (N := some 242) (v := undef) (a' := ?_) (bA 20 131071) rfl rfl (any_of HT_.out (by kernel_rfl)) (fun _ _ _ h => h) (Or.inr ⟨by rfl, rfl⟩) ?_ ?_
                             rotate_left
                             ·simp only [Act.put, sA, sB, sC, i64_w, i32_w]
                              rfl
                             refine pure_ (i := 17) (N := some 243) (v := undef) (a' := ?_) (bA 20 262143) rfl rfl (any_of HT_.out (by kernel_rfl)) (fun _ _ _ h => h) (Or.inr ⟨by rfl, rfl⟩) ?_ ?_
                             rotate_left
                             ·simp only [Act.put, sA, sB, sC, i64_w, i32_w]
                              rfl
                             refine pure_ (i := 18) (N := some 244) (v := undef) (a' := ?_) (bA 20 524287) rfl rfl (any_of HT_.out (by kernel_rfl)) (fun _ _ _ h => h) (Or.inr ⟨by rfl, rfl⟩) ?_ ?_
                             rotate_left
                             ·simp only [Act.put, sA, sB, sC, i64_w, i32_w]
                              rfl
                             refine pure_ (i := 19) (N := some 245) (v := ?_) (a' := ?_) (bA 20 1048575) rfl rfl (any_of HT_.out (by kernel_rfl)) (fun _ _ _ h => h) (Or.inl ⟨by rfl, ?_⟩) ?_ ?_
                             rotate_left; (intro w'; go_simp; with_reducible rfl); rotate_left; (simp only [Act.put, sA, sB, sC, i64_w, i32_w]; rfl)
                             refine done_ (done_of HT_.out (by kernel_rfl)) ?_
                             try go_wp2
                             go_roundg k5
                             case measure => have := HJ10.out; have := HJ58.out; have := HK3.out; have := HJ84.out; have := HK5.out; omega
                             case rel => exact ⟨(y176), (wrap64 (x18_3 + 1)), (by first | rfl | (simp; done) | (simp [*]; done)), H', ⟨by have := HJ10.out; have := HJ58.out; have := HK3.out; have := HJ84.out; have := HK5.out; omega⟩, ⟨by exact rU <| Kd.Bj HO_11.out (fun _ hk => ⟨hk.1.1, hk.2⟩)⟩, ⟨by exact rU <| Kd.Bj HO_14.out (fun _ hk => ⟨hk.1.1, hk.2⟩)⟩, ⟨by exact rU <| Kd.Bj HO_17.out (fun _ hk => ⟨hk.1, hk.2.1⟩)⟩, ⟨by exact rU <| HO_146002.out⟩, ⟨by exact bU <| BK129.out⟩, ⟨by exact bU <| BK145.out⟩, ⟨by repeat (first | (with_reducible first | exact HB.out | apply Ad | apply Ac | apply Ah | refine Ae ?_ GE129.out | refine Ae ?_ GE145.out) | exact HB.out)⟩⟩
                           ·rw [if_neg c129] at H
                            exact absurd H (by simp)
                          ·rw [if_neg c128] at H
                           exact absurd H (by simp)
                         ·rw [if_neg c127] at H
                          exact absurd H (by simp)
                        ·rw [if_neg c126] at H
                         exact absurd H (by simp)
                   ·rw [if_neg c105] at H
                    exact absurd H (by simp)
                  ·rw [if_neg c104] at H
                   exact absurd H (by simp)
              ·rw [if_neg c84] at H
               have c84b0 : decide (x18_3 < (t131.length : Int)) = false := decide_eq_false c84
               clear c84
               have H' := Aa.mk H
               clear H
               go_wp2
               go_loopg [22] k3 (fun kq v22 w' => ∃ (x22_4 : Int), v22 = .int .i64 x22_4 ∧ Aa (Ab.l2 kq t131 t146 x17_3 x22_4 = some r) ∧ Aa (kq ≤ k3) ∧ Aa (Kd.R (Kd.int .i64) 3 w' w.heap.size (fun k_ => some k_ ≠ (v147 : Value).ownBlock ∧ some k_ ≠ (v153 : Value).ownBlock) (.slice (some ad139) t131.length co61) t131) ∧ Aa (Kd.R (Kd.int .i64) 3 w' w.heap.size (fun k_ => some k_ ≠ ((.slice (some ad139) t131.length co61) : Value).ownBlock ∧ some k_ ≠ (v153 : Value).ownBlock) v147 t146) ∧ Aa (Kd.R (Kd.int .i64) 3 w' w.heap.size (fun k_ => some k_ ≠ ((.slice (some ad139) t131.length co61) : Value).ownBlock ∧ some k_ ≠ (v147 : Value).ownBlock) v153 x17_3) ∧ Aa (Kd.R Kd.bool 4 w' w.heap.size (fun _ => True) (.slice Ao67 t142.length co67) t142) ∧ Aa (w'.heap[gb129]? = some (.cells #[.int .i64 a0_0, .int .i64 a0_1, (.slice A0_2 l0_2.length c0_2)] 24 (0, 0))) ∧ Aa (w'.heap[gb145]? = some (.cells #[.int .i64 t140, .int .i64 t141, (.slice Ao67 t142.length co67)] 50 (0, 0))) ∧ Aa (Below w.heap.size w w'))
               case atStart => exact ⟨(0), (by first | rfl | (simp; done) | (simp [*]; done)), H', ⟨Nat.le_refl _⟩, ⟨by exact rU <| HO_11.out⟩, ⟨by exact rU <| HO_14.out⟩, ⟨by exact rU <| HO_17.out⟩, ⟨by exact rU <| HO_146002.out⟩, ⟨by exact bU <| BK129.out⟩, ⟨by exact bU <| BK145.out⟩, ⟨by repeat (first | (with_reducible first | exact HB.out | apply Ad | apply Ac | apply Ah | refine Ae ?_ GE129.out | refine Ae ?_ GE145.out) | exact HB.out)⟩⟩
               case round => as_aux_lemma =>
                clear H'
                try clear c1
                try clear p1
                try clear q1
                try clear hx1
                try clear p2
                try clear p6
                try clear c8
                try clear c10
                try clear c12
                try clear c13
                try clear p13
                try clear q13
                try clear hx13
                try clear hf13
                try clear p17
                try clear q17
                try clear hx17
                try clear p18
                try clear q18
                try clear hx18
                try clear p64
                try clear c84
                try clear c84b0
                try clear c104
                try clear c105
                try clear c126
                try clear c127
                try clear c128
                try clear c129
                try clear p130
                try clear q130
                try clear hx130
                try clear hf130
                try clear c131
                try clear c131b0
                try clear c133
                try clear c134
                try clear c135
                try clear c136
                try clear c137
                try clear c137b0
                try clear hx130_0
                try clear hx175_0
                try clear hx177_0
                try clear hx178_0
                try clear hx179_0
                try clear hx180_0
                try clear p130
                try clear p175
                try clear p177
                try clear p178
                try clear p179
                try clear p180
                try clear q130
                try clear q175
                try clear q177
                try clear q178
                try clear q179
                try clear q180
                obtain ⟨x22_4, rfl, HA, HK4, HO_11, HO_14, HO_17, HO_146002, BK129, BK145, HB⟩ := hrel
                cases gk with
                | zero => exact absurd HA.out (by simp [Ab.l2])
                | succ k4 =>
                 have H := HA.out
                 clear HA
                 simp only [Ab.l2] at H
                 by_cases c150 : x22_4 < (t146.length : Int)
                 ·rw [if_pos c150] at H
                  have c150b0 : decide (x22_4 < (t146.length : Int)) = true := decide_eq_true c150
                  clear c150
                  by_cases c151 : 0 ≤ x22_4
                  ·rw [if_pos c151] at H
                   have c151b0 : decide (0 ≤ x22_4) = true := decide_eq_true c151
                   clear c151
                   by_cases c152 : 0 < (t131.length : Int)
                   ·rw [if_pos c152] at H
                    have c152b0 : decide (0 < (t131.length : Int)) = true := decide_eq_true c152
                    have c152b1 : decide (0 < t131.length) = true := decide_eq_true (by omega)
                    clear c152
                    by_cases c153 : 0 ≤ (rd t131 0)
                    ·rw [if_pos c153] at H
                     have c153b0 : decide (0 ≤ (rd t131 0)) = true := decide_eq_true c153
                     clear c153
                     by_cases c154 : (rd t131 0) < (t146.length : Int)
                     ·rw [if_pos c154] at H
                      have c154b0 : decide ((rd t131 0) < (t146.length : Int)) = true := decide_eq_true c154
                      clear c154
                      by_cases c155 : (rd t146 x22_4) = (rd t146 (rd t131 0))
                      ·rw [if_pos c155] at H
                       have c155b0 : ((rd t146 x22_4) == (rd t146 (rd t131 0))) = true := beq_iff_eq.mpr c155
                       have c155b1 : ((rd t146 x22_4) != (rd t146 (rd t131 0))) = false := bne_eq_false_iff_eq.mpr c155
                       clear c155
                       by_cases c156 : x22_4 < (x17_3.length : Int)
                       ·rw [if_pos c156] at H
                        have c156b0 : decide (x22_4 < (x17_3.length : Int)) = true := decide_eq_true c156
                        clear c156
                        by_cases c157 : (rd x17_3 x22_4) = 0
                        ·rw [if_pos c157] at H
                         have c157b0 : ((rd x17_3 x22_4) == 0) = true := beq_iff_eq.mpr c157
                         have c157b1 : ((rd x17_3 x22_4) != 0) = false := bne_eq_false_iff_eq.mpr c157
                         clear c157
                         obtain rfl := Option.some.inj H
                         obtain ⟨Ao158, co158, eo158⟩ := Kd.Br HO_14.out
                         subst eo158
                         try go_wp2
                         have n0_ := Aa.mk (Kd.Cm HO_11.out)
                         have n1_ := Aa.mk (Kd.Cm HO_14.out)
                         have n2_ := Aa.mk (Kd.Cm HO_17.out)
                         have n3_ := Aa.mk (Kd.Cm HO_146002.out)
                         have n4_ := Aa.mk (Aq BK129.out)
                         have n5_ := Aa.mk (Aq BK145.out)
                         have n6_ := Aa.mk (Ah HB.out)
                         clear HO_11
                         clear HO_14
                         clear HO_17
                         clear HO_146002
                         clear BK129
                         clear BK145
                         clear HB
                         have HO_11 := n0_
                         have HO_14 := n1_
                         have HO_17 := n2_
                         have HO_146002 := n3_
                         have BK129 := n4_
                         have BK145 := n5_
                         have HB := n6_
                         clear n0_ n1_ n2_ n3_ n4_ n5_ n6_
                         have p181 : 0 ≤ (x22_4 : Int) := of_decide_eq_true (by first | (with_reducible assumption) | assumption)
                         have q181 : x22_4 < (t146.length : Int) := of_decide_eq_true (by first | (with_reducible assumption) | assumption)
                         obtain ⟨ad181, e181, hx181_0⟩ := Kd.at_int (Kd.As HO_14.out).2.2 x22_4 p181 q181
                         cases e181
                         replace p181 := eq_true p181
                         replace q181 := eq_true q181
                         have p182 : 0 ≤ (0 : Int) := (by omega)
                         have q182 : 0 < (t131.length : Int) := of_decide_eq_true (by first | (with_reducible assumption) | assumption)
                         obtain ⟨ad182, e182, hx182_0⟩ := Kd.at_int (Kd.As HO_11.out).2.2 0 p182 q182
                         obtain rfl : ad139 = ad182 := (by injection e182)
                         have qi182 : (0 < t131.length) = True := eq_true (by omega)
                         (try rw [show ((0 : Int)).toNat = 0 from rfl] at hx182_0)
                         (try rw [Addr.add_zero'] at hx182_0)
                         replace p182 := eq_true p182
                         replace q182 := eq_true q182
                         have p183 : 0 ≤ ((rd t131 0) : Int) := of_decide_eq_true (by first | (with_reducible assumption) | assumption)
                         have q183 : (rd t131 0) < (t146.length : Int) := of_decide_eq_true (by first | (with_reducible assumption) | assumption)
                         obtain ⟨ad183, e183, hx183_0⟩ := Kd.at_int (Kd.As HO_14.out).2.2 (rd t131 0) p183 q183
                         obtain rfl : ad181 = ad183 := (by injection e183)
                         replace p183 := eq_true p183
                         replace q183 := eq_true q183
                         obtain ⟨Ao160, co160, eo160⟩ := Kd.Br HO_17.out
                         (first | subst eo160 | (injection eo160 with f1_ f2_ f3_; have f4_ := f1_.symm; have f5_ := f3_.symm; clear f1_ f2_ f3_; subst f4_; subst f5_))
                         have p184 : 0 ≤ (x22_4 : Int) := of_decide_eq_true (by first | (with_reducible assumption) | assumption)
                         have q184 : x22_4 < (x17_3.length : Int) := of_decide_eq_true (by first | (with_reducible assumption) | assumption)
                         obtain ⟨ad184, e184, hx184_0⟩ := Kd.at_int (Kd.As HO_17.out).2.2 x22_4 p184 q184
                         cases e184
                         replace p184 := eq_true p184
                         replace q184 := eq_true q184
                         refine start_ (n := 18) (S := fun w' => w'.cell? (ad181.add (x22_4).toNat) = some (.int .i64 (rd t146 x22_4)) ∧ w'.cell? ad139 = some (.int .i64 (rd t131 0)) ∧ w'.cell? (ad181.add ((rd t131 0)).toNat) = some (.int .i64 (rd t146 (rd t131 0))) ∧ w'.cell? (ad184.add (x22_4).toNat) = some (.int .i64 (rd x17_3 x22_4))) (ds := []) #[false, false, false, false, false, false, false, false, false, false, false, false, false, false, false, false, false, false] (by kernel_rfl) rfl rfl ⟨hx181_0, hx182_0, hx183_0, hx184_0⟩ (fun hHeld => ?_); refine with_tabW Ab.tab33 Ab.bits33 (fun HT_ HW_ => ?_)
                         generalize wr.drew = w159 at HO_11 HO_14 HO_17 HO_146002 BK129 BK145 HB hx181_0 hx182_0 hx183_0 hx184_0 hHeld ⊢
                         refine pure_ (i := 0) (N := some 252) (v := ?_) (a' := ?_) (bA 18 1) rfl rfl (any_of HT_.out (by kernel_rfl)) (fun _ _ _ h => h) (Or.inl ⟨by rfl, ?_⟩) ?_ ?_
                         rotate_left; (intro w'; go_simp; with_reducible rfl); rotate_left; (simp only [Act.put, sA, sB, sC, i64_w, i32_w]; rfl)
                         refine pure_ (i := 1) (N := some 253) (v := ?_) (a' := ?_) (bA 18 3) rfl rfl (any_of HT_.out (by kernel_rfl)) (fun _ _ _ h => h) (Or.inl ⟨by rfl, ?_⟩) ?_ ?_
                         rotate_left; (intro w'; go_simp; with_reducible rfl); rotate_left; (simp only [Act.put, sA, sB, sC, i64_w, i32_w]; rfl)
                         refine pure_ (i := 2) (N := some 254) (v := ?_) (a' := ?_) (bA 18 7) rfl rfl (any_of HT_.out (by kernel_rfl)) (fun _ _ _ h => h) (Or.inl ⟨by rfl, ?_⟩) ?_ ?_
                         rotate_left; (intro w'; go_simp; with_reducible rfl); rotate_left; (simp only [Act.put, sA, sB, sC, i64_w, i32_w]; rfl)
                         refine pure_ (i := 4) (N := some 256) (v := ?_) (a' := ?_) (bA 18 23) rfl rfl (any_of HT_.out (by kernel_rfl)) (fun _ _ _ h => h) (Or.inl ⟨by rfl, ?_⟩) ?_ ?_
                         rotate_left; (intro w'; go_simp; with_reducible rfl); rotate_left; (simp only [Act.put, sA, sB, sC, i64_w, i32_w]; rfl)
                         refine pure_ (i := 5) (N := some 257) (v := ?_) (a' := ?_) (bA 18 55) rfl rfl (any_of HT_.out (by kernel_rfl)) (fun _ _ _ h => h) (Or.inl ⟨by rfl, ?_⟩) ?_ ?_
                         rotate_left; (intro w'; go_simp; with_reducible rfl); rotate_left; (simp only [Act.put, sA, sB, sC, i64_w, i32_w]; rfl)
                         refine pure_ (i := 6) (N := some 258) (v := ?_) (a' := ?_) (bA 18 119) rfl rfl (any_of HT_.out (by kernel_rfl)) (fun _ _ _ h => h) (Or.inl ⟨by rfl, ?_⟩) ?_ ?_
                         rotate_left; (intro w'; go_simp; with_reducible rfl); rotate_left; (simp only [Act.put, sA, sB, sC, i64_w, i32_w]; rfl)
                         refine take_ (i := 3) (N := some 255) (v := ?_) (a' := ?_) (bA 18 127) rfl rfl (take_ofW HT_.out HW_.out (by kernel_rfl)) (fun _ _ _ h => h) (Or.inl ⟨by rfl, ?_⟩) hHeld ?_ ?_
                         rotate_left; (rintro w' ⟨s0, s1, s2, s3⟩; go_simp; with_reducible rfl); rotate_left; (simp only [Act.put, sA, sB, sC, i64_w, i32_w]; rfl)
                         refine take_ (i := 7) (N := some 259) (v := ?_) (a' := ?_) (bA 18 255) rfl rfl (take_ofW HT_.out HW_.out (by kernel_rfl)) (fun _ _ _ h => h) (Or.inl ⟨by rfl, ?_⟩) hHeld ?_ ?_
                         rotate_left; (rintro w' ⟨s0, s1, s2, s3⟩; go_simp; with_reducible rfl); rotate_left; (simp only [Act.put, sA, sB, sC, i64_w, i32_w]; rfl)
                         refine pure_ (i := 8) (N := some 260) (v := ?_) (a' := ?_) (bA 18 511) rfl rfl (any_of HT_.out (by kernel_rfl)) (fun _ _ _ h => h) (Or.inl ⟨by rfl, ?_⟩) ?_ ?_
                         rotate_left; (intro w'; go_simp; with_reducible rfl); rotate_left; (simp only [Act.put, sA, sB, sC, i64_w, i32_w]; rfl)
                         refine take_ (i := 9) (N := some 261) (v := ?_) (a' := ?_) (bA 18 1023) rfl rfl (take_ofW HT_.out HW_.out (by kernel_rfl)) (fun _ _ _ h => h) (Or.inl ⟨by rfl, ?_⟩) hHeld ?_ ?_
                         rotate_left; (rintro w' ⟨s0, s1, s2, s3⟩; go_simp; with_reducible rfl); rotate_left; (simp only [Act.put, sA, sB, sC, i64_w, i32_w]; rfl)
                         refine pure_ (i := 10) (N := some 262) (v := ?_) (a' := ?_) (bA 18 2047) rfl rfl (any_of HT_.out (by kernel_rfl)) (fun _ _ _ h => h) (Or.inl ⟨by rfl, ?_⟩) ?_ ?_
                         rotate_left; (intro w'; go_simp; with_reducible rfl); rotate_left; (simp only [Act.put, sA, sB, sC, i64_w, i32_w]; rfl)
                         refine pure_ (i := 11) (N := some 263) (v := ?_) (a' := ?_) (bA 18 4095) rfl rfl (any_of HT_.out (by kernel_rfl)) (fun _ _ _ h => h) (Or.inl ⟨by rfl, ?_⟩) ?_ ?_
                         rotate_left; (intro w'; go_simp; with_reducible rfl); rotate_left; (simp only [Act.put, sA, sB, sC, i64_w, i32_w]; rfl)
                         refine pure_ (i := 12) (N := some 264) (v := ?_) (a' := ?_) (bA 18 8191) rfl rfl (any_of HT_.out (by kernel_rfl)) (fun _ _ _ h => h) (Or.inl ⟨by rfl, ?_⟩) ?_ ?_
                         rotate_left; (intro w'; go_simp; with_reducible rfl); rotate_left; (simp only [Act.put, sA, sB, sC, i64_w, i32_w]; rfl)
                         refine pure_ (i := 13) (N := some 265) (v := ?_) (a' := ?_) (bA 18 16383) rfl rfl (any_of HT_.out (by kernel_rfl)) (fun _ _ _ h => h) (Or.inl ⟨by rfl, ?_⟩) ?_ ?_
                         rotate_left; (intro w'; go_simp; with_reducible rfl); rotate_left; (simp only [Act.put, sA, sB, sC, i64_w, i32_w]; rfl)
                         refine pure_ (i := 14) (N := some 266) (v := ?_) (a' := ?_) (bA 18 32767) rfl rfl (any_of HT_.out (by kernel_rfl)) (fun _ _ _ h => h) (Or.inl ⟨by rfl, ?_⟩) ?_ ?_
                         rotate_left; (intro w'; go_simp; with_reducible rfl); rotate_left; (simp only [Act.put, sA, sB, sC, i64_w, i32_w]; rfl)
                         refine take_ (i := 15) (N := some 267) (v := ?_) (a' := ?_) (bA 18 65535) rfl rfl (take_ofW HT_.out HW_.out (by kernel_rfl)) (fun _ _ _ h => h) (Or.inl ⟨by rfl, ?_⟩) hHeld ?_ ?_
                         rotate_left; (rintro w' ⟨s0, s1, s2, s3⟩; go_simp; with_reducible rfl); rotate_left; (simp only [Act.put, sA, sB, sC, i64_w, i32_w]; rfl)
                         refine pure_ (i := 16) (N := some 268) (v := ?_) (a' := ?_) (bA 18 131071) rfl rfl (any_of HT_.out (by kernel_rfl)) (fun _ _ _ h => h) (Or.inl ⟨by rfl, ?_⟩) ?_ ?_
                         rotate_left; (intro w'; go_simp; with_reducible rfl); rotate_left; (simp only [Act.put, sA, sB, sC, i64_w, i32_w]; rfl)
                         refine pure_ (i := 17) (N := some 269) (v := ?_) (a' := ?_) (bA 18 262143) rfl rfl (any_of HT_.out (by kernel_rfl)) (fun _ _ _ h => h) (Or.inl ⟨by rfl, ?_⟩) ?_ ?_
                         rotate_left; (intro w'; go_simp; with_reducible rfl); rotate_left; (simp only [Act.put, sA, sB, sC, i64_w, i32_w]; rfl)
                         refine done_ (done_of HT_.out (by kernel_rfl)) ?_
                         try go_wp2
                         go_ret
                         exact ⟨by first | rfl | (simp [Ay, Ax] <;> rfl) | (simp [*, Ay, Ax] <;> rfl), by repeat (first | (with_reducible first | exact HB.out | apply Ad | apply Ac | apply Ah | refine Ae ?_ GE129.out | refine Ae ?_ GE145.out) | exact HB.out)⟩
                        ·rw [if_neg c157] at H
                         have c157b0 : ((rd x17_3 x22_4) == 0) = false := beq_eq_false_iff_ne.mpr c157
                         have c157b1 : ((rd x17_3 x22_4) != 0) = true := bne_iff_ne.mpr c157
                         have H' := Aa.mk H
                         clear H
                         obtain ⟨Ao161, co161, eo161⟩ := Kd.Br HO_14.out
                         subst eo161
                         try go_wp2
                         have n0_ := Aa.mk (Kd.Cm HO_11.out)
                         have n1_ := Aa.mk (Kd.Cm HO_14.out)
                         have n2_ := Aa.mk (Kd.Cm HO_17.out)
                         have n3_ := Aa.mk (Kd.Cm HO_146002.out)
                         have n4_ := Aa.mk (Aq BK129.out)
                         have n5_ := Aa.mk (Aq BK145.out)
                         have n6_ := Aa.mk (Ah HB.out)
                         clear HO_11
                         clear HO_14
                         clear HO_17
                         clear HO_146002
                         clear BK129
                         clear BK145
                         clear HB
                         have HO_11 := n0_
                         have HO_14 := n1_
                         have HO_17 := n2_
                         have HO_146002 := n3_
                         have BK129 := n4_
                         have BK145 := n5_
                         have HB := n6_
                         clear n0_ n1_ n2_ n3_ n4_ n5_ n6_
                         have p181 : 0 ≤ (x22_4 : Int) := of_decide_eq_true (by first | (with_reducible assumption) | assumption)
                         have q181 : x22_4 < (t146.length : Int) := of_decide_eq_true (by first | (with_reducible assumption) | assumption)
                         obtain ⟨ad181, e181, hx181_0⟩ := Kd.at_int (Kd.As HO_14.out).2.2 x22_4 p181 q181
                         cases e181
                         replace p181 := eq_true p181
                         replace q181 := eq_true q181
                         have p182 : 0 ≤ (0 : Int) := (by omega)
                         have q182 : 0 < (t131.length : Int) := of_decide_eq_true (by first | (with_reducible assumption) | assumption)
                         obtain ⟨ad182, e182, hx182_0⟩ := Kd.at_int (Kd.As HO_11.out).2.2 0 p182 q182
                         obtain rfl : ad139 = ad182 := (by injection e182)
                         have qi182 : (0 < t131.length) = True := eq_true (by omega)
                         (try rw [show ((0 : Int)).toNat = 0 from rfl] at hx182_0)
                         (try rw [Addr.add_zero'] at hx182_0)
                         replace p182 := eq_true p182
                         replace q182 := eq_true q182
                         have p183 : 0 ≤ ((rd t131 0) : Int) := of_decide_eq_true (by first | (with_reducible assumption) | assumption)
                         have q183 : (rd t131 0) < (t146.length : Int) := of_decide_eq_true (by first | (with_reducible assumption) | assumption)
                         obtain ⟨ad183, e183, hx183_0⟩ := Kd.at_int (Kd.As HO_14.out).2.2 (rd t131 0) p183 q183
                         obtain rfl : ad181 = ad183 := (by injection e183)
                         replace p183 := eq_true p183
                         replace q183 := eq_true q183
                         obtain ⟨Ao163, co163, eo163⟩ := Kd.Br HO_17.out
                         (first | subst eo163 | (injection eo163 with f1_ f2_ f3_; have f4_ := f1_.symm; have f5_ := f3_.symm; clear f1_ f2_ f3_; subst f4_; subst f5_))
                         have p184 : 0 ≤ (x22_4 : Int) := of_decide_eq_true (by first | (with_reducible assumption) | assumption)
                         have q184 : x22_4 < (x17_3.length : Int) := of_decide_eq_true (by first | (with_reducible assumption) | assumption)
                         obtain ⟨ad184, e184, hx184_0⟩ := Kd.at_int (Kd.As HO_17.out).2.2 x22_4 p184 q184
                         cases e184
                         replace p184 := eq_true p184
                         replace q184 := eq_true q184
                         refine start_ (n := 18) (S := fun w' => w'.cell? (ad181.add (x22_4).toNat) = some (.int .i64 (rd t146 x22_4)) ∧ w'.cell? ad139 = some (.int .i64 (rd t131 0)) ∧ w'.cell? (ad181.add ((rd t131 0)).toNat) = some (.int .i64 (rd t146 (rd t131 0))) ∧ w'.cell? (ad184.add (x22_4).toNat) = some (.int .i64 (rd x17_3 x22_4))) (ds := []) #[false, false, false, false, false, false, false, false, false, false, false, false, false, false, false, false, false, false] (by kernel_rfl) rfl rfl ⟨hx181_0, hx182_0, hx183_0, hx184_0⟩ (fun hHeld => ?_); refine with_tabW Ab.tab33 Ab.bits33 (fun HT_ HW_ => ?_)
                         generalize wr.drew = w162 at HO_11 HO_14 HO_17 HO_146002 BK129 BK145 HB hx181_0 hx182_0 hx183_0 hx184_0 hHeld ⊢
                         refine pure_ (i := 0) (N := some 252) (v := ?_) (a' := ?_) (bA 18 1) rfl rfl (any_of HT_.out (by kernel_rfl)) (fun _ _ _ h => h) (Or.inl ⟨by rfl, ?_⟩) ?_ ?_
                         rotate_left; (intro w'; go_simp; with_reducible rfl); rotate_left; (simp only [Act.put, sA, sB, sC, i64_w, i32_w]; rfl)
                         refine pure_ (i := 1) (N := some 253) (v := ?_) (a' := ?_) (bA 18 3) rfl rfl (any_of HT_.out (by kernel_rfl)) (fun _ _ _ h => h) (Or.inl ⟨by rfl, ?_⟩) ?_ ?_
                         rotate_left; (intro w'; go_simp; with_reducible rfl); rotate_left; (simp only [Act.put, sA, sB, sC, i64_w, i32_w]; rfl)
                         refine pure_ (i := 2) (N := some 254) (v := ?_) (a' := ?_) (bA 18 7) rfl rfl (any_of HT_.out (by kernel_rfl)) (fun _ _ _ h => h) (Or.inl ⟨by rfl, ?_⟩) ?_ ?_
                         rotate_left; (intro w'; go_simp; with_reducible rfl); rotate_left; (simp only [Act.put, sA, sB, sC, i64_w, i32_w]; rfl)
                         refine pure_ (i := 4) (N := some 256) (v := ?_) (a' := ?_) (bA 18 23) rfl rfl (any_of HT_.out (by kernel_rfl)) (fun _ _ _ h => h) (Or.inl ⟨by rfl, ?_⟩) ?_ ?_
                         rotate_left; (intro w'; go_simp; with_reducible rfl); rotate_left; (simp only [Act.put, sA, sB, sC, i64_w, i32_w]; rfl)
                         refine pure_ (i := 5) (N := some 257) (v := ?_) (a' := ?_) (bA 18 55) rfl rfl (any_of HT_.out (by kernel_rfl)) (fun _ _ _ h => h) (Or.inl ⟨by rfl, ?_⟩) ?_ ?_
                         rotate_left; (intro w'; go_simp; with_reducible rfl); rotate_left; (simp only [Act.put, sA, sB, sC, i64_w, i32_w]; rfl)
                         refine pure_ (i := 6) (N := some 258) (v := ?_) (a' := ?_) (bA 18 119) rfl rfl (any_of HT_.out (by kernel_rfl)) (fun _ _ _ h => h) (Or.inl ⟨by rfl, ?_⟩) ?_ ?_
                         rotate_left; (intro w'; go_simp; with_reducible rfl); rotate_left; (simp only [Act.put, sA, sB, sC, i64_w, i32_w]; rfl)
                         refine take_ (i := 3) (N := some 255) (v := ?_) (a' := ?_) (bA 18 127) rfl rfl (take_ofW HT_.out HW_.out (by kernel_rfl)) (fun _ _ _ h => h) (Or.inl ⟨by rfl, ?_⟩) hHeld ?_ ?_
                         rotate_left; (rintro w' ⟨s0, s1, s2, s3⟩; go_simp; with_reducible rfl); rotate_left; (simp only [Act.put, sA, sB, sC, i64_w, i32_w]; rfl)
                         refine take_ (i := 7) (N := some 259) (v := ?_) (a' := ?_) (bA 18 255) rfl rfl (take_ofW HT_.out HW_.out (by kernel_rfl)) (fun _ _ _ h => h) (Or.inl ⟨by rfl, ?_⟩) hHeld ?_ ?_
                         rotate_left; (rintro w' ⟨s0, s1, s2, s3⟩; go_simp; with_reducible rfl); rotate_left; (simp only [Act.put, sA, sB, sC, i64_w, i32_w]; rfl)
                         refine pure_ (i := 8) (N := some 260) (v := ?_) (a' := ?_) (bA 18 511) rfl rfl (any_of HT_.out (by kernel_rfl)) (fun _ _ _ h => h) (Or.inl ⟨by rfl, ?_⟩) ?_ ?_
                         rotate_left; (intro w'; go_simp; with_reducible rfl); rotate_left; (simp only [Act.put, sA, sB, sC, i64_w, i32_w]; rfl)
                         refine take_ (i := 9) (N := some 261) (v := ?_) (a' := ?_) (bA 18 1023) rfl rfl (take_ofW HT_.out HW_.out (by kernel_rfl)) (fun _ _ _ h => h) (Or.inl ⟨by rfl, ?_⟩) hHeld ?_ ?_
                         rotate_left; (rintro w' ⟨s0, s1, s2, s3⟩; go_simp; with_reducible rfl); rotate_left; (simp only [Act.put, sA, sB, sC, i64_w, i32_w]; rfl)
                         refine pure_ (i := 10) (N := some 262) (v := ?_) (a' := ?_) (bA 18 2047) rfl rfl (any_of HT_.out (by kernel_rfl)) (fun _ _ _ h => h) (Or.inl ⟨by rfl, ?_⟩) ?_ ?_
                         rotate_left; (intro w'; go_simp; with_reducible rfl); rotate_left; (simp only [Act.put, sA, sB, sC, i64_w, i32_w]; rfl)
                         refine pure_ (i := 11) (N := some 263) (v := ?_) (a' := ?_) (bA 18 4095) rfl rfl (any_of HT_.out (by kernel_rfl)) (fun _ _ _ h => h) (Or.inl ⟨by rfl, ?_⟩) ?_ ?_
                         rotate_left; (intro w'; go_simp; with_reducible rfl); rotate_left; (simp only [Act.put, sA, sB, sC, i64_w, i32_w]; rfl)
                         refine pure_ (i := 12) (N := some 264) (v := ?_) (a' := ?_) (bA 18 8191) rfl rfl (any_of HT_.out (by kernel_rfl)) (fun _ _ _ h => h) (Or.inl ⟨by rfl, ?_⟩) ?_ ?_
                         rotate_left; (intro w'; go_simp; with_reducible rfl); rotate_left; (simp only [Act.put, sA, sB, sC, i64_w, i32_w]; rfl)
                         refine pure_ (i := 13) (N := some 265) (v := ?_) (a' := ?_) (bA 18 16383) rfl rfl (any_of HT_.out (by kernel_rfl)) (fun _ _ _ h => h) (Or.inl ⟨by rfl, ?_⟩) ?_ ?_
                         rotate_left; (intro w'; go_simp; with_reducible rfl); rotate_left; (simp only [Act.put, sA, sB, sC, i64_w, i32_w]; rfl)
                         refine pure_ (i := 14) (N := some 266) (v := ?_) (a' := ?_) (bA 18 32767) rfl rfl (any_of HT_.out (by kernel_rfl)) (fun _ _ _ h => h) (Or.inl ⟨by rfl, ?_⟩) ?_ ?_
                         rotate_left; (intro w'; go_simp; with_reducible rfl); rotate_left; (simp only [Act.put, sA, sB, sC, i64_w, i32_w]; rfl)
                         refine take_ (i := 15) (N := some 267) (v := ?_) (a' := ?_) (bA 18 65535) rfl rfl (take_ofW HT_.out HW_.out (by kernel_rfl)) (fun _ _ _ h => h) (Or.inl ⟨by rfl, ?_⟩) hHeld ?_ ?_
                         rotate_left; (rintro w' ⟨s0, s1, s2, s3⟩; go_simp; with_reducible rfl); rotate_left; (simp only [Act.put, sA, sB, sC, i64_w, i32_w]; rfl)
                         refine pure_ (i := 16) (N := some 268) (v := ?_) (a' := ?_) (bA 18 131071) rfl rfl (any_of HT_.out (by kernel_rfl)) (fun _ _ _ h => h) (Or.inl ⟨by rfl, ?_⟩) ?_ ?_
                         rotate_left; (intro w'; go_simp; with_reducible rfl); rotate_left; (simp only [Act.put, sA, sB, sC, i64_w, i32_w]; rfl)
                         refine pure_ (i := 17) (N := some 269) (v := ?_) (a' := ?_) (bA 18 262143) rfl rfl (any_of HT_.out (by kernel_rfl)) (fun _ _ _ h => h) (Or.inl ⟨by rfl, ?_⟩) ?_ ?_
                         rotate_left; (intro w'; go_simp; with_reducible rfl); rotate_left; (simp only [Act.put, sA, sB, sC, i64_w, i32_w]; rfl)
                         refine done_ (done_of HT_.out (by kernel_rfl)) ?_
                         try go_wp2
                         go_roundg k4
                         case measure => have := HJ10.out; have := HJ58.out; have := HK3.out; have := HK4.out; omega
                         case rel => exact ⟨(wrap64 (x22_4 + 1)), (by first | rfl | (simp; done) | (simp [*]; done)), H', ⟨by have := HJ10.out; have := HJ58.out; have := HK3.out; have := HK4.out; omega⟩, ⟨by exact rU <| HO_11.out⟩, ⟨by exact rU <| HO_14.out⟩, ⟨by exact rU <| HO_17.out⟩, ⟨by exact rU <| HO_146002.out⟩, ⟨by exact bU <| BK129.out⟩, ⟨by exact bU <| BK145.out⟩, ⟨by repeat (first | (with_reducible first | exact HB.out | apply Ad | apply Ac | apply Ah | refine Ae ?_ GE129.out | refine Ae ?_ GE145.out) | exact HB.out)⟩⟩
                       ·rw [if_neg c156] at H
                        exact absurd H (by simp)
                      ·rw [if_neg c155] at H
                       have c155b0 : ((rd t146 x22_4) == (rd t146 (rd t131 0))) = false := beq_eq_false_iff_ne.mpr c155
                       have c155b1 : ((rd t146 x22_4) != (rd t146 (rd t131 0))) = true := bne_iff_ne.mpr c155
                       have H' := Aa.mk H
                       clear H
                       obtain ⟨Ao164, co164, eo164⟩ := Kd.Br HO_14.out
                       subst eo164
                       try go_wp2
                       have n0_ := Aa.mk (Kd.Cm HO_11.out)
                       have n1_ := Aa.mk (Kd.Cm HO_14.out)
                       have n2_ := Aa.mk (Kd.Cm HO_17.out)
                       have n3_ := Aa.mk (Kd.Cm HO_146002.out)
                       have n4_ := Aa.mk (Aq BK129.out)
                       have n5_ := Aa.mk (Aq BK145.out)
                       have n6_ := Aa.mk (Ah HB.out)
                       clear HO_11
                       clear HO_14
                       clear HO_17
                       clear HO_146002
                       clear BK129
                       clear BK145
                       clear HB
                       have HO_11 := n0_
                       have HO_14 := n1_
                       have HO_17 := n2_
                       have HO_146002 := n3_
                       have BK129 := n4_
                       have BK145 := n5_
                       have HB := n6_
                       clear n0_ n1_ n2_ n3_ n4_ n5_ n6_
                       have p181 : 0 ≤ (x22_4 : Int) := of_decide_eq_true (by first | (with_reducible assumption) | assumption)
                       have q181 : x22_4 < (t146.length : Int) := of_decide_eq_true (by first | (with_reducible assumption) | assumption)
                       obtain ⟨ad181, e181, hx181_0⟩ := Kd.at_int (Kd.As HO_14.out).2.2 x22_4 p181 q181
                       cases e181
                       replace p181 := eq_true p181
                       replace q181 := eq_true q181
                       have p182 : 0 ≤ (0 : Int) := (by omega)
                       have q182 : 0 < (t131.length : Int) := of_decide_eq_true (by first | (with_reducible assumption) | assumption)
                       obtain ⟨ad182, e182, hx182_0⟩ := Kd.at_int (Kd.As HO_11.out).2.2 0 p182 q182
                       obtain rfl : ad139 = ad182 := (by injection e182)
                       have qi182 : (0 < t131.length) = True := eq_true (by omega)
                       (try rw [show ((0 : Int)).toNat = 0 from rfl] at hx182_0)
                       (try rw [Addr.add_zero'] at hx182_0)
                       replace p182 := eq_true p182
                       replace q182 := eq_true q182
                       have p183 : 0 ≤ ((rd t131 0) : Int) := of_decide_eq_true (by first | (with_reducible assumption) | assumption)
                       have q183 : (rd t131 0) < (t146.length : Int) := of_decide_eq_true (by first | (with_reducible assumption) | assumption)
                       obtain ⟨ad183, e183, hx183_0⟩ := Kd.at_int (Kd.As HO_14.out).2.2 (rd t131 0) p183 q183
                       obtain rfl : ad181 = ad183 := (by injection e183)
                       replace p183 := eq_true p183
                       replace q183 := eq_true q183
                       refine start_ (n := 18) (S := fun w' => w'.cell? (ad181.add (x22_4).toNat) = some (.int .i64 (rd t146 x22_4)) ∧ w'.cell? ad139 = some (.int .i64 (rd t131 0)) ∧ w'.cell? (ad181.add ((rd t131 0)).toNat) = some (.int .i64 (rd t146 (rd t131 0)))) (ds := []) #[false, false, false, false, false, false, false, false, false, false, false, false, false, false, false, false, false, false] (by kernel_rfl) rfl rfl ⟨hx181_0, hx182_0, hx183_0⟩ (fun hHeld => ?_); refine with_tabW Ab.tab33 Ab.bits33 (fun HT_ HW_ => ?_)
                       generalize wr.drew = w165 at HO_11 HO_14 HO_17 HO_146002 BK129 BK145 HB hx181_0 hx182_0 hx183_0 hHeld ⊢
                       refine pure_ (i := 0) (N := some 252) (v := ?_) (a' := ?_) (bA 18 1) rfl rfl (any_of HT_.out (by kernel_rfl)) (fun _ _ _ h => h) (Or.inl ⟨by rfl, ?_⟩) ?_ ?_
                       rotate_left; (intro w'; go_simp; with_reducible rfl); rotate_left; (simp only [Act.put, sA, sB, sC, i64_w, i32_w]; rfl)
                       refine pure_ (i := 1) (N := some 253) (v := ?_) (a' := ?_) (bA 18 3) rfl rfl (any_of HT_.out (by kernel_rfl)) (fun _ _ _ h => h) (Or.inl ⟨by rfl, ?_⟩) ?_ ?_
                       rotate_left; (intro w'; go_simp; with_reducible rfl); rotate_left; (simp only [Act.put, sA, sB, sC, i64_w, i32_w]; rfl)
                       refine pure_ (i := 2) (N := some 254) (v := ?_) (a' := ?_) (bA 18 7) rfl rfl (any_of HT_.out (by kernel_rfl)) (fun _ _ _ h => h) (Or.inl ⟨by rfl, ?_⟩) ?_ ?_
                       rotate_left; (intro w'; go_simp; with_reducible rfl); rotate_left; (simp only [Act.put, sA, sB, sC, i64_w, i32_w]; rfl)
                       refine pure_ (i := 4) (N := some 256) (v := ?_) (a' := ?_) (bA 18 23) rfl rfl (any_of HT_.out (by kernel_rfl)) (fun _ _ _ h => h) (Or.inl ⟨by rfl, ?_⟩) ?_ ?_
                       rotate_left; (intro w'; go_simp; with_reducible rfl); rotate_left; (simp only [Act.put, sA, sB, sC, i64_w, i32_w]; rfl)
                       refine pure_ (i := 5) (N := some 257) (v := ?_) (a' := ?_) (bA 18 55) rfl rfl (any_of HT_.out (by kernel_rfl)) (fun _ _ _ h => h) (Or.inl ⟨by rfl, ?_⟩) ?_ ?_
                       rotate_left; (intro w'; go_simp; with_reducible rfl); rotate_left; (simp only [Act.put, sA, sB, sC, i64_w, i32_w]; rfl)
                       refine pure_ (i := 6) (N := some 258) (v := ?_) (a' := ?_) (bA 18 119) rfl rfl (any_of HT_.out (by kernel_rfl)) (fun _ _ _ h => h) (Or.inl ⟨by rfl, ?_⟩) ?_ ?_
                       rotate_left; (intro w'; go_simp; with_reducible rfl); rotate_left; (simp only [Act.put, sA, sB, sC, i64_w, i32_w]; rfl)
                       refine take_ (i := 3) (N := some 255) (v := ?_) (a' := ?_) (bA 18 127) rfl rfl (take_ofW HT_.out HW_.out (by kernel_rfl)) (fun _ _ _ h => h) (Or.inl ⟨by rfl, ?_⟩) hHeld ?_ ?_
                       rotate_left; (rintro w' ⟨s0, s1, s2⟩; go_simp; with_reducible rfl); rotate_left; (simp only [Act.put, sA, sB, sC, i64_w, i32_w]; rfl)
                       refine take_ (i := 7) (N := some 259) (v := ?_) (a' := ?_) (bA 18 255) rfl rfl (take_ofW HT_.out HW_.out (by kernel_rfl)) (fun _ _ _ h => h) (Or.inl ⟨by rfl, ?_⟩) hHeld ?_ ?_
                       rotate_left; (rintro w' ⟨s0, s1, s2⟩; go_simp; with_reducible rfl); rotate_left; (simp only [Act.put, sA, sB, sC, i64_w, i32_w]; rfl)
                       refine pure_ (i := 8) (N := some 260) (v := ?_) (a' := ?_) (bA 18 511) rfl rfl (any_of HT_.out (by kernel_rfl)) (fun _ _ _ h => h) (Or.inl ⟨by rfl, ?_⟩) ?_ ?_
                       rotate_left; (intro w'; go_simp; with_reducible rfl); rotate_left; (simp only [Act.put, sA, sB, sC, i64_w, i32_w]; rfl)
                       refine take_ (i := 9) (N := some 261) (v := ?_) (a' := ?_) (bA 18 1023) rfl rfl (take_ofW HT_.out HW_.out (by kernel_rfl)) (fun _ _ _ h => h) (Or.inl ⟨by rfl, ?_⟩) hHeld ?_ ?_
                       rotate_left; (rintro w' ⟨s0, s1, s2⟩; go_simp; with_reducible rfl); rotate_left; (simp only [Act.put, sA, sB, sC, i64_w, i32_w]; rfl)
                       refine pure_ (i := 10) (N := some 262) (v := ?_) (a' := ?_) (bA 18 2047) rfl rfl (any_of HT_.out (by kernel_rfl)) (fun _ _ _ h => h) (Or.inl ⟨by rfl, ?_⟩) ?_ ?_
                       rotate_left; (intro w'; go_simp; with_reducible rfl); rotate_left; (simp only [Act.put, sA, sB, sC, i64_w, i32_w]; rfl)
                       refine pure_ (i := 11) (N := some 263) (v := ?_) (a' := ?_) (bA 18 4095) rfl rfl (any_of HT_.out (by kernel_rfl)) (fun _ _ _ h => h) (Or.inl ⟨by rfl, ?_⟩) ?_ ?_
                       rotate_left; (intro w'; go_simp; with_reducible rfl); rotate_left; (simp only [Act.put, sA, sB, sC, i64_w, i32_w]; rfl)
                       refine pure_ (i := 12) (N := some 264) (v := undef) (a' := ?_) (bA 18 8191) rfl rfl (any_of HT_.out (by kernel_rfl)) (fun _ _ _ h => h) (Or.inr ⟨by rfl, rfl⟩) ?_ ?_
                       rotate_left
                       ·simp only [Act.put, sA, sB, sC, i64_w, i32_w]
                        rfl
                       refine pure_ (i := 13) (N := some 265) (v := undef) (a' := ?_) (bA 18 16383) rfl rfl (any_of HT_.out (by kernel_rfl)) (fun _ _ _ h => h) (Or.inr ⟨by rfl, rfl⟩) ?_ ?_
                       rotate_left
                       ·simp only [Act.put, sA, sB, sC, i64_w, i32_w]
                        rfl
                       refine pure_ (i := 14) (N := some 266) (v := undef) (a' := ?_) (bA 18 32767) rfl rfl (any_of HT_.out (by kernel_rfl)) (fun _ _ _ h => h) (Or.inr ⟨by rfl, rfl⟩) ?_ ?_
                       rotate_left
                       ·simp only [Act.put, sA, sB, sC, i64_w, i32_w]
                        rfl
                       refine pure_ (i := 15) (N := some 267) (v := undef) (a' := ?_) (bA 18 65535) rfl rfl (any_of HT_.out (by kernel_rfl)) (fun _ _ _ h => h) (Or.inr ⟨by rfl, rfl⟩) ?_ ?_
                       rotate_left
                       ·simp only [Act.put, sA, sB, sC, i64_w, i32_w]
                        rfl
                       refine pure_ (i := 16) (N := some 268) (v := undef) (a' := ?_) (bA 18 131071) rfl rfl (any_of HT_.out (by kernel_rfl)) (fun _ _ _ h => h) (Or.inr ⟨by rfl, rfl⟩) ?_ ?_
                       rotate_left
                       ·simp only [Act.put, sA, sB, sC, i64_w, i32_w]
                        rfl
                       refine pure_ (i := 17) (N := some 269) (v := ?_) (a' := ?_) (bA 18 262143) rfl rfl (any_of HT_.out (by kernel_rfl)) (fun _ _ _ h => h) (Or.inl ⟨by rfl, ?_⟩) ?_ ?_
                       rotate_left; (intro w'; go_simp; with_reducible rfl); rotate_left; (simp only [Act.put, sA, sB, sC, i64_w, i32_w]; rfl)
                       refine done_ (done_of HT_.out (by kernel_rfl)) ?_
                       try go_wp2
                       go_roundg k4
                       case measure => have := HJ10.out; have := HJ58.out; have := HK3.out; have := HK4.out; omega
                       case rel => exact ⟨(wrap64 (x22_4 + 1)), (by first | rfl | (simp; done) | (simp [*]; done)), H', ⟨by have := HJ10.out; have := HJ58.out; have := HK3.out; have := HK4.out; omega⟩, ⟨by exact rU <| HO_11.out⟩, ⟨by exact rU <| HO_14.out⟩, ⟨by exact rU <| HO_17.out⟩, ⟨by exact rU <| HO_146002.out⟩, ⟨by exact bU <| BK129.out⟩, ⟨by exact bU <| BK145.out⟩, ⟨by repeat (first | (with_reducible first | exact HB.out | apply Ad | apply Ac | apply Ah | refine Ae ?_ GE129.out | refine Ae ?_ GE145.out) | exact HB.out)⟩⟩
                     ·rw [if_neg c154] at H
                      exact absurd H (by simp)
                    ·rw [if_neg c153] at H
                     exact absurd H (by simp)
                   ·rw [if_neg c152] at H
                    exact absurd H (by simp)
                  ·rw [if_neg c151] at H
                   exact absurd H (by simp)
                 ·rw [if_neg c150] at H
                  have c150b0 : decide (x22_4 < (t146.length : Int)) = false := decide_eq_false c150
                  clear c150
                  obtain rfl := Option.some.inj H
                  obtain ⟨Ao166, co166, eo166⟩ := Kd.Br HO_14.out
                  subst eo166
                  go_wp2
                  go_ret
                  exact ⟨by first | rfl | (simp [Ay, Ax] <;> rfl) | (simp [*, Ay, Ax] <;> rfl), by repeat (first | (with_reducible first | exact HB.out | apply Ad | apply Ac | apply Ah | refine Ae ?_ GE129.out | refine Ae ?_ GE145.out) | exact HB.out)⟩
           ·rw [if_neg c79] at H
            exact absurd H (by simp)
          ·rw [if_neg c78] at H
           exact absurd H (by simp)
      ·rw [if_neg c56] at H
       exact absurd H (by simp)
  ·rw [if_neg c10] at H
   have c10b0 : (t135 == 0) = false := beq_eq_false_iff_ne.mpr c10
   have c10b1 : (t135 != 0) = true := bne_iff_ne.mpr c10
   obtain rfl := Option.some.inj H
   go_enter Try.func6, Try.ntmps6
   go_wp2_with (first | ((with_reducible refine Bk (N := 5) rfl ?_); (try (refine Cn (by rfl) ?_; dsimp only)); refine Bn ?hg (N := 5) ?hd (cs := #[.int .i64 a0_0, .int .i64 a0_1, .slice A0_2 l0_2.length c0_2]) (t := 24) ?hr ?_; (case hd => rfl); (case hg => rfl); (case hr => first | (go_simp; done) | (go_simp; rfl)); intro gb129 hg w167 hbox hb; have n0_ := Aa.mk (Ap (lU HB.out) hb); have n1_ := Aa.mk (hbox); have n2_ := Aa.mk ((by rw [hg]; exact (Ak (lU HB.out)) : w.heap.size ≤ gb129)); have n3_ := Aa.mk ((by rw [hg]; exact (Ak (lU HB.out)) : w.heap.size ≤ gb129)); clear HB; have HB := n0_; have BK129 := n1_; have GW129 := n2_; have GE129 := n3_; clear n0_ n1_ n2_ n3_; clear hb hbox hg) | ((with_reducible refine Bd (f := 13) rfl ?_); refine Cb (some 23) rfl rfl Try.func13 (by kernel_rfl) rfl #[] rfl (by (try simp only [List.map_toArray, List.map_cons, List.map_nil]); first | done | rfl | (simp only [List.length_drop, List.length_take]; rfl)) ?_; (with_reducible refine (Ai.calls k  true _ A6.out).mono ?_); rintro e w168 ⟨rfl, hb⟩; refine ⟨_, rfl, ?_⟩; have n0_ := Aa.mk (Am (g := gb129) (o := .cells #[.int .i64 a0_0, .int .i64 a0_1, .slice A0_2 l0_2.length c0_2] 24 (0, 0)) (by exact bU <| BK129.out) hb); have n1_ := Aa.mk (Ap (by repeat (first | (with_reducible first | exact HB.out | apply Ad | apply Ac | apply Ah | refine Ae ?_ GE129.out) | exact HB.out)) hb); clear BK129; clear HB; have BK129 := n0_; have HB := n1_; clear n0_ n1_; (try clear hb); (try clear hb2); (try clear hk); (try clear hi); have hcz169_0 : w168.cell? ⟨gb129, 0, none⟩ = some (.int .i64 a0_0) := (Af BK129.out 0).trans rfl; have hcz169_1 : w168.cell? ⟨gb129, 1, none⟩ = some (.int .i64 a0_1) := (Af BK129.out 1).trans rfl; have hcz169_2 : w168.cell? ⟨gb129, 2, none⟩ = some (.slice A0_2 l0_2.length c0_2) := (Af BK129.out 2).trans rfl; have hfz169_0 := Ag BK129.out 0; have hfz169_1 := Ag BK129.out 1; have hfz169_2 := Ag BK129.out 2) | ((with_reducible refine Bd (f := 16) rfl ?_); refine Cb (some 31) rfl rfl Try.func16 (by kernel_rfl) rfl #[.agg #[.int .i64 a0_0, .int .i64 a0_1, .slice A0_2 l0_2.length c0_2], .int .i64 a1, .int .i64 a2, .int .i64 a3, .int .i64 a4] rfl (by (try simp only [List.map_toArray, List.map_cons, List.map_nil]); first | done | rfl | (simp only [List.length_drop, List.length_take]; rfl)) ?_; (with_reducible refine (Cf.calls a0_0 a0_1 _ _ l0_2 a1 a2 a3 a4 t131 t134 _ ?side1 ?side2 A8.out).mono ?_); (case side1 => repeat (first | exact (Kd.Ce HR0_2.out HB.out) | (with_reducible refine Kd.Bo ?_ _) | (with_reducible refine Kd.B0 ?_ _) | (with_reducible refine Kd.Ca ?_))); (case side2 => exact HC0_2.out); rintro e w170 ⟨v132, rfl, ho0, hb⟩; refine ⟨_, rfl, ?_⟩; have n0_ := Aa.mk (Kd.B2 ho0 (Ak (by repeat (first | (with_reducible first | exact HB.out | apply Ad | apply Ac | apply Ah | refine Ae ?_ GE129.out) | exact HB.out)))); have n1_ := Aa.mk (Am (g := gb129) (o := .cells #[.int .i64 a0_0, .int .i64 a0_1, .slice A0_2 l0_2.length c0_2] 24 (0, 0)) (by exact bU <| BK129.out) hb); have n2_ := Aa.mk (Ap (by repeat (first | (with_reducible first | exact HB.out | apply Ad | apply Ac | apply Ah | refine Ae ?_ GE129.out) | exact HB.out)) hb); clear BK129; clear HB; have HO133 := n0_; have BK129 := n1_; have HB := n2_; clear n0_ n1_ n2_; (try clear hb); (try clear hb2); (try clear hk); (try clear hi); (try clear ho0)) | ((with_reducible refine Bd (f := 17) rfl ?_); refine Cb (some 35) rfl rfl Try.func17 (by kernel_rfl) rfl #[.int .i64 t134] rfl (by (try simp only [List.map_toArray, List.map_cons, List.map_nil]); first | done | rfl | (simp only [List.length_drop, List.length_take]; rfl)) ?_; (with_reducible refine (B3.calls t134 t135 _ A9.out).mono ?_); rintro e w' ⟨rfl, ⟨nd, rfl⟩⟩; refine ⟨_, rfl, ?_⟩; obtain ⟨Ao171, co171, eo171⟩ := Kd.Br HO133.out; subst eo171))
   go_ret
   exact ⟨by first | rfl | (simp [Ay, Ax] <;> rfl) | (simp [*, Ay, Ax] <;> rfl), by repeat (first | (with_reducible first | exact HB.out | apply Ad | apply Ac | apply Ah | refine Ae ?_ GE129.out) | exact HB.out)⟩
 ·replace c7 := Bool.eq_false_iff.mpr c7
  subst c7
  have H1 : (some false) = some r := by rw [if_neg (show ¬ (false = true) by decide)] at H; exact H
  clear H
  have H := H1
  clear H1
  exact absurd (H.trans (congrArg some HT.out)) (by decide)

end Go.Proofs.Yteamphcehoaleaa.PFW

